/-
The elements of a finite field other than 0 are the powers of one of them. Sums digit by digit, negatives and inverses. The document's fields: products. Residues without divisors of 0 come from irreducible polynomials; the program's product. The program's fields: orders, primes, digits, values, shapes. The program's product of residues. The program's powers of an element. The program's generator, Check and New. The program's New: a field behind a pointer. The methods of a field behind a pointer. The negative and the inverse in the document. Sets of positions. The library of slices. Copies of rows, checks of matrices. A multiple of a row is added to a row in place. A matrix is copied row by row. The steps of an elimination. The clearing step of an elimination. The scaling step of an elimination. The steps of an elimination on the rows alone.
-/
import Derived.Test.YtpienolhkccpnaaGreatXB4
set_option linter.unusedVariables false
set_option linter.unusedSimpArgs false
namespace Go.Proofs.YtpienolhkccpnaaGreat
set_option maxRecDepth 100000
set_option linter.unusedVariables false
set_option linter.unusedSimpArgs false
structure Rng (q:Nat) (A M:Nat→Nat→Nat):Prop where
 q2:2≤q
 al:∀ x y,x<q→y<q→A x y<q
 ac:∀ x y,x<q→y<q→A x y=A y x
 aa:∀ x y z,x<q→y<q→z<q→A (A x y) z=A x (A y z)
 a0:∀ x,x<q→A x 0=x
 an:∀ x,x<q→∃ y,y<q∧A x y=0
 ml:∀ x y,x<q→y<q→M x y<q
 mc:∀ x y,x<q→y<q→M x y=M y x
 ma:∀ x y z,x<q→y<q→z<q→M (M x y) z=M x (M y z)
 md:∀ x y z,x<q→y<q→z<q→M x (A y z)=A (M x y) (M x z)
 m1:∀ x,x<q→M x 1=x
theorem Fld.rng {q:Nat}{A M:Nat→Nat→Nat}(F:Fld q A M):Rng q A M:=⟨F.q2,F.al,F.ac,F.aa,F.a0,F.an,F.ml,F.mc,F.ma,F.md,F.m1⟩
theorem Rng.fld {q:Nat}{A M:Nat→Nat→Nat}(R:Rng q A M) (h:∀ x y,x<q→y<q→M x y=0→x=0∨y=0):Fld q A M:=⟨R.q2,R.al,R.ac,R.aa,R.a0,R.an,R.ml,R.mc,R.ma,R.md,R.m1,h⟩
def B0 (M:Nat→Nat→Nat) (x:Nat):Nat→Nat
 | 0=>1
 | k+1=>M (B0 M x k) x
section
variable {q:Nat}{A M:Nat→Nat→Nat}(R:Rng q A M)
include R
theorem Rng.pw_lt {x:Nat}(hx:x<q):∀ k,B0 M x k<q
 | 0=>R.q2
 | k+1=>R.ml _ _ (Rng.pw_lt hx k) hx
theorem Rng.pw_add {x:Nat}(hx:x<q) (i:Nat):∀ j,B0 M x (i+j)=M (B0 M x i) (B0 M x j)
 | 0=>(R.m1 _ (R.pw_lt hx i)).symm
 | j+1=>by
  show M (B0 M x (i+j)) x=M (B0 M x i) (M (B0 M x j) x)
  rw [Rng.pw_add hx i j,R.ma _ _ _ (R.pw_lt hx i) (R.pw_lt hx j) hx]
theorem Rng.one_mul {x:Nat}(hx:x<q):M 1 x=x:=by rw [R.mc 1 x R.q2 hx,R.m1 x hx]
theorem Rng.pw_one:∀ k,B0 M 1 k=1
 | 0=>rfl
 | k+1=>by
  show M (B0 M 1 k) 1=1
  rw [Rng.pw_one k,R.m1 1 R.q2]
theorem Rng.pw_mul {x:Nat}(hx:x<q) (i:Nat):∀ j,B0 M (B0 M x i) j=B0 M x (i*j)
 | 0=>rfl
 | j+1=>by
  show M (B0 M (B0 M x i) j) (B0 M x i)=B0 M x (i*(j+1))
  rw [Rng.pw_mul hx i j,Nat.mul_succ,R.pw_add hx]
theorem Rng.pw_prod {x y:Nat}(hx:x<q) (hy:y<q):∀ k,B0 M (M x y) k=M (B0 M x k) (B0 M y k)
 | 0=>(R.m1 1 R.q2).symm
 | k+1=>by
  have h1:=R.pw_lt hx k
  have h2:=R.pw_lt hy k
  show M (B0 M (M x y) k) (M x y)=M (M (B0 M x k) x) (M (B0 M y k) y)
  rw [Rng.pw_prod hx hy k,R.ma _ _ _ h1 h2 (R.ml _ _ hx hy),R.ma _ _ _ h1 hx (R.ml _ _ h2 hy),← R.ma _ _ _ h2 hx hy,R.mc _ x h2 hx,R.ma _ _ _ hx h2 hy]
theorem Rng.m0 {x:Nat}(hx:x<q):M x 0=0:=by
 have hq:=R.q2
 have h1:=R.md x 0 0 hx (by omega) (by omega)
 have h2:=R.ml x 0 hx (by omega)
 obtain ⟨y,hy,e⟩:=R.an (M x 0) h2
 have h3:A (M x 0) y=A (A (M x 0) (M x 0)) y:=by rw [← h1,R.a0 0 (by omega)]
 rw [R.aa _ _ _ h2 h2 hy,e,R.a0 _ h2] at h3
 exact h3.symm
theorem Rng.z0 {x:Nat}(hx:x<q):A 0 x=x:=by
 have hq:=R.q2
 rw [R.ac 0 x (by omega) hx,R.a0 x hx]
def Md (q:Nat) (M:Nat→Nat→Nat) (x:Nat):Prop:=(∀ i j,i<j→j<q-1→B0 M x i≠B0 M x j)∧(∀ i,i<q-1→B0 M x i≠0)∧B0 M x (q-1)=1
theorem Rng.gen_mod {x:Nat}(hx:x<q) (h:Md q M x):∀ k,B0 M x k=B0 M x (k % (q-1)):=by
 intro k
 have h1:∀ n,B0 M x ((q-1)*n)=1:=fun n=>by rw [← R.pw_mul hx,h.2.2,R.pw_one]
 conv=>lhs;rw [← Nat.div_add_mod k (q-1)]
 rw [R.pw_add hx,h1,R.one_mul (R.pw_lt hx _)]
theorem Rng.gen_all {x:Nat}(hx:x<q) (h:Md q M x) {a:Nat}(ha:a<q) (h0:a≠0):∃ i,i<q-1∧B0 M x i=a:=by
 have hq:=R.q2
 have h1:=AFv (q:=q) (φ:=fun i=>if i=0 then 0 else B0 M x (i-1)) (fun i hi=>by
   split
   ·omega
   ·exact R.pw_lt hx _) (fun i j hi hj e=>by
   by_cases i0:i=0
   ·rw [if_pos i0] at e
    by_cases j0:j=0
    ·omega
    ·rw [if_neg j0] at e
     exact absurd e.symm (h.2.1 _ (by omega))
   ·rw [if_neg i0] at e
    by_cases j0:j=0
    ·rw [if_pos j0] at e
     exact absurd e (h.2.1 _ (by omega))
    ·rw [if_neg j0] at e
     rcases Nat.lt_trichotomy (i-1) (j-1) with h3|h3|h3
     ·exact absurd e (h.1 _ _ h3 (by omega))
     ·omega
     ·exact absurd e.symm (h.1 _ _ h3 (by omega))) (y:=a) ha
 refine Classical.byContradiction fun hn=>?_
 have h2:sm q (fun i=>if (if i=0 then 0 else B0 M x (i-1))=a then (1:Int) else 0)=sm q (fun _=>0):=Sk fun i hi=>if_neg fun e=>by
  by_cases i0:i=0
  ·rw [if_pos i0] at e;exact h0 e.symm
  ·rw [if_neg i0] at e;exact hn ⟨i-1,by omega,e⟩
 rw [h2,U9] at h1
 omega
theorem Rng.gen_nz {x:Nat}(hx:x<q) (h:Md q M x):∀ a b,a<q→b<q→M a b=0→a=0∨b=0:=by
 intro a b ha hb e
 have hq:=R.q2
 by_cases a0:a=0
 ·exact .inl a0
 by_cases b0:b=0
 ·exact .inr b0
 obtain ⟨i,hi,rfl⟩:=R.gen_all hx h ha a0
 obtain ⟨j,hj,rfl⟩:=R.gen_all hx h hb b0
 rw [← R.pw_add hx,R.gen_mod hx h] at e
 exact absurd e (h.2.1 _ (Nat.mod_lt _ (by omega)))
end
theorem AB1 {P:Nat→Prop}:∀ n,P n→∃ k,k≤n∧P k∧∀ j,j<k→¬ P j:=by
 intro n
 induction n using Nat.strongRecOn with
 | _ n ih =>
  intro h
  by_cases hj:∃ j,j<n∧P j
  ·obtain ⟨j,hj,hp⟩:=hj
   obtain ⟨k,h1,h2,h3⟩:=ih j hj hp
   exact ⟨k,by omega,h2,h3⟩
  ·exact ⟨n,Nat.le_refl _,h,fun j h1 h2=>hj ⟨j,h1,h2⟩⟩
theorem AJA {m:Nat}(hm:2≤m):∃ r,Prm r∧r∣m:=by
 obtain ⟨r,_,⟨h1,h2⟩,h3⟩:=AB1 (P:=fun d=>2≤d∧d∣m) m ⟨hm,Nat.dvd_refl m⟩
 exact ⟨r,⟨h1,fun d hd hl hdr=>h3 d hl ⟨hd,Nat.dvd_trans hdr h2⟩⟩,h2⟩
theorem ADi {r:Nat}(hr:2≤r):∀ m:Nat,1≤m→∃ k m',m=r ^ k*m'∧¬ r∣m':=by
 intro m
 induction m using Nat.strongRecOn with
 | _ m ih =>
  intro h1
  by_cases hd:r∣m
  ·obtain ⟨c,rfl⟩:=hd
   have hc:1≤c:=Nat.pos_of_ne_zero fun e=>by subst e;simp at h1
   have:c<r*c:=by
    have:=Nat.mul_le_mul_right c hr
    omega
   obtain ⟨k,m',e,h2⟩:=ih c this hc
   exact ⟨k+1,m',by rw [Nat.pow_succ,Nat.mul_comm (r ^ k) r,Nat.mul_assoc,← e],h2⟩
  ·exact ⟨0,m,by simp,hd⟩
theorem AE2 {r m:Nat}(hr:Prm r) (h:¬ r∣m) (k:Nat):Nat.Coprime (r ^ k) m:=by
 have h1:Nat.Coprime r m:=by
  have:=AE6 hr h
  rwa [Nat.gcd_comm] at this
 exact Nat.Coprime.pow_left k h1
theorem AIx {e:Nat}:∀ m:Nat,1≤m→¬ m∣e→∃ r k,Prm r∧r ^ k∣m∧¬ r ^ k∣e:=by
 intro m
 induction m using Nat.strongRecOn with
 | _ m ih =>
  intro h1 h
  have hm:2≤m:=by
   rcases Nat.lt_or_ge 1 m with h2|h2
   ·exact h2
   ·exfalso;apply h
    have:m=1:=by omega
    rw [this];exact Nat.one_dvd _
  obtain ⟨r,hr,hd⟩:=AJA hm
  obtain ⟨k,m',e1,h2⟩:=ADi hr.1 m h1
  have hk:k≠0:=fun hk=>by subst hk;rw [Nat.pow_zero,Nat.one_mul] at e1;exact h2 (e1▸hd)
  by_cases h3:r ^ k∣e
  ·have hm1:1≤m':=Nat.pos_of_ne_zero fun h0=>by subst h0;simp at e1;omega
   have hlt:m'<m:=by
    have h4:2 ^ 1≤r ^ k:=Nat.le_trans (Nat.pow_le_pow_left hr.1 1) (Nat.pow_le_pow_right (by have:=hr.1;omega) (by omega))
    have:=Nat.mul_le_mul_right m' h4
    omega
   have h5:¬ m'∣e:=fun h6=>h (by rw [e1];exact Nat.Coprime.mul_dvd_of_dvd_of_dvd (AE2 hr h2 k) h3 h6)
   obtain ⟨r',k',h7,h8,h9⟩:=ih m' hlt hm1 h5
   exact ⟨r',k',h7,Nat.dvd_trans h8 (by rw [e1];exact Nat.dvd_mul_left _ _),h9⟩
  ·exact ⟨r,k,hr,by rw [e1];exact Nat.dvd_mul_right _ _,h3⟩
section
variable {q:Nat}{A M:Nat→Nat→Nat}(F:Fld q A M)
include F
def Ox (M:Nat→Nat→Nat) (x k:Nat):Prop:=1≤k∧B0 M x k=1∧∀ j,1≤j→j<k→B0 M x j≠1
theorem Fld.pw_ne {x:Nat}(hx:x<q) (h0:x≠0):∀ k,B0 M x k≠0
 | 0=>by show 1≠0;decide
 | k+1=>fun e=>(F.nz _ _ (F.rng.pw_lt hx k) hx e).elim (Fld.pw_ne hx h0 k) h0
theorem Fld.mcan {s x y:Nat}(hs:s<q) (h0:s≠0) (hx:x<q) (hy:y<q) (h:M s x=M s y):x=y:=by
 obtain ⟨ny,hn,en⟩:=F.an y hy
 have h1:M s (A x ny)=0:=by rw [F.md _ _ _ hs hx hn,h,← F.md _ _ _ hs hy hn,en,F.rng.m0 hs]
 have h2:=(F.nz _ _ hs (F.al _ _ hx hn) h1).resolve_left h0
 have h3:A (A x ny) y=A 0 y:=by rw [h2]
 rw [F.aa _ _ _ hx hn hy,F.ac ny y hn hy,en,F.a0 x hx,F.rng.z0 hy] at h3
 exact h3
theorem Fld.ord_ex {x:Nat}(hx:x<q) (h0:x≠0):∃ k,k≤q-1∧Ox M x k:=by
 have hq:=F.q2
 have h1:∃ k,k≤q-1∧1≤k∧B0 M x k=1:=by
  refine Classical.byContradiction fun hn=>?_
  have h2:=AFv (q:=q) (φ:=B0 M x) (fun i _=>F.rng.pw_lt hx i) (fun i j hi hj e=>by
   have key:∀ i j,i<j→j<q→B0 M x i≠B0 M x j:=fun i j hij hj e=>by
    refine hn ⟨j-i,by omega,by omega,?_⟩
    have h3:M (B0 M x i) 1=M (B0 M x i) (B0 M x (j-i)):=by
     rw [← F.rng.pw_add hx,show i+(j-i)=j by omega,F.m1 _ (F.rng.pw_lt hx i),e]
    exact (F.mcan (F.rng.pw_lt hx i) (F.pw_ne hx h0 i) (by omega) (F.rng.pw_lt hx _) h3).symm
   rcases Nat.lt_trichotomy i j with h3|h3|h3
   ·exact absurd e (key i j h3 hj)
   ·exact h3
   ·exact absurd e.symm (key j i h3 hi)) (y:=0) (by omega)
  have h3:sm q (fun i=>if B0 M x i=0 then (1:Int) else 0)=sm q (fun _=>0):=Sk fun i _=>if_neg (F.pw_ne hx h0 i)
  rw [h3,U9] at h2
  omega
 obtain ⟨k,hk,h2,h3⟩:=h1
 obtain ⟨j,hj,⟨h4,h5⟩,h6⟩:=AB1 (P:=fun k=>1≤k∧B0 M x k=1) k ⟨h2,h3⟩
 exact ⟨j,by omega,h4,h5,fun i hi hl e=>h6 i hl ⟨hi,e⟩⟩
theorem Fld.ord_dvd {x k:Nat}(hx:x<q) (h:Ox M x k) {n:Nat}(hn:B0 M x n=1):k∣n:=by
 obtain ⟨h1,h2,h3⟩:=h
 refine Nat.dvd_of_mod_eq_zero (Classical.byContradiction fun h0=>?_)
 refine h3 (n % k) (by omega) (Nat.mod_lt _ (by omega)) ?_
 have h4:B0 M x (k*(n / k))=1:=by rw [← F.rng.pw_mul hx,h2,F.rng.pw_one]
 conv at hn=>lhs;rw [← Nat.div_add_mod n k]
 rw [F.rng.pw_add hx,h4,F.rng.one_mul (F.rng.pw_lt hx _)] at hn
 exact hn
theorem Fld.ord_pow {x d k:Nat}(hx:x<q) (hd:1≤d) (h:Ox M x (d*k)):Ox M (B0 M x d) k:=by
 obtain ⟨h1,h2,h3⟩:=h
 refine ⟨Nat.pos_of_ne_zero fun e=>by subst e;simp at h1,by rw [F.rng.pw_mul hx,h2],fun j hj hl e=>?_⟩
 rw [F.rng.pw_mul hx] at e
 exact h3 (d*j) (Nat.mul_pos hd hj) (Nat.mul_lt_mul_of_pos_left hl hd) e
theorem Fld.ord_mul {x y a b:Nat}(hx:x<q) (hy:y<q) (ha:Ox M x a) (hb:Ox M y b) (hc:Nat.Coprime a b):Ox M (M x y) (a*b):=by
 have key:∀ {x y a b:Nat},x<q→y<q→Ox M x a→Ox M y b→Nat.Coprime a b→∀ n,B0 M (M x y) n=1→a∣n:=fun {x y a b} hx hy ha hb hc n hn=>by
  have h1:B0 M (M x y) (n*b)=1:=by rw [← F.rng.pw_mul (F.ml _ _ hx hy),hn,F.rng.pw_one]
  rw [F.rng.pw_prod hx hy,Nat.mul_comm n b,← F.rng.pw_mul hy,hb.2.1,F.rng.pw_one,F.m1 _ (F.rng.pw_lt hx _)] at h1
  exact (Nat.Coprime.dvd_of_dvd_mul_left hc (F.ord_dvd hx ha h1))
 refine ⟨Nat.mul_pos ha.1 hb.1,?_,fun j hj hl e=>?_⟩
 ·rw [F.rng.pw_prod hx hy,← F.rng.pw_mul hx,ha.2.1,F.rng.pw_one,Nat.mul_comm,← F.rng.pw_mul hy,hb.2.1,F.rng.pw_one,F.m1 1 F.q2]
 ·have h1:=key hx hy ha hb hc j e
  have h2:=key hy hx hb ha hc.symm j (by rw [F.mc y x hy hx];exact e)
  have h3:=Nat.le_of_dvd (by omega) (Nat.Coprime.mul_dvd_of_dvd_of_dvd hc h1 h2)
  omega
omit F in
theorem AC6:∀ (l:List Nat) (x:Nat),(l++[x]).getLastD 0=x:=fun l x=>by simp
def evF (A M:Nat→Nat→Nat):List Nat→Nat→Nat
 | [],_=>0
 | c::P,x=>A c (M x (evF A M P x))
theorem Fld.ev_lt {x:Nat}(hx:x<q):∀ {P:List Nat},(∀ c∈P,c<q)→evF A M P x<q
 | [],_=>by have:=F.q2;show 0<q;omega
 | c::P,h=>F.al _ _ (h c (.head _)) (F.ml _ _ hx (Fld.ev_lt hx fun d hd=>h d (.tail _ hd)))
def Tc (A M:Nat→Nat→Nat) (a:Nat):List Nat→List Nat
 | []=>[]
 | [_]=>[]
 | _::d::P=>evF A M (d::P) a::Tc A M a (d::P)
theorem Fld.syn_lt {a:Nat}(ha:a<q):∀ {P:List Nat},(∀ c∈P,c<q)→∀ c∈Tc A M a P,c<q
 | [],_,c,hc=>by cases hc
 | [_],_,c,hc=>by cases hc
 | b::d::P,h,c,hc=>by
  have h2:∀ c∈d::P,c<q:=fun e he=>h e (.tail _ he)
  rw [Tc] at hc
  rcases List.mem_cons.1 hc with rfl|hc
  ·exact F.ev_lt ha h2
  ·exact Fld.syn_lt ha h2 c hc
omit F in
theorem AFm (a:Nat):∀ P:List Nat,(Tc A M a P).length=P.length-1
 | []=>rfl
 | [_]=>rfl
 | b::d::P=>by
  rw [Tc,List.length_cons,AFm a (d::P)];simp only [List.length_cons];omega
theorem Fld.syn_last {a:Nat}(ha:a<q):∀ {P:List Nat},(∀ c∈P,c<q)→2≤P.length→(Tc A M a P).getLastD 0=P.getLastD 0
 | [],_,h=>by simp at h
 | [_],_,h=>by simp at h
 | [b,d],hP,_=>by
  have hd:d<q:=hP d (.tail _ (.head _))
  show (A d (M a 0):Nat)=d
  rw [F.rng.m0 ha,F.a0 d hd]
 | b::d::e::P,hP,_=>by
  have ih:=Fld.syn_last ha (P:=d::e::P) (fun c hc=>hP c (.tail _ hc)) (by simp)
  rw [Tc]
  have hne:Tc A M a (d::e::P)≠[]:=fun h=>by rw [Tc] at h;cases h
  rw [show (b::d::e::P).getLastD 0=(d::e::P).getLastD 0 by simp [List.getLastD_cons],← ih]
  obtain ⟨x,l,hl⟩:∃ x l,Tc A M a (d::e::P)=x::l:=by
   cases h:Tc A M a (d::e::P) with
   | nil=>exact absurd h hne
   | cons x l=>exact ⟨x,l,rfl⟩
  rw [hl]
  simp [List.getLastD_cons]
theorem Fld.syn_ev {a na x:Nat}(ha:a<q) (hn:na<q) (en:A a na=0) (hx:x<q):∀ {P:List Nat},(∀ c∈P,c<q)→evF A M P x=A (evF A M P a) (M (A x na) (evF A M (Tc A M a P) x))
 | [],_=>by
  have hq:=F.q2
  show 0=A 0 (M (A x na) 0)
  rw [F.rng.m0 (F.al _ _ hx hn),F.a0 0 (by omega)]
 | [c],h=>by
  have hc:=h c (.head _)
  show A c (M x 0)=A (A c (M a 0)) (M (A x na) 0)
  rw [F.rng.m0 hx,F.rng.m0 ha,F.rng.m0 (F.al _ _ hx hn),F.a0 c hc,F.a0 c hc]
 | c::d::P,h=>by
  have hc:=h c (.head _)
  have h2:∀ c∈d::P,c<q:=fun e he=>h e (.tail _ he)
  have ih:=Fld.syn_ev ha hn en hx h2
  have l1:=F.ev_lt ha h2
  have l2:=F.ev_lt hx (F.syn_lt ha h2)
  rw [Tc]
  show A c (M x (evF A M (d::P) x))=A (A c (M a (evF A M (d::P) a))) (M (A x na) (A (evF A M (d::P) a) (M x (evF A M (Tc A M a (d::P)) x))))
  rw [ih]
  generalize evF A M (d::P) a=u at *
  generalize evF A M (Tc A M a (d::P)) x=v at *
  have hd:=F.al _ _ hx hn
  have m1:=F.ml _ _ hd l2
  have m2:=F.ml _ _ hx m1
  have m3:=F.ml _ _ hx l1
  have m4:=F.ml _ _ ha l1
  have m5:=F.ml _ _ hn l1
  have m6:=F.ml _ _ hd l1
  have m7:=F.ml _ _ hx l2
  have m8:=F.ml _ _ hd m7
  rw [F.md _ _ _ hx l1 m1,F.md _ _ _ hd l1 m7,← F.ma _ _ _ hx hd l2,F.mc x _ hx hd,F.ma _ _ _ hd hx l2]
  have e1:M (A x na) u=A (M x u) (M na u):=by
   rw [F.mc _ u hd l1,F.md _ _ _ l1 hx hn,F.mc u x l1 hx,F.mc u na l1 hn]
  have e2:A (M a u) (M na u)=0:=by
   rw [F.mc a u ha l1,F.mc na u hn l1,← F.md _ _ _ l1 ha hn,en,F.rng.m0 l1]
  rw [e1]
  have e3:A (M a u) (A (A (M x u) (M na u)) (M (A x na) (M x v)))=A (M x u) (M (A x na) (M x v)):=by
   rw [← F.aa _ _ _ m4 (F.al _ _ m3 m5) m8,F.ac (M x u) _ m3 m5,← F.aa _ _ _ m4 m5 m3,e2,F.rng.z0 m3]
  rw [F.aa _ _ _ hc m4 (F.al _ _ (F.al _ _ m3 m5) m8),e3]
theorem Fld.roots:∀ (d:Nat) {P:List Nat},P.length=d+1→(∀ c∈P,c<q)→P.getLastD 0≠0→∀ {l:List Nat},l.Nodup→(∀ x∈l,x<q∧evF A M P x=0)→l.length≤d
 | 0,P,hP,hc,h0,l,hn,hl=>by
  obtain ⟨c,rfl⟩:=List.length_eq_one_iff.1 hP
  cases l with
  | nil=>exact Nat.le_refl _
  | cons x l =>
   obtain ⟨hx,e⟩:=hl x (.head _)
   have hcq:=hc c (.head _)
   have e:A c (M x 0)=0:=e
   rw [F.rng.m0 hx,F.a0 c hcq] at e
   exact absurd e h0
 | d+1,P,hP,hc,h0,l,hn,hl=>by
  cases l with
  | nil=>exact Nat.zero_le _
  | cons a l =>
   obtain ⟨ha,ea⟩:=hl a (.head _)
   obtain ⟨h1,h2⟩:=List.nodup_cons.1 hn
   obtain ⟨na,hna,en⟩:=F.an a ha
   have ih:=Fld.roots d (P:=Tc A M a P) (by rw [AFm,hP];omega) (F.syn_lt ha hc) (by rw [F.syn_last ha hc (by omega)];exact h0) (l:=l) h2 (fun x hx=>by
    obtain ⟨hxq,ex⟩:=hl x (.tail _ hx)
    refine ⟨hxq,?_⟩
    have h3:=F.syn_ev ha hna en hxq hc
    have h4:=F.ev_lt hxq (F.syn_lt ha hc)
    have h5:=F.al _ _ hxq hna
    rw [ex,ea,F.rng.z0 (F.ml _ _ h5 h4)] at h3
    refine (F.nz _ _ h5 h4 h3.symm).resolve_left fun e=>h1 ?_
    have h6:A (A x na) a=A 0 a:=by rw [e]
    rw [F.aa _ _ _ hxq hna ha,F.ac na a hna ha,en,F.a0 x hxq,F.rng.z0 ha] at h6
    exact h6▸hx)
   rw [List.length_cons];omega
theorem Fld.ev_mono {x:Nat}(hx:x<q):∀ k,evF A M (List.replicate k 0++[1]) x=B0 M x k
 | 0=>by
  have hq:=F.q2
  show A 1 (M x 0)=1
  rw [F.rng.m0 hx,F.a0 1 (by omega)]
 | k+1=>by
  rw [List.replicate_succ,List.cons_append]
  show A 0 (M x (evF A M (List.replicate k 0++[1]) x))=M (B0 M x k) x
  rw [Fld.ev_mono hx k,F.rng.z0 (F.ml _ _ hx (F.rng.pw_lt hx k)),F.mc _ _ hx (F.rng.pw_lt hx k)]
theorem Fld.gen_ex:∃ x,1≤x∧x<q∧Md q M x:=by
 have hq:=F.q2
 -- the greatest order
 obtain ⟨k0,_,⟨g,hg,hg0,e,ek,he⟩,hmax⟩:=AB1 (P:=fun k=>∃ g,g<q∧g≠0∧∃ e,e+k=q-1∧Ox M g e) (q-1-(Classical.choose (F.ord_ex (x:=1) (by omega) (by decide)))) (by
  obtain ⟨h1,h2⟩:=Classical.choose_spec (F.ord_ex (x:=1) (by omega) (by decide))
  exact ⟨1,by omega,by decide,_,by omega,h2⟩)
 have hle:∀ x,x<q→x≠0→∀ k,Ox M x k→k≤e:=fun x hx h0 k hk=>by
  refine Nat.le_of_not_lt fun hlt=>?_
  obtain ⟨k',hk',ho⟩:=F.ord_ex hx h0
  have hkk:k=k':=by
   have h1:=F.ord_dvd hx hk ho.2.1
   have h2:=F.ord_dvd hx ho hk.2.1
   exact Nat.dvd_antisymm h1 h2
  exact hmax (q-1-k) (by omega) ⟨x,hx,h0,k,by omega,hk⟩
 have hall:∀ x,x<q→x≠0→B0 M x e=1:=fun x hx h0=>by
  obtain ⟨m,_,ho⟩:=F.ord_ex hx h0
  have hd:m∣e:=Classical.byContradiction fun hn=>by
   obtain ⟨r,k,hr,h1,h2⟩:=AIx m ho.1 hn
   obtain ⟨c,rfl⟩:=h1
   obtain ⟨j,e',ee,h3⟩:=ADi hr.1 e he.1
   have hrk:0<r ^ k:=Nat.pow_pos (by have:=hr.1;omega)
   have hrj:0<r ^ j:=Nat.pow_pos (by have:=hr.1;omega)
   have hc:1≤c:=Nat.pos_of_ne_zero fun h0=>by subst h0;have:=ho.1;simp at this
   have o1:Ox M (B0 M x c) (r ^ k):=F.ord_pow hx hc (by rw [Nat.mul_comm];exact ho)
   have o2:Ox M (B0 M g (r ^ j)) e':=F.ord_pow hg hrj (by rw [← ee];exact he)
   have o3:=F.ord_mul (F.rng.pw_lt hx c) (F.rng.pw_lt hg _) o1 o2 (AE2 hr h3 k)
   have hne:M (B0 M x c) (B0 M g (r ^ j))≠0:=fun h=>(F.nz _ _ (F.rng.pw_lt hx c) (F.rng.pw_lt hg _) h).elim (F.pw_ne hx h0 c) (F.pw_ne hg hg0 _)
   have h4:=hle _ (F.ml _ _ (F.rng.pw_lt hx c) (F.rng.pw_lt hg _)) hne _ o3
   have h5:j<k:=Nat.lt_of_not_le fun hkj=>h2 (by rw [ee];exact Nat.dvd_trans (Nat.pow_dvd_pow r hkj) (Nat.dvd_mul_right _ _))
   have h6:r ^ j<r ^ k:=Nat.pow_lt_pow_right hr.1 h5
   have h7:=Nat.mul_lt_mul_of_pos_right h6 (show 0<e' from o2.1)
   omega
  obtain ⟨c,rfl⟩:=hd
  rw [← F.rng.pw_mul hx,ho.2.1,F.rng.pw_one]
 obtain ⟨n1,hn1,en1⟩:=F.an 1 (by omega)
 obtain ⟨e0,rfl⟩:∃ e0,e=e0+1:=⟨e-1,by have:=he.1;omega⟩
 have hroots:=F.roots (e0+1) (P:=n1::(List.replicate e0 0++[1])) (by simp) (fun c hc=>by
   rcases List.mem_cons.1 hc with rfl|hc
   ·exact hn1
   ·rcases List.mem_append.1 hc with hc|hc
    ·rw [(List.mem_replicate.1 hc).2];omega
    ·rw [List.mem_singleton.1 hc];omega) (by rw [← List.cons_append,AC6];decide) (l:=List.range' 1 (q-1)) (List.nodup_range' ..) (fun x hx=>by
   obtain ⟨h1,h2⟩:=List.mem_range'_1.1 hx
   refine ⟨by omega,?_⟩
   have hxq:x<q:=by omega
   show A n1 (M x (evF A M (List.replicate e0 0++[1]) x))=0
   have:=hall x hxq (by omega)
   rw [F.ev_mono hxq,F.mc _ _ hxq (F.rng.pw_lt hxq _)]
   have h3:M (B0 M x e0) x=1:=this
   rw [h3,F.ac n1 1 hn1 (by omega),en1])
 rw [List.length_range'] at hroots
 have eq:e0+1=q-1:=by omega
 rw [eq] at he
 refine ⟨g,by omega,hg,fun i j hij hj e=>?_,fun i _=>F.pw_ne hg hg0 i,he.2.1⟩
 have h3:M (B0 M g i) 1=M (B0 M g i) (B0 M g (j-i)):=by
  rw [← F.rng.pw_add hg,show i+(j-i)=j by omega,F.m1 _ (F.rng.pw_lt hg i),e]
 exact he.2.2 (j-i) (by omega) (by omega) (F.mcan (F.rng.pw_lt hg i) (F.pw_ne hg hg0 i) (by omega) (F.rng.pw_lt hg _) h3).symm
end
set_option maxRecDepth 100000
set_option linter.unusedVariables false
set_option linter.unusedSimpArgs false
theorem ABd (p m x:Nat):Db p (m+1) x 0=((x % p:Nat):Int):=by rw [Pm (by omega)];rfl
theorem ACS (p m x j:Nat):Db p (m+1) x (j+1)=Db p m (x / p) j:=by
 by_cases h:j<m
 ·rw [Pm (by omega),Pm h];rfl
 ·rw [Vi (by omega),Vi (by omega)]
theorem AJe (p m:Nat) (v:Vz):un p (m+1) v=(v 0 % p).toNat+p*un p m fun j=>v (j+1):=by
 rw [un,List.range_succ_eq_map,List.map_cons,Gj,List.map_map];rfl
theorem Y8 (p m x y:Nat):fA p (m+1) x y=(x % p+y % p) % p+p*fA p m (x / p) (y / p):=by
 rw [fA,AJe,ABd,ABd,← Int.natCast_add,← Int.natCast_emod,Int.toNat_natCast,fA]
 rw [show (fun j=>Db p (m+1) x (j+1)+Db p (m+1) y (j+1))=fun j=>Db p m (x / p) j+Db p m (y / p) j from funext fun j=>by rw [ACS,ACS]]
theorem AJ7 (p:Nat):∀ m,fA p m 0 0=0
 | 0=>rfl
 | m+1=>by rw [Y8,Nat.zero_div,AJ7 p m,Nat.zero_mod,Nat.zero_mod];rfl
theorem AHx:∀ {m x y:Nat},x<2 ^ m→y<2 ^ m→fA 2 m x y=x ^^^ y
 | 0,x,y,hx,hy=>by
  obtain rfl:x=0:=by simpa using hx
  obtain rfl:y=0:=by simpa using hy
  rfl
 | m+1,x,y,hx,hy=>by
  rw [Nat.pow_succ] at hx hy
  rw [Y8,AHx (by omega) (by omega)]
  have h1:(x ^^^ y) / 2=x / 2 ^^^ y / 2:=by rw [Nat.xor_div_two]
  have h2:(x ^^^ y) % 2=(x % 2+y % 2) % 2:=by
   have h3:=Nat.xor_mod_two_pow (a:=x) (b:=y) (n:=1)
   rw [Nat.pow_one] at h3
   rw [h3]
   rcases Nat.mod_two_eq_zero_or_one x with e|e <;> rcases Nat.mod_two_eq_zero_or_one y with e'|e' <;> rw [e,e'] <;> rfl
  rw [← h1,← h2]
  omega
def nP (p m x:Nat):Nat:=Gj p ((Dd p m x).map fun d=>(p-d) % p)
theorem ACd (p m x:Nat):nP p (m+1) x=(p-x % p) % p+p*nP p m (x / p):=rfl
theorem AIY (p:Nat):∀ m,nP p m 0=0
 | 0=>rfl
 | m+1=>by rw [ACd,Nat.zero_div,AIY p m,Nat.zero_mod,Nat.sub_zero,Nat.mod_self,Nat.mul_zero]
theorem ADd {p:Nat}(hp:0<p) (m x:Nat):nP p m x<p ^ m:=by
 have:=M8 hp (l:=(Dd p m x).map fun d=>(p-d) % p) fun d hd=>by
  obtain ⟨e,_,rfl⟩:=List.mem_map.1 hd
  exact Nat.mod_lt _ hp
 rwa [List.length_map,Dz] at this
theorem AJ5 {p:Nat}(hp:0<p):∀ (m x:Nat),fA p m x (nP p m x)=0
 | 0,_=>rfl
 | m+1,x=>by
  have h1:=Nat.mod_lt (p-x % p) hp
  have h2:=Nat.mod_lt x hp
  rw [Y8,ACd,Nat.add_mul_div_left _ _ hp,Nat.div_eq_of_lt h1,Nat.zero_add,AJ5 hp m,Nat.add_mul_mod_self_left,Nat.mod_mod,Nat.add_mod_mod,Nat.mul_zero,Nat.add_zero,Nat.add_sub_of_le (by omega),Nat.mod_self]
def iF (q:Nat) (M:Nat→Nat→Nat) (x:Nat):Nat:=((List.range' 1 (q-1)).find? fun y=>decide (M x y=1)).getD 0
theorem AHS {q x:Nat}{M:Nat→Nat→Nat}(h:∃ y,1≤y∧y<q∧M x y=1):(1≤iF q M x∧iF q M x<q)∧M x (iF q M x)=1:=by
 obtain ⟨y,h1,h2,h3⟩:=h
 rw [iF]
 cases hf:(List.range' 1 (q-1)).find? fun y=>decide (M x y=1) with
 | none =>
  have:=List.find?_eq_none.1 hf y (List.mem_range'_1.2 ⟨h1,by omega⟩)
  simp [h3] at this
 | some z =>
  have h4:=List.mem_range'_1.1 (List.mem_of_find?_eq_some hf)
  exact ⟨⟨h4.1,by show z<q;omega⟩,by simpa using List.find?_some hf⟩
section
variable {q:Nat}{A M:Nat→Nat→Nat}(R:Rng q A M)
include R
theorem Rng.inv_one {x y z:Nat}(hx:x<q) (hy:y<q) (hz:z<q) (h1:M x y=1) (h2:M x z=1):y=z:=by
 have e:M y (M x z)=y:=by rw [h2,R.m1 _ hy]
 rw [← e,← R.ma _ _ _ hy hx hz,R.mc _ _ hy hx,h1,R.mc _ _ R.q2 hz,R.m1 _ hz]
theorem Rng.exp_mul {g i j:Nat}(hg:g<q) (h:Md q M g):B0 M g ((i+j) % (q-1))=M (B0 M g i) (B0 M g j):=by
 rw [← R.gen_mod hg h,R.pw_add hg]
theorem Rng.exp_inv {g i:Nat}(hg:g<q) (h:Md q M g) (hi:i<q-1):M (B0 M g i) (B0 M g ((q-1-i) % (q-1)))=1:=by
 rw [← R.gen_mod hg h,← R.pw_add hg,show i+(q-1-i)=q-1 by omega,h.2.2]
end
open Go Go.Fw
set_option maxRecDepth 100000
set_option linter.unusedVariables false
set_option linter.unusedSimpArgs false
set_option maxHeartbeats 0
theorem AFu (l:List Nat) (i z:Nat):Bc (l.set i z)=(Bc l).set i (z:Int):=by simp [Bc,List.map_set]
theorem Ok {l:List Nat}{i:Nat}:(Bc l).getD i 0=((l.getD i 0:Nat):Int):=by
 rw [Bc,List.getD_eq_getElem?_getD,List.getD_eq_getElem?_getD,List.getElem?_map]
 cases l[i]? <;> rfl
theorem W7 {l:List Nat}{i:Nat}(h:i<l.length):l[i]?=some (l.getD i 0):=by
 rw [List.getD_eq_getElem?_getD,List.getElem?_eq_getElem h];rfl
theorem ABl (n:Nat):Bc (List.replicate n 0)=List.replicate n 0:=by simp [Bc]
theorem G0 {p m nm cm:Nat}{md:List Int}{pm:Option Addr}(K:Fok p m md) {x y:Int}(x0:0≤x) (x1:x<((p ^ m:Nat):Int)) (y0:0≤y) (y1:y<((p ^ m:Nat):Int)) :
  Bs Tryz.prog 132 [.agg #[.int .i64 p,.int .i64 m,.slice pm nm cm],.int .i64 x,.int .i64 y] [] [Ap Ai pm nm cm md] (Rv (.int .i64 (Ad (fM p (Ax m md)) x y)) []):=by
 refine Ab (F:=Qr) rfl fun C=>?_
 have h1:=K.p2
 have h2:=K.p256
 have h3:=K.m8
 have h4:=K.q
 have h5:=K.m1
 have lx:=Dz p m x.toNat
 have ly:=Dz p m y.toNat
 have fl:=K.flen
 have md0:=AHX (p:=p) (by omega) (f:=Ax m md) (by omega) x.toNat y.toNat
 rw [fl] at md0
 have xr:=fun d hd=>I1 (p:=p) (n:=m) (x:=x.toNat) (by omega) d hd
 have yr:=fun d hd=>I1 (p:=p) (n:=m) (x:=y.toNat) (by omega) d hd
 have eR:Ad (fM p (Ax m md)) x y=((Gj p ((List.range m).map fun j=>(Cr (Ax m md) (Db p m x.toNat) (Db p m y.toNat) j % p).toNat):Nat):Int):=by
  rw [Ad,fM,un,fl]
 rw [eR]
 clear eR
 refine Bb 0 rfl fun hn _ _=>?_
 subst hn
 generalize hT:(List.range m).map (fun j=>(Cr (Ax m md) (Db p m x.toNat) (Db p m y.toNat) j % p).toNat)=T at *
 have lT:T.length=m:=by rw [← hT];simp
 have rT:∀ d∈T,d<p:=fun d hd=>by rw [← hT] at hd;exact ABM (by omega) _ d hd
 clear hT
 have ep:p ^ T.length≤1000000:=by rw [lT];omega
 have Hy:=fun {z:Int}(z0:0≤z) (z1:z<((p ^ m:Nat):Int))=>Ec (nm:=md.length) (cm:=cm) (pm:=pm) K z0 z1
 refine wk 22 (ct @Hy (ct @Hy cz)) ?_
 intro b1 b2 b3 b4
 generalize hDX:Dd p m x.toNat=DX at *
 generalize hDY:Dd p m y.toNat=DY at *
 have mL:=Wi p m (Bc DX) (Bc DY)
 have mR:=AAl (p:=p) (by omega) m (Bc DX) (Bc DY)
 refine Ah (X:=Nat×List Nat) [3,6,7,8,9] [0] (fun x=>[(10,.int .i64 (x.1:Int))]) (fun x=>[(some b4,3,Ao .i64 x.2),(some b3,3,Ao .i64 DY),(some b2,3,Ao .i64 DX),(some b1,24,[.int .i64 p,.int .i64 m,.slice pm md.length cm])]) (fun _=>[])
  (fun x=>x.1≤m∧Bc x.2=S6 p m (Bc DX) (Bc DY) x.1) (fun x=>m-x.1) (0,List.replicate (2*m-1) 0) [] rfl rfl rfl ⟨Nat.zero_le _,ABl _⟩ (by repeat (first|exact Fr.sub_nil _|refine Fr.sub_cons rfl ?_)) rfl rfl ?_
 rintro ⟨i,L⟩ ⟨hi,hL⟩ ih
 simp only [List.cons_append,List.nil_append] at hi hL ih ⊢
 by_cases hil:i<m
 ·refine wk 10 cz ?_
  intro h6
  have ihn:=fun l h=>ih (i+1,l) (by dsimp only;omega) ⟨by dsimp only;omega,h⟩
  simp only [S6] at ihn
  rw [← hL] at ihn
  have lL:L.length=2*m-1:=by rw [← Ch,hL,mL]
  have rL:∀ z∈Bc L,0≤z∧z<(p:Int):=by rw [hL];exact mR i
  have zx:=W7 (l:=DX) (i:=i) (by omega)
  have bx:=xr _ (List.mem_of_getElem? zx)
  rw [Ok] at ihn
  generalize DX.getD i 0=u at *
  refine Ah (X:=Nat×List Nat) [3,6,7,8,9,10,25,26,27,28] [0] (fun x=>[(11,.int .i64 (x.1:Int))]) (fun x=>[(some b4,3,Ao .i64 x.2),(some b3,3,Ao .i64 DY),(some b2,3,Ao .i64 DX),(some b1,24,[.int .i64 p,.int .i64 m,.slice pm md.length cm])]) (fun _=>[])
   (fun x=>x.1≤m∧Bc x.2=Eg p (u:Int) (Bc DY) i x.1 (Bc L)) (fun x=>m-x.1) (0,L) [] rfl rfl rfl ⟨Nat.zero_le _,rfl⟩ (by repeat (first|exact Fr.sub_nil _|refine Fr.sub_cons rfl ?_)) rfl rfl ?_
  rintro ⟨j,S⟩ ⟨hj,hS⟩ ihj
  simp only [List.cons_append,List.nil_append] at hj hS ihj ⊢
  by_cases hjl:j<m
  ·have lS:S.length=2*m-1:=by rw [← Ch,hS,Hj,Ch,lL]
   have rS:=Jo (p:=p) (by omega) (u:Int) (Bc DY) i rL j
   rw [← hS] at rS
   have ihj':=fun l h=>ihj (j+1,l) (by dsimp only;omega) ⟨by dsimp only;omega,h⟩
   simp only [Eg] at ihj'
   rw [← hS] at ihj'
   simp only [Ok] at ihj'
   have zy:=W7 (l:=DY) (i:=j) (by omega)
   have by':=yr _ (List.mem_of_getElem? zy)
   have zs:=W7 (l:=S) (i:=i+j) (by omega)
   have bs:=rS _ (List.mem_of_getElem? (Ie zs))
   generalize DY.getD j 0=v at *
   generalize S.getD (i+j) 0=s at *
   have huv:u*v≤65536:=Nat.le_trans (Nat.mul_le_mul (show u≤256 by omega) (show v≤256 by omega)) (by decide)
   have huv':(u:Int)*(v:Int)=((u*v:Nat):Int):=by omega
   have hb0:0≤(u:Int)*(v:Int)∧(u:Int)*(v:Int)≤65536:=by omega
   have em:((s:Int)+(u:Int)*(v:Int)) % (p:Int)=(((s+u*v) % p:Nat):Int):=by rw [huv',← Int.natCast_add,← Int.natCast_emod]
   have hmod:(s+u*v) % p<p:=Nat.mod_lt _ (by omega)
   refine wk 14 cz ?_
   intro h7
   exact tw (ihj' (S.set (i+j) ((s+u*v) % p)) (by rw [AFu,← em]))
  ·obtain rfl:j=m:=by omega
   refine wk 10 cz ?_
   intro h7
   exact tw (ihn S hS)
 ·obtain rfl:i=m:=by omega
  clear ih
  rw [← hL] at md0
  have lL:L.length=2*i-1:=by rw [← Ch,hL,mL]
  have rL:∀ z∈Bc L,0≤z∧z<(p:Int):=by rw [hL];exact mR i
  clear hL mL mR
  have kL:=Vy p (Ax i md) (Bc L)
  have kR:=AAi (p:=p) (by omega) (Ax i md) rL
  have tl:(Bc L).length=2*i-1:=by rw [Ch,lL]
  rw [tl] at kL
  refine wk 12 cz ?_
  intro h6
  refine Ah (X:=Nat×List Nat) [3,6,9] [0] (fun x=>[(12,.int .i64 (2*(i:Int)-2-(x.1:Int)))]) (fun x=>[(some b4,3,Ao .i64 x.2),(some b3,3,Ao .i64 DY),(some b2,3,Ao .i64 DX),(some b1,24,[.int .i64 p,.int .i64 i,.slice pm md.length cm])]) (fun _=>[])
   (fun x=>x.1≤i-1∧Bc x.2=Q9 p (Ax i md) (Bc L) x.1) (fun x=>i-1-x.1) (0,L) [] rfl rfl rfl ⟨Nat.zero_le _,rfl⟩ (by refine Fr.sub_consI rfl (by simp) ?_;repeat (first|exact Fr.sub_nil _|refine Fr.sub_cons rfl ?_)) rfl rfl ?_
  rintro ⟨n,Z⟩ ⟨hn,hZ⟩ ih
  simp only [List.cons_append,List.nil_append] at hn hZ ih ⊢
  by_cases hnl:n<i-1
  ·have hi1:i≠1:=by omega
   have hfp:Ax i md=md:=if_neg hi1
   have hml:md.length=i:=K.len hi1
   have hrm:=K.rng
   refine wk 10 cz ?_
   intro h7
   have ihn:=fun l h=>ih (n+1,l) (by dsimp only;omega) ⟨by dsimp only;omega,h⟩
   simp only [Q9] at ihn
   rw [← hZ,tl,hfp,Ok,show 2*i-1-1-n=2*i-2-n by omega] at ihn
   have lZ:Z.length=2*i-1:=by rw [← Ch,hZ,kL]
   have rZ:∀ z∈Bc Z,0≤z∧z<(p:Int):=by rw [hZ];exact kR n
   have zc:=W7 (l:=Z) (i:=2*i-2-n) (by omega)
   have bc:=rZ _ (List.mem_of_getElem? (Ie zc))
   generalize hcv:Z.getD (2*i-2-n) 0=c at *
   have hpc:(p:Int)-(c:Int)=((p-c:Nat):Int):=by omega
   rw [hpc] at ihn
   refine Ah (X:=Nat×List Nat) [3,6,9,12,65,66,67,68] [0] (fun x=>[(13,.int .i64 (x.1:Int))]) (fun x=>[(some b4,3,Ao .i64 x.2),(some b3,3,Ao .i64 DY),(some b2,3,Ao .i64 DX),(some b1,24,[.int .i64 p,.int .i64 i,.slice pm md.length cm])]) (fun _=>[])
    (fun x=>x.1≤i∧Bc x.2=Eg p ((p-c:Nat):Int) md (2*i-2-n-i) x.1 (Bc Z)) (fun x=>i-x.1) (0,Z) [] rfl rfl rfl ⟨Nat.zero_le _,rfl⟩ (by repeat (first|exact Fr.sub_nil _|refine Fr.sub_cons rfl ?_)) rfl rfl ?_
   rintro ⟨j,S⟩ ⟨hj,hS⟩ ihj
   simp only [List.cons_append,List.nil_append] at hj hS ihj ⊢
   by_cases hjl:j<i
   ·have lS:S.length=2*i-1:=by rw [← Ch,hS,Hj,Ch,lZ]
    have rS:=Jo (p:=p) (by omega) ((p-c:Nat):Int) md (2*i-2-n-i) rZ j
    rw [← hS] at rS
    have oS:=Xm p ((p-c:Nat):Int) md (2*i-2-n-i) (Bc Z) (i:=2*i-2-n) j (by omega)
    rw [← hS,Ok,Ok,hcv] at oS
    have ihj':=fun l h=>ihj (j+1,l) (by dsimp only;omega) ⟨by dsimp only;omega,h⟩
    simp only [Eg] at ihj'
    rw [← hS] at ihj'
    simp only [Ok] at ihj'
    have hdd:md.getD j 0=md.getD j default:=rfl
    rw [hdd] at ihj'
    have zm:md[j]?=some (md.getD j default):=by rw [List.getD_eq_getElem?_getD,List.getElem?_eq_getElem (by omega)];rfl
    have bm:=hrm _ (List.mem_of_getElem? zm)
    have zi:=W7 (l:=S) (i:=2*i-2-n) (by omega)
    rw [show S.getD (2*i-2-n) 0=c by omega] at zi
    have zs:=W7 (l:=S) (i:=2*i-2-n-i+j) (by omega)
    have bs:=rS _ (List.mem_of_getElem? (Ie zs))
    generalize S.getD (2*i-2-n-i+j) 0=s at *
    have hb0:0≤((p-c:Nat):Int)*md.getD j default:=Int.mul_nonneg (by omega) bm.1
    have hb1:((p-c:Nat):Int)*md.getD j default≤65536:=Int.le_trans (Int.mul_le_mul (show ((p-c:Nat):Int)≤256 by omega) (show md.getD j default≤256 by omega) bm.1 (by decide)) (by decide)
    have em0:0≤((s:Int)+((p-c:Nat):Int)*md.getD j default) % (p:Int):=Int.emod_nonneg _ (by omega)
    have em1:((s:Int)+((p-c:Nat):Int)*md.getD j default) % (p:Int)<p:=Int.emod_lt_of_pos _ (by omega)
    refine wk 10 cz ?_
    intro h8 b5 o1
    refine Aa rfl (Xh 0 (((s)+((p-c)*((md.getD j default:Int).toNat))) % (p)) rfl rfl rfl Ci ?_ ?_ ?_)
    ·rw [Int.natCast_emod,Int.natCast_add,Int.natCast_mul,Int.toNat_of_nonneg bm.1]
    ·rw [lS];omega
    refine wk 3 cz ?_
    exact tw (ihj' (S.set (2*i-2-n-i+j) ((s+(p-c)*(md.getD j default).toNat) % p)) (by rw [AFu,Int.natCast_emod,Int.natCast_add,Int.natCast_mul,Int.toNat_of_nonneg bm.1]))
   ·obtain rfl:j=i:=by omega
    refine wk 10 cz ?_
    intro h8
    exact tw (ihn S (by rw [hml];exact hS))
  ·obtain rfl:n=i-1:=by omega
   rw [← hZ] at md0
   have lZ:Z.length=2*i-1:=by rw [← Ch,hZ,kL]
   have rZ:∀ z∈Bc Z,0≤z∧z<(p:Int):=by rw [hZ];exact kR (i-1)
   have Il:=fun {pd:Option Addr}{cd:Nat}=>F9 (P:=(p:Int)) (M:=(i:Int)) (pm:=pm) (pd:=pd) (nm:=md.length) (cm:=cm) (nd:=i) (cd:=cd) (p:=p) (l:=T) rfl (by omega) h2 rT ep
   rw [← md0] at Il
   rw [Hm .i64 Z]
   refine G9 8 (Bc Z) 0 rfl (by rw [Ch,lZ]) (fun z hz=>by have:=rZ z hz;simp only [Bv];omega) (by omega) (by omega) ?_
   simp only [List.eraseIdx_cons_zero]
   generalize (some (⟨b4,0,none⟩:Addr))=pc
   refine wk 8 cz ?_
   intro h7
   (apply E7 it mx 6;(· rfl);(· rfl))
   (apply Ac;(· rfl);(· exact Cy 2 rfl rfl Hx rfl))
   (apply A3 1;(· rfl);(· simp))
   (apply Ac;(· rfl);(· exact Cf fun _=>Aq rfl P1 An))
   (apply Ac;(· rfl);(· exact Ca 2 rfl rfl Ci rfl))
   (apply Ii;(· rfl);(· exact Cf fun _=>AGe 0 (i) rfl rfl rfl Cb (by omega) (by omega) (Mg 0 rfl));intro pa1 ca1)
   (apply Ac;(· rfl);(· exact Cf fun _=>Aw [0] rfl (Il) rfl (by rintro _ _ _ ⟨rfl,rfl,rfl⟩;exact An)))
   refine Eu rfl ?_
   simp only [List.map_cons,List.map_nil,List.cons_append,List.nil_append]
   refine wk 2 cz ?_
   exact ge
theorem Xe {p:Nat}(hp:2≤p) {f:List Int}(hf:1≤f.length):Rng (p ^ f.length) (fA p f.length) (fM p f):=by
 have hp0:0<p:=by omega
 generalize hm:f.length=m at *
 have hq:1<p ^ m:=Nat.one_lt_pow (by omega) hp
 have uc:∀ {u v:Vz},(cg p fun j=>u j-v j)→un p m u=un p m v:=fun h=>Gs fun j _=>h j
 have mo:∀ {u v:Vz},(∀ j,m≤j→v j=0)→∀ j,m≤j→Cr f u v j=0:=fun hv=>by rw [← hm] at hv ⊢;exact ADI hv
 have mcm:∀ {u v:Vz},(∀ j,m≤j→u j=0)→(∀ j,m≤j→v j=0)→Cr f u v=Cr f v u:=fun hu hv=>by rw [← hm] at hu hv;exact O2 hu hv
 have fMe:∀ x y,fM p f x y=un p m (Cr f (Db p m x) (Db p m y)):=fun x y=>by rw [fM,hm]
 have mass:∀ {u v w:Vz},(∀ j,m≤j→u j=0)→(∀ j,m≤j→v j=0)→(∀ j,m≤j→w j=0)→Cr f (Cr f u v) w=Cr f u (Cr f v w):=fun {u v w} hu hv hw=>by
  rw [mcm (mo hv) hw,mcm hv hw]
  exact J7 (Ew f) _ _ _
 refine ⟨by omega,fun x y _ _=>Xy hp0 _,fun x y _ _=>?_,fun x y z _ _ _=>?_,fun x hx=>?_,fun x hx=>?_,fun x y _ _=>by rw [fMe];exact Xy hp0 _,fun x y _ _=>?_,fun x y z _ _ _=>?_,fun x y z _ _ _=>?_,fun x hx=>?_⟩
 ·exact congrArg (un p m) (funext fun j=>Int.add_comm _ _)
 ·refine Gs fun j hj=>?_
  have h1:=Dy hp0 (fun j=>Db p m x j+Db p m y j) hj
  have h2:=Dy hp0 (fun j=>Db p m y j+Db p m z j) hj
  have:=Int.dvd_sub h1 h2
  rw [fA,fA]
  exact Ff this (by omega)
 ·rw [fA,show (fun j=>Db p m x j+Db p m 0 j)=Db p m x from funext fun j=>by rw [H6];omega]
  exact Pi hp0 hx
 ·refine ⟨un p m fun j=>-Db p m x j,Xy hp0 _,?_⟩
  rw [fA]
  have:un p m (fun j=>Db p m x j+Db p m (un p m fun j=>-Db p m x j) j)=un p m (Db p m 0):=Gs fun j hj=>by
   have h1:=Dy hp0 (fun j=>-Db p m x j) hj
   rw [H6]
   exact Ff h1 (by omega)
  rw [this,Pi hp0 (by omega)]
 ·rw [fMe,fMe,mcm (rp p m x) (rp p m y)]
 ·rw [fMe,fMe,fMe,fMe]
  have e1:un p m (Cr f (Db p m (un p m (Cr f (Db p m x) (Db p m y)))) (Db p m z))=un p m (Cr f (Cr f (Db p m x) (Db p m y)) (Db p m z)):=by
   rw [mcm (rp p m _) (rp p m z),mcm (mo (rp p m y)) (rp p m z)]
   exact uc (M0 _ (Is hp0 (mo (rp p m y))))
  have e2:un p m (Cr f (Db p m x) (Db p m (un p m (Cr f (Db p m y) (Db p m z)))))=un p m (Cr f (Db p m x) (Cr f (Db p m y) (Db p m z))):=uc (M0 _ (Is hp0 (mo (rp p m z))))
  rw [e1,e2,mass (rp p m x) (rp p m y) (rp p m z)]
 ·rw [fMe,fMe,fMe,fA,fA]
  have e1:un p m (Cr f (Db p m x) (Db p m (un p m fun j=>Db p m y j+Db p m z j)))=un p m (Cr f (Db p m x) (fun j=>Db p m y j+Db p m z j)):=uc (M0 _ (Is hp0 (AFE (rp p m y) (rp p m z))))
  rw [e1,(Ve f _).add]
  refine Gs fun j hj=>?_
  have h1:=Dy hp0 (Cr f (Db p m x) (Db p m y)) hj
  have h2:=Dy hp0 (Cr f (Db p m x) (Db p m z)) hj
  have h3:=Int.dvd_add h1 h2
  exact Ff (Int.dvd_neg.2 h3) (by omega)
 ·rw [fMe,AFz hp hf,Cr,Oo (g:=f) (fun j hj=>rp p m x j (by omega)),Pi hp0 hx]
theorem ABe {l:List Int}{k:Nat}(h:l.length=k+1):Et l k=l.getLastD 0:=by
 have h1:=Ol (l:=l) (by omega)
 have h2:l.dropLast.length=k:=by rw [List.length_dropLast];omega
 conv=>lhs;rw [h1]
 rw [Et,List.getD_eq_getElem?_getD,List.getElem?_append_right (by omega),h2,Nat.sub_self];rfl
theorem ALs {p:Nat}(hp:2≤p) {f g:List Int}(hnz:∀ x y,x<p ^ f.length→y<p ^ f.length→fM p f x y=0→x=0∨y=0) (hg:1≤g.length) (hgf:g.length<f.length):¬ cg p (Bi (Xg g) (f++[1]) By):=by
 intro hc
 have hp0:0<p:=by omega
 let d:=g.length
 let A:=(f++[1]).take (f.length+1-d)
 let r0:=(f++[1]).drop (f.length+1-d)
 have hA:A.length=f.length+1-d:=by simp only [A,List.length_take,List.length_append,List.length_singleton];omega
 have hr0:r0.length=d:=by simp only [r0,List.length_drop,List.length_append,List.length_singleton];omega
 have hAr:f++[1]=A++r0:=(List.take_append_drop _ _).symm
 have hlast:r0.getLastD 0=1:=by
  have h3:r0=(f.drop (f.length+1-d))++[1]:=by
   simp only [r0]
   rw [List.drop_append_of_le_length (by omega)]
  rw [h3];simp
 obtain ⟨q1,q2⟩:=Vk (g:=g) (F:=A) (r0:=r0) hg hr0
 have ev:=fun {Y:Vz→Vz}(hY:Wv Y) (w:Vz)=>ABA hY (g:=g) hg w (F:=A) (r0:=r0) hr0
 have qt:=Z7 g (F:=A) (r0:=r0) (by omega)
 rw [hlast] at qt
 rw [← hAr] at ev
 generalize (Ns g A r0).1=s at *
 generalize (Ns g A r0).2=r at *
 have hX:=Ew f
 have hr:∀ x∈r,(p:Int)∣x:=by
  rw [ev (Ew g) By,Rq hg,(La (Ew g) s).zero,Nx (show r.length≤g.length by omega)] at hc
  intro x hx
  obtain ⟨i,hi⟩:=List.getElem?_of_mem hx
  have:=hc i
  have e:(0:Int)+Et r i=x:=by rw [Et,List.getD_eq_getElem?_getD,hi,Int.zero_add];rfl
  exact Ff this e
 have hs:cg p (Bi (Xg f) s (Bi (Xg f) (g++[1]) By)):=by
  have h3:=ev hX By
  rw [Rq (show 1≤f.length by omega)] at h3
  refine fun j=>?_
  have h5:(0:Int)=Bi (Xg f) s (Bi (Xg f) (g++[1]) By) j+Bi (Xg f) r By j:=congrFun h3 j
  exact Ff (Int.dvd_neg.2 (Y5 hX By hr j)) (by omega)
 have es:Bi (Xg f) s By=Et s:=Nx (by omega)
 have eg:Bi (Xg f) (g++[1]) By=Et (g++[1]):=Nx (by simp;omega)
 have os:∀ j,f.length≤j→Et s j=0:=fun j hj=>Lb (by omega)
 have og:∀ j,f.length≤j→Et (g++[1]) j=0:=fun j hj=>Lb (by simp;omega)
 have hm:cg p (Cr f (Et s) (Et (g++[1]))):=by
  have e:Cr f (Et s) (Et (g++[1]))=Bi (Xg f) s (Bi (Xg f) (g++[1]) By):=by
   rw [Cr,← eg,J7 hX,Oo os,← es,J7 hX]
  rw [e];exact hs
 have h0:fM p f (un p f.length (Et s)) (un p f.length (Et (g++[1])))=0:=by
  rw [fM]
  have e1:un p f.length (Cr f (Db p f.length (un p f.length (Et s))) (Db p f.length (un p f.length (Et (g++[1])))))=un p f.length (Cr f (Db p f.length (un p f.length (Et s))) (Et (g++[1]))) :=
   Gs fun j _=>M0 _ (Is hp0 og) j
  have e2:un p f.length (Cr f (Db p f.length (un p f.length (Et s))) (Et (g++[1])))=un p f.length (Cr f (Et s) (Et (g++[1]))):=by
   rw [O2 (rp p f.length _) og,O2 os og]
   exact Gs fun j _=>M0 _ (Is hp0 os) j
  have e3:un p f.length (Cr f (Et s) (Et (g++[1])))=un p f.length (Db p f.length 0):=Gs fun j _=>by
   rw [H6,Int.sub_zero];exact hm j
  rw [e1,e2,e3,Pi hp0 (Nat.pow_pos hp0)]
 have no1:¬ (p:Int)∣1:=fun h=>by
  have:=Int.le_of_dvd (by decide) h
  omega
 rcases hnz _ _ (Xy hp0 _) (Xy hp0 _) h0 with h|h
 ·have h1:=Dy hp0 (Et s) (show f.length-d<f.length by show f.length-g.length<f.length;omega)
  rw [h,H6,ABe (by omega),qt] at h1
  exact no1 (Ff (Int.dvd_neg.2 h1) (by decide))
 ·have h1:=Dy hp0 (Et (g++[1])) (j:=g.length) (by omega)
  have h2:Et (g++[1]) g.length=1:=by
   rw [ABe (l:=g++[1]) (k:=g.length) (by simp)];simp
  rw [h,H6,h2] at h1
  exact no1 (Ff (Int.dvd_neg.2 h1) (by decide))
def hoF (p m:Nat) (f a:List Int) (c:Int) (r:List Int):List Int:=(List.range m).map fun j=>((if j=0 then 0 else r.getD (j-1) 0)+((p:Int)-r.getD (m-1) 0)*f.getD j 0+c*a.getD j 0) % p
theorem ACm (p m:Nat) (f a:List Int) (c:Int) (r:List Int):(hoF p m f a c r).length=m:=by simp [hoF]
theorem AJJ {p m:Nat}(hp:0<p) (f a:List Int) (c:Int) (r:List Int):∀ x∈hoF p m f a c r,0≤x∧x<p:=fun x hx=>by
 obtain ⟨j,_,rfl⟩:=List.mem_map.1 hx
 exact ⟨Int.emod_nonneg _ (by omega),Int.emod_lt_of_pos _ (by omega)⟩
theorem ALd {p m:Nat}{f a r:List Int}(hf:f.length=m) (ha:a.length=m) (c:Int):cg p fun j=>Et (hoF p m f a c r) j-(c*Et a j+Xg f (Et r) j):=by
 intro j
 by_cases hj:j<m
 ·have e:Et (hoF p m f a c r) j=((if j=0 then 0 else r.getD (j-1) 0)+((p:Int)-r.getD (m-1) 0)*f.getD j 0+c*a.getD j 0) % p:=by
   rw [Et,hoF,List.getD_eq_getElem?_getD,List.getElem?_map,List.getElem?_range hj];rfl
  show (p:Int)∣Et (hoF p m f a c r) j-(c*Et a j+Xg f (Et r) j)
  have h8:=Int.emod_add_mul_ediv ((if j=0 then 0 else r.getD (j-1) 0)+((p:Int)-r.getD (m-1) 0)*f.getD j 0+c*a.getD j 0) p
  rw [e,Xg,if_pos (show j<f.length by omega),hf]
  generalize ((if j=0 then 0 else r.getD (j-1) 0)+((p:Int)-r.getD (m-1) 0)*f.getD j 0+c*a.getD j 0) / (p:Int)=k at h8
  refine ⟨f.getD j 0-k,?_⟩
  have e2:∀ i,Et r i=r.getD i 0:=fun i=>rfl
  have e3:Et a j=a.getD j 0:=rfl
  rw [e3,e2,e2]
  generalize ((if j=0 then 0 else r.getD (j-1) 0)+((p:Int)-r.getD (m-1) 0)*f.getD j 0+c*a.getD j 0) % (p:Int)=z at *
  grind
 ·show (p:Int)∣Et (hoF p m f a c r) j-(c*Et a j+Xg f (Et r) j)
  rw [Lb (by rw [ACm];omega),Lb (by omega),AIk (by omega)]
  exact ⟨0,by simp⟩
def Xu (p m:Nat) (f a:List Int):List Int→List Int
 | []=>List.replicate m 0
 | c::b=>hoF p m f a c (Xu p m f a b)
theorem AFd (p m:Nat) (f a:List Int):∀ b,(Xu p m f a b).length=m
 | []=>by simp [Xu]
 | c::b=>ACm ..
theorem AFC {p m:Nat}(hp:0<p) (f a:List Int):∀ b,∀ x∈Xu p m f a b,0≤x∧x<p
 | [],x,hx=>by
  rw [Xu] at hx
  rw [(List.mem_replicate.1 hx).2];omega
 | c::b,x,hx=>AJJ hp f a c _ x hx
theorem AG9 {p m:Nat}{f a:List Int}(hf:f.length=m) (ha:a.length=m):∀ b,cg p fun j=>Et (Xu p m f a b) j-Bi (Xg f) b (Et a) j
 | []=>fun j=>by
  have:Et (List.replicate m (0:Int)) j=0:=by
   rw [Et,List.getD_eq_getElem?_getD]
   cases e:(List.replicate m (0:Int))[j]? with
   | none=>rfl
   | some x=>exact (List.mem_replicate.1 (List.mem_of_getElem? e)).2
  show (p:Int)∣Et (List.replicate m 0) j-0
  rw [this];exact ⟨0,by simp⟩
 | c::b=>fun j=>by
  have h1:=ALd (p:=p) (r:=Xu p m f a b) hf ha c j
  have h2:cg p fun j=>Xg f (Et (Xu p m f a b)) j-Xg f (Bi (Xg f) b (Et a)) j:=by
   have h3:=Zq (Ew f) (AG9 (p:=p) hf ha b)
   have e:=Ew f 1 (-1) (Et (Xu p m f a b)) (Bi (Xg f) b (Et a))
   have e1:(fun j=>1*Et (Xu p m f a b) j+-1*Bi (Xg f) b (Et a) j)=fun j=>Et (Xu p m f a b) j-Bi (Xg f) b (Et a) j:=by funext j;omega
   rw [e1] at e
   rw [e] at h3
   intro j
   have h4:(p:Int)∣1*Xg f (Et (Xu p m f a b)) j+-1*Xg f (Bi (Xg f) b (Et a)) j:=h3 j
   show (p:Int)∣Xg f (Et (Xu p m f a b)) j-Xg f (Bi (Xg f) b (Et a)) j
   exact Ff h4 (by omega)
  have h1:(p:Int)∣Et (hoF p m f a c (Xu p m f a b)) j-(c*Et a j+Xg f (Et (Xu p m f a b)) j):=h1
  have h4:(p:Int)∣Xg f (Et (Xu p m f a b)) j-Xg f (Bi (Xg f) b (Et a)) j:=h2 j
  show (p:Int)∣Et (hoF p m f a c (Xu p m f a b)) j-(c*Et a j+Xg f (Bi (Xg f) b (Et a)) j)
  exact Ff (Int.dvd_add h1 h4) (by omega)
theorem AIW {p:Nat}(hp:0<p) {f:List Int}(x y:Nat):Gj p ((Xu p f.length f (Bc (Dd p f.length x)) (Bc (Dd p f.length y))).map Int.toNat)=fM p f x y:=by
 have hl:=AFd p f.length f (Bc (Dd p f.length x)) (Bc (Dd p f.length y))
 have hr:=AFC hp f (m:=f.length) (Bc (Dd p f.length x)) (Bc (Dd p f.length y))
 have hc:=AG9 (p:=p) (f:=f) rfl (show (Bc (Dd p f.length x)).length=f.length by rw [Ch,Dz]) (Bc (Dd p f.length y))
 rw [fM]
 have e1:Cr f (Db p f.length x) (Db p f.length y)=Bi (Xg f) (Bc (Dd p f.length y)) (Et (Bc (Dd p f.length x))):=by
  rw [O2 (rp p _ x) (rp p _ y),Cr]
  congr 1
  refine List.ext_getElem (by simp [Ch,Dz]) fun i h1 h2=>?_
  rw [List.getElem_map,List.getElem_range,Db,Et,List.getD_eq_getElem?_getD,List.getElem?_eq_getElem h2];rfl
 rw [e1]
 rw [un]
 congr 1
 refine List.ext_getElem (by simp [hl]) fun i h1 h2=>?_
 rw [List.getElem_map,List.getElem_map,List.getElem_range]
 have hi:i<(Xu p f.length f (Bc (Dd p f.length x)) (Bc (Dd p f.length y))).length:=by simpa using h1
 have h3:=hr _ (List.getElem_mem hi)
 have h4:(p:Int)∣Et (Xu p f.length f (Bc (Dd p f.length x)) (Bc (Dd p f.length y))) i-Bi (Xg f) (Bc (Dd p f.length y)) (Et (Bc (Dd p f.length x))) i:=hc i
 rw [Et,List.getD_eq_getElem?_getD,List.getElem?_eq_getElem hi] at h4
 have h5:(Xu p f.length f (Bc (Dd p f.length x)) (Bc (Dd p f.length y)))[i] % (p:Int)=Bi (Xg f) (Bc (Dd p f.length y)) (Et (Bc (Dd p f.length x))) i % (p:Int):=Int.emod_eq_emod_iff_emod_sub_eq_zero.2 (Int.emod_eq_zero_of_dvd h4)
 rw [← h5,Int.emod_eq_of_lt h3.1 h3.2]
theorem Ed {P M:Int}{res:Int}(hres:Hw P M=res):Bs Tryz.prog 119 [.int .i64 P,.int .i64 M] [] [] (Rv (.int .i64 res) []):=by
 refine Ab (F:=AAO) rfl fun C=>?_
 have no:¬ Uq P M→res=0:=fun h=>by rw [← hres,Hw,if_neg h]
 by_cases h1:P<2
 ·rw [no (by unfold Uq;omega)]
  refine wk 13 cz ?_
  intro h2
  exact ge
 by_cases h0:256<P
 ·rw [no fun h=>by
   have h9:=h.2.2.2
   have h8:=Nat.le_self_pow (n:=M.toNat) (by have:=h.2.1;omega) P.toNat
   omega]
  refine wk 18 cz ?_
  intro h2 h3
  exact ge
 by_cases h2:M<1
 ·rw [no (by unfold Uq;omega)]
  refine wk 23 cz ?_
  intro h3 h4 h5
  exact ge
 by_cases h3:8<M
 ·rw [no (by unfold Uq;omega)]
  refine wk 23 cz ?_
  intro h4 h5 h6 h7
  exact ge
 obtain ⟨p,rfl⟩:∃ p:Nat,P=p:=⟨P.toNat,by omega⟩
 obtain ⟨m,rfl⟩:∃ m:Nat,M=m:=⟨M.toNat,by omega⟩
 refine wk 25 cz ?_
 intro h4 h5 h6 h7
 refine Ah (X:=Nat) [0,20] [] (fun i=>[(21,.int .i64 (i:Int)),(5,.int .i64 ((p ^ i:Nat):Int))]) (fun _=>[]) (fun _=>[]) (fun i=>i≤m∧p ^ i≤256) (fun i=>m-i) 0 [] rfl rfl rfl ⟨Nat.zero_le _,by simp⟩ (by repeat (first|exact Fr.sub_nil _|refine Fr.sub_cons rfl ?_)) rfl rfl ?_
 rintro i ⟨hi,hq⟩ ih
 simp only [List.cons_append,List.nil_append] at hi hq ih ⊢
 by_cases hil:i<m
 ·have hp0:0<p:=by omega
  have e:((p ^ i:Nat):Int)*(p:Int)=((p ^ (i+1):Nat):Int):=by rw [Nat.pow_succ,Int.natCast_mul]
  have h65:p ^ (i+1)≤65536:=by rw [Nat.pow_succ];exact Nat.mul_le_mul hq (show p≤256 by omega)
  have e2:0≤((p ^ i:Nat):Int)*(p:Int):=by rw [e];omega
  have e3:((p ^ i:Nat):Int)*(p:Int)≤65536:=by rw [e];omega
  by_cases hb:p ^ (i+1)≤256
  ·have e4:((p ^ i:Nat):Int)*(p:Int)≤256:=by rw [e];omega
   refine wk 13 cz ?_
   intro h8 h9
   rw [e]
   exact tw (ih (i+1) (by omega) ⟨by omega,hb⟩)
  ·have e4:256<((p ^ i:Nat):Int)*(p:Int):=by rw [e];omega
   rw [no fun h=>hb (Nat.le_trans (Nat.pow_le_pow_right hp0 hil) (by have:=h.2.2.2;simpa using this))]
   refine wk 13 cz ?_
   intro h8 h9
   exact ge
 ·obtain rfl:m=i:=by omega
  have:res=((p ^ m:Nat):Int):=by
   rw [← hres,Hw,if_pos ⟨by omega,by omega,by omega,by simpa using hq⟩];simp
  rw [this]
  refine wk 7 cz ?_
  intro h8
  exact ge
theorem AH2 {n:Nat}(hn:2≤n) (h:∀ d,2≤d→d*d≤n→¬ d∣n):Prm n:=by
 refine ⟨hn,fun d hd hl hdv=>?_⟩
 obtain ⟨c,rfl⟩:=hdv
 have hc:2≤c:=by
  rcases Nat.lt_or_ge c 2 with h1|h1
  ·exfalso
   have:c=0∨c=1:=by omega
   rcases this with rfl|rfl <;> simp at hn hl
  ·exact h1
 rcases Nat.le_total d c with h1|h1
 ·exact h d hd (Nat.mul_le_mul_left d h1) (Nat.dvd_mul_right _ _)
 ·exact h c hc (Nat.mul_le_mul_right c h1) (Nat.dvd_mul_left _ _)
theorem Qb {n:Nat}(hn:2≤n) (hn2:n≤1000000) {res:Bool}(hres:res=true↔Prm n):Bs Tryz.prog 155 [.int .i64 n] [] [] (Rv (.bool res) []):=by
 refine Ab (F:=X8) rfl fun C=>?_
 refine wk 5 cz ?_
 refine Ah (X:=Nat) [0] [] (fun d=>[(3,.int .i64 (d:Int))]) (fun _=>[]) (fun _=>[]) (fun d=>2≤d∧d≤n∧∀ e,2≤e→e<d→¬ e∣n) (fun d=>n-d) 2 [] rfl rfl rfl ⟨Nat.le_refl 2,hn,fun e h1 h2=>by omega⟩ (by repeat (first|exact Fr.sub_nil _|refine Fr.sub_cons rfl ?_)) rfl rfl ?_
 rintro d ⟨hd,hdn,hall⟩ ih
 simp only [List.cons_append,List.nil_append] at hd hdn hall ih ⊢
 have q0:(0:Int)≤(d:Int)*(d:Int):=Int.mul_nonneg (by omega) (by omega)
 have q1:(d:Int)*(d:Int)≤1000000*1000000:=Int.mul_le_mul (by omega) (by omega) (by omega) (by omega)
 have q2:(d:Int)*(d:Int)=((d*d:Nat):Int):=(Int.natCast_mul d d).symm
 by_cases Iv:d*d≤n
 ·have hlt:d<n:=by
   have:=Nat.mul_le_mul_right d hd
   omega
  by_cases hm:n % d=0
  ·have hm':(n:Int) % (d:Int)=0:=by omega
   have:res=false:=by
    cases res with
    | false=>rfl
    | true=>exact absurd (Nat.dvd_of_mod_eq_zero hm) ((hres.1 rfl).2 d hd hlt)
   rw [this]
   refine wk 11 cz ?_
   intro h1 h2
   exact ge
  ·have hm':¬ (n:Int) % (d:Int)=0:=by omega
   refine wk 11 cz ?_
   intro h1 h2
   exact tw (ih (d+1) (by omega) ⟨by omega,by omega,fun e h1 h2=>by
    rcases Nat.lt_succ_iff_lt_or_eq.1 h2 with h3|rfl
    ·exact hall e h1 h3
    ·exact fun hdv=>hm (Nat.mod_eq_zero_of_dvd hdv)⟩)
 ·have:res=true:=hres.2 (AH2 hn fun e h1 h2=>by
   refine hall e h1 (Nat.lt_of_not_le fun hle=>Iv ?_)
   exact Nat.le_trans (Nat.mul_le_mul hle hle) h2)
  rw [this]
  refine wk 7 cz ?_
  intro h1
  rw [decide_eq_true (show (2:Int)≤(n:Int) by omega)]
  exact ge
theorem Jn {p n x:Nat}(hp:1≤p) (hp2:p≤1000000) (hn:n≤100) (hx:x≤1000000000):Bs Tryz.prog 194 [.int .i64 x,.int .i64 p,.int .i64 n] [] [] (SvI n (Bc (Dd p n x))):=by
 refine Ab (F:=W4) rfl fun C=>?_
 have hl:=Dz p n x
 refine wk 11 cz ?_
 intro b1
 rw [show List.replicate n 0=(Dd p n x).take 0++List.replicate (n-0) 0 by simp]
 refine Ah (X:=Nat) [1,6,7,12] [] (fun i=>[(13,.int .i64 (i:Int)),(0,.int .i64 ((x / p ^ i:Nat):Int))]) (fun i=>[(some b1,3,Ao .i64 ((Dd p n x).take i++List.replicate (n-i) 0))]) (fun _=>[]) (fun i=>i≤n) (fun i=>n-i) 0 [] rfl rfl rfl (Nat.zero_le _) (by refine Fr.sub_cons rfl ?_;refine Fr.sub_consI rfl (by simp) ?_;repeat (first|exact Fr.sub_nil _|refine Fr.sub_cons rfl ?_)) rfl rfl ?_
 rintro i hi ih
 simp only [List.cons_append,List.nil_append] at hi ih ⊢
 have hxi:x / p ^ i≤x:=Nat.div_le_self _ _
 have hz:=fun h=>ACn (p:=p) (n:=n) (i:=i) (x:=x) h
 have hnx:x / p ^ (i+1)=x / p ^ i / p:=by rw [Nat.pow_succ,← Nat.div_div_eq_div_mul]
 by_cases hil:i<n
 ·have ih':=ih (i+1) (by omega) (by omega)
  rw [hnx,← Z3 hl hil (hz hil)] at ih'
  generalize x / p ^ i=y at *
  have e1:(y:Int) % (p:Int)=((y % p:Nat):Int):=(Int.natCast_emod _ _).symm
  have e2:(y:Int) / (p:Int)=((y / p:Nat):Int):=(Int.natCast_ediv _ _).symm
  have hlen:((Dd p n x).take i++List.replicate (n-i) 0).length=n:=by simp [hl];omega
  refine wk 15 cz ?_
  intro h1
  rw [e2]
  exact tw (ih')
 ·obtain rfl:i=n:=by omega
  clear hz hnx
  rw [List.take_of_length_le (by omega),Nat.sub_self,List.replicate_zero,List.append_nil,Hm]
  refine wk 7 cz ?_
  intro h1
  refine G9 8 (Bc (Dd p i x)) 0 rfl (by rw [Ch,hl]) (Wg fun d hd=>by have:=I1 (by omega) d hd;omega) (by omega) (by omega) ?_
  refine Of [0] rfl rfl rfl ⟨_,_,rfl,rfl,rfl⟩
theorem Yb {pd:Option Addr}{nd cd p:Nat}{l:List Nat}(hp:1≤p) (hp2:p≤256) (hd:∀ x∈l,x<p) (hl:p ^ l.length≤1000000) :
  Bs Tryz.prog 195 [.slice pd nd cd,.int .i64 p] [] [Ap Ai pd nd cd (Bc l)] (Rv (.int .i64 ((Gj p l:Nat):Int)) []):=by
 refine Ab (F:=Yi) rfl fun C=>?_
 refine Bb 0 rfl fun hn hb _=>?_
 rw [Ch] at hn hb
 subst hn
 have hb:l.length*8≤140737488355328:=hb
 refine wk 9 cz ?_
 refine Ah (X:=Nat) [0,1,4] [0] (fun j=>[(6,.int .i64 ((j:Int)-1)),(5,.int .i64 ((Gj p (l.drop j):Nat):Int))]) (fun _=>[]) (fun _=>[]) (fun j=>j≤l.length) (fun j=>j) l.length [] rfl rfl rfl (Nat.le_refl _) (by refine Fr.sub_cons rfl ?_;refine Fr.sub_consI rfl (by simp [Gj]) ?_;repeat (first|exact Fr.sub_nil _|refine Fr.sub_cons rfl ?_)) rfl rfl ?_
 rintro j hj ih
 simp only [List.cons_append,List.nil_append] at hj ih ⊢
 have hlt:Gj p (l.drop j)<p ^ l.length:=Nat.lt_of_lt_of_le (M8 (by omega) fun x hx=>hd x (List.mem_of_mem_drop hx)) (Nat.pow_le_pow_right (by omega) (by rw [List.length_drop];omega))
 cases j with
 | zero =>
  rw [List.drop_zero]
  refine wk 7 cz ?_
  intro h1
  exact ge
 | succ j =>
  have at_z:(Bc l)[j]?=some ((l.getD j 0:Nat):Int):=Ie (by rw [List.getD_eq_getElem?_getD,List.getElem?_eq_getElem (by omega)];rfl)
  have hz2:l.getD j 0<p:=hd _ (List.mem_of_getElem? (i:=j) (by rw [List.getD_eq_getElem?_getD,List.getElem?_eq_getElem (by omega)];rfl))
  have ih':=ih j (by omega) (by omega)
  have hlt2:Gj p (l.drop j)<p ^ l.length:=Nat.lt_of_lt_of_le (M8 (by omega) fun x hx=>hd x (List.mem_of_mem_drop hx)) (Nat.pow_le_pow_right (by omega) (by rw [List.length_drop];omega))
  rw [ABk (show j<l.length by omega)] at ih' hlt2
  generalize Gj p (l.drop (j+1))=v at *
  generalize hw:l.getD j 0=w at *
  have at_z2:(Bc l)[j+1-1]?=some (w:Int):=by rw [Nat.add_sub_cancel];exact at_z
  have hvp:(v:Int)*(p:Int)≤1000000:=by rw [← Int.natCast_mul,Nat.mul_comm];omega
  have hv0:0≤(v:Int)*(p:Int):=by rw [← Int.natCast_mul];omega
  have e:(v:Int)*(p:Int)+(w:Int)=((w+p*v:Nat):Int):=by rw [Int.natCast_add,Int.natCast_mul,Int.mul_comm];omega
  refine wk 7 cz ?_
  intro h1 b1 o1 hz1
  refine Aa rfl (Av 0 rfl rfl Ci fun ⟨r1,r2⟩=>?_)
  refine wk 4 cz ?_
  rw [e]
  exact tw (ih')
def AHd (P M:Int) (md:List Int):Prop:=Uq P M∧Prm P.toNat∧(M=1→md.length=0)∧(M≠1→(md.length:Int)=M∧∀ x∈md,0≤x∧x<P)
theorem Ju {P M:Int}{pm:Option Addr}{nm cm:Nat}{md:List Int}{res:Bool}(hres:res=true↔AHd P M md):Bs Tryz.prog 118 [.agg #[.int .i64 P,.int .i64 M,.slice pm nm cm]] [] [Ap Ai pm nm cm md] (Rv (.bool res) []):=by
 refine Ab (F:=AAG) rfl fun C=>?_
 refine Bb 0 rfl fun hn1 hb1 _=>?_
 subst hn1
 have hb1':md.length*8≤140737488355328:=hb1
 have no:¬ AHd P M md→res=false:=fun h=>by
  cases res with
  | false=>rfl
  | true=>exact absurd (hres.1 rfl) h
 by_cases h1:Uq P M
 ·have ho:Hw P M≠0:=by
   rw [Hw,if_pos h1]
   have:=Nat.pow_pos (n:=M.toNat) (show 0<P.toNat by have:=h1.1;omega)
   omega
  have hP256:P.toNat≤256:=Nat.le_trans (Nat.le_self_pow (by have:=h1.2.1;omega) _) h1.2.2.2
  obtain ⟨p,rfl⟩:∃ p:Nat,P=p:=⟨P.toNat,by have:=h1.1;omega⟩
  rw [Int.toNat_natCast] at hP256
  have hp2:2≤p:=by have:=h1.1;omega
  by_cases h2:Prm p
  ·have Fg:=Qb hp2 (by omega) (res:=true) ⟨fun _=>h2,fun _=>rfl⟩
   by_cases hM:M=1
   ·subst hM
    by_cases h3:md.length=0
    ·have:res=true:=hres.2 ⟨h1,h2,fun _=>h3,fun h=>absurd rfl h⟩
     rw [this]
     refine wk 30 (ct @Ed (ct @Fg cz)) ?_
     intro b1 h4 h5
     rw [decide_eq_true (show (md.length:Int)=0 by omega)]
     exact ge
    ·rw [no fun h=>h3 (h.2.2.1 rfl)]
     refine wk 30 (ct @Ed (ct @Fg cz)) ?_
     intro b1 h4 h5
     rw [decide_eq_false (show ¬ (md.length:Int)=0 by omega)]
     exact ge
   ·by_cases h3:(md.length:Int)=M
    ·generalize hall:md.all (fun x=>decide (0≤x∧x<(p:Int)))=al
     have hr:res=al:=by
      cases al with
      | true=>exact hres.2 ⟨h1,h2,fun h=>absurd h hM,fun _=>⟨h3,fun x hx=>by simpa using List.all_eq_true.1 hall x hx⟩⟩
      | false =>
       refine no fun h=>?_
       obtain ⟨x,hx,hn⟩:=List.all_eq_false.1 hall
       exact hn (decide_eq_true ((h.2.2.2 hM).2 x hx))
     rw [hr]
     clear hr hres no
     refine wk 39 (ct @Ed (ct @Fg cz)) ?_
     intro b1 h4 h5 h6
     refine Ah (X:=Nat) [1,31,32] [0] (fun i=>[(33,.int .i64 (i:Int))]) (fun _=>[(some b1,24,[.int .i64 (p:Int),.int .i64 M,.slice pm md.length cm])]) (fun _=>[]) (fun i=>i≤md.length∧(md.drop i).all (fun x=>decide (0≤x∧x<(p:Int)))=al) (fun i=>md.length-i) 0 [] rfl rfl rfl ⟨Nat.zero_le _,hall⟩ (by repeat (first|exact Fr.sub_nil _|refine Fr.sub_cons rfl ?_)) rfl rfl ?_
     rintro i ⟨hi,he⟩ ih
     simp only [List.cons_append,List.nil_append] at hi he ih ⊢
     by_cases hil:i<md.length
     ·obtain ⟨z,at_z,ed⟩:∃ z,md[i]?=some z∧md.drop i=z::md.drop (i+1):=⟨md[i],List.getElem?_eq_getElem hil,List.drop_eq_getElem_cons hil⟩
      rw [ed,List.all_cons] at he
      by_cases h4:0≤z∧z<(p:Int)
      ·rw [decide_eq_true h4,Bool.true_and] at he
       refine wk 13 cz ?_
       intro h7 b2 o1 hz1 _ r1 r2
       refine Bw (t:=39) rfl (fun h8=>by exfalso;omega) (fun h8=>?_)
       refine wk 9 cz ?_
       intro h9
       exact tw (ih (i+1) (by omega) ⟨by omega,he⟩)
      ·rw [decide_eq_false h4,Bool.false_and] at he
       subst he
       by_cases h5:z<0
       ·refine Am [_,_,_,_,_] rfl ?_
        refine Ae it 1 rfl (by simp) ?_
        refine Am [_,_,_,_,_] rfl ?_
        refine Kj rfl rfl (fun h7=>?_) (fun h7=>by exfalso;omega)
        refine Am [_,_,_,_,_,_,_] rfl ?_
        refine Aa rfl (Io 0 (i) rfl rfl rfl Cb rfl (by omega) fun z1 hz1 b2 o1=>?_)
        obtain rfl:_=z1:=Option.some.inj (at_z.symm.trans hz1)
        refine Aa rfl (Av 0 rfl rfl Ci fun ⟨r1,r2⟩=>?_)
        refine Ae it 1 rfl (by simp) ?_
        refine Am [_,_,_,_,_,_,_] rfl ?_
        refine Ae it 3 rfl (by simp) ?_
        refine Bw (t:=39) rfl (fun h8=>?_) (fun h8=>by exfalso;omega)
        refine Ae it 5 rfl (by simp) ?_
        refine Am [_,_,_,_,_,_] rfl ?_
        refine Rd rfl rfl ?_
        refine Am [_,_,_,_,_,_,_] rfl ?_
        refine Ae it 1 rfl (by simp) ?_
        refine Am [_,_,_,_,_,_] rfl ?_
        exact ge
       ·refine wk 13 cz ?_
        intro h7 b2 o1 hz1 _ r1 r2
        refine Bw (t:=39) rfl (fun h8=>by exfalso;omega) (fun h8=>?_)
        refine wk 9 cz ?_
        intro h9
        exact ge
     ·obtain rfl:i=md.length:=by omega
      rw [List.drop_length,List.all_nil] at he
      subst he
      refine wk 7 cz ?_
      intro h7
      exact ge
    ·rw [no fun h=>h3 (h.2.2.2 hM).1]
     refine wk 36 (ct @Ed (ct @Fg cz)) ?_
     intro b1 h4 h5 h6
     exact ge
  ·have Fg:=Qb hp2 (by omega) (res:=false) ⟨fun h=>(by cases h),fun h=>absurd h h2⟩
   rw [no fun h=>h2 h.2.1]
   refine wk 21 (ct @Ed (ct @Fg cz)) ?_
   intro b1 h3
   exact ge
 ·have ho:Hw P M=0:=by rw [Hw,if_neg h1]
  rw [no fun h=>h1 h.1]
  refine wk 15 (ct @Ed cz) ?_
  intro b1
  exact ge
structure Shp (p m:Nat) (md:List Int):Prop where
 p2:2≤p
 m1:1≤m
 m8:m≤8
 q:p ^ m≤256
 one:m=1→md=[]
 len:m≠1→md.length=m
 rng:∀ x∈md,0≤x∧x<(p:Int)
theorem Fok.shp {p m:Nat}{md:List Int}(K:Fok p m md):Shp p m md:=⟨K.p2,K.m1,K.m8,K.q,K.one,K.len,K.rng⟩
section
variable {p m:Nat}{md:List Int}(K:Shp p m md)
include K
theorem Shp.p256:p≤256:=Nat.le_trans (Nat.le_self_pow (by have:=K.m1;omega) p) K.q
theorem Shp.flen:(Ax m md).length=m:=by
 unfold Ax
 by_cases h:m=1
 ·rw [if_pos h,h];rfl
 ·rw [if_neg h,K.len h]
end
theorem AJP {T Z S:List Int}{j m:Nat}{z:Int}(hT:T.length=m) (hZ:Z.length=m) (hj:j<m) (hS:S=T.take j++Z.drop j) (hz:T.getD j 0=z):S.set j z=T.take (j+1)++Z.drop (j+1):=by
 rw [hS,List.set_append,if_neg (by rw [List.length_take];omega),List.length_take,Nat.min_eq_left (by omega),Nat.sub_self,List.drop_eq_getElem_cons (by omega),List.set_cons_zero,List.take_succ_eq_append_getElem (by omega),List.append_assoc]
 rw [List.getD_eq_getElem?_getD,List.getElem?_eq_getElem (by omega)] at hz
 rw [← hz];rfl
theorem AG8 {R:List Int}{m:Nat}(h:R.length=m) (hm:1≤m):(cpL R 1 0 (m-1)).set 0 0=0::R.take (m-1):=by
 refine List.ext_getElem? fun i=>?_
 have hl:=AE9 (cs:=R) (o1:=1) (o2:=0) (n:=m-1) (by omega) (by omega)
 rw [List.getElem?_set]
 by_cases h0:0=i
 ·subst h0
  rw [if_pos rfl,if_pos (by omega)];rfl
 ·rw [if_neg h0,AI9 (by omega) (by omega),if_neg (by omega)]
  obtain ⟨i,rfl⟩:∃ k,i=k+1:=⟨i-1,by omega⟩
  rw [List.getElem?_cons_succ,List.getElem?_take]
  by_cases h1:i+1<1+(m-1)
  ·rw [if_pos h1,if_pos (by omega)];congr 1;omega
  ·rw [if_neg h1,if_neg (by omega),List.getElem?_eq_none (by omega)]
theorem AIe {l:List Int}{i:Nat}(h:i<l.length):l[i]?=some (l.getD i 0):=by
 rw [List.getD_eq_getElem?_getD,List.getElem?_eq_getElem h];rfl
theorem Jq {nm cm:Nat}{pm:Option Addr}{p m:Nat}{md:List Int}(K:Shp p m md) {x y:Nat}(hx:x<p ^ m) (hy:y<p ^ m) :
  Bs Tryz.prog 157 [.agg #[.int .i64 p,.int .i64 m,.slice pm nm cm],.int .i64 x,.int .i64 y] [] [Ap Ai pm nm cm md] (Rv (.int .i64 ((fM p (Ax m md) x y:Nat):Int)) []):=by
 refine Ab (F:=Xc) rfl fun C=>?_
 have h1:=K.p2
 have h2:=K.p256
 have h3:=K.m8
 have h4:=K.m1
 have hq:=K.q
 have hl:=K.flen
 refine Bb 0 rfl fun en hb _=>?_
 subst en
 have hmul:=AIW (p:=p) (by omega) (f:=Ax m md) x y
 rw [hl] at hmul
 have lx:(Bc (Dd p m x)).length=m:=by rw [Ch,Dz]
 have ly:(Bc (Dd p m y)).length=m:=by rw [Ch,Dz]
 have rx:∀ z∈Bc (Dd p m x),0≤z∧z<(p:Int):=fun z hz=>by
  obtain ⟨d,hd,rfl⟩:=List.mem_map.1 hz
  have:=I1 (p:=p) (by omega) d hd;omega
 have ry:∀ z∈Bc (Dd p m y),0≤z∧z<(p:Int):=fun z hz=>by
  obtain ⟨d,hd,rfl⟩:=List.mem_map.1 hz
  have:=I1 (p:=p) (by omega) d hd;omega
 have hx9:x≤1000000000:=by omega
 have hy9:y≤1000000000:=by omega
 refine wk 16 (ct @Jn (ct @Jn cz)) ?_
 intro b1 pa1 ca1 pa2 ca2 b2
 generalize Bc (Dd p m x)=DX at *
 generalize Bc (Dd p m y)=DY at *
 generalize fM p (Ax m md) x y=res at *
 rw [Hm,ABl]
 have hd0:Xu p m (Ax m md) DX (DY.drop m)=List.replicate m 0:=by
  rw [List.drop_of_length_le (by omega),Xu]
 refine Ah (X:=Nat×List Int) [3,6,7,8,9] [0,1,2] (fun x=>[(10,.int .i64 ((x.1:Int)-1))]) (fun x=>[(some b2,3,Al .i64 x.2),(some b1,24,[.int .i64 p,.int .i64 m,.slice pm md.length cm])]) (fun _=>[])
  (fun x=>x.1≤m∧x.2=Xu p m (Ax m md) DX (DY.drop x.1)) (fun x=>x.1) (m,List.replicate m 0) [] rfl rfl rfl ⟨Nat.le_refl _,hd0.symm⟩ (by repeat (first|exact Fr.sub_nil _|refine Fr.sub_cons rfl ?_)) rfl rfl ?_
 rintro ⟨j,R⟩ ⟨hj,hR⟩ ih
 simp only [List.cons_append,List.nil_append] at hj hR ih ⊢
 have lR:R.length=m:=by rw [hR,AFd]
 have rR:∀ z∈R,0≤z∧z<(p:Int):=by rw [hR];exact AFC (by omega) _ _ _
 cases j with
 | zero =>
  rw [List.drop_zero] at hR
  rw [← hR] at hmul
  have eRn:Bc (R.map Int.toNat)=R:=Su fun z hz=>(rR z hz).1
  have rRn:∀ z∈R.map Int.toNat,z<p:=fun z hz=>by
   obtain ⟨d,hd,rfl⟩:=List.mem_map.1 hz
   have:=rR d hd;omega
  have Qi:=fun {pd:Option Addr}{nd cd:Nat}=>Yb (pd:=pd) (nd:=nd) (cd:=cd) (p:=p) (l:=R.map Int.toNat) (by omega) h2 rRn (by rw [List.length_map,lR];omega)
  rw [hmul,eRn] at Qi
  refine G9 8 R 0 rfl lR.symm (fun z hz=>by have:=rR z hz;simp only [Bv];omega) (by omega) (by omega) ?_
  simp only [List.eraseIdx_cons_zero]
  refine wk 11 (ct @Qi cz) ?_
  intro h5
  exact ge
 | succ j =>
  have at_v:DY[j]?=some (DY.getD j 0):=AIe (by omega)
  have bv:=ry _ (List.mem_of_getElem? at_v)
  have eR:Xu p m (Ax m md) DX (DY.drop j)=hoF p m (Ax m md) DX (DY.getD j 0) R:=by
   have hjl:j<DY.length:=by omega
   rw [List.drop_eq_getElem_cons hjl,Xu,← hR,show DY[j]=DY.getD j 0 from Option.some.inj ((List.getElem?_eq_getElem hjl).symm.trans at_v)]
  have ih':=fun l (h:l=hoF p m (Ax m md) DX (DY.getD j 0) R)=>ih (j,l) (by dsimp only;omega) ⟨by dsimp only;omega,by dsimp only;rw [eR];exact h⟩
  dsimp only at ih'
  have lT:=ACm p m (Ax m md) DX (DY.getD j 0) R
  have at_t:R[m-1]?=some (R.getD (m-1) 0):=AIe (by omega)
  have rt:=rR _ (List.mem_of_getElem? at_t)
  have hT:∀ i,i<m→(hoF p m (Ax m md) DX (DY.getD j 0) R).getD i 0=((if i=0 then 0 else R.getD (i-1) 0)+((p:Int)-R.getD (m-1) 0)*(Ax m md).getD i 0+DY.getD j 0*DX.getD i 0) % p:=fun i hi=>by
   rw [hoF,List.getD_eq_getElem?_getD,List.getElem?_map,List.getElem?_range hi];rfl
  generalize hoF p m (Ax m md) DX (DY.getD j 0) R=T at *
  generalize hvv:DY.getD j 0=v at *
  generalize htop:R.getD (m-1) 0=top at *
  have hcl:(cpL R (1*1) 0 (m-1)).length=m:=by rw [AE9 (by omega) (by omega),lR]
  refine wk 10 cz ?_
  intro h5
  refine Aa rfl (ABf 0 rfl rfl Ci (by first|omega|(simp;omega)) fun z1 hz1=>?_)
  obtain rfl:_=z1:=Option.some.inj (at_t.symm.trans hz1)
  refine wk 2 cz ?_
  (refine Nj [0,1] rfl rfl ?_;apply Uy it mx 1 8;(· rfl);(· rfl);(· rfl))
  (apply A3 1;(· rfl);(· simp))
  (apply Ac;(· rfl);(· exact Cf fun _=>AA0 (1) rfl rfl Cb (by omega) (by omega) (by omega) An))
  (apply A3 1;(· rfl);(· simp))
  (apply Ac;(· rfl);(· exact Cf fun _=>Aq rfl P1 An))
  (apply Ac;(· rfl);(· exact Ca 0 rfl rfl Ci rfl))
  (apply Ac (v:=Value.int IntKind.i64 ((((m)-1:Nat)):Int));(· rfl);(· exact Cf fun _=>ADg it _ rfl ⟨by omega,by omega⟩ (by omega) An))
  simp only [Nat.add_sub_cancel]
  (apply Ac;(· rfl);(· exact Cf fun _=>Tz (m-1) rfl rfl Cb (by omega) (by omega) (by omega) An))
  (apply AHc (o1:=1*1) (o2:=0) (m-1);(· rfl);(· rfl);(· rfl);(· exact Cb);(· first|rfl|exact Nat.min_self _|(show min _ _=_;omega));(· first|exact .inl rfl|exact .inl (by omega)|exact .inr ⟨rfl,rfl⟩|exact .inr ⟨if_neg (by omega),rfl⟩|exact (Nat.eq_zero_or_pos (m-1)).elim .inl fun h=>.inr ⟨if_neg (by omega),rfl⟩);(· first|omega|(simp only [Qg,Ia];omega));(· first|omega|(simp only [Qg,Ia];omega));(· first|exact ACA _ _|exact ABL _ _))
  simp only [AJv,AIL]
  refine Eu rfl ?_
  simp only [List.map_cons,List.map_nil,List.cons_append,List.nil_append]
  refine wk 9 cz ?_
  rw [AG8 lR h4]
  have lZ:(0::R.take (m-1)).length=m:=by rw [List.length_cons,List.length_take];omega
  have hZ:∀ i,i<m→(0::R.take (m-1)).getD i 0=if i=0 then 0 else R.getD (i-1) 0:=fun i hi=>by
   cases i with
   | zero=>rfl
   | succ i =>
    rw [if_neg (by omega),Nat.add_sub_cancel,List.getD_cons_succ,List.getD_eq_getElem?_getD,List.getD_eq_getElem?_getD,List.getElem?_take,if_pos (by omega)]
  have rZ:∀ z∈0::R.take (m-1),0≤z∧z<(p:Int):=fun z hz=>by
   rcases List.mem_cons.1 hz with rfl|hz
   ·omega
   ·exact rR z (List.mem_of_mem_take hz)
  generalize 0::R.take (m-1)=Z at *
  refine Ah (X:=Nat×List Int) [3,6,7,8,9,10,11,32,33,36,37,38,39,40,41,42,43,44,45,46,47,48,50,51,52,53] [0,1,2] (fun x=>[(54,.int .i64 (x.1:Int))]) (fun x=>[(some b2,3,Al .i64 x.2),(some b1,24,[.int .i64 p,.int .i64 m,.slice pm md.length cm])]) (fun _=>[])
   (fun x=>x.1≤m∧x.2=T.take x.1++Z.drop x.1) (fun x=>m-x.1) (0,Z) [] rfl rfl rfl ⟨Nat.zero_le _,by simp⟩ (by repeat (first|exact Fr.sub_nil _|refine Fr.sub_cons rfl ?_)) rfl rfl ?_
  rintro ⟨i,S⟩ ⟨hi,hS⟩ ihi
  simp only [List.cons_append,List.nil_append] at hi hS ihi ⊢
  by_cases hil:i<m
  ·have lS:S.length=m:=by rw [hS,List.length_append,List.length_take,List.length_drop];omega
   have zs:=AIe (l:=S) (i:=i) (by omega)
   have es:S.getD i 0=if i=0 then 0 else R.getD (i-1) 0:=by
    rw [← hZ i hil,hS,List.getD_eq_getElem?_getD,List.getD_eq_getElem?_getD,List.getElem?_append_right (by rw [List.length_take];omega),List.length_take,Nat.min_eq_left (by omega),Nat.sub_self,List.getElem?_drop,Nat.add_zero]
   have hsp:0≤S.getD i 0∧S.getD i 0<(p:Int):=by
    rw [es,← hZ i hil]
    exact rZ _ (List.mem_of_getElem? (AIe (l:=Z) (i:=i) (by omega)))
   have za:=AIe (l:=DX) (i:=i) (by omega)
   have ba:=rx _ (List.mem_of_getElem? za)
   have hTi:=hT i hil
   rw [← es] at hTi
   have ihi':=fun (z:Int) (h:T.getD i 0=z)=>ihi (i+1,S.set i z) (by dsimp only;omega) ⟨by dsimp only;omega,AJP lT lZ hil hS h⟩
   generalize S.getD i 0=s at *
   generalize haa:DX.getD i 0=a at *
   have hb0:0≤v*a:=Int.mul_nonneg (by omega) (by omega)
   have hb1:v*a≤65536:=Int.le_trans (Int.mul_le_mul (show v≤256 by omega) (show a≤256 by omega) (by omega) (by decide)) (by decide)
   have gv:DY.getD (j+1-1) default=v:=hvv
   have ga:DX.getD i default=a:=haa
   have hpt:((p-top.toNat:Nat):Int)=(p:Int)-top:=by omega
   have hb2:0≤DY.getD (j+1-1) default*DX.getD i default:=by rw [gv,ga];exact hb0
   have hb3:DY.getD (j+1-1) default*DX.getD i default≤65536:=by rw [gv,ga];exact hb1
   by_cases hm:m=1
   ·have hf:(Ax m md).getD i 0=0:=by
     rw [Ax,if_pos hm]
     obtain rfl:i=0:=by omega
     rfl
    rw [hf] at hTi
    refine wk 21 cz ?_
    intro h6 h7 b3 o1 b4 o2
    exact tw (ihi' ((s+((p-top.toNat:Nat):Int)*0+DY.getD (j+1-1) default*DX.getD i default) % (p:Int)) (by rw [hTi,hpt,gv,ga]))
   ·have hf:(Ax m md)=md:=if_neg hm
    have hml:=K.len hm
    obtain ⟨c,at_c⟩:∃ c,md[i]?=some c:=⟨md[i],List.getElem?_eq_getElem (by omega)⟩
    have bc:=K.rng c (List.mem_of_getElem? at_c)
    have gc:md.getD i 0=c:=by rw [List.getD_eq_getElem?_getD,at_c];rfl
    rw [hf,gc] at hTi
    have hc0:0≤((p:Int)-top)*c:=Int.mul_nonneg (by omega) bc.1
    have hc1:((p:Int)-top)*c≤65536:=Int.le_trans (Int.mul_le_mul (show (p:Int)-top≤256 by omega) (show c≤256 by omega) bc.1 (by decide)) (by decide)
    rw [← hpt] at hc0 hc1
    refine wk 19 cz ?_
    intro h6 h7 b3 o1 hz2
    refine Aa rfl (Av 0 rfl rfl Ci fun ⟨r1,r2⟩=>?_)
    refine wk 8 cz ?_
    intro b4 o2 b5 o3
    exact tw (ihi' ((s+((p-top.toNat:Nat):Int)*c+DY.getD (j+1-1) default*DX.getD i default) % (p:Int)) (by rw [hTi,hpt,gv,ga]))
  ·obtain rfl:i=m:=by omega
   rw [List.take_of_length_le (by omega),List.drop_of_length_le (by omega),List.append_nil] at hS
   refine wk 7 cz ?_
   intro h6
   exact tw (ih' S hS)
open Go Go.Fw
set_option maxRecDepth 100000
set_option linter.unusedVariables false
set_option linter.unusedSimpArgs false
set_option maxHeartbeats 0
def J8 (M:Nat→Nat→Nat) (x k:Nat):Prop:=B0 M x k=0∨∃ j,j<k∧B0 M x j=B0 M x k
instance (M:Nat→Nat→Nat) (x k:Nat):Decidable (J8 M x k):=by unfold J8;infer_instance
def kP (q:Nat) (M:Nat→Nat→Nat) (x:Nat):Nat:=((List.range' 1 q).find? fun k=>decide (J8 M x k)).getD 0
theorem AHw {q k:Nat}{M:Nat→Nat→Nat}{x:Nat}(h1:1≤k) (h2:k≤q) (h:J8 M x k) (hn:∀ i,1≤i→i<k→¬ J8 M x i):kP q M x=k:=by
 rw [kP]
 have hs:(List.range' 1 q).find? (fun k=>decide (J8 M x k))=some k:=by
  rw [show List.range' 1 q=List.range' 1 (k-1)++k::List.range' (k+1) (q-k) by
   rw [← List.range'_succ]
   have:=List.range'_append_1 (s:=1) (m:=k-1) (n:=q-k+1)
   rw [show 1+(k-1)=k by omega,show k-1+(q-k+1)=q by omega] at this
   exact this.symm]
  rw [List.find?_append,List.find?_eq_none.2 fun i hi=>by
   obtain ⟨a,b⟩:=List.mem_range'_1.1 hi
   simpa using hn i a (by omega)]
  rw [Option.none_or,List.find?_cons,decide_eq_true h]
 rw [hs];rfl
theorem ALZ {q k:Nat}{M:Nat→Nat→Nat}{x:Nat}(hl:∀ i,B0 M x i<q) (hn:∀ i,1≤i→i<k+1→¬ J8 M x i):k+1≤q-1:=by
 have hnd:((List.range (k+1)).map (B0 M x)).Nodup:=by
  rw [List.Nodup,List.pairwise_map,List.pairwise_iff_getElem]
  intro i j hi hj hij e
  rw [List.getElem_range,List.getElem_range] at e
  rw [List.length_range] at hj
  exact hn j (by omega) hj (.inr ⟨i,hij,e⟩)
 have:=Wm (l':=List.range' 1 (q-1)) hnd fun y hy=>by
  obtain ⟨i,hi,rfl⟩:=List.mem_map.1 hy
  have hi:=List.mem_range.1 hi
  have h1:=hl i
  have h2:B0 M x i≠0:=fun e=>by
   rcases Nat.eq_zero_or_pos i with h|h
   ·subst h;exact absurd (show (1:Nat)=0 from e) (by decide)
   ·exact hn i h hi (.inl e)
  exact List.mem_range'_1.2 ⟨by omega,by omega⟩
 rwa [List.length_map,List.length_range,List.length_range'] at this
abbrev AFp (l:List Bool):List Value:=l.map Value.bool
theorem AGA {l:List Bool}{i:Nat}{b:Bool}(h:l[i]?=some b):(AFp l)[i]?=some (.bool b):=by rw [List.getElem?_map,h];rfl
theorem Ri {nm cm:Nat}{pm:Option Addr}{p m q:Nat}{md:List Int}(K:Shp p m md) (hq:q=p ^ m) {x:Nat}(hx1:1≤x) (hx:x<q) :
  Bs Tryz.prog 156 [.agg #[.int .i64 p,.int .i64 m,.slice pm nm cm],.int .i64 q,.int .i64 x] [] [Ap Ai pm nm cm md] (SvI (kP q (fM p (Ax m md)) x) (Bc ((List.range (kP q (fM p (Ax m md)) x)).map (B0 (fM p (Ax m md)) x)))):=by
 refine Ab (F:=Zg) rfl fun C=>?_
 have h1:=K.p2
 have hqb:=K.q
 have hl:=K.flen
 have R:Rng q (fA p m) (fM p (Ax m md)):=by
  have:=Xe h1 (f:=Ax m md) (by rw [hl];exact K.m1)
  rwa [hl,← hq] at this
 have hpl:=R.pw_lt hx
 have B1:=fun {nm cm:Nat}{pm:Option Addr}{x y:Nat}(hx:x<q) (hy:y<q)=>Jq (nm:=nm) (cm:=cm) (pm:=pm) K (x:=x) (y:=y) (hq▸hx) (hq▸hy)
 have e1:B0 (fM p (Ax m md)) x 1=x:=R.one_mul hx
 generalize fM p (Ax m md)=M at *
 refine wk 8 cz ?_
 intro b1 b2
 refine Aa rfl (ACj (q) _ rfl rfl ANd AMn rfl rfl ALD (by omega) (by omega) (by omega) fun b3=>?_)
 refine wk 4 cz ?_
 refine Aa rfl (Nt 0 rfl rfl rfl rfl ld4 rfl (by first|omega|(simp;omega)) ?_)
 refine wk 3 cz ?_
 rw [show (List.replicate q [Value.bool false]).flatten.set 1 (Value.bool true)=AFp ((List.replicate q false).set 1 true) by simp [List.map_set]]
 refine L4 (E:=Ai) (n:=1) [[.int .i64 1]] [1] 1 (fun w A hG=>Az (Dh (by simp only [Bv];omega)) Bf) rfl rfl rfl rfl (by decide) ?_
 have hp1:B0 M x 0=1:=rfl
 refine Ah (X:=Nat×Row×List Bool×List Int) [2,3,6,8] [0,1] (fun k=>[(9,.int .i64 ((B0 M x k.1:Nat):Int)),(7,.slice (ad k.2.1.bo) k.2.2.2.length k.2.1.cap)]) (fun k=>[(some b3,4,AFp k.2.2.1),(k.2.1.bo,3,k.2.1.cs),(some b1,24,[.int .i64 p,.int .i64 m,.slice pm nm cm])]) (fun k=>[A6 Ai k.2.1 k.2.2.2.length k.2.2.2])
  (fun k=>1≤k.1∧k.1≤q∧k.2.2.2=Bc ((List.range k.1).map (B0 M x))∧k.2.2.1.length=q∧(∀ j,j<q→(k.2.2.1[j]?=some true↔∃ i,i<k.1∧B0 M x i=j))∧(∀ i,1≤i→i<k.1→¬ J8 M x i)) (fun k=>q-k.1) (1,⟨some b2,1,[.int .i64 1]⟩,(List.replicate q false).set 1 true,[1]) [0] rfl rfl rfl ⟨Nat.le_refl 1,by omega,rfl,by simp,fun j hj=>?_,fun i h1 h2=>by omega⟩ (by refine Fr.sub_consI rfl (by rw [e1]) ?_;repeat (first|exact Fr.sub_nil _|refine Fr.sub_cons rfl ?_)) rfl rfl ?_
 ·rw [List.getElem?_set]
  by_cases h9:1=j
  ·subst h9
   rw [if_pos rfl,if_pos (by simp;omega)]
   exact ⟨fun _=>⟨0,Nat.zero_lt_one,rfl⟩,fun _=>rfl⟩
  ·rw [if_neg h9,List.getElem?_replicate,if_pos hj]
   exact ⟨fun h=>by simp at h,fun ⟨i,hi,e⟩=>by
    obtain rfl:i=0:=by omega
    exact absurd e h9⟩
 rintro ⟨k,r,B,L⟩ ⟨hk1,hkq,hL,hBl,hB,hns⟩ ih
 simp only [List.cons_append,List.nil_append] at hk1 hkq hL hBl hB hns ih ⊢
 have hkl:=hpl k
 have hLl:L.length=k:=by rw [hL];simp [Bc]
 by_cases h0:B0 M x k=0
 ·have hst:J8 M x k:=.inl h0
  rw [AHw hk1 hkq hst hns,← hL]
  refine wk 11 cz ?_
  intro h2
  refine D4 1 0 rfl rfl (by show L.length*8≤140737488355328;omega) ?_
  rw [hLl]
  refine Of [0] rfl rfl rfl ⟨_,_,rfl,rfl,rfl⟩
 ·obtain ⟨b,hb⟩:∃ b,B[B0 M x k]?=some b:=⟨B[B0 M x k],List.getElem?_eq_getElem (by omega)⟩
  have hbc:=AGA hb
  cases b with
  | true =>
   have hst:J8 M x k:=.inr ((hB _ hkl).1 hb)
   rw [AHw hk1 hkq hst hns,← hL]
   refine wk 7 cz ?_
   intro h2
   refine Bt rfl rfl (Bm 0 rfl rfl ld4 (by assumption) ?_)
   refine wk 6 cz ?_
   refine D4 1 0 rfl rfl (by show L.length*8≤140737488355328;omega) ?_
   rw [hLl]
   refine Of [0] rfl rfl rfl ⟨_,_,rfl,rfl,rfl⟩
  | false =>
   have hst:¬ J8 M x k:=fun h=>by
    rcases h with h|h
    ·exact h0 h
    ·have:=(hB _ hkl).2 h
     rw [hb] at this;cases this
   have hns':∀ i,1≤i→i<k+1→¬ J8 M x i:=fun i h1 h2=>by
    rcases Nat.lt_succ_iff_lt_or_eq.1 h2 with h3|rfl
    ·exact hns i h1 h3
    ·exact hst
   have hgo:=ALZ hpl hns'
   have ih':=fun r1=>ih (k+1,r1,B.set (B0 M x k) true,L++[((B0 M x k:Nat):Int)]) (by dsimp only;omega) ⟨by dsimp only;omega,by dsimp only;omega,by dsimp only;rw [List.range_succ,List.map_append,Bc,List.map_append,← Bc,← hL];rfl,by dsimp only;rw [List.length_set,hBl],fun j hj=>by
    dsimp only
    rw [List.getElem?_set]
    by_cases h9:B0 M x k=j
    ·rw [if_pos h9,if_pos (by omega)]
     exact ⟨fun _=>⟨k,by omega,h9⟩,fun _=>rfl⟩
    ·rw [if_neg h9,hB j hj]
     constructor
     ·rintro ⟨i,hi,e⟩;exact ⟨i,by omega,e⟩
     ·rintro ⟨i,hi,e⟩
      rcases Nat.lt_succ_iff_lt_or_eq.1 hi with h3|rfl
      ·exact ⟨i,h3,e⟩
      ·exact absurd e h9,hns'⟩
   simp only [List.length_append,List.length_singleton,show B0 M x (k+1)=M (B0 M x k) x from rfl,AFp,List.map_set] at ih'
   refine wk 7 cz ?_
   intro h2
   refine Bt rfl rfl (Bm 0 rfl rfl ld4 (by assumption) ?_)
   refine wk 6 cz ?_
   refine Aa rfl (Nt 0 rfl rfl rfl rfl ld4 rfl (by first|omega|(simp;omega)) ?_)
   refine wk 3 cz ?_
   intro b4
   refine Aa rfl (F1 (z:=(↑(B0 M x k):Int)) 2 0 0 rfl rfl rfl rfl rfl Cb Er rfl (fun w A hG=>(Dh (by first|(simp only [Bv];omega)|(simp [Bv];done)))) (by omega) _ Hf (by omega) fun r1=>?_)
   refine wk 7 (ct @B1 cz) ?_
   refine ALH [2,0,3] [0,2,3] (by exact Ux rfl) rfl rfl rfl (ih' r1)
theorem AIP {q k:Nat}{M:Nat→Nat→Nat}{x:Nat}(h:kP q M x=k) (h1:1≤k):J8 M x k∧∀ i,1≤i→i<k→¬ J8 M x i:=by
 rw [kP] at h
 cases hf:(List.range' 1 q).find? fun k=>decide (J8 M x k) with
 | none=>rw [hf] at h;simp at h;omega
 | some y =>
  rw [hf] at h
  obtain rfl:y=k:=h
  refine ⟨by simpa using List.find?_some hf,fun i hi hl hs=>?_⟩
  obtain ⟨hp,as0,bs0,e,hall⟩:=List.find?_eq_some_iff_append.1 hf
  have hm:i∈List.range' 1 q:=List.mem_range'_1.2 ⟨hi,by
   have:=List.mem_range'_1.1 (List.mem_of_find?_eq_some hf);omega⟩
  rw [e] at hm
  have hpw:(as0++y::bs0).Pairwise (·<·):=by rw [← e];exact List.pairwise_lt_range'
  rw [List.pairwise_append] at hpw
  rcases List.mem_append.1 hm with hm|hm
  ·have:=hall i hm
   simp [hs] at this
  ·rcases List.mem_cons.1 hm with rfl|hm
   ·omega
   ·have:=(List.pairwise_cons.1 hpw.2.1).1 i hm
    omega
theorem AB7 {q:Nat}{A M:Nat→Nat→Nat}(R:Rng q A M) {x:Nat}(hx:x<q):Md q M x↔kP q M x=q-1∧M (B0 M x (q-2)) x=1:=by
 have hq:=R.q2
 have e2:B0 M x (q-1)=M (B0 M x (q-2)) x:=by
  rw [show q-1=(q-2)+1 by omega];rfl
 constructor
 ·intro h
  refine ⟨AHw (by omega) (by omega) (.inr ⟨0,by omega,h.2.2.symm⟩) fun i h1 h2 hs=>?_,by rw [← e2];exact h.2.2⟩
  rcases hs with hs|⟨j,hj,e⟩
  ·exact h.2.1 i h2 hs
  ·exact h.1 j i hj h2 e
 ·rintro ⟨h1,h2⟩
  obtain ⟨hs,hn⟩:=AIP h1 (by omega)
  refine ⟨fun i j hij hj e=>?_,fun i hi e=>?_,by rw [e2];exact h2⟩
  ·exact hn j (by omega) hj (.inr ⟨i,hij,e⟩)
  ·rcases Nat.eq_zero_or_pos i with h|h
   ·subst h;exact absurd (show (1:Nat)=0 from e) (by decide)
   ·exact hn i h hi (.inl e)
def Vc (q:Nat) (M:Nat→Nat→Nat) (x:Nat):List Int:=Bc ((List.range (q-1)).map (B0 M x))
abbrev SvP (n:Nat) (l:List Int):Value→List Fact→List A2→Prop:=fun v Φ β=>∃ b o ca,v = .slice (some ⟨b,o,none⟩) n ca∧Φ=[Ap Ai (some ⟨b,o,none⟩) n ca l]∧β=[]
theorem I4 {nm cm:Nat}{pm:Option Addr}{p m q:Nat}{md:List Int}(K:Shp p m md) (hq:q=p ^ m) {x:Nat}(hx1:1≤x) (hx:x<q) (hg:Md q (fM p (Ax m md)) x) (hno:∀ y,1≤y→y<x→¬ Md q (fM p (Ax m md)) y) :
  Bs Tryz.prog 120 [.agg #[.int .i64 p,.int .i64 m,.slice pm nm cm],.int .i64 q] [] [Ap Ai pm nm cm md] (SvP (q-1) (Vc q (fM p (Ax m md)) x)):=by
 refine Ab (F:=M4) rfl fun C=>?_
 have h1:=K.p2
 have hqb:=K.q
 have hl:=K.flen
 have R:Rng q (fA p m) (fM p (Ax m md)):=by
  have:=Xe h1 (f:=Ax m md) (by rw [hl];exact K.m1)
  rwa [hl,← hq] at this
 have B1:=fun {nm cm:Nat}{pm:Option Addr}{x y:Nat}(hx:x<q) (hy:y<q)=>Jq (nm:=nm) (cm:=cm) (pm:=pm) K (x:=x) (y:=y) (hq▸hx) (hq▸hy)
 have Ge:=fun {nm cm:Nat}{pm:Option Addr}{x:Nat}(hx1:1≤x) (hx:x<q)=>Ri (nm:=nm) (cm:=cm) (pm:=pm) K hq hx1 hx
 generalize fM p (Ax m md)=M at *
 refine wk 6 cz ?_
 intro b1
 refine Ah (X:=Nat) [1,2] [0] (fun y=>[(5,.int .i64 (y:Int))]) (fun _=>[(some b1,24,[.int .i64 p,.int .i64 m,.slice pm nm cm])]) (fun _=>[]) (fun y=>1≤y∧y≤x) (fun y=>q-y) 1 [] rfl rfl rfl ⟨Nat.le_refl 1,hx1⟩ (by repeat (first|exact Fr.sub_nil _|refine Fr.sub_cons rfl ?_)) rfl rfl ?_
 rintro y ⟨hy1,hyx⟩ ih
 simp only [List.cons_append,List.nil_append] at hy1 hyx ih ⊢
 have hyq:y<q:=by omega
 have hpl:=R.pw_lt hyq (q-2)
 have hkq:kP q M y≤q:=by
  rw [kP]
  cases hf:(List.range' 1 q).find? fun k=>decide (J8 M y k) with
  | none=>exact Nat.zero_le _
  | some z =>
   have:=List.mem_range'_1.1 (List.mem_of_find?_eq_some hf)
   show z≤q;omega
 have hz:1≤kP q M y→kP q M y=q-1→(Bc ((List.range (kP q M y)).map (B0 M y)))[q-2]?=some ((B0 M y (q-2):Nat):Int):=fun h0 h=>Ie (by rw [List.getElem?_map,List.getElem?_range (by omega)];rfl)
 have hc:kP q M y=q-1→∀ {nm cm:Nat}{pm:Option Addr},Bs Tryz.prog 157 [.agg #[.int .i64 p,.int .i64 m,.slice pm nm cm],.int .i64 ((Bc ((List.range (kP q M y)).map (B0 M y))).getD (q-2) default),.int .i64 y] [] [Ap Ai pm nm cm md] (Rv (.int .i64 ((M (B0 M y (q-2)) y:Nat):Int)) []):=fun h nm cm pm=>by
  have e:(Bc ((List.range (kP q M y)).map (B0 M y))).getD (q-2) default=((B0 M y (q-2):Nat):Int):=by
   rw [List.getD_eq_getElem?_getD,hz (by omega) h];rfl
  rw [e]
  exact B1 hpl hyq
 have hml:=R.ml _ _ hpl hyq
 by_cases hyx2:y=x
 ·subst hyx2
  obtain ⟨g1,g2⟩:=(AB7 R hyq).1 hg
  have hz:=hz (by omega) g1
  have B1:=fun {nm cm:Nat}{pm:Option Addr}=>hc g1 (nm:=nm) (cm:=cm) (pm:=pm)
  rw [g2] at B1
  refine wk 16 (ct @Ge (ct @B1 cz)) ?_
  intro h2 pa1 ca1 b2 o1
  refine AHM (n:=kP q M y) 1 rfl (by omega) fun b o eb=>?_
  subst eb
  rw [Vc,← g1]
  refine Of [1] rfl rfl rfl ⟨_,_,_,rfl,rfl,rfl⟩
 ·have hng:=hno y hy1 (by omega)
  rw [AB7 R hyq] at hng
  by_cases g1:kP q M y=q-1
  ·have g2:¬ M (B0 M y (q-2)) y=1:=fun h=>hng ⟨g1,h⟩
   have hz:=hz (by omega) g1
   have B1:=fun {nm cm:Nat}{pm:Option Addr}=>hc g1 (nm:=nm) (cm:=cm) (pm:=pm)
   refine wk 16 (ct @Ge (ct @B1 cz)) ?_
   intro h2 pa1 ca1 b2 o1
   exact tw (ih (y+1) (by omega) ⟨by omega,by omega⟩)
  ·refine wk 16 (ct @Ge cz) ?_
   intro h2 pa1 ca1
   exact tw (ih (y+1) (by omega) ⟨by omega,by omega⟩)
theorem Pq {nm cm:Nat}{pm:Option Addr}{p m q:Nat}{md:List Int}(K:Shp p m md) (hq:q=p ^ m) (hno:∀ y,1≤y→y<q→¬ Md q (fM p (Ax m md)) y) :
  Bs Tryz.prog 120 [.agg #[.int .i64 p,.int .i64 m,.slice pm nm cm],.int .i64 q] [] [Ap Ai pm nm cm md] (Rv (.slice none 0 0) []):=by
 refine Ab (F:=M4) rfl fun C=>?_
 have h1:=K.p2
 have hqb:=K.q
 have hl:=K.flen
 have R:Rng q (fA p m) (fM p (Ax m md)):=by
  have:=Xe h1 (f:=Ax m md) (by rw [hl];exact K.m1)
  rwa [hl,← hq] at this
 have hq2:=R.q2
 have B1:=fun {nm cm:Nat}{pm:Option Addr}{x y:Nat}(hx:x<q) (hy:y<q)=>Jq (nm:=nm) (cm:=cm) (pm:=pm) K (x:=x) (y:=y) (hq▸hx) (hq▸hy)
 have Ge:=fun {nm cm:Nat}{pm:Option Addr}{x:Nat}(hx1:1≤x) (hx:x<q)=>Ri (nm:=nm) (cm:=cm) (pm:=pm) K hq hx1 hx
 generalize fM p (Ax m md)=M at *
 refine wk 6 cz ?_
 intro b1
 refine Ah (X:=Nat) [1,2] [0] (fun y=>[(5,.int .i64 (y:Int))]) (fun _=>[(some b1,24,[.int .i64 p,.int .i64 m,.slice pm nm cm])]) (fun _=>[]) (fun y=>1≤y∧y≤q) (fun y=>q-y) 1 [] rfl rfl rfl ⟨Nat.le_refl 1,by omega⟩ (by repeat (first|exact Fr.sub_nil _|refine Fr.sub_cons rfl ?_)) rfl rfl ?_
 rintro y ⟨hy1,hyx⟩ ih
 simp only [List.cons_append,List.nil_append] at hy1 hyx ih ⊢
 by_cases hyq:y<q
 ·have hpl:=R.pw_lt hyq (q-2)
  have hkq:kP q M y≤q:=by
   rw [kP]
   cases hf:(List.range' 1 q).find? fun k=>decide (J8 M y k) with
   | none=>exact Nat.zero_le _
   | some z =>
    have:=List.mem_range'_1.1 (List.mem_of_find?_eq_some hf)
    show z≤q;omega
  have hz:1≤kP q M y→kP q M y=q-1→(Bc ((List.range (kP q M y)).map (B0 M y)))[q-2]?=some ((B0 M y (q-2):Nat):Int):=fun h0 h=>Ie (by rw [List.getElem?_map,List.getElem?_range (by omega)];rfl)
  have hc:kP q M y=q-1→∀ {nm cm:Nat}{pm:Option Addr},Bs Tryz.prog 157 [.agg #[.int .i64 p,.int .i64 m,.slice pm nm cm],.int .i64 ((Bc ((List.range (kP q M y)).map (B0 M y))).getD (q-2) default),.int .i64 y] [] [Ap Ai pm nm cm md] (Rv (.int .i64 ((M (B0 M y (q-2)) y:Nat):Int)) []):=fun h nm cm pm=>by
   have e:(Bc ((List.range (kP q M y)).map (B0 M y))).getD (q-2) default=((B0 M y (q-2):Nat):Int):=by
    rw [List.getD_eq_getElem?_getD,hz (by omega) h];rfl
   rw [e]
   exact B1 hpl hyq
  have hml:=R.ml _ _ hpl hyq
  have hng:=hno y hy1 hyq
  rw [AB7 R hyq] at hng
  by_cases g1:kP q M y=q-1
  ·have g2:¬ M (B0 M y (q-2)) y=1:=fun h=>hng ⟨g1,h⟩
   have hz:=hz (by omega) g1
   have B1:=fun {nm cm:Nat}{pm:Option Addr}=>hc g1 (nm:=nm) (cm:=cm) (pm:=pm)
   refine wk 16 (ct @Ge (ct @B1 cz)) ?_
   intro h2 pa1 ca1 b2 o1
   exact tw (ih (y+1) (by omega) ⟨by omega,by omega⟩)
  ·refine wk 16 (ct @Ge cz) ?_
   intro h2 pa1 ca1
   exact tw (ih (y+1) (by omega) ⟨by omega,by omega⟩)
 ·obtain rfl:y=q:=by omega
  refine wk 7 cz ?_
  intro h2
  exact ge
theorem M7 {p m:Nat}{md:List Int}(K:Shp p m md) (hp:Prm p):(∃ x,1≤x∧x<p ^ m∧Md (p ^ m) (fM p (Ax m md)) x)↔Fok p m md:=by
 have h1:=K.p2
 have hl:=K.flen
 have R:Rng (p ^ m) (fA p m) (fM p (Ax m md)):=by
  have:=Xe h1 (f:=Ax m md) (by rw [hl];exact K.m1)
  rwa [hl] at this
 constructor
 ·rintro ⟨x,hx1,hx,hg⟩
  refine ⟨hp,K.m1,K.m8,K.q,K.one,K.len,K.rng,fun hm d hd hd2 v hv=>?_⟩
  have hlm:=K.len hm
  have ef:Ax m md=md:=if_neg hm
  have et:Bc (md.map Int.toNat)=md:=Su fun x hx=>(K.rng x hx).1
  rw [et]
  rw [List.length_map] at hd2
  refine ALs h1 (f:=md) (g:=Bc (Dd p d v)) (fun a b ha hb e=>?_) (by rw [Ch,Dz];exact hd) (by rw [Ch,Dz];omega)
  rw [hlm] at ha hb
  exact R.gen_nz hx hg a b ha hb (by rw [ef];exact e)
 ·intro F
  have hf:=F.fi
  have FF:Fld (p ^ m) (fA p m) (fM p (Ax m md)):=R.fld fun x y hx hy e=>by
   have:=hf.nz (x:Int) (y:Int) (by omega) (by omega) (by omega) (by omega) (by show ((fM p (Ax m md) (x:Int).toNat (y:Int).toNat:Nat):Int)=0;rw [Int.toNat_natCast,Int.toNat_natCast,e];rfl)
   omega
  exact FF.gen_ex
theorem ALf {P M:Int}{md:List Int}(h:AHd P M md):∃ p m:Nat,P=p∧M=m∧Shp p m md∧Prm p:=by
 obtain ⟨⟨h1,h2,h3,h4⟩,hp,ho,hn⟩:=h
 refine ⟨P.toNat,M.toNat,by omega,by omega,⟨by omega,by omega,by omega,h4,fun e=>List.length_eq_zero_iff.1 (ho (by omega)),fun e=>?_,fun x hx=>?_⟩,hp⟩
 ·have:=(hn (by omega)).1;omega
 ·by_cases e:M=1
  ·have:=List.length_eq_zero_iff.1 (ho e)
   rw [this] at hx;cases hx
  ·have:=(hn e).2 x hx
   omega
theorem Y6 {p m:Nat}{md:List Int}(K:Fok p m md):Uz p m md:=by
 have h2:=K.p2;have h1:=K.m1;have h8:=K.m8
 refine ⟨⟨by omega,by omega,by omega,by simpa using K.q⟩,by simpa using K.pr,fun h=>by rw [K.one (by omega)];rfl,fun h=>⟨by rw [K.len (by omega)],K.rng,by simpa using K.irr (by omega)⟩⟩
theorem AEU {P M:Int}{md:List Int}(h:Uz P M md):AHd P M md:=⟨h.1,h.2.1,h.2.2.1,fun hm=>⟨(h.2.2.2 hm).1,(h.2.2.2 hm).2.1⟩⟩
theorem ABw {q:Nat}{M:Nat→Nat→Nat}(h:∃ x,1≤x∧x<q∧Md q M x):∃ x,1≤x∧x<q∧Md q M x∧∀ y,1≤y→y<x→¬ Md q M y:=by
 obtain ⟨x,h1,h2,h3⟩:=h
 obtain ⟨k,hk,⟨a,b,c⟩,d⟩:=AB1 (P:=fun x=>1≤x∧x<q∧Md q M x) x ⟨h1,h2,h3⟩
 exact ⟨k,a,b,c,fun y y1 y2 hg=>d y y2 ⟨y1,by omega,hg⟩⟩
open Classical in
noncomputable def gnX (q:Nat) (M:Nat→Nat→Nat):Nat:=if h:∃ x,1≤x∧x<q∧Md q M x then Classical.choose (ABw h) else 1
theorem Up {q:Nat}{M:Nat→Nat→Nat}(h:∃ x,1≤x∧x<q∧Md q M x):1≤gnX q M∧gnX q M<q∧Md q M (gnX q M)∧∀ y,1≤y→y<gnX q M→¬ Md q M y:=by
 rw [gnX,dif_pos h]
 exact Classical.choose_spec (ABw h)
def lgN (q:Nat) (M:Nat→Nat→Nat) (x a:Nat):Nat:=((List.range (q-1)).find? fun i=>decide (B0 M x i=a)).getD 0
def Rx (q:Nat) (M:Nat→Nat→Nat) (x:Nat):List Int:=Bc ((List.range q).map (lgN q M x))
def lgK (M:Nat→Nat→Nat) (x k a:Nat):Nat:=((List.range k).find? fun i=>decide (B0 M x i=a)).getD 0
theorem ALq {M:Nat→Nat→Nat}{x k a:Nat}:lgK M x k a≤k:=by
 rw [lgK]
 cases hf:(List.range k).find? fun i=>decide (B0 M x i=a) with
 | none=>exact Nat.zero_le _
 | some j=>exact Nat.le_of_lt (List.mem_range.1 (List.mem_of_find?_eq_some hf))
theorem AI1 {q k:Nat}{M:Nat→Nat→Nat}{x:Nat}(hg:Md q M x) (hk:k<q-1) (h:B0 M x k<q):(Bc ((List.range q).map (lgK M x k))).set (B0 M x k) (k:Int)=Bc ((List.range q).map (lgK M x (k+1))):=by
 apply List.ext_getElem
 ·simp [Bc]
 intro i h1 h2
 simp only [Bc,List.getElem_set,List.getElem_map,List.getElem_range]
 have h3:i<q:=by simpa [Bc] using h2
 split
 ·rename_i e
  subst e
  rw [lgK,List.range_succ,List.find?_append,List.find?_eq_none.2 fun j hj=>by
   simpa using hg.1 j k (List.mem_range.1 hj) hk]
  simp
 ·rename_i e
  rw [lgK,lgK,List.range_succ,List.find?_append]
  simp [e]
theorem ABU {q:Nat}{M:Nat→Nat→Nat}{x i:Nat}(hg:Md q M x) (hi:i<q-1):lgN q M x (B0 M x i)=i:=by
 rw [lgN]
 cases hf:(List.range (q-1)).find? fun j=>decide (B0 M x j=B0 M x i) with
 | none =>
  have:=List.find?_eq_none.1 hf i (List.mem_range.2 hi)
  simp at this
 | some j =>
  have h1:B0 M x j=B0 M x i:=by simpa using List.find?_some hf
  have h2:=List.mem_range.1 (List.mem_of_find?_eq_some hf)
  show j=i
  rcases Nat.lt_trichotomy j i with h|h|h
  ·exact absurd h1 (hg.1 j i h hi)
  ·exact h
  ·exact absurd h1.symm (hg.1 i j h h2)
noncomputable abbrev Jg (p m:Nat) (md:List Int):List Int:=Vc (p ^ m) (fM p (Ax m md)) (gnX (p ^ m) (fM p (Ax m md)))
noncomputable abbrev Jf (p m:Nat) (md:List Int):List Int:=Rx (p ^ m) (fM p (Ax m md)) (gnX (p ^ m) (fM p (Ax m md)))
noncomputable abbrev gfL (p m:Nat) (md:List Int) (b:Nat) (pg:Option Addr) (cg:Nat) (pe:Option Addr) (ce:Nat) (pl:Option Addr) (cl:Nat):List Fact :=
 [I9 b [.int .i64 p,.int .i64 m,.slice pg md.length cg,.int .i64 ((p ^ m:Nat):Int),.slice pe (p ^ m-1) ce,.slice pl (p ^ m) cl],Ap Ai pg md.length cg md,Ap Ai pe (p ^ m-1) ce (Jg p m md),Ap Ai pl (p ^ m) cl (Jf p m md)]
theorem F5 {pm:Option Addr}{nm cm p m:Nat}{md:List Int}(K:Fok p m md):Bs Tryz.prog 72 [.agg #[.int .i64 p,.int .i64 m,.slice pm nm cm]] [] [Ap Ai pm nm cm md]
  (fun v Φ β=>∃ b pg cg pe ce pl cl,v = .tuple #[.pointer (some ⟨b,0,none⟩),.int .i64 0]∧Φ=gfL p m md b pg cg pe ce pl cl∧β=[]):=by
 refine Ab (F:=ADc) rfl fun C=>?_
 have F2:=fun {pm:Option Addr}{nm cm:Nat}=>Ju (P:=(p:Int)) (M:=(m:Int)) (pm:=pm) (nm:=nm) (cm:=cm) (md:=md) (res:=true) ⟨fun _=>AEU (Y6 K),fun _=>rfl⟩
 have H1:=Ed K.ord
 have hx:=Up ((M7 K.shp K.pr).2 K)
 have Ft:=fun {nm cm:Nat}{pm:Option Addr}=>I4 (nm:=nm) (cm:=cm) (pm:=pm) K.shp rfl hx.1 hx.2.1 hx.2.2.1 hx.2.2.2
 have h2:=K.p2
 have hqb:=K.q
 have F:=K.fi
 have R:Rng (p ^ m) (fA p m) (fM p (Ax m md)):=by
  have:=Xe h2 (f:=Ax m md) (by rw [K.shp.flen];exact K.shp.m1)
  rwa [K.shp.flen] at this
 have hplt:=R.pw_lt (x:=gnX (p ^ m) (fM p (Ax m md))) hx.2.1
 have hq2:=F.q2
 unfold gfL Jg Jf
 generalize gnX (p ^ m) (fM p (Ax m md))=x at *
 generalize fM p (Ax m md)=M at *
 generalize p ^ m=q at *
 refine Bb 0 rfl fun en hb _=>?_
 subst en
 have hb':md.length*8≤140737488355328:=hb
 refine wk 23 (ct @F2 (ct @H1 (ct @Ft cz))) ?_
 intro b1 b2 o1 ca1
 refine Aa rfl (Z8 Cb rfl rfl ?_)
 refine wk 3 cz ?_
 (apply Uy it mx 0 14;(· rfl);(· rfl);(· rfl))
 (apply Ac;(· rfl);(· exact Cf fun _=>Aq rfl P3 An))
 (apply Ac;(· rfl);(· exact Ca 0 rfl rfl Ci rfl))
 (apply Ac;(· rfl);(· exact Cf fun _=>Aq rfl P1 An))
 (apply Ac;(· rfl);(· exact Ca 0 rfl rfl Ci rfl))
 (apply ADv (Dv IntKind.i64 8);(· rfl);(· exact Cb);intro pa1)
 (apply Ac;(· rfl);(· exact Cf fun _=>Aq rfl ADW An))
 (apply Ac;(· rfl);(· exact Ca 0 rfl rfl Fb rfl))
 (apply ABo 0 2;(· rfl);(· rfl);(· rfl);(· rfl);(· rfl);(· exact Cb);(· exact Er);(· rfl);(· (first|omega|(simp only [List.length_cons,List.length_nil];omega)));(· exact Hf);(· (first|omega|(simp only [List.length_cons,List.length_nil];omega)));intro pa2 cap1 b3 cs1)
 (apply Gz [23,25,29] (fun vs=>Value.agg ((V5 ([(0,1),(1,1),(2,1)]) ([Value.int IntKind.i64 0,Value.int IntKind.i64 0,Value.slice none 0 0]) [(0,Ce (vs.getD 0 undef)),(1,Ce (vs.getD 1 undef)),(2,Ce (vs.getD 2 undef))]).getD []).toArray) (v:=Value.agg #[Value.int IntKind.i64 ↑p,Value.int IntKind.i64 ↑m,Value.slice pa2 (0+md.length) cap1]);(· rfl);(· rfl);(· rfl);(· rfl);(· exact Cf fun _=>Dq (cs:=[Value.int IntKind.i64 ↑p,Value.int IntKind.i64 ↑m,Value.slice pa2 (0+md.length) cap1]) AI0 AGj rfl rfl An))
 (apply A3 3;(· rfl);(· simp))
 (apply AAg (q) _;(· rfl);(· rfl);(· rfl);(· exact Cb);(· exact Er);(· rfl);(· rfl);(· exact Hf);(· rfl);(· omega);(· omega);intro b4)
 (apply Gz [30,31,32,34] (fun vs=>Value.agg ((V5 ([(0,3),(3,1),(4,1),(5,1)]) ([Value.int IntKind.i64 0,Value.int IntKind.i64 0,Value.slice none 0 0,Value.int IntKind.i64 0,Value.slice none 0 0,Value.slice none 0 0]) [(0,Ce (vs.getD 0 undef)),(1,Ce (vs.getD 1 undef)),(2,Ce (vs.getD 2 undef)),(3,Ce (vs.getD 3 undef))]).getD []).toArray) (v:=Value.agg #[Value.int IntKind.i64 ↑p,Value.int IntKind.i64 ↑m,Value.slice pa2 (0+md.length) cap1,Value.int IntKind.i64 ↑q,Value.slice (some { block:=b2,off:=o1 }) (q-1) ca1,Value.slice (some { block:=b4,off:=0 }) q q]);(· rfl);(· rfl);(· rfl);(· rfl);(· exact Cf fun _=>Dq (cs:=[Value.int IntKind.i64 ↑p,Value.int IntKind.i64 ↑m,Value.slice pa2 (0+md.length) cap1,Value.int IntKind.i64 ↑q,Value.slice (some { block:=b2,off:=o1 }) (q-1) ca1,Value.slice (some { block:=b4,off:=0 }) q q]) ALV ALC rfl rfl An))
 refine AAe rfl ?_
 (rotate_left;rfl;rotate_right)
 simp only [List.append_nil,List.append_assoc,List.map_cons,List.map_nil,List.cons_append,List.nil_append,List.drop_zero]
 (refine AEr 1 0 (by first|rfl|exact (List.append_nil _).symm) rfl (by show (0+md.length)*8≤140737488355328;omega) ?_;simp only [List.take_succ_cons,List.take_zero,List.cons_append,List.nil_append,List.append_nil])
 refine wk 7 cz ?_
 intro b5
 rw [ADG]
 have hr0:List.replicate q (0:Int)=Bc ((List.range q).map (lgK M x 0)):=by
  rw [show (lgK M x 0)=fun _=>0 from rfl,List.map_const',List.length_range]
  simp [Bc]
 rw [hr0]
 have hgx:=hx.2.2.1
 refine Ah (X := Nat) [2,3,6,37,38] [0,1,2,3,4] (fun k => [(39, .int .i64 k)]) (fun k => [(some b5,119, [Value.int IntKind.i64 ↑p, Value.int IntKind.i64 ↑m, Value.slice pa2 (0 + md.length) cap1,
         Value.int IntKind.i64 ↑q, Value.slice (some { block := b2, off := o1 }) (q-1) ca1,
         Value.slice (some { block := b4, off := 0 }) q q]), (some b4,3, Al .i64 (Bc ((List.range q).map (lgK M x k)))), (some b1,24, [.int .i64 p, .int .i64 m, .slice pm md.length cm])]) (fun _ => [])
  (fun k=>k≤q-1) (fun k=>q-1-k) 0 [] rfl rfl rfl (Nat.zero_le _) (by refine Fr.sub_consI rfl rfl ?_;repeat (first|exact Fr.sub_nil _|refine Fr.sub_cons rfl ?_)) rfl rfl ?_
 rintro k hk ih
 simp only [List.cons_append,List.nil_append] at hk ih ⊢
 by_cases h9:k<q-1
 ·have at_x:(Vc q M x)[k]?=some ((B0 M x k:Nat):Int):=by simp [Vc,Bc,h9]
  have ht:=hplt k
  have ih':=ih (k+1) (by omega) (by omega)
  rw [← AI1 hgx h9 ht] at ih'
  have hln:(Bc (List.map (lgK M x k) (List.range q))).length=q:=by simp [Bc]
  generalize Bc (List.map (lgK M x k) (List.range q))=L at *
  refine wk 7 cz ?_
  intro h1 b6 o2 hz1
  refine Aa rfl (Av 0 rfl rfl Ci fun ⟨r1,r2⟩=>?_)
  refine wk 11 cz ?_
  exact tw (ih')
 ·obtain rfl:k=q-1:=by omega
  refine wk 7 cz ?_
  intro h1
  have hq47:q*8≤140737488355328:=by omega
  refine G9 8 (Bc ((List.range q).map (lgK M x (q-1)))) 1 rfl (by simp [Bc]) (Wg fun d hd=>?_) hq47 (by omega) ?_
  ·obtain ⟨i,hi,rfl⟩:=List.mem_map.1 hd
   have:=ALq (M:=M) (x:=x) (k:=q-1) (a:=i)
   omega
  rw [Nat.zero_add]
  refine Uh 0 rfl ?_
  refine Of [0,2,5,1] rfl rfl rfl ⟨_,_,_,_,_,_,_,rfl,rfl,rfl⟩
theorem ABG {u p:Nat}(h:u≤256):0≤(u:Int) / (p:Int)∧(u:Int) / (p:Int)≤256:=by
 rw [← Int.natCast_ediv]
 exact ⟨Int.natCast_nonneg _,by have h1:=Nat.le_trans (Nat.div_le_self u p) h;generalize u / p=z at *;omega⟩
theorem take_set {T:List Int}{i n:Nat}{v:Int}(h:T[i]?=some v) (hi:i<n):(T.take i++List.replicate (n-i) 0).set i v=T.take (i+1)++List.replicate (n-(i+1)) 0:=by
 have hl:i<T.length:=by rw [List.getElem?_eq_some_iff] at h;exact h.1
 have e1:(T.take i).length=i:=by rw [List.length_take];omega
 obtain ⟨k,hk⟩:∃ k,n-i=k+1:=⟨n-i-1,by omega⟩
 rw [hk,List.replicate_succ,List.set_append_right _ _ (by omega),e1,Nat.sub_self,List.set_cons_zero,show n-(i+1)=k by omega,List.take_add_one,h,List.append_assoc]
 rfl
abbrev RwI (n:Nat) (l:List Int):Value→List Fact→List A2→Prop:=fun v Φ β=>∃ r:Row,v = .slice (ad r.bo) n r.cap∧Φ=[A6 Ai r n l]∧β=[(r.bo,3,r.cs)]
theorem Bl {P:Program}{F:Fun P}{C:Cx}{S:List It}{σ:Fr}{β:List A2}{Γ:List Fact}{R:Value→World→Prop}{e:TypeId}{b n:Nat}{l:List Int}(k:Nat) (hn:A4 β k=some (some b,e,Al .i64 l)) (hl:n=l.length) (hr:∀ x∈l,Bv .i64 x) (h63:n≤9223372036854775807)
  (h:J F C S σ β (A6 Ai ⟨some b,n,Al .i64 l⟩ n l::Γ) R):J F C S σ β Γ R :=
 L4 (E:=Ai) (l.map fun n=>[.int .i64 n]) l k (fun w A _=>ADj .i64 8 l hr w A) hn (Oe _ _) hl (by rw [Ia];show l.length=n*1;omega) h63 h
abbrev I2 (b p m q:Nat) (pg:Option Addr) (ng cg:Nat) (pe:Option Addr) (ne ce:Nat) (pl:Option Addr) (nl cl:Nat):Fact :=
 I9 b [.int .i64 p,.int .i64 m,.slice pg ng cg,.int .i64 (q:Int),.slice pe ne ce,.slice pl nl cl]
theorem Fok.rng' {p m:Nat}{md:List Int}(K:Fok p m md):Rng (p ^ m) (fA p m) (fM p (Ax m md)):=by
 have:=Xe K.p2 (f:=Ax m md) (by rw [K.shp.flen];exact K.shp.m1)
 rwa [K.shp.flen] at this
section
variable {p m q b ng cg ne ce nl cl:Nat}{pg pe pl:Option Addr}
theorem Ja {x:Int}{res:Bool}(hq:q≤256) (hr:decide (0≤x∧x<(q:Int))=res):Bs Tryz.prog 144 [.pointer (some ⟨b,0,none⟩),.int .i64 x] [] [I2 b p m q pg ng cg pe ne ce pl nl cl] (Rv (.bool res) []):=by
 refine Ab (F:=AAc) rfl fun C=>?_
 subst hr
 by_cases h0:0≤x
 ·have e:decide (0≤x∧x<(q:Int))=decide (x<(q:Int)):=by simp [h0]
  rw [e]
  refine wk 12 cz ?_
  intro h1
  exact ge
 ·rw [decide_eq_false (show ¬(0≤x∧x<(q:Int)) from fun h=>h0 h.1)]
  refine wk 9 cz ?_
  intro h1
  exact ge
theorem B5 {x:Int}(hq:q≤256) (h0:0≤x) (h1:x<(q:Int)):Bs Tryz.prog 121 [.pointer (some ⟨b,0,none⟩),.int .i64 x] [] [I2 b p m q pg ng cg pe ne ce pl nl cl] (Rv (.int .i64 x) []):=by
 refine Ab (F:=Zm) rfl fun C=>?_
 have hd:decide (0≤x∧x<(q:Int))=true:=decide_eq_true ⟨h0,h1⟩
 refine wk 10 (ct @Ja cz) ?_
 exact ge
theorem De {x y:Int}(hp:2≤p) (hm:1≤m) (hq:p ^ m≤256) (x0:0≤x) (x1:x<((p ^ m:Nat):Int)) (y0:0≤y) (y1:y<((p ^ m:Nat):Int)):Bs Tryz.prog 122 [.pointer (some ⟨b,0,none⟩),.int .i64 x,.int .i64 y] [] [I2 b p m (p ^ m) pg ng cg pe ne ce pl nl cl] (Rv (.int .i64 (Ad (fA p m) x y)) []):=by
 refine Ab (F:=X1) rfl fun C=>?_
 obtain ⟨a,rfl⟩:=Int.eq_ofNat_of_zero_le x0
 obtain ⟨c,rfl⟩:=Int.eq_ofNat_of_zero_le y0
 rw [Ad,Int.toNat_natCast,Int.toNat_natCast]
 clear x0 y0
 have x1:=Int.ofNat_lt.1 x1
 have y1:=Int.ofNat_lt.1 y1
 have hpp:p≤256:=by
  have:=Nat.pow_le_pow_right (n:=p) (by omega) hm
  rw [Nat.pow_one] at this
  omega
 by_cases hp2:p=2
 ·subst hp2
  rw [AHx x1 y1]
  generalize 2 ^ m=Q at *
  refine wk 18 (ct @B5 (ct @B5 cz)) ?_
  intro h1
  refine Aa rfl (AFO (a) (c) rfl rfl (by first|rfl|omega) (by first|rfl|omega) (by omega) (by omega) ?_)
  refine wk 2 cz ?_
  exact ge
 ·generalize hQ:p ^ m=Q at *
  refine wk 19 (ct @B5 (ct @B5 cz)) ?_
  intro h1
  generalize hF:fA p m a c=F
  refine Ah (X:=Nat×Nat×Nat×Nat×Nat) [0,6] [0] (fun k=>[(1,.int .i64 (k.1:Int)),(2,.int .i64 (k.2.1:Int)),(7,.int .i64 (k.2.2.1:Int)),(8,.int .i64 (k.2.2.2.1:Int))]) (fun _=>[]) (fun _=>[])
   (fun k=>k.1<p ^ k.2.2.2.2∧k.2.1<p ^ k.2.2.2.2∧k.2.2.2.1*p ^ k.2.2.2.2=Q∧k.2.2.1<k.2.2.2.1∧k.2.2.1+k.2.2.2.1*fA p k.2.2.2.2 k.1 k.2.1=F) (fun k=>k.2.2.2.2) (a,c,0,1,m) [] rfl rfl rfl ⟨by dsimp only;omega,by dsimp only;omega,by dsimp only;omega,by dsimp only;omega,by dsimp only;omega⟩ (by repeat (first|exact Fr.sub_nil _|refine Fr.sub_cons rfl ?_)) rfl rfl ?_
  rintro ⟨u,v,r,w,k⟩ ⟨hu,hv,hw,hr,he⟩ ih
  simp only [List.cons_append,List.nil_append] at hu hv hw hr he ih ⊢
  by_cases h0:u=0∧v=0
  ·obtain ⟨rfl,rfl⟩:=h0
   rw [AJ7,Nat.mul_zero,Nat.add_zero] at he
   subst he
   refine wk 7 cz ?_
   intro h2
   exact ge
  ·obtain ⟨k,rfl⟩:∃ j,k=j+1:=⟨k-1,by
    rcases k with _|k
    ·rw [Nat.pow_zero] at hu hv;omega
    ·omega⟩
   have hw1:w≤Q:=Nat.le_of_dvd (by omega) ⟨_,hw.symm⟩
   have hwp:w*p≤Q:=Nat.le_of_dvd (by omega) ⟨p ^ k,by rw [← hw,Nat.pow_succ,Nat.mul_assoc,Nat.mul_comm p]⟩
   have hd:(u % p+v % p) % p<p:=Nat.mod_lt _ (by omega)
   have hdw:(u % p+v % p) % p*w+w≤w*p:=by
    have:=Nat.mul_le_mul_right w (show (u % p+v % p) % p+1≤p by omega)
    rw [Nat.add_mul,Nat.one_mul,Nat.mul_comm p] at this
    exact this
   have hu1:=Nat.mod_lt u (show 0<p by omega)
   have hv1:=Nat.mod_lt v (show 0<p by omega)
   have ih':=ih (u / p,v / p,r+(u % p+v % p) % p*w,w*p,k) (Nat.lt_succ_self k) ⟨by dsimp only;exact Nat.div_lt_of_lt_mul (by rwa [Nat.pow_succ,Nat.mul_comm] at hu),by dsimp only;exact Nat.div_lt_of_lt_mul (by rwa [Nat.pow_succ,Nat.mul_comm] at hv),by dsimp only;rw [← hw,Nat.pow_succ,Nat.mul_assoc,Nat.mul_comm p],by dsimp only;omega,by
    dsimp only
    rw [← he,Y8,Nat.mul_add,Nat.mul_comm w (_ % p),Nat.mul_assoc,Nat.add_assoc]⟩
   simp only [Int.natCast_add,Int.natCast_mul,Int.natCast_emod,Int.natCast_ediv] at ih'
   have hm0:0≤((u:Int) % (p:Int)+(v:Int) % (p:Int)) % (p:Int)*(w:Int)∧(r:Int)+((u:Int) % (p:Int)+(v:Int) % (p:Int)) % (p:Int)*(w:Int)≤256:=by
    rw [← Int.natCast_emod,← Int.natCast_emod,← Int.natCast_add,← Int.natCast_emod,← Int.natCast_mul]
    omega
   have hm1:0≤(w:Int)*(p:Int)∧(w:Int)*(p:Int)≤256:=by
    rw [← Int.natCast_mul]
    omega
   have hp8:p ^ (k+1)≤Q:=Nat.le_of_dvd (by omega) ⟨w,by rw [← hw,Nat.mul_comm]⟩
   have hu2:=Nat.div_le_self u p
   have hv2:=Nat.div_le_self v p
   have hm2:0≤(u:Int) / (p:Int)∧(u:Int) / (p:Int)≤256:=ABG (by omega)
   have hm3:0≤(v:Int) / (p:Int)∧(v:Int) / (p:Int)≤256:=ABG (by omega)
   rcases Nat.eq_zero_or_pos u with h9|h9
   ·have h8:0<v:=by omega
    refine wk 30 cz ?_
    intro h2 h3
    exact tw (ih')
   ·refine wk 30 cz ?_
    intro h2
    exact tw (ih')
theorem Gr {x:Int}(hp:2≤p) (hm:1≤m) (hq:p ^ m≤256) (x0:0≤x) (x1:x<((p ^ m:Nat):Int)):Bs Tryz.prog 74 [.pointer (some ⟨b,0,none⟩),.int .i64 x] [] [I2 b p m (p ^ m) pg ng cg pe ne ce pl nl cl] (Rv (.int .i64 ((nP p m x.toNat:Nat):Int)) []):=by
 refine Ab (F:=X2) rfl fun C=>?_
 obtain ⟨a,rfl⟩:=Int.eq_ofNat_of_zero_le x0
 rw [Int.toNat_natCast]
 clear x0
 have x1:=Int.ofNat_lt.1 x1
 have hpp:p≤256:=by
  have:=Nat.pow_le_pow_right (n:=p) (by omega) hm
  rw [Nat.pow_one] at this
  omega
 generalize hQ:p ^ m=Q at *
 refine wk 9 (ct @B5 cz) ?_
 generalize hF:nP p m a=F
 refine Ah (X:=Nat×Nat×Nat×Nat) [0,4] [0] (fun k=>[(1,.int .i64 (k.1:Int)),(5,.int .i64 (k.2.1:Int)),(6,.int .i64 (k.2.2.1:Int))]) (fun _=>[]) (fun _=>[])
  (fun k=>k.1<p ^ k.2.2.2∧k.2.2.1*p ^ k.2.2.2=Q∧k.2.1<k.2.2.1∧k.2.1+k.2.2.1*nP p k.2.2.2 k.1=F) (fun k=>k.2.2.2) (a,0,1,m) [] rfl rfl rfl ⟨by dsimp only;omega,by dsimp only;omega,by dsimp only;omega,by dsimp only;omega⟩ (by repeat (first|exact Fr.sub_nil _|refine Fr.sub_cons rfl ?_)) rfl rfl ?_
 rintro ⟨u,r,w,k⟩ ⟨hu,hw,hr,he⟩ ih
 simp only [List.cons_append,List.nil_append] at hu hw hr he ih ⊢
 by_cases h0:u=0
 ·subst h0
  rw [AIY,Nat.mul_zero,Nat.add_zero] at he
  subst he
  refine wk 7 cz ?_
  intro h1
  exact ge
 ·obtain ⟨k,rfl⟩:∃ j,k=j+1:=⟨k-1,by
   rcases k with _|k
   ·rw [Nat.pow_zero] at hu;omega
   ·omega⟩
  have hw1:w≤Q:=Nat.le_of_dvd (by omega) ⟨_,hw.symm⟩
  have hwp:w*p≤Q:=Nat.le_of_dvd (by omega) ⟨p ^ k,by rw [← hw,Nat.pow_succ,Nat.mul_assoc,Nat.mul_comm p]⟩
  have hd:(p-u % p) % p<p:=Nat.mod_lt _ (by omega)
  have hdw:(p-u % p) % p*w+w≤w*p:=by
   have:=Nat.mul_le_mul_right w (show (p-u % p) % p+1≤p by omega)
   rw [Nat.add_mul,Nat.one_mul,Nat.mul_comm p] at this
   exact this
  have hu1:=Nat.mod_lt u (show 0<p by omega)
  have ih':=ih (u / p,r+(p-u % p) % p*w,w*p,k) (Nat.lt_succ_self k) ⟨by dsimp only;exact Nat.div_lt_of_lt_mul (by rwa [Nat.pow_succ,Nat.mul_comm] at hu),by dsimp only;rw [← hw,Nat.pow_succ,Nat.mul_assoc,Nat.mul_comm p],by dsimp only;omega,by
   dsimp only
   rw [← he,ACd,Nat.mul_add,Nat.mul_comm w (_ % p),Nat.mul_assoc,Nat.add_assoc]⟩
  simp only [Int.natCast_add,Int.natCast_mul,Int.natCast_emod,Int.natCast_ediv] at ih'
  have hm0:0≤((p-u % p:Nat):Int) % (p:Int)*(w:Int)∧(r:Int)+((p-u % p:Nat):Int) % (p:Int)*(w:Int)≤256:=by
   rw [← Int.natCast_emod,← Int.natCast_mul]
   omega
  have hm1:0≤(w:Int)*(p:Int)∧(w:Int)*(p:Int)≤256:=by
   rw [← Int.natCast_mul]
   omega
  have hp8:p ^ (k+1)≤Q:=Nat.le_of_dvd (by omega) ⟨w,by rw [← hw,Nat.mul_comm]⟩
  have hu2:=Nat.div_le_self u p
  have hm2:0≤(u:Int) / (p:Int)∧(u:Int) / (p:Int)≤256:=ABG (by omega)
  refine wk 5 cz ?_
  intro h1
  (apply E7 it mx 23;(· rfl);(· rfl))
  (apply A3 3;(· rfl);(· simp))
  (apply Ac;(· rfl);(· exact Cf fun _=>Aq rfl S0 An))
  (apply Ac;(· rfl);(· exact Cf fun _=>Aq rfl P3 An))
  (apply Ac;(· rfl);(· exact Zx 0 rfl rfl Ci rfl))
  (apply A3 3;(· rfl);(· simp))
  (apply Ac;(· rfl);(· exact Cf fun _=>Aq rfl S0 An))
  (apply Ac;(· rfl);(· exact Cf fun _=>Aq rfl P3 An))
  (apply Ac;(· rfl);(· exact Zx 0 rfl rfl Ci rfl))
  (apply A3 1;(· rfl);(· exact ⟨⟨by omega,by omega⟩,trivial⟩))
  (apply Ac (v:=Value.int IntKind.i64 ((((p)-((u) % (p)):Nat)):Int));(· rfl);(· exact Cf fun _=>ADg it _ rfl ⟨by omega,by omega⟩ (by omega) An))
  simp only [Nat.add_sub_cancel]
  (apply A3 2;(· rfl);(· simp))
  (apply Ac;(· rfl);(· exact Cf fun _=>Aq rfl S0 An))
  (apply Ac;(· rfl);(· exact Cf fun _=>Aq rfl P3 An))
  (apply Ac;(· rfl);(· exact Zx 0 rfl rfl Ci rfl))
  (apply A3 4;(· rfl);(· exact ⟨⟨by omega,by omega⟩,⟨by omega,by omega⟩,trivial,⟨by omega,by omega⟩,trivial⟩))
  refine Eu rfl ?_
  simp only [List.map_cons,List.map_nil,List.cons_append,List.nil_append]
  refine wk 14 cz ?_
  exact tw (ih')
theorem C1 {x y:Int}{md:List Int}(K:Fok p m md) (x0:0≤x) (x1:x<((p ^ m:Nat):Int)) (y0:0≤y) (y1:y<((p ^ m:Nat):Int)):Bs Tryz.prog 164 [.pointer (some ⟨b,0,none⟩),.int .i64 x,.int .i64 y] [] [I2 b p m (p ^ m) pg ng cg pe (p ^ m-1) ce pl (p ^ m) cl,Ap Ai pe (p ^ m-1) ce (Jg p m md),Ap Ai pl (p ^ m) cl (Jf p m md)] (Rv (.int .i64 (Ad (fM p (Ax m md)) x y)) []):=by
 refine Ab (F:=Yq) rfl fun C=>?_
 obtain ⟨a,rfl⟩:=Int.eq_ofNat_of_zero_le x0
 obtain ⟨c,rfl⟩:=Int.eq_ofNat_of_zero_le y0
 rw [Ad,Int.toNat_natCast,Int.toNat_natCast]
 clear x0 y0
 have x1:=Int.ofNat_lt.1 x1
 have y1:=Int.ofNat_lt.1 y1
 have R:=K.rng'
 have hq:=K.q
 obtain ⟨g2,g3,hgen,-⟩:=Up ((M7 K.shp K.pr).2 K)
 unfold Jg Jf
 generalize gnX (p ^ m) (fM p (Ax m md))=g at *
 generalize fM p (Ax m md)=M at *
 generalize p ^ m=q at *
 by_cases h0:a=0∨c=0
 ·have e:M a c=0:=by
   rcases h0 with rfl|rfl
   ·rw [R.mc _ _ x1 y1,R.m0 y1]
   ·exact R.m0 x1
  rw [e]
  rcases Nat.eq_zero_or_pos a with h9|h9
  ·refine wk 19 (ct @B5 (ct @B5 cz)) ?_
   intro h1
   exact ge
  ·have h8:c=0:=by omega
   refine wk 19 (ct @B5 (ct @B5 cz)) ?_
   intro h1 h2
   exact ge
 ·have h1:a≠0:=fun e=>h0 (.inl e)
  have h2:c≠0:=fun e=>h0 (.inr e)
  obtain ⟨i,hi,rfl⟩:=R.gen_all g3 hgen x1 h1
  obtain ⟨j,hj,rfl⟩:=R.gen_all g3 hgen y1 h2
  rw [← R.exp_mul g3 hgen]
  have ei:(Rx q M g)[B0 M g i]?=some (i:Int):=Ie (by rw [List.getElem?_map,List.getElem?_range x1];show some (lgN q M g _)=_;rw [ABU hgen hi])
  have ej:(Rx q M g)[B0 M g j]?=some (j:Int):=Ie (by rw [List.getElem?_map,List.getElem?_range y1];show some (lgN q M g _)=_;rw [ABU hgen hj])
  have ei':(Rx q M g).getD (B0 M g i) default=(i:Int):=by rw [List.getD_eq_getElem?_getD,ei];rfl
  have ej':(Rx q M g).getD (B0 M g j) default=(j:Int):=by rw [List.getD_eq_getElem?_getD,ej];rfl
  have hk:(i+j) % (q-1)<q-1:=Nat.mod_lt _ (by omega)
  have ek:(Vc q M g)[(i+j) % (q-1)]?=some ((B0 M g ((i+j) % (q-1)):Nat):Int):=Ie (by rw [List.getElem?_map,List.getElem?_range hk];rfl)
  have en:((Rx q M g).getD (B0 M g i) default:Int).toNat+((Rx q M g).getD (B0 M g j) default:Int).toNat=i+j:=by rw [ei',ej',Int.toNat_natCast,Int.toNat_natCast]
  have em:((Rx q M g).getD (B0 M g i) default+(Rx q M g).getD (B0 M g j) default:Int) % ((q-1:Nat):Int)=(((((Rx q M g).getD (B0 M g i) default:Int).toNat+((Rx q M g).getD (B0 M g j) default:Int).toNat) % (q-1):Nat):Int):=by rw [en,ei',ej',Int.natCast_emod,Int.natCast_add]
  have eo:(((Rx q M g).getD (B0 M g i) default:Int).toNat+((Rx q M g).getD (B0 M g j) default:Int).toNat) % (q-1)<q-1:=by rw [en];exact hk
  have ek':(Vc q M g)[(((Rx q M g).getD (B0 M g i) default:Int).toNat+((Rx q M g).getD (B0 M g j) default:Int).toNat) % (q-1)]?=some ((B0 M g ((i+j) % (q-1)):Nat):Int):=by rw [en];exact ek
  have ef:(Vc q M g).getD ((((Rx q M g).getD (B0 M g i) default:Int).toNat+((Rx q M g).getD (B0 M g j) default:Int).toNat) % (q-1)) default=((B0 M g ((i+j) % (q-1)):Nat):Int):=by rw [List.getD_eq_getElem?_getD,ek'];rfl
  refine wk 20 (ct @B5 (ct @B5 cz)) ?_
  intro h3 h4 b1 o1 b2 o2 b3 o3
  try simp only [em,Int.toNat_natCast]
  rw [ef]
  exact ge
theorem Qf {x:Int}{md:List Int}(K:Fok p m md) (x0:0<x) (x1:x<((p ^ m:Nat):Int)):Bs Tryz.prog 204 [.pointer (some ⟨b,0,none⟩),.int .i64 x] [] [I2 b p m (p ^ m) pg ng cg pe (p ^ m-1) ce pl (p ^ m) cl,Ap Ai pe (p ^ m-1) ce (Jg p m md),Ap Ai pl (p ^ m) cl (Jf p m md)] (Rv (.tuple #[.int .i64 ((iF (p ^ m) (fM p (Ax m md)) x.toNat:Nat):Int),.int .i64 0]) []):=by
 refine Ab (F:=Yg) rfl fun C=>?_
 obtain ⟨a,rfl⟩:=Int.eq_ofNat_of_zero_le (Int.le_of_lt x0)
 rw [Int.toNat_natCast]
 have x1:=Int.ofNat_lt.1 x1
 have h1:a≠0:=by omega
 clear x0
 have R:=K.rng'
 have hq:=K.q
 obtain ⟨g2,g3,hgen,-⟩:=Up ((M7 K.shp K.pr).2 K)
 unfold Jg Jf
 generalize gnX (p ^ m) (fM p (Ax m md))=g at *
 generalize fM p (Ax m md)=M at *
 generalize p ^ m=q at *
 obtain ⟨i,hi,rfl⟩:=R.gen_all g3 hgen x1 h1
 have hk:(q-1-i) % (q-1)<q-1:=Nat.mod_lt _ (by omega)
 have hin:=R.exp_inv g3 hgen hi
 have hpl:=R.pw_lt g3
 have hev:iF q M (B0 M g i)=B0 M g ((q-1-i) % (q-1)):=by
  have h0:B0 M g ((q-1-i) % (q-1))≠0:=hgen.2.1 _ hk
  obtain ⟨⟨a1,a2⟩,a3⟩:=AHS (q:=q) (M:=M) (x:=B0 M g i) ⟨_,by omega,hpl _,hin⟩
  exact R.inv_one x1 a2 (hpl _) a3 hin
 rw [hev]
 have ei:(Rx q M g)[B0 M g i]?=some (i:Int):=Ie (by rw [List.getElem?_map,List.getElem?_range x1];show some (lgN q M g _)=_;rw [ABU hgen hi])
 have ei':(Rx q M g).getD (B0 M g i) default=(i:Int):=by rw [List.getD_eq_getElem?_getD,ei];rfl
 have ek:(Vc q M g)[(q-1-i) % (q-1)]?=some ((B0 M g ((q-1-i) % (q-1)):Nat):Int):=Ie (by rw [List.getElem?_map,List.getElem?_range hk];rfl)
 have en:q-1-((Rx q M g).getD (B0 M g i) default:Int).toNat=q-1-i:=by rw [ei',Int.toNat_natCast]
 have eo:(q-1-((Rx q M g).getD (B0 M g i) default:Int).toNat) % (q-1)<q-1:=by rw [en];exact hk
 have ek':(Vc q M g)[(q-1-((Rx q M g).getD (B0 M g i) default:Int).toNat) % (q-1)]?=some ((B0 M g ((q-1-i) % (q-1)):Nat):Int):=by rw [en];exact ek
 have ef:(Vc q M g).getD ((q-1-((Rx q M g).getD (B0 M g i) default:Int).toNat) % (q-1)) default=((B0 M g ((q-1-i) % (q-1)):Nat):Int):=by rw [List.getD_eq_getElem?_getD,ek'];rfl
 refine wk 14 (ct @B5 cz) ?_
 intro h2 b1 o1 b2 o2
 try simp only [← Int.natCast_emod,Int.toNat_natCast]
 rw [ef]
 exact ge
theorem U1 {a:Int}{pu:Option Addr}{nu cu:Nat}{u md:List Int}(K:Fok p m md) (a0:0≤a) (a1:a<((p ^ m:Nat):Int)) (hu:∀ x∈u,0≤x∧x<((p ^ m:Nat):Int)) :
  Bs Tryz.prog 129 [.pointer (some ⟨b,0,none⟩),.int .i64 a,.slice pu nu cu] [] [I2 b p m (p ^ m) pg ng cg pe (p ^ m-1) ce pl (p ^ m) cl,Ap Ai pe (p ^ m-1) ce (Jg p m md),Ap Ai pl (p ^ m) cl (Jf p m md),Ap Ai pu nu cu u] (RwI nu (Ct (Ad (fM p (Ax m md))) a u)):=by
 refine Ab (F:=Mw) rfl fun C=>?_
 refine Bb 3 rfl fun hn hb _=>?_
 subst hn
 have hb':u.length*8≤140737488355328:=hb
 have A8:=fun {b ng cg ce cl:Nat}{pg pe pl:Option Addr}{x y:Int}=>C1 (b:=b) (ng:=ng) (cg:=cg) (ce:=ce) (cl:=cl) (pg:=pg) (pe:=pe) (pl:=pl) (x:=x) (y:=y) K
 have hml:=fun x (h:x∈u)=>K.fi.ml a x a0 a1 (hu x h).1 (hu x h).2
 have hq:=K.q
 generalize Ad (fM p (Ax m md))=M at *
 generalize Jg p m md=ex at *
 generalize Jf p m md=lg at *
 generalize p ^ m=q at *
 refine wk 12 cz ?_
 intro b1
 rw [show Ao .i64 (List.replicate u.length 0)=Al .i64 ((Ct M a u).take 0++List.replicate (u.length-0) 0) by simp [Ao,Al]]
 refine Ah (X:=Nat) [0,1,6,7,13,14] [0,1,2,3] (fun i=>[(15,.int .i64 (i:Int))]) (fun i=>[(some b1,3,Al .i64 ((Ct M a u).take i++List.replicate (u.length-i) 0))]) (fun _=>[]) (fun i=>i≤u.length) (fun i=>u.length-i) 0 [] rfl rfl rfl (Nat.zero_le _) (by repeat (first|exact Fr.sub_nil _|refine Fr.sub_cons rfl ?_)) rfl rfl ?_
 rintro i hi ih
 simp only [List.cons_append,List.nil_append] at hi ih ⊢
 by_cases h9:i<u.length
 ·obtain ⟨x,at_x⟩:∃ x,u[i]?=some x:=⟨_,List.getElem?_eq_getElem h9⟩
  have hx:=hu x (List.mem_of_getElem? at_x)
  obtain ⟨hx0,hx1⟩:=hx
  have ih':=ih (i+1) (by omega) (by omega)
  have eT:(Ct M a u)[i]?=some (M a x):=by rw [Ct,List.getElem?_map,at_x];rfl
  rw [← take_set eT h9] at ih'
  have hln:((Ct M a u).take i++List.replicate (u.length-i) 0).length=u.length:=by simp [Ct];omega
  generalize (Ct M a u).take i++List.replicate (u.length-i) 0=L at *
  refine wk 7 cz ?_
  intro h1 b2 o1 hz1
  refine Aa rfl (Av 0 rfl rfl Ci fun ⟨r1,r2⟩=>?_)
  refine wk 9 (ct @A8 cz) ?_
  exact tw (ih')
 ·obtain rfl:i=u.length:=by omega
  rw [Nat.sub_self,List.replicate_zero,List.append_nil,List.take_of_length_le (by simp [Ct])]
  refine wk 7 cz ?_
  intro h1
  have hall:∀ z∈Ct M a u,Bv .i64 z:=fun z hz=>by
   obtain ⟨y,hy,rfl⟩:=List.mem_map.1 hz
   have:=hml y hy
   simp only [Bv];omega
  have hln:(Ct M a u).length=u.length:=by simp [Ct]
  generalize Ct M a u=L at *
  refine Bl 0 rfl hln.symm hall (by omega) ?_
  refine Dx 1 [0] [0] rfl (.tmp rfl .nil) rfl rfl rfl ⟨⟨some b1,u.length,Al .i64 L⟩,rfl,rfl,rfl⟩
end
open Go Go.Fw
set_option maxRecDepth 100000
set_option linter.unusedVariables false
set_option linter.unusedSimpArgs false
set_option maxHeartbeats 0
theorem Q5 {p m nm cm:Nat}{md:List Int}{pm:Option Addr}(K:Fok p m md) {x:Int}(x0:0≤x) (x1:x<((p ^ m:Nat):Int)) :
  Bs Tryz.prog 76 [.agg #[.int .i64 p,.int .i64 m,.slice pm nm cm],.int .i64 x] [] [] (Rv (.int .i64 ((nP p m x.toNat:Nat):Int)) []):=by
 refine Ab (F:=Qq) rfl fun C=>?_
 have h1:=K.p2
 have h2:=K.p256
 have h3:=K.m8
 have h4:=K.q
 have lx:=Dz p m x.toNat
 have lT:((Dd p m x.toNat).map fun d=>(p-d) % p).length=m:=by rw [List.length_map,lx]
 have rT:∀ d∈(Dd p m x.toNat).map fun d=>(p-d) % p,d<p:=fun d hd=>by
  obtain ⟨j,_,rfl⟩:=List.mem_map.1 hd
  exact Nat.mod_lt _ (by omega)
 have tz:∀ i,i<m→((Dd p m x.toNat).map fun d=>(p-d) % p)[i]?=some ((p-(Dd p m x.toNat).getD i 0) % p):=fun i hi=>by
  rw [List.getElem?_map,List.getD_eq_getElem?_getD,List.getElem?_eq_getElem (by omega)];rfl
 have xr:=fun d hd=>I1 (p:=p) (n:=m) (x:=x.toNat) (by omega) d hd
 unfold nP
 generalize (Dd p m x.toNat).map (fun d=>(p-d) % p)=T at *
 have ep:p ^ T.length≤1000000:=by rw [lT];omega
 refine wk 11 (ct @Ec cz) ?_
 intro b1 b2
 rw [show Ao .i64 (Dd p m x.toNat)=Ao .i64 (T.take 0++(Dd p m x.toNat).drop 0) by simp]
 refine Ah (X:=Nat) [2,4,5] [] (fun i=>[(6,.int .i64 (i:Int))]) (fun i=>[(some b2,3,Ao .i64 (T.take i++(Dd p m x.toNat).drop i)),(some b1,24,[.int .i64 p,.int .i64 m,.slice pm nm cm])]) (fun _=>[]) (fun i=>i≤m) (fun i=>m-i) 0 [] rfl rfl rfl (Nat.zero_le _) (by repeat (first|exact Fr.sub_nil _|refine Fr.sub_cons rfl ?_)) rfl rfl ?_
 rintro i hi ih
 simp only [List.cons_append,List.nil_append] at hi ih ⊢
 by_cases hil:i<m
 ·have zx:(Dd p m x.toNat)[i]?=some ((Dd p m x.toNat).getD i 0):=by rw [List.getD_eq_getElem?_getD,List.getElem?_eq_getElem (by omega)];rfl
  have zt:=tz i hil
  have bx:=xr _ (List.mem_of_getElem? zx)
  have ih':=ih (i+1) (by omega) (by omega)
  have zm:=(AHK (T:=T) (D:=Dd p m x.toNat) lT lx hil).trans zx
  have lm:(T.take i++(Dd p m x.toNat).drop i).length=m:=by rw [List.length_append,List.length_take,List.length_drop];omega
  rw [← AFi lT lx hil zt] at ih'
  generalize (Dd p m x.toNat).getD i 0=u at *
  have em:((p-u:Nat):Int) % (p:Int)=(((p-u) % p:Nat):Int):=(Int.natCast_emod _ _).symm
  refine wk 13 cz ?_
  intro h5
  exact tw (ih')
 ·obtain rfl:i=m:=by omega
  clear ih
  rw [List.take_of_length_le (by omega),List.drop_of_length_le (by omega),List.append_nil,Hm .i64 T]
  refine wk 9 cz ?_
  intro h5
  refine G9 8 (Bc T) 0 rfl (by rw [Ch,lT]) (Wg fun d hd=>by have:=rT d hd;omega) (by omega) (by omega) ?_
  simp only [List.eraseIdx_cons_zero,List.eraseIdx_cons_succ]
  refine wk 3 (ct @F9 cz) ?_
  exact ge
theorem Qz {p m nm cm:Nat}{md:List Int}{pm:Option Addr}(K:Fok p m md) {x:Int}(x0:0<x) (x1:x<((p ^ m:Nat):Int)) :
  Bs Tryz.prog 181 [.agg #[.int .i64 p,.int .i64 m,.slice pm nm cm],.int .i64 x] [] [Ap Ai pm nm cm md] (Rv (.int .i64 ((iF (p ^ m) (fM p (Ax m md)) x.toNat:Nat):Int)) []):=by
 refine Ab (F:=Qp) rfl fun C=>?_
 obtain ⟨a,rfl⟩:=Int.eq_ofNat_of_zero_le (Int.le_of_lt x0)
 rw [Int.toNat_natCast]
 have x1:=Int.ofNat_lt.1 x1
 have h1:a≠0:=by omega
 have R:=K.rng'
 have hq:=K.q
 have hinv:∃ y,1≤y∧y<p ^ m∧fM p (Ax m md) a y=1:=by
  obtain ⟨g2,g3,hgen,-⟩:=Up ((M7 K.shp K.pr).2 K)
  obtain ⟨i,hi,rfl⟩:=R.gen_all g3 hgen x1 h1
  have h0:=hgen.2.1 ((p ^ m-1-i) % (p ^ m-1)) (Nat.mod_lt _ (by omega))
  exact ⟨_,by omega,R.pw_lt g3 _,R.exp_inv g3 hgen hi⟩
 obtain ⟨⟨i1,i2⟩,i3⟩:=AHS hinv
 have hno:∀ z,1≤z→z<iF (p ^ m) (fM p (Ax m md)) a→fM p (Ax m md) a z≠1:=fun z z1 z2 e=>absurd (R.inv_one x1 (by omega) i2 e i3) (by omega)
 have Cp:=fun {y:Nat}(hy:y<p ^ m)=>G0 (nm:=nm) (cm:=cm) (pm:=pm) K (x:=(a:Int)) (y:=(y:Int)) (by omega) (by omega) (by omega) (by omega)
 simp only [Ad,Int.toNat_natCast] at Cp
 have Dl:=Bo (pm:=pm) (n:=nm) (c:=cm) K.ord
 generalize iF (p ^ m) (fM p (Ax m md)) a=v at *
 generalize fM p (Ax m md)=M at *
 generalize p ^ m=q at *
 refine wk 6 cz ?_
 intro b1
 refine Ah (X:=Nat) [1,2] [0] (fun i=>[(5,.int .i64 (i:Int))]) (fun _=>[(some b1,24,[.int .i64 p,.int .i64 m,.slice pm nm cm])]) (fun _=>[]) (fun i=>1≤i∧i≤v) (fun i=>v-i) 1 [] rfl rfl rfl ⟨Nat.le_refl 1,i1⟩ (by repeat (first|exact Fr.sub_nil _|refine Fr.sub_cons rfl ?_)) rfl rfl ?_
 rintro i ⟨hi1,hi2⟩ ih
 simp only [List.cons_append,List.nil_append] at hi1 hi2 ih ⊢
 by_cases h9:i=v
 ·subst h9
  refine wk 17 (ct @Dl (ct @Cp cz)) ?_
  intro h2 h3
  exact ge
 ·have h8:=hno i hi1 (by omega)
  refine wk 17 (ct @Dl (ct @Cp cz)) ?_
  intro h2 h3
  exact tw (ih (i+1) (by omega) ⟨by omega,by omega⟩)
theorem Dc {p m:Nat}{md:List Int}(K:Fok p m md):FO (p ^ m) (Ad (fA p m)) (Ad (fM p (Ax m md))) (fun x=>((nP p m x.toNat:Nat):Int)) (fun x=>((iF (p ^ m) (fM p (Ax m md)) x.toNat:Nat):Int)) where
 fi:=K.fi
 ng:=fun x x0 x1=>by
  have h1:=ADd (show 0<p by have:=K.p2;omega) m x.toNat
  exact ⟨⟨Int.natCast_nonneg _,Int.ofNat_lt.2 h1⟩,by rw [Ad,Int.toNat_natCast,AJ5 (by have:=K.p2;omega)];rfl⟩
 iv:=fun x x0 x1 hx=>by
  have R:=K.rng'
  have hinv:∃ y,1≤y∧y<p ^ m∧fM p (Ax m md) x.toNat y=1:=by
   obtain ⟨g2,g3,hgen,-⟩:=Up ((M7 K.shp K.pr).2 K)
   obtain ⟨i,hi,e⟩:=R.gen_all g3 hgen (show x.toNat<p ^ m by omega) (by omega)
   have h0:=hgen.2.1 ((p ^ m-1-i) % (p ^ m-1)) (Nat.mod_lt _ (by omega))
   have:=R.exp_inv g3 hgen hi
   rw [e] at this
   exact ⟨_,by omega,R.pw_lt g3 _,this⟩
  obtain ⟨⟨i1,i2⟩,i3⟩:=AHS hinv
  exact ⟨⟨Int.natCast_nonneg _,Int.ofNat_lt.2 i2⟩,by rw [Ad,Int.toNat_natCast,i3];rfl⟩
def Uc (n:Int) (l:List Int):Prop:=(∀ x∈l,0≤x∧x<n)∧l.Pairwise (·<·)
instance (n:Int) (l:List Int):Decidable (Uc n l):=inferInstanceAs (Decidable (_∧_))
def stA (n:Int) (l:List Int) (i:Nat):Prop:=∀ x,l[i]?=some x→(0≤x∧x<n)∧∀ y,0<i→l[i-1]?=some y→y<x
theorem ABz {n:Int}{l:List Int}:Uc n l↔∀ i,i<l.length→stA n l i:=by
 constructor
 ·rintro ⟨h1,h2⟩ i hi x hx
  refine ⟨h1 x (List.mem_of_getElem? hx),fun y h0 hy=>?_⟩
  obtain ⟨a1,a2⟩:=List.getElem?_eq_some_iff.1 hx
  obtain ⟨b1,b2⟩:=List.getElem?_eq_some_iff.1 hy
  have:=List.pairwise_iff_getElem.1 h2 (i-1) i b1 a1 (by omega)
  omega
 ·intro h
  refine ⟨fun x hx=>?_,List.pairwise_iff_getElem.2 fun i j hi hj hij=>?_⟩
  ·obtain ⟨i,hi⟩:=List.getElem?_of_mem hx
   exact (h i (List.getElem?_eq_some_iff.1 hi).1 x hi).1
  ·have key:∀ d,i+d+1<l.length→∀ x y,l[i]?=some x→l[i+d+1]?=some y→x<y:=by
    intro d
    induction d with
    | zero =>
     intro hd x y hx hy
     exact (h _ hd y hy).2 x (by omega) (by rw [show i+0+1-1=i by omega];exact hx)
    | succ d ih =>
     intro hd x y hx hy
     obtain ⟨z,hz⟩:∃ z,l[i+d+1]?=some z:=⟨_,List.getElem?_eq_getElem (by omega)⟩
     have h1:=ih (by omega) x z hx hz
     have h2:=(h _ hd y hy).2 z (by omega) (by rw [show i+(d+1)+1-1=i+d+1 by omega];exact hz)
     omega
   exact key (j-i-1) (by omega) _ _ (List.getElem?_eq_getElem hi) (by rw [show i+(j-i-1)+1=j by omega];exact List.getElem?_eq_getElem hj)
theorem AKf {n:Int}{l:List Int}{i:Nat}(hi:i<l.length) (h:¬ stA n l i):¬ Uc n l:=fun hp=>h (ABz.1 hp i hi)
def Th (ls:List (List Int)) (i:Nat):Bool:=!ls.any fun l=>decide ((i:Int)∈l)
def Cj (n:Nat) (ls:List (List Int)):List Int:=((List.range n).filter (Th ls)).map fun i:Nat=>(i:Int)
theorem ABx (n:Nat) (ls:List (List Int)):Cj (n+1) ls=Cj n ls++if Th ls n then [(n:Int)] else []:=by
 rw [Cj,Cj,List.range_succ,List.filter_append,List.map_append]
 congr 1
 cases h:Th ls n <;> simp [h]
def Td (x:Int) (l:List Int):Int:=if x∈l then (l.idxOf x:Int) else -1
theorem AJO {x:Int}{l:List Int}{i:Nat}(h:l[i]?=some x) (hn:∀ j,j<i→l[j]?≠some x):Td x l=i:=by
 have h1:=List.mem_of_getElem? h
 rw [Td,if_pos h1]
 congr 1
 obtain ⟨hi,e⟩:=List.getElem?_eq_some_iff.1 h
 have h2:l.idxOf x<l.length:=List.idxOf_lt_length_of_mem h1
 have h3:l[l.idxOf x]=x:=List.getElem_idxOf h2
 rcases Nat.lt_trichotomy (l.idxOf x) i with h4|h4|h4
 ·exact absurd (by rw [List.getElem?_eq_getElem h2,h3]) (hn _ h4)
 ·exact h4
 ·exact absurd e (by have:=List.not_of_lt_findIdx (p:=(· == x)) (xs:=l) (i:=i) h4;simpa using this)
theorem AI7 {x:Int}{l:List Int}(h:x∉l):Td x l=-1:=by rw [Td,if_neg h]
theorem Ht {pl:Option Addr}{nl cl:Nat}{l:List Int}{x:Int}:Bs Tryz.prog 131 [.slice pl nl cl,.int .i64 x] [] [Ap Ai pl nl cl l] (Rv (.int .i64 (Td x l)) []):=by
 refine Ab (F:=Mt) rfl fun C=>?_
 refine Bb 0 rfl fun hn hb _=>?_
 subst hn
 have hb':l.length*8≤140737488355328:=hb
 refine wk 7 cz ?_
 refine Ah (X:=Nat) [0,1,7] [0] (fun i=>[(8,.int .i64 (i:Int))]) (fun _=>[]) (fun _=>[]) (fun i=>i≤l.length∧∀ j,j<i→l[j]?≠some x) (fun i=>l.length-i) 0 [] rfl rfl rfl ⟨Nat.zero_le _,fun j h=>by omega⟩ (by repeat (first|exact Fr.sub_nil _|refine Fr.sub_cons rfl ?_)) rfl rfl ?_
 rintro i ⟨hi,hno⟩ ih
 simp only [List.cons_append,List.nil_append] at hi ih ⊢
 by_cases h9:i<l.length
 ·obtain ⟨y,at_y⟩:∃ y,l[i]?=some y:=⟨_,List.getElem?_eq_getElem h9⟩
  by_cases h8:x=y
  ·subst h8
   rw [AJO at_y hno]
   refine wk 9 cz ?_
   intro h1 b1 o1 hz1
   refine Aa rfl (Av 0 rfl rfl Ci fun ⟨r1,r2⟩=>?_)
   refine wk 6 cz ?_
   intro h2
   exact ge
  ·refine wk 9 cz ?_
   intro h1 b1 o1 hz1
   refine Aa rfl (Av 0 rfl rfl Ci fun ⟨r1,r2⟩=>?_)
   refine wk 6 cz ?_
   intro h2
   exact tw (ih (i+1) (by omega) ⟨by omega,fun j hj=>by
    rcases Nat.lt_succ_iff_lt_or_eq.1 hj with h|rfl
    ·exact hno j h
    ·rw [at_y];exact fun e=>h8 (Option.some.inj e).symm⟩)
 ·rw [AI7 fun hm=>by
   obtain ⟨j,hj⟩:=List.mem_iff_getElem?.1 hm
   exact hno j (by have:=(List.getElem?_eq_some_iff.1 hj).1;omega) hj]
  refine wk 7 cz ?_
  intro h1
  exact ge
theorem Cl {pl:Option Addr}{nl cl:Nat}{l:List Int}{x:Int}{res:Bool}(hr:decide (x∈l)=res):Bs Tryz.prog 108 [.slice pl nl cl,.int .i64 x] [] [Ap Ai pl nl cl l] (Rv (.bool res) []):=by
 refine Ab (F:=Km) rfl fun C=>?_
 subst hr
 have e:decide (x∈l)=decide (0≤Td x l):=by
  by_cases h:x∈l
  ·rw [Td,if_pos h,decide_eq_true h,decide_eq_true (by omega)]
  ·rw [Td,if_neg h,decide_eq_false h,decide_eq_false (by omega)]
 have hlo:-1≤Td x l:=by rw [Td];split <;> omega
 rw [e]
 refine wk 7 (ct @Ht cz) ?_
 exact ge
theorem Hr {pl pk:Option Addr}{nl cl nk ck:Nat}{l k:List Int}{res:Bool}(hr:decide (l=k)=res):Bs Tryz.prog 151 [.slice pl nl cl,.slice pk nk ck] [] [Ap Ai pl nl cl l,Ap Ai pk nk ck k] (Rv (.bool res) []):=by
 refine Ab (F:=Mm) rfl fun C=>?_
 subst hr
 refine Bb 0 rfl fun hn hb _=>?_
 refine Bb 1 rfl fun hn2 hb2 _=>?_
 subst hn
 subst hn2
 have hb':l.length*8≤140737488355328:=hb
 have hb2':k.length*8≤140737488355328:=hb2
 by_cases hl:l.length=k.length
 ·refine wk 15 cz ?_
  intro h1
  refine Ah (X:=Nat) [0,1,12] [0,1] (fun i=>[(13,.int .i64 (i:Int))]) (fun _=>[]) (fun _=>[]) (fun i=>i≤l.length∧∀ j,j<i→l[j]?=k[j]?) (fun i=>l.length-i) 0 [] rfl rfl rfl ⟨Nat.zero_le _,fun j h=>by omega⟩ (by repeat (first|exact Fr.sub_nil _|refine Fr.sub_cons rfl ?_)) rfl rfl ?_
  rintro i ⟨hi,hno⟩ ih
  simp only [List.cons_append,List.nil_append] at hi ih ⊢
  by_cases h9:i<l.length
  ·obtain ⟨y,hy⟩:∃ y,l[i]?=some y:=⟨_,List.getElem?_eq_getElem h9⟩
   obtain ⟨z,hz⟩:∃ z,k[i]?=some z:=⟨_,List.getElem?_eq_getElem (by omega)⟩
   have ey:l.getD i default=y:=by rw [List.getD_eq_getElem?_getD,hy];rfl
   have ez:k.getD i default=z:=by rw [List.getD_eq_getElem?_getD,hz];rfl
   by_cases h8:y=z
   ·subst h8
    refine wk 13 cz ?_
    intro h2 b1 o1 b2 o2 h3
    exact tw (ih (i+1) (by omega) ⟨by omega,fun j hj=>by
     rcases Nat.lt_succ_iff_lt_or_eq.1 hj with h|rfl
     ·exact hno j h
     ·rw [hy,hz]⟩)
   ·rw [decide_eq_false (show l≠k from fun e=>by rw [e,hz] at hy;exact h8 (Option.some.inj hy).symm)]
    refine wk 13 cz ?_
    intro h2 b1 o1 b2 o2 h3
    exact ge
  ·rw [decide_eq_true (show l=k from List.ext_getElem? fun j=>by
    by_cases h:j<i
    ·exact hno j h
    ·rw [List.getElem?_eq_none (by omega),List.getElem?_eq_none (by omega)])]
   refine wk 7 cz ?_
   intro h2
   exact ge
 ·rw [decide_eq_false (show l≠k from fun e=>hl (by rw [e]))]
  refine wk 13 cz ?_
  intro h1
  exact ge
theorem AIb {P:Program}{F:Fun P}{C:Cx}{S:List It}{σ:Fr}{β:List A2}{Γ:List Fact}{R:Value→World→Prop}{α:Type}{E:Enc α}{n ca:Nat}{l:List α}(j:Nat) (hj:A4 Γ j=some (Ap E none n ca l)) (h:l=[]→J F C S σ β Γ R):J F C S σ β Γ R:=fun w hO hG=>by
 obtain ⟨hl,_,_,hs⟩:=hG _ (Af hj)
 rcases hs with e|⟨b,o,e,_⟩
 ·exact h e w hO hG
 ·cases e
theorem D7 {ps:Option Addr}{n cs:Nat}{l:List Int}:Bs Tryz.prog 73 [.slice ps n cs] [] [Ap Ai ps n cs l] (RwI n l):=by
 refine Ab (F:=Mk) rfl fun C=>?_
 refine Bb 0 rfl fun hn hb _=>?_
 subst hn
 have hb':l.length*8≤140737488355328:=hb
 cases ps with
 | none =>
  refine AIb 0 rfl fun hn=>?_
  subst hn
  refine wk 4 cz ?_
  refine Aa rfl (ADh Cb rfl rfl ?_)
  refine wk 5 cz ?_
  refine Fz Ai 3 ?_
  refine Dx 1 [0] [0] rfl (.tmp rfl .nil) rfl rfl rfl ⟨⟨none,0,[]⟩,rfl,rfl,rfl⟩
 | some a =>
  obtain ⟨b,o,w⟩:=a
  refine wk 4 cz ?_
  refine Aa rfl (Z8 Cb rfl rfl ?_)
  refine wk 5 cz ?_
  intro b1
  (apply L4 (E:=Dv IntKind.i64 8) (n:=0) (cs:=[]) [] [] 0 (fun w A hG=>Bf);(· rfl);(· rfl);(· rfl);(· rfl);(· decide))
  refine Aa rfl (Uk 0 0 1 rfl rfl rfl rfl rfl Cb Er rfl (by omega) _ Hf (by omega) fun r1=>?_)
  refine wk 2 cz ?_
  rw [Nat.zero_add,List.nil_append]
  refine Dx 1 [0] [0] rfl (.tmp rfl .nil) rfl rfl rfl ⟨r1,rfl,rfl,rfl⟩
def V2 (l:List Int) (q:Nat):Int:=if ∀ x∈l,0≤x∧x<(q:Int) then 0 else 2
theorem N7 {b p m q ng cg ne ce nl cl n c:Nat}{pg pe pl ps:Option Addr}{l:List Int}(hq:q≤256):Bs Tryz.prog 145 [.pointer (some ⟨b,0,none⟩),.slice ps n c] [] [I2 b p m q pg ng cg pe ne ce pl nl cl,Ap Ai ps n c l] (Rv (.int .i64 (V2 l q)) []):=by
 refine Ab (F:=Xj) rfl fun C=>?_
 refine Bb 1 rfl fun hn hb _=>?_
 subst hn
 have hb':l.length*8≤140737488355328:=hb
 refine wk 7 cz ?_
 refine Ah (X:=Nat) [0,7,8] [0,1] (fun i=>[(9,.int .i64 (i:Int))]) (fun _=>[]) (fun _=>[]) (fun i=>i≤l.length∧∀ x∈l.take i,0≤x∧x<(q:Int)) (fun i=>l.length-i) 0 [] rfl rfl rfl ⟨Nat.zero_le _,fun x h=>by simp at h⟩ (by repeat (first|exact Fr.sub_nil _|refine Fr.sub_cons rfl ?_)) rfl rfl ?_
 rintro i ⟨hi,hno⟩ ih
 simp only [List.cons_append,List.nil_append] at hi ih ⊢
 by_cases h9:i<l.length
 ·obtain ⟨y,at_y⟩:∃ y,l[i]?=some y:=⟨_,List.getElem?_eq_getElem h9⟩
  by_cases h8:0≤y∧y<(q:Int)
  ·have hd:decide (0≤y∧y<(q:Int))=true:=decide_eq_true h8
   refine wk 6 cz ?_
   intro h1 b1 o1 hz1
   refine Aa rfl (Av 0 rfl rfl Ci fun ⟨r1,r2⟩=>?_)
   refine wk 10 (ct @Ja cz) ?_
   exact tw (ih (i+1) (by omega) ⟨by omega,fun x hx=>by
    rw [List.take_add_one,at_y] at hx
    rcases List.mem_append.1 hx with hx|hx
    ·exact hno x hx
    ·rw [Option.toList_some,List.mem_singleton] at hx
     rw [hx];exact h8⟩)
  ·have hd:decide (0≤y∧y<(q:Int))=false:=decide_eq_false h8
   rw [V2,if_neg fun h=>h8 (h y (List.mem_of_getElem? at_y))]
   refine wk 6 cz ?_
   intro h1 b1 o1 hz1
   refine Aa rfl (Av 0 rfl rfl Ci fun ⟨r1,r2⟩=>?_)
   refine wk 10 (ct @Ja cz) ?_
   exact ge
 ·rw [V2,if_pos fun x hx=>hno x (by rwa [List.take_of_length_le (by omega)])]
  refine wk 7 cz ?_
  intro h1
  exact ge
def Uv (N:Int) (rows:List (List Int)) (q:Nat):Int :=
 if N<0∨256<N∨256<rows.length then 3 else if ∃ r∈rows,(r.length:Int)≠N then 3 else if ∀ r∈rows,∀ x∈r,0≤x∧x<(q:Int) then 0 else 2
theorem L0 {b p m q ng cg ne ce nl cl n c:Nat}{pg pe pl ps:Option Addr}{N:Int}{rows:List (List Int)}(hq:q≤256) (hN:Bv .i64 N):Bs Tryz.prog 172 [.pointer (some ⟨b,0,none⟩),.agg #[.int .i64 N,.slice ps n c]] [] [I2 b p m q pg ng cg pe ne ce pl nl cl,Ap (Aj Ai) ps n c rows] (Rv (.int .i64 (Uv N rows q)) []):=by
 refine Ab (F:=AAh) rfl fun C=>?_
 refine Bb 1 rfl fun hn hb _=>?_
 subst hn
 have hb':rows.length*24≤140737488355328:=hb
 obtain ⟨N0,N1⟩:=hN
 by_cases h1:N<0∨256<N∨256<rows.length
 ·rw [Uv,if_pos h1]
  by_cases a1:N<0
  ·refine wk 15 cz ?_
   intro b1 h2
   exact ge
  ·by_cases a2:256<N
   ·refine wk 21 cz ?_
    intro b1 h2 h3
    exact ge
   ·have a3:256<rows.length:=by omega
    refine wk 24 cz ?_
    intro b1 h2 h3 h4
    exact ge
 ·rw [Uv,if_neg h1]
  have a1:¬ N<0:=by omega
  have a2:¬ 256<N:=by omega
  have a3:¬ 256<rows.length:=by omega
  have tk:∀ {P:List Int→Prop}{i:Nat}{r:List Int},rows[i]?=some r→(∀ x∈rows.take i,P x)→P r→∀ x∈rows.take (i+1),P x:=fun hr h hp x hx=>by
   rw [List.take_add_one,hr] at hx
   rcases List.mem_append.1 hx with hx|hx
   ·exact h x hx
   ·rw [Option.toList_some,List.mem_singleton] at hx
    rw [hx];exact hp
  refine wk 27 cz ?_
  intro b1 h2 h3 h4
  refine Ah (X:=Nat) [0,3,25,26] [0,1] (fun i=>[(27,.int .i64 (i:Int))]) (fun _=>[(some b1,62,[.int .i64 N,.slice ps rows.length c])]) (fun _=>[]) (fun i=>i≤rows.length∧∀ r∈rows.take i,(r.length:Int)=N) (fun i=>rows.length-i) 0 [] rfl rfl rfl ⟨Nat.zero_le _,fun x h=>by simp at h⟩ (by repeat (first|exact Fr.sub_nil _|refine Fr.sub_cons rfl ?_)) rfl rfl ?_
  rintro i ⟨hi,hno⟩ ih
  simp only [List.cons_append,List.nil_append] at hi ih ⊢
  by_cases h9:i<rows.length
  ·obtain ⟨r,at_r⟩:∃ r,rows[i]?=some r:=⟨_,List.getElem?_eq_getElem h9⟩
   by_cases h8:(r.length:Int)=N
   ·refine wk 19 cz ?_
    intro h5 b2 o1 hz1 pa1 ca1 h6
    exact tw (ih (i+1) (by omega) ⟨by omega,tk at_r hno h8⟩)
   ·rw [if_pos ⟨r,List.mem_of_getElem? at_r,h8⟩]
    refine wk 19 cz ?_
    intro h5 b2 o1 hz1 pa1 ca1 h6
    exact ge
  ·have hlen:∀ r∈rows,(r.length:Int)=N:=fun r hr=>hno r (by rwa [List.take_of_length_le (by omega)])
   rw [if_neg fun ⟨r,hr,h⟩=>h (hlen r hr)]
   clear ih hno hi
   refine wk 10 cz ?_
   intro h5
   refine Ah (X:=Nat) [0,38,39] [0,1] (fun i=>[(40,.int .i64 (i:Int))]) (fun _=>[(some b1,62,[.int .i64 N,.slice ps rows.length c])]) (fun _=>[]) (fun i=>i≤rows.length∧∀ r∈rows.take i,∀ x∈r,0≤x∧x<(q:Int)) (fun i=>rows.length-i) 0 [] rfl rfl rfl ⟨Nat.zero_le _,fun x h=>by simp at h⟩ (by repeat (first|exact Fr.sub_nil _|refine Fr.sub_cons rfl ?_)) rfl rfl ?_
   rintro i ⟨hi,hno⟩ ih
   simp only [List.cons_append,List.nil_append] at hi ih ⊢
   by_cases h9:i<rows.length
   ·obtain ⟨r,at_r⟩:∃ r,rows[i]?=some r:=⟨_,List.getElem?_eq_getElem h9⟩
    by_cases h8:∀ x∈r,0≤x∧x<(q:Int)
    ·have he:V2 r q=0:=by rw [V2,if_pos h8]
     refine wk 19 (ct @N7 cz) ?_
     intro h6 b2 o1 hz1 pa1 ca1 h7
     exact tw (ih (i+1) (by omega) ⟨by omega,tk at_r hno h8⟩)
    ·have he:V2 r q=2:=by rw [V2,if_neg h8]
     rw [if_neg fun h=>h8 (h r (List.mem_of_getElem? at_r)),← he]
     refine wk 19 (ct @N7 cz) ?_
     intro h6 b2 o1 hz1 pa1 ca1 h7
     exact ge
   ·rw [if_pos fun r hr=>hno r (by rwa [List.take_of_length_le (by omega)])]
    refine wk 7 cz ?_
    intro h6
    exact ge
theorem Zz {T D:List Int}{i n:Nat}{v:Int}(hT:T.length=n) (hD:D.length=n) (hi:i<n) (hv:T[i]?=some v):(T.take i++D.drop i).set i v=T.take (i+1)++D.drop (i+1):=by
 have hl:(T.take i).length=i:=by rw [List.length_take];omega
 rw [List.set_append_right _ _ (by omega),hl,Nat.sub_self,List.drop_eq_getElem_cons (by omega),List.set_cons_zero,List.take_add_one,hv,List.append_assoc]
 rfl
theorem ABJ {T D:List Int}{i n:Nat}(hT:T.length=n) (hD:D.length=n) (hi:i<n):(T.take i++D.drop i)[i]?=D[i]?:=by
 have hl:(T.take i).length=i:=by rw [List.length_take];omega
 rw [List.getElem?_append_right (by omega),hl,Nat.sub_self,List.getElem?_drop,Nat.add_zero]
theorem ACu {b p m n ng cg ce cl:Nat}{pg pe pl:Option Addr}{r r2:Row}{c:Int}{u v md:List Int}(K:Fok p m md) (c0:0≤c) (c1:c<((p ^ m:Nat):Int)) (hu:Wd (p ^ m) n u) (hv:Wd (p ^ m) n v) (hn:n≤1000000) :
  Bs Tryz.prog 179 [.pointer (some ⟨b,0,none⟩),.slice (ad r.bo) n r.cap,.int .i64 c,.slice (ad r2.bo) n r2.cap] [(r.bo,3,r.cs),(r2.bo,3,r2.cs)] [I2 b p m (p ^ m) pg ng cg pe (p ^ m-1) ce pl (p ^ m) cl,Ap Ai pe (p ^ m-1) ce (Jg p m md),Ap Ai pl (p ^ m) cl (Jf p m md),A6 Ai r n u,A6 Ai r2 n v]
   (fun w Φ β=>∃ cs',w = .tuple #[]∧Φ=[A6 Ai ⟨r.bo,r.cap,cs'⟩ n (Ey (Ad (fA p m)) (Ad (fM p (Ax m md))) c v u),A6 Ai r2 n v]∧β=[(r.bo,3,cs'),(r2.bo,3,r2.cs)]):=by
 refine Ab (F:=V9) rfl fun C=>?_
 have FF:=K.fi
 have A8:=fun {b ng cg ce cl:Nat}{pg pe pl:Option Addr}{x y:Int}=>C1 (b:=b) (ng:=ng) (cg:=cg) (ce:=ce) (cl:=cl) (pg:=pg) (pe:=pe) (pl:=pl) (x:=x) (y:=y) K
 have Bq:=fun {b ng cg ne ce nl cl:Nat}{pg pe pl:Option Addr}{x y:Int}=>De (b:=b) (ng:=ng) (cg:=cg) (ne:=ne) (ce:=ce) (nl:=nl) (cl:=cl) (pg:=pg) (pe:=pe) (pl:=pl) (x:=x) (y:=y) K.p2 K.m1 K.q
 have hq:=K.q
 have hax:=FF.axw c0 c1 hv hu
 generalize Ad (fM p (Ax m md))=M at *
 generalize Ad (fA p m)=A0 at *
 generalize Jg p m md=ex at *
 generalize Jf p m md=lg at *
 generalize p ^ m=q at *
 obtain ⟨bo,cap,cs⟩:=r
 dsimp only
 have hul:=hu.1
 have hvl:=hv.1
 have hal:=hax.1
 rcases Nat.eq_zero_or_pos n with hn0|hn0
 ·subst hn0
  obtain rfl:=List.length_eq_zero_iff.1 hul
  obtain rfl:=List.length_eq_zero_iff.1 hvl
  refine wk 5 cz ?_
  refine Ah (X:=Unit) [0,1,2,10,11] [0,1,2,3,4] (fun _=>[(12,.int .i64 0)]) (fun _=>[(bo,3,cs),(r2.bo,3,r2.cs)]) (fun _=>[]) (fun _=>True) (fun _=>0) () [] rfl rfl rfl trivial (by repeat (first|exact Fr.sub_nil _|refine Fr.sub_cons rfl ?_)) rfl rfl ?_
  rintro ⟨⟩-ih
  simp only [List.cons_append,List.nil_append] at ih ⊢
  refine wk 5 cz ?_
  intro h1
  refine Co [3,4] rfl rfl ⟨_,rfl,rfl,rfl⟩
 refine Dt 3 rfl hn0 fun b9 cap9 cs9 hr=>?_
 obtain ⟨rfl,rfl,rfl⟩:=Row.mk.inj hr
 refine wk 5 cz ?_
 refine Ah (X:=Nat×List Value) [0,1,2,10,11] [0,1,2,3,4] (fun x=>[(12,.int .i64 (x.1:Int))]) (fun x=>[(some b9,3,x.2),(r2.bo,3,r2.cs)])
  (fun x=>[A6 Ai ⟨some b9,cap,x.2⟩ n ((Ey A0 M c v u).take x.1++u.drop x.1)]) (fun x=>x.1≤n) (fun x=>n-x.1) (0,cs) [3] rfl rfl rfl (Nat.zero_le _) (by repeat (first|exact Fr.sub_nil _|refine Fr.sub_cons rfl ?_)) rfl rfl ?_
 rintro ⟨k,cs⟩ hk ih
 simp only [List.cons_append,List.nil_append] at hk ih ⊢
 by_cases hkl:k<n
 ·obtain ⟨x,at_x⟩:∃ x,v[k]?=some x:=⟨_,List.getElem?_eq_getElem (by omega)⟩
  obtain ⟨y,hy⟩:∃ y,u[k]?=some y:=⟨_,List.getElem?_eq_getElem (by omega)⟩
  obtain ⟨x0,x1⟩:=hv.2 x (List.mem_of_getElem? at_x)
  obtain ⟨y0,y1⟩:=hu.2 y (List.mem_of_getElem? hy)
  have hT:(Ey A0 M c v u)[k]?=some (A0 y (M c x)):=by rw [Ey,List.getElem?_zipWith,hy,at_x]
  have hL:=(ABJ hal hul hkl).trans hy
  have hset:=Zz hal hul hkl hT
  have hLl:((Ey A0 M c v u).take k++u.drop k).length=n:=by rw [List.length_append,List.length_take,List.length_drop];omega
  have ih':=fun cs=>ih (k+1,cs) (by dsimp only;omega) (by dsimp only;omega)
  dsimp only at ih'
  rw [← hset] at ih'
  obtain ⟨m0,m1⟩:=FF.ml c x c0 c1 x0 x1
  generalize (Ey A0 M c v u).take k++u.drop k=L at *
  by_cases h0:x=0
  ·have e0:L.set k (A0 y (M c x))=L:=by
    have:A0 y (M c x)=y:=by rw [h0,FF.m0 c0 c1,FF.a0 y y0 y1]
    rw [this]
    obtain ⟨h1,h2⟩:=List.getElem?_eq_some_iff.1 hL
    rw [← h2,List.set_getElem_self]
   rw [e0] at ih'
   refine wk 6 cz ?_
   intro h1
   refine Dt 5 rfl (by omega) fun b1 cap1 cs1 hr1=>?_
   subst hr1
   dsimp only
   refine wk 10 cz ?_
   intro hr1 h2
   exact tw (ih' cs)
  ·obtain ⟨a0,a1⟩:=FF.al y (M c x) y0 y1 m0 m1
   refine wk 6 cz ?_
   intro h1
   refine Dt 5 rfl (by omega) fun b1 cap1 cs1 hr1=>?_
   subst hr1
   dsimp only
   refine wk 9 (ct @A8 (ct @Bq cz)) ?_
   intro hr1 h2
   refine Aa rfl (G4 (vs:=[Value.int IntKind.i64 (A0 y (M c x))]) (z:=(A0 y (M c x):Int)) 0 0 (k) rfl rfl rfl rfl rfl Ci (Nat.mul_one _).symm (by omega) (fun w A hG=>(Dh (by first|(simp only [Bv];omega)|(simp [Bv];done)))) fun cs2=>?_)
   refine wk 3 cz ?_
   exact tw (ih' cs2)
 ·obtain rfl:n=k:=by omega
  rw [List.take_of_length_le (by omega),List.drop_of_length_le (by omega),List.append_nil]
  refine wk 5 cz ?_
  intro h1
  refine Co [0,5] rfl rfl ⟨_,rfl,rfl,rfl⟩
abbrev MxI (m:Nat) (ls:Nat→List Int):Value→List Fact→List A2→Prop:=fun v Φ β=>∃ (r:Row) (hd:Nat→Hd) (cs:Nat→List Value),v = .slice (ad r.bo) m r.cap∧Φ=[A6 Sd r m (Iv hd m),Ej Ai hd cs ls m []]∧β=(r.bo,22,r.cs)::Da 3 hd cs m []
theorem Sc {ps:Option Addr}{m c:Nat}{rows:List (List Int)}(hm:m≤1000000):Bs Tryz.prog 173 [.slice ps m c] [] [Ap (Aj Ai) ps m c rows] (MxI m (Ar rows)):=by
 refine Ab (F:=Zc) rfl fun C=>?_
 refine Bb 0 rfl fun hn hb _=>?_
 subst hn
 have hb':rows.length*24≤140737488355328:=hb
 refine wk 5 cz ?_
 refine Aa rfl (ACj (rows.length) _ rfl rfl D5 I5 rfl rfl Nd (by omega) (by omega) (by omega) fun b1=>?_)
 refine wk 6 cz ?_
 refine AHP 0 rfl (by omega) fun csA=>?_
 refine AAs Ai 3 0 ?_
 simp only [setB,List.cons_append,List.nil_append]
 refine Br (Ar rows) 0 rfl (fun g hg=>absurd hg (Nat.not_lt_zero g)) ?_
 skip
 refine Ah (X:=Nat×List Value×(Nat→Hd)×(Nat→List Value)) [2,3,9,10] [0,1,2,3] (fun x=>[(11,.int .i64 (x.1:Int))])
  (fun x=>(some b1,22,x.2.1)::Da 3 x.2.2.1 x.2.2.2 x.1 [])
  (fun x=>[A6 Sd ⟨some b1,rows.length,x.2.1⟩ rows.length (Iv x.2.2.1 rows.length),Ej Ai x.2.2.1 x.2.2.2 (Ar rows) x.1 []])
  (fun x=>x.1≤rows.length) (fun x=>rows.length-x.1) (0,csA,fun _=>(none,0,0),fun _=>[]) [2,0] rfl rfl rfl (Nat.zero_le _) (by repeat (first|exact Fr.sub_nil _|refine Fr.sub_cons rfl ?_)) rfl rfl ?_
 rintro ⟨k,hc,hd,cs⟩ hk ih
 simp only [List.cons_append,List.nil_append] at hk ih ⊢
 by_cases hkl:k<rows.length
 ·obtain ⟨u,at_u⟩:∃ u,rows[k]?=some u:=⟨_,List.getElem?_eq_getElem hkl⟩
  refine wk 13 (ct @D7 cz) ?_
  intro h1 b2 o1 hz1 pa1 ca1 r1
  refine Aa rfl (G4 (vs:=[Value.slice (ad r1.bo) u.length r1.cap]) (z:=(r1.bo,u.length,r1.cap)) 1 3 (k) rfl rfl rfl rfl rfl Fb (Nat.mul_one _).symm (by omega) (fun w A hG=>(Tv _ _ _)) fun cs1=>?_)
  refine wk 3 cz ?_
  try simp only [setB,List.set_cons_succ,List.set_cons_zero]
  rw [K7]
  refine AEJ 1 0 1 5 rfl rfl rfl rfl ?_
  simp only [List.eraseIdx_cons_zero,List.eraseIdx_cons_succ,List.take_succ_cons,List.take_zero,List.cons_append,List.nil_append]
  refine Br (Ar rows) 0 rfl (fun g hg=>by
   by_cases e:g=k
   ·subst e
    rw [Bn,Ar,List.getD_eq_getElem?_getD,at_u];rfl
   ·rw [C0 e]) ?_
  exact tw (ih (k+1,cs1,Ek hd k (r1.bo,u.length,r1.cap),Ek cs k r1.cs) (by dsimp only;omega) (by dsimp only;omega))
 ·obtain rfl:rows.length=k:=by omega
  refine wk 7 cz ?_
  intro h1
  refine Dx 1 [0] [0,1] rfl (.tmp rfl .nil) rfl rfl rfl ⟨⟨some b1,rows.length,hc⟩,hd,cs,rfl,rfl,rfl⟩
section
variable {P:Program}{F:Fun P}{C:Cx}{S:List It}{R:Value→World→Prop}{β:List A2}{Γ:List Fact}{it:List (TypeId×IntKind)}{L:List Oper}{p:List Nat}{σ:Fr}{i:Nat}{op:Op}{ty:TypeId}{d:Option Tmp}
def ADb (P:Program) (C:Cx) (nt:Nat) (L:List Oper) (σm σ:Fr) (β:List A2) (Γ:List Fact):List Nat→Prop
 | []=>True
 | j::A=>(∃ o d u,A4 L j=some o∧o.guard=none∧o.dst=some d∧Nat.blt d nt=true∧Fr.get d σ=some u∧Fc P C o.op o.type σm β Γ fun v β' Γ'=>v=u∧β'=β∧Γ'=Γ)∧ADb P C nt L σm σ β Γ A
theorem AF1 {nt:Nat}{σm σ:Fr}:∀ {A:List Nat},ADb P C nt L σm σ β Γ A→∀ j∈A,∃ o d u,A4 L j=some o∧o.guard=none∧o.dst=some d∧Nat.blt d nt=true∧Fr.get d σ=some u∧Fc P C o.op o.type σm β Γ fun v β' Γ'=>v=u∧β'=β∧Γ'=Γ:=by
 intro A
 induction A with
 | nil=>intro _ j hj;cases hj
 | cons x A ih =>
  intro h j hj
  rcases List.mem_cons.1 hj with rfl|hj
  ·exact h.1
  ·exact ih h.2 j hj
theorem ABa {A pend l:List Nat}{j:Nat}{a:Act}{w:World}{K:List Item}(hL:ADb P C F.fn.ntmps (Ak (sub p F.B)) (Qh A (Ak (sub p F.B)) σ) σ β Γ A) (hpA:∀ j∈pend,j∈A) (hj:j∈pend)
  (hsz:a.tmps.size=F.fn.ntmps) (hdf:a.defers=F.dfs) (hfr:∀ t v,(∀ j∈pend,Cd (Ak (sub p F.B)) j≠some t)→Fr.get t σ=some v→a.tmps[t]?=some v) (hO:Own C w β) (hG:∀ f∈Γ,f.holds w (ok C w β))
  (h:∀ (a':Act) (w':World),a'.tmps.size=F.fn.ntmps→a'.defers=F.dfs→(∀ t v,(∀ j'∈pend.erase j,Cd (Ak (sub p F.B)) j'≠some t)→Fr.get t σ=some v→a'.tmps[t]?=some v)→Own C w' β→(∀ f∈Γ,f.holds w' (ok C w' β))→At F (.inRegion (Ak (sub p F.B)).toArray l::K) a' w' R) :
  At F (.inRegion (Ak (sub p F.B)).toArray (j::l)::K) a w R:=by
 obtain ⟨o,d,u,h1,h2,h3,h4,h5,h6⟩:=AF1 hL j (hpA j hj)
 have hfit:Fits F.fn.ntmps F.dfs (Qh A (Ak (sub p F.B)) σ) a:=⟨hsz,hdf,fun t v hv=>by
  obtain ⟨g1,g2⟩:=S1 hv
  exact hfr t v (fun j hj=>g1 j (hpA j hj)) g2⟩
 have ho:(Ak (sub p F.B)).toArray[j]?=some o:=by
  rw [B8] at h1
  simpa using h1
 have hdlt:d<a.tmps.size:=by rw [hsz];exact Nat.le_of_ble_eq_true h4
 refine Kv ho (by simp [Region.wanted,h2]) (post:=fun v w'=>∃ β' Γ',(v=u∧β'=β∧Γ'=Γ)∧Own C w' β'∧∀ f∈Γ',f.holds w' (ok C w' β')) (by rw [Gg];exact h6 w hO hG a.eval fun x v hv=>hfit.eval hv) ?_
 rintro v w' ⟨_,_,⟨rfl,rfl,rfl⟩,hO',hG'⟩
 rw [h3]
 refine h _ w' (by simp [Act.put,hsz]) (by simp [Act.put,hdf]) (fun t x hno hx=>?_) hO' hG'
 have hdj:Cd (Ak (sub p F.B)) j=some d:=by simp [Cd,h1,h3]
 by_cases e:d=t
 ·subst e
  rw [h5] at hx
  rw [← Option.some.inj hx]
  simp [Act.put,hdlt]
 ·simp only [Act.put]
  rw [Array.getElem?_setIfInBounds_ne e]
  refine hfr t x (fun j' hj'=>?_) hx
  by_cases ej:j'=j
  ·rw [ej,hdj];exact fun h=>e (Option.some.inj h)
  ·exact hno j' ((List.mem_erase_of_ne ej).2 hj')
theorem AC1 {A:List Nat}(hL:ADb P C F.fn.ntmps (Ak (sub p F.B)) (Qh A (Ak (sub p F.B)) σ) σ β Γ A) (h:J F C (.o p i::S) σ β Γ R):WIN F C p A 0 i S σ β Γ R:=by
 intro pend sched hpA hnd hI w hO hG
 have key:∀ n (pend sched:List Nat),pend.length=n→(∀ j∈pend,j∈A∧j<i)→Inter (Ak (sub p F.B)) A (i+0) pend i sched→∀ w,Own C w β→(∀ f∈Γ,f.holds w (ok C w β))→∀ a:Act,a.tmps.size=F.fn.ntmps→a.defers=F.dfs →
   (∀ t v,(∀ j∈pend,Cd (Ak (sub p F.B)) j≠some t)→Fr.get t σ=some v→a.tmps[t]?=some v)→At F (.inRegion (Ak (sub p F.B)).toArray sched::S.map (It.item F.B)) a w R:=by
  intro n
  induction n with
  | zero =>
   intro pend sched hl hpA hI w hO hG a hsz hdf hfr
   have:pend=[]:=List.eq_nil_of_length_eq_zero hl
   subst this
   cases hI with
   | done=>exact h w hO hG a ⟨hsz,hdf,fun t v hv=>hfr t v (fun j hj=>by cases hj) hv⟩
   | pend hj _ _=>cases hj
   | tail _ h2 _ _=>omega
   | issue _ h2 _ _=>omega
  | succ n ih =>
   intro pend sched hl hpA hI w hO hG a hsz hdf hfr
   cases hI with
   | done=>simp at hl
   | pend hj _ hI' =>
    exact ABa hL (fun j hj=>(hpA j hj).1) hj hsz hdf hfr hO hG fun a' w' h1 h2 h3 hO hG=>ih _ _ (by rw [List.length_erase_of_mem hj];omega) (fun j' hj'=>hpA j' (List.mem_of_mem_erase hj')) hI' w' hO hG a' h1 h2 h3
   | tail _ h2 _ _=>omega
   | issue _ h2 _ _=>omega
 exact fun a=>key _ pend sched rfl hpA hI w hO hG a
theorem ABi {A:List Nat}{m:Nat}(ho:Z6 F p i=some (d,op,ty)) (hw:AJ9 (Ak (sub p F.B)) A d=true) (hL:ADb P C F.fn.ntmps (Ak (sub p F.B)) (Qh A (Ak (sub p F.B)) σ) σ β Γ A)
  (hx:Fc P C op ty (Qh A (Ak (sub p F.B)) σ) β Γ fun v β' Γ'=>WIN F C p A m (i+1) S (putF d v σ) β' Γ' R) (hni:Bd i A=false:=by rfl):WIN F C p A (m+1) i S σ β Γ R:=by
 have hni:i∉A:=fun h=>by rw [C6.2 h] at hni;cases hni
 intro pend sched hpA hnd hI w hO hG
 obtain ⟨pos,after,hn,hd⟩:=Wy ho
 have hoarr:(Ak (sub p F.B)).toArray[i]?=some ⟨d,op,ty,pos,after,none⟩:=by
  rw [B8] at hn
  simpa using hn
 have hil:i<(Ak (sub p F.B)).length:=by
  rw [B8] at hn
  exact (List.getElem?_eq_some_iff.1 hn).1
 have hwn:∀ t,d=some t→∀ j∈A,Cd (Ak (sub p F.B)) j≠some t:=fun t ht j hj e=>by
  subst ht
  have:=List.all_eq_true.1 hw j hj
  rw [e] at this
  simp at this
 -- the operation itself
 have exec:∀ (pend l:List Nat) (a:Act),(∀ j∈pend,j∈A∧j<i)→pend.Nodup→Inter (Ak (sub p F.B)) A (i+1+m) pend (i+1) l→∀ w,Own C w β→(∀ f∈Γ,f.holds w (ok C w β))→a.tmps.size=F.fn.ntmps→a.defers=F.dfs →
   (∀ t v,(∀ j∈pend,Cd (Ak (sub p F.B)) j≠some t)→Fr.get t σ=some v→a.tmps[t]?=some v)→At F (.inRegion (Ak (sub p F.B)).toArray (i::l)::S.map (It.item F.B)) a w R:=by
  intro pend l a hpA hnd hI w hO hG hsz hdf hfr
  have hfit:Fits F.fn.ntmps F.dfs (Qh A (Ak (sub p F.B)) σ) a:=⟨hsz,hdf,fun t v hv=>by
   obtain ⟨g1,g2⟩:=S1 hv
   exact hfr t v (fun j hj=>g1 j (hpA j hj).1) g2⟩
  refine Kv hoarr (by simp [Region.wanted]) (post:=fun v w'=>∃ β' Γ',WIN F C p A m (i+1) S (putF d v σ) β' Γ' R∧Own C w' β'∧∀ f∈Γ',f.holds w' (ok C w' β')) ?_ ?_
  ·rw [Gg]
   exact hx w hO hG a.eval fun x v hv=>hfit.eval hv
  ·rintro v w' ⟨β',Γ',hW,hO',hG'⟩
   refine hW pend l (fun j hj=>⟨(hpA j hj).1,by have:=(hpA j hj).2;omega⟩) hnd hI w' hO' hG' _ (by cases hd':d <;> simp [Act.put,hsz]) (by cases hd':d <;> simp [Act.put,hdf]) fun t x hno hx=>?_
   cases hd':d with
   | none =>
    rw [hd'] at hx
    exact hfr t x hno hx
   | some dd =>
    rw [hd'] at hx
    simp only [putF,Fr.get] at hx
    by_cases e:dd=t
    ·subst e
     rw [Nat.beq_refl] at hx
     have hlt:dd<a.tmps.size:=by rw [hsz];exact hd dd hd'
     rw [← Option.some.inj hx]
     simp [Act.put,hlt]
    ·have hb:Nat.beq dd t=false:=by
      cases hb:Nat.beq dd t with
      | true=>exact absurd (Nat.eq_of_beq_eq_true hb) e
      | false=>rfl
     rw [hb] at hx
     simp only [Act.put]
     rw [Array.getElem?_setIfInBounds_ne e]
     exact hfr t x hno hx
 have key:∀ n (pend sched:List Nat),pend.length=n→(∀ j∈pend,j∈A∧j<i)→pend.Nodup→Inter (Ak (sub p F.B)) A (i+(m+1)) pend i sched→∀ w,Own C w β→(∀ f∈Γ,f.holds w (ok C w β))→∀ a:Act,a.tmps.size=F.fn.ntmps→a.defers=F.dfs →
   (∀ t v,(∀ j∈pend,Cd (Ak (sub p F.B)) j≠some t)→Fr.get t σ=some v→a.tmps[t]?=some v)→At F (.inRegion (Ak (sub p F.B)).toArray sched::S.map (It.item F.B)) a w R:=by
  have ee:i+(m+1)=i+1+m:=by omega
  intro n
  induction n with
  | zero =>
   intro pend sched hl hpA hnd hI w hO hG a hsz hdf hfr
   have:pend=[]:=List.eq_nil_of_length_eq_zero hl
   subst this
   have er:List.range' i ((Ak (sub p F.B)).length-i)=i::List.range' (i+1) ((Ak (sub p F.B)).length-(i+1)):=by
    have e:(Ak (sub p F.B)).length-i=((Ak (sub p F.B)).length-(i+1))+1:=by omega
    rw [e,List.range'_succ]
   cases hI with
   | done=>rw [er];exact exec [] _ a hpA hnd .done w hO hG hsz hdf hfr
   | pend hj _ _=>cases hj
   | tail _ _ _ hI'=>rw [ee] at hI';exact exec [] _ a hpA hnd hI' w hO hG hsz hdf hfr
   | issue _ _ h _=>exact absurd h hni
  | succ n ih =>
   intro pend sched hl hpA hnd hI w hO hG a hsz hdf hfr
   cases hI with
   | done=>simp at hl
   | pend hj _ hI' =>
    exact ABa hL (fun j hj=>(hpA j hj).1) hj hsz hdf hfr hO hG fun a' w' h1 h2 h3 hO hG=>ih _ _ (by rw [List.length_erase_of_mem hj];omega) (fun j' hj'=>hpA j' (List.mem_of_mem_erase hj')) (hnd.erase _) hI' w' hO hG a' h1 h2 h3
   | tail _ _ _ hI'=>rw [ee] at hI';exact exec pend _ a hpA hnd hI' w hO hG hsz hdf hfr
   | issue _ _ h _=>exact absurd h hni
 exact fun a=>key _ pend sched rfl hpA hnd hI w hO hG a
end
theorem R6 {rh:Row}{m t k bk bt:Nat}{hd:Nat→Hd}(ht:t<m) (hk:k<m) (hm:m≤1000000) :
  Bs Tryz.prog 203 [.slice (ad rh.bo) m rh.cap,.pointer (some ⟨bk,0,none⟩),.pointer (some ⟨bt,0,none⟩)] [(some bk,3,[.int .i64 k]),(some bt,3,[.int .i64 t]),(rh.bo,22,rh.cs)] [A6 Sd rh m (Iv hd m)]
   (fun v Φ β=>∃ cs',v = .tuple #[]∧Φ=[A6 Sd ⟨rh.bo,rh.cap,cs'⟩ m (Iv (Ek (Ek hd t (hd k)) k (hd t)) m)]∧β=[(some bk,3,[.int .i64 k]),(some bt,3,[.int .i64 t]),(rh.bo,22,cs')]):=by
 refine Ab (F:=Rl) rfl fun C=>?_
 refine Dt 0 rfl (by omega) fun b cap cs hr=>?_
 subst hr
 have z1:(Iv hd m)[k]?=some ((hd k).1,(hd k).2.1,(hd k).2.2):=K5 hk
 have z2:(Iv hd m)[t]?=some ((hd t).1,(hd t).2.1,(hd t).2.2):=K5 ht
 (apply Ga (x0:=none) it mx 0 13 [2,3] 1;(· rfl);(· rfl);(· rfl);(· decide))
 simp only [List.drop_zero]
 (apply A3 1;(· rfl);(· simp))
 (apply Ac;(· rfl);(· exact Ca 1 rfl rfl Ci rfl))
 (apply A3 1;(· rfl);(· simp))
 (apply Ac;(· rfl);(· exact Ca 0 rfl rfl Ci rfl))
 (apply A3 1;(· rfl);(· simp))
 (apply Ac;(· rfl);(· exact Ca 0 rfl rfl Ci rfl))
 (apply Ac;(· rfl);(· exact Cf fun _=>Be (k) (k) rfl rfl D5 rfl (by omega) (Nat.mul_one _) An))
 (apply Ac;(· rfl);(· exact F4 2 0 (k) rfl rfl rfl Fb rfl (by assumption)))
 dsimp only
 (apply A3 1;(· rfl);(· simp))
 (apply Ac;(· rfl);(· exact Ca 1 rfl rfl Ci rfl))
 (apply Ac;(· rfl);(· exact Cf fun _=>Be (t) (t) rfl rfl D5 rfl (by omega) (Nat.mul_one _) An))
 (apply Ac;(· rfl);(· exact F4 2 0 (t) rfl rfl rfl Fb rfl (by assumption)))
 dsimp only
 (apply Ac;(· rfl);(· exact Cf fun _=>Be (t) (t) rfl rfl D5 rfl (by omega) (Nat.mul_one _) An)) --ok
 refine Fl rfl ?_
 rotate_left
 rfl
 simp only [List.map_nil,List.nil_append]
 refine ABi rfl rfl ⟨⟨_,_,_,rfl,rfl,rfl,rfl,rfl,Jz it rfl (by trivial) ⟨rfl,rfl,rfl⟩⟩,⟨⟨_,_,_,rfl,rfl,rfl,rfl,rfl,Bm 0 rfl rfl Ci rfl ⟨rfl,rfl,rfl⟩⟩,trivial⟩⟩ (G4 (vs:=[Value.slice (ad (hd k).fst) (hd k).snd.fst (hd k).snd.snd]) (z:=((hd k).fst,(hd k).snd.fst,(hd k).snd.snd)) 2 0 (t) rfl rfl rfl rfl rfl Fb (Nat.mul_one _).symm (by omega) (fun w A hG=>(Tv _ _ _)) fun cs1=>?_)
 refine AC1 ⟨⟨_,_,_,rfl,rfl,rfl,rfl,rfl,Jz it rfl (by trivial) ⟨rfl,rfl,rfl⟩⟩,⟨⟨_,_,_,rfl,rfl,rfl,rfl,rfl,Bm 0 rfl rfl Ci rfl ⟨rfl,rfl,rfl⟩⟩,trivial⟩⟩ ?_
 simp only [setB,List.set_cons_succ,List.set_cons_zero]
 rw [K7]
 refine wk 1 cz ?_
 refine Aa rfl (G4 (vs:=[Value.slice (ad (hd t).fst) (hd t).snd.fst (hd t).snd.snd]) (z:=((hd t).fst,(hd t).snd.fst,(hd t).snd.snd)) 2 0 (k) rfl rfl rfl rfl rfl Fb (Nat.mul_one _).symm (by omega) (fun w A hG=>(Tv _ _ _)) fun cs2=>?_)
 refine wk 1 cz ?_
 simp only [setB,List.set_cons_succ,List.set_cons_zero]
 rw [K7]
 refine Co [0] rfl rfl ⟨cs2,rfl,rfl,rfl⟩
open Go Go.Fw
set_option maxRecDepth 100000
set_option linter.unusedVariables false
set_option linter.unusedSimpArgs false
set_option maxHeartbeats 0
theorem Rm {b p m ng cg ce cl:Nat}{pg pe pl:Option Addr}{md:List Int}{rh:Row}{n N i t bg bi bf bt:Nat}{c:Int}{hd:Nat→Hd}{cs:Nat→List Value}{ls:Nat→List Int}(K:Fok p m md) (c0:0≤c) (c1:c<((p ^ m:Nat):Int)) (hi:i<n) (ht:t<n) (hit:i≠t) (hn:n≤1000000) (hN:N≤1000000) (hls:∀ k,k<n→Wd (p ^ m) N (ls k)) :
  Bs Tryz.prog 206 [.slice (ad rh.bo) n rh.cap,.pointer (some ⟨bg,0,none⟩),.pointer (some ⟨bi,0,none⟩),.pointer (some ⟨bf,0,none⟩),.pointer (some ⟨bt,0,none⟩)]
   ((some bg,76,[.pointer (some ⟨b,0,none⟩)])::(some bi,3,[.int .i64 i])::(some bf,3,[.int .i64 c])::(some bt,3,[.int .i64 t])::(rh.bo,22,rh.cs)::Da 3 hd cs n [])
   [I2 b p m (p ^ m) pg ng cg pe (p ^ m-1) ce pl (p ^ m) cl,Ap Ai pe (p ^ m-1) ce (Jg p m md),Ap Ai pl (p ^ m) cl (Jf p m md),A6 Sd rh n (Iv hd n),Ej Ai hd cs ls n []]
   (fun v Φ β=>∃ cs',v = .tuple #[]∧Φ=[A6 Sd rh n (Iv hd n),Ej Ai hd cs' (Ek ls i (Ey (Ad (fA p m)) (Ad (fM p (Ax m md))) ((nP p m c.toNat:Nat):Int) (ls t) (ls i))) n []]∧β=(some bg,76,[.pointer (some ⟨b,0,none⟩)])::(some bi,3,[.int .i64 i])::(some bf,3,[.int .i64 c])::(some bt,3,[.int .i64 t])::(rh.bo,22,rh.cs)::Da 3 hd cs' n []):=by
 refine Ab (F:=R7) rfl fun C=>?_
 refine Dt 3 rfl (by omega) fun bh caph csh hr=>?_
 subst hr
 refine G5 4 rfl fun hlen=>?_
 have wi:=hls i hi
 have wt:=hls t ht
 have li:(hd i).2.1=N:=by rw [hlen i hi rfl];exact wi.1
 have lt:(hd t).2.1=N:=by rw [hlen t ht rfl];exact wt.1
 have hnl:=ADd (show 0<p by have:=K.p2;omega) m c.toNat
 have n0:0≤((nP p m c.toNat:Nat):Int):=Int.natCast_nonneg _
 have n1:((nP p m c.toNat:Nat):Int)<((p ^ m:Nat):Int):=Int.ofNat_lt.2 hnl
 have D2:=fun {b ng cg ne ce nl cl:Nat}{pg pe pl:Option Addr}=>Gr (b:=b) (ng:=ng) (cg:=cg) (ne:=ne) (ce:=ce) (nl:=nl) (cl:=cl) (pg:=pg) (pe:=pe) (pl:=pl) K.p2 K.m1 K.q c0 c1
 have Pv:=fun {b ng cg ce cl:Nat}{pg pe pl:Option Addr}{r r2:Row}=>ACu (b:=b) (ng:=ng) (cg:=cg) (ce:=ce) (cl:=cl) (pg:=pg) (pe:=pe) (pl:=pl) (r:=r) (r2:=r2) K n0 n1 wi wt hN
 have hmb:Bd t [i]=false:=by
  rw [Ag,decide_eq_false (fun e=>hit e.symm)];rfl
 refine Do 5 (i) 4 (N) rfl rfl (by first|assumption|omega) (by first|rfl|assumption|(simp [Ag,Bd];done)|(simp [Ag,Bd];omega)) (by first|assumption|omega) fun r1 hr1=>?_
 simp only [List.take_succ_cons,List.take_zero,List.cons_append,List.nil_append]
 refine Do 6 (t) 1 (N) rfl rfl (by first|assumption|omega) (by first|rfl|assumption|(simp [Ag,Bd];done)|(simp [Ag,Bd];omega)) (by first|assumption|omega) fun r2 hr2=>?_
 simp only [List.take_succ_cons,List.take_zero,List.cons_append,List.nil_append]
 (apply E7 it mx 12;(· rfl);(· rfl))
 (apply Ac;(· rfl);(· exact Ca 2 rfl rfl Xo rfl))
 (apply A3 1;(· rfl);(· simp))
 (apply Ac;(· rfl);(· exact Ca 3 rfl rfl Ci rfl))
 (apply Ac;(· rfl);(· exact Cf fun _=>Be (i) (i) rfl rfl D5 rfl (by omega) (Nat.mul_one _) An))
 (apply Ac;(· rfl);(· exact F4 6 7 (i) rfl rfl rfl Fb rfl (by assumption)))
 dsimp only
 (apply Ac;(· rfl);(· exact Ca 2 rfl rfl Xo rfl))
 (apply Ac;(· rfl);(· exact Ca 4 rfl rfl Ci rfl))
 (apply Ac;(· rfl);(· exact Cf fun _=>Aw [4] rfl (D2) rfl (by rintro _ _ _ ⟨rfl,rfl,rfl⟩;exact An)))
 (apply A3 1;(· rfl);(· simp))
 (apply Ac;(· rfl);(· exact Ca 5 rfl rfl Ci rfl))
 (apply Ac;(· rfl);(· exact Cf fun _=>Be (t) (t) rfl rfl D5 rfl (by omega) (Nat.mul_one _) An))
 (apply Ac;(· rfl);(· exact F4 6 7 (t) rfl rfl rfl Fb rfl (by assumption)))
 dsimp only
 refine Eu rfl ?_
 simp only [List.map_cons,List.map_nil,List.cons_append,List.nil_append]
 refine Wu 7 [1,0,2,3,4,5,6] rfl rfl ?_
 simp only [List.drop_succ_cons,List.drop_zero,List.cons_append,List.nil_append]
 refine wk 2 (ct @Pv cz) ?_
 intro cs'1
 try simp only [List.drop_succ_cons,List.drop_zero]
 refine Bu 6 t 1 1 3 rfl rfl rfl rfl ht hmb ?_
 simp only [List.eraseIdx_cons_zero,List.eraseIdx_cons_succ,List.take_succ_cons,List.take_zero,List.cons_append,List.nil_append]
 rw [D6 (Fx hr2 ht),show Ek ls t (ls t)=ls from D6 rfl]
 refine Bu 5 i 0 1 0 rfl rfl rfl rfl hi rfl ?_
 simp only [List.eraseIdx_cons_zero,List.eraseIdx_cons_succ,List.take_succ_cons,List.take_zero,List.cons_append,List.nil_append]
 rw [show Ek hd i (r1.bo,N,r1.cap)=hd from D6 (Fx hr1 hi)]
 refine Co [11,0] rfl rfl ⟨_,rfl,rfl,rfl⟩
theorem Ma {b p m n ng cg ce cl:Nat}{pg pe pl:Option Addr}{a:Int}{r:Row}{u md:List Int}(K:Fok p m md) (a0:0≤a) (a1:a<((p ^ m:Nat):Int)) (hu:Wd (p ^ m) n u) (hn:n≤1000000) :
  Bs Tryz.prog 129 [.pointer (some ⟨b,0,none⟩),.int .i64 a,.slice (ad r.bo) n r.cap] [(r.bo,3,r.cs)] [I2 b p m (p ^ m) pg ng cg pe (p ^ m-1) ce pl (p ^ m) cl,Ap Ai pe (p ^ m-1) ce (Jg p m md),Ap Ai pl (p ^ m) cl (Jf p m md),A6 Ai r n u]
   (fun v Φ β=>∃ r':Row,v = .slice (ad r'.bo) n r'.cap∧Φ=[A6 Ai r' n (Ct (Ad (fM p (Ax m md))) a u)]∧β=[(r'.bo,3,r'.cs)]):=by
 refine Ab (F:=Mw) rfl fun C=>?_
 have hun:=hu.1
 subst hun
 have hu:=hu.2
 have A8:=fun {b ng cg ce cl:Nat}{pg pe pl:Option Addr}{x y:Int}=>C1 (b:=b) (ng:=ng) (cg:=cg) (ce:=ce) (cl:=cl) (pg:=pg) (pe:=pe) (pl:=pl) (x:=x) (y:=y) K
 have hml:=fun x (h:x∈u)=>K.fi.ml a x a0 a1 (hu x h).1 (hu x h).2
 have hq:=K.q
 generalize Ad (fM p (Ax m md))=M at *
 generalize Jg p m md=ex at *
 generalize Jf p m md=lg at *
 generalize p ^ m=q at *
 refine wk 12 cz ?_
 intro b1
 rw [show Ao .i64 (List.replicate u.length 0)=Al .i64 ((Ct M a u).take 0++List.replicate (u.length-0) 0) by simp [Ao,Al]]
 refine Ah (X:=Nat) [0,1,6,7,13,14] [0,1,2,3] (fun i=>[(15,.int .i64 (i:Int))]) (fun i=>[(some b1,3,Al .i64 ((Ct M a u).take i++List.replicate (u.length-i) 0)),(r.bo,3,r.cs)]) (fun _=>[]) (fun i=>i≤u.length) (fun i=>u.length-i) 0 [] rfl rfl rfl (Nat.zero_le _) (by repeat (first|exact Fr.sub_nil _|refine Fr.sub_cons rfl ?_)) rfl rfl ?_
 rintro i hi ih
 simp only [List.cons_append,List.nil_append] at hi ih ⊢
 by_cases h9:i<u.length
 ·obtain ⟨x,at_x⟩:∃ x,u[i]?=some x:=⟨_,List.getElem?_eq_getElem h9⟩
  have hx:=hu x (List.mem_of_getElem? at_x)
  obtain ⟨hx0,hx1⟩:=hx
  have ih':=ih (i+1) (by omega) (by omega)
  have eT:(Ct M a u)[i]?=some (M a x):=by rw [Ct,List.getElem?_map,at_x];rfl
  rw [← take_set eT h9] at ih'
  have hln:((Ct M a u).take i++List.replicate (u.length-i) 0).length=u.length:=by simp [Ct];omega
  generalize (Ct M a u).take i++List.replicate (u.length-i) 0=L at *
  refine wk 6 cz ?_
  intro h1
  refine Dt 3 rfl (by omega) fun b2 cap1 cs1 hr1=>?_
  subst hr1
  dsimp only
  refine wk 11 (ct @A8 cz) ?_
  intro hr1
  exact tw (ih')
 ·obtain rfl:i=u.length:=by omega
  rw [Nat.sub_self,List.replicate_zero,List.append_nil,List.take_of_length_le (by simp [Ct])]
  refine wk 7 cz ?_
  intro h1
  have hall:∀ z∈Ct M a u,Bv .i64 z:=fun z hz=>by
   obtain ⟨y,hy,rfl⟩:=List.mem_map.1 hz
   have:=hml y hy
   simp only [Bv];omega
  have hln:(Ct M a u).length=u.length:=by simp [Ct]
  generalize Ct M a u=L at *
  refine Bl 0 rfl hln.symm hall (by omega) ?_
  refine Dx 2 [0] [0] rfl (.tmp rfl .nil) rfl rfl rfl ⟨⟨some b1,u.length,Al .i64 L⟩,rfl,rfl,rfl⟩
theorem Rj {b p m ng cg ce cl:Nat}{pg pe pl:Option Addr}{md:List Int}{rh:Row}{n N t bg bv bt:Nat}{c:Int}{hd:Nat→Hd}{cs:Nat→List Value}{ls:Nat→List Int}(K:Fok p m md) (c0:0≤c) (c1:c<((p ^ m:Nat):Int)) (ht:t<n) (hn:n≤1000000) (hN:N≤1000000) (hls:∀ k,k<n→Wd (p ^ m) N (ls k)) :
  Bs Tryz.prog 205 [.slice (ad rh.bo) n rh.cap,.pointer (some ⟨bg,0,none⟩),.pointer (some ⟨bv,0,none⟩),.pointer (some ⟨bt,0,none⟩)]
   ((some bg,76,[.pointer (some ⟨b,0,none⟩)])::(some bv,3,[.int .i64 c])::(some bt,3,[.int .i64 t])::(rh.bo,22,rh.cs)::Da 3 hd cs n [])
   [I2 b p m (p ^ m) pg ng cg pe (p ^ m-1) ce pl (p ^ m) cl,Ap Ai pe (p ^ m-1) ce (Jg p m md),Ap Ai pl (p ^ m) cl (Jf p m md),A6 Sd rh n (Iv hd n),Ej Ai hd cs ls n []]
   (fun v Φ β=>∃ ch' hd' cs',v = .tuple #[]∧Φ=[A6 Sd ⟨rh.bo,rh.cap,ch'⟩ n (Iv hd' n),Ej Ai hd' cs' (Ek ls t (Ct (Ad (fM p (Ax m md))) c (ls t))) n []]∧β=(some bg,76,[.pointer (some ⟨b,0,none⟩)])::(some bv,3,[.int .i64 c])::(some bt,3,[.int .i64 t])::(rh.bo,22,ch')::Da 3 hd' cs' n []):=by
 refine Ab (F:=Sl) rfl fun C=>?_
 refine Dt 3 rfl (by omega) fun bh caph csh hr=>?_
 subst hr
 refine G5 4 rfl fun hlen=>?_
 have wt:=hls t ht
 have lt:(hd t).2.1=N:=by rw [hlen t ht rfl];exact wt.1
 refine Do 4 (t) 4 (N) rfl rfl (by first|assumption|omega) (by first|rfl|assumption|(simp [Ag,Bd];done)|(simp [Ag,Bd];omega)) (by first|assumption|omega) fun r1 hr1=>?_
 simp only [List.take_succ_cons,List.take_zero,List.cons_append,List.nil_append]
 (apply Ga (x0:=none) it mx 0 8 [0,1] 1;(· rfl);(· rfl);(· rfl);(· decide))
 simp only [List.drop_zero]
 (apply A3 1;(· rfl);(· simp))
 (apply Ac;(· rfl);(· exact Ca 3 rfl rfl Ci rfl))
 (apply Ac;(· rfl);(· exact Ca 1 rfl rfl Xo rfl))
 (apply Ac;(· rfl);(· exact Ca 2 rfl rfl Ci rfl))
 (apply A3 1;(· rfl);(· simp))
 (apply Ac;(· rfl);(· exact Ca 3 rfl rfl Ci rfl))
 (apply Ac;(· rfl);(· exact Cf fun _=>Be (t) (t) rfl rfl D5 rfl (by omega) (Nat.mul_one _) An))
 (apply Ac;(· rfl);(· exact F4 4 5 (t) rfl rfl rfl Fb rfl (by assumption)))
 dsimp only --ok
 refine Fl rfl ?_
 rotate_left
 rfl
 simp only [List.map_nil,List.nil_append]
 refine ABi rfl rfl ⟨⟨_,_,_,rfl,rfl,rfl,rfl,rfl,Jz it rfl (by trivial) ⟨rfl,rfl,rfl⟩⟩,⟨⟨_,_,_,rfl,rfl,rfl,rfl,rfl,Bm 3 rfl rfl Ci rfl ⟨rfl,rfl,rfl⟩⟩,trivial⟩⟩ (Y9 1 [2,3,4,0] rfl rfl (Ma (r:=r1) K c0 c1 wt hN) rfl ?_)
 rintro _ _ _ ⟨r9,rfl,rfl,rfl⟩
 simp only [List.cons_append,List.nil_append,List.drop_succ_cons,List.drop_zero]
 refine AC1 ⟨⟨_,_,_,rfl,rfl,rfl,rfl,rfl,Jz it rfl (by trivial) ⟨rfl,rfl,rfl⟩⟩,⟨⟨_,_,_,rfl,rfl,rfl,rfl,rfl,Bm 3 rfl rfl Ci rfl ⟨rfl,rfl,rfl⟩⟩,trivial⟩⟩ ?_
 refine wk 1 cz ?_
 refine Aa rfl (G4 (vs:=[Value.slice (ad r9.bo) N r9.cap]) (z:=(r9.bo,N,r9.cap)) 4 6 (t) rfl rfl rfl rfl rfl Fb (Nat.mul_one _).symm (by omega) (fun w A hG=>(Tv _ _ _)) fun cs1=>?_)
 refine wk 1 cz ?_
 simp only [setB,List.set_cons_succ,List.set_cons_zero]
 rw [K7]
 refine Bu 4 t 0 1 3 rfl rfl rfl rfl ht rfl ?_
 simp only [List.eraseIdx_cons_zero,List.eraseIdx_cons_succ,List.take_succ_cons,List.take_zero,List.cons_append,List.nil_append]
 refine Co [1,0] rfl rfl ⟨_,_,_,rfl,rfl,rfl⟩
theorem AGr {rh:Row}{n t k bk bt br ba:Nat}{hd:Nat→Hd}(ht:t<n) (hk:k<n) (hn:n≤1000000) :
  Bs Tryz.prog 202 [.func (.func 203) #[] #[.pointer (some ⟨bk,0,none⟩),.pointer (some ⟨bt,0,none⟩)],.pointer (some ⟨br,0,none⟩),.pointer (some ⟨ba,0,none⟩)]
   [(some br,25,[.slice (ad rh.bo) n rh.cap]),(some ba,25,[.slice none 0 0]),(some bk,3,[.int .i64 k]),(some bt,3,[.int .i64 t]),(rh.bo,22,rh.cs)] [A6 Sd rh n (Iv hd n)]
   (fun v Φ β=>∃ cs',v = .tuple #[]∧Φ=[A6 Sd ⟨rh.bo,rh.cap,cs'⟩ n (Iv (Ek (Ek hd t (hd k)) k (hd t)) n)]∧β=[(some br,25,[.slice (ad rh.bo) n rh.cap]),(some ba,25,[.slice none 0 0]),(some bk,3,[.int .i64 k]),(some bt,3,[.int .i64 t]),(rh.bo,22,cs')]):=by
 refine Ab (F:=Hc) rfl fun C=>?_
 have Ry:=fun {rh:Row}{bk bt:Nat}=>R6 (rh:=rh) (bk:=bk) (bt:=bt) (hd:=hd) ht hk hn
 refine Am [_,_] rfl ?_
 refine Ae it 1 rfl (by simp) ?_
 refine Aa rfl (Bm 0 rfl rfl H3 rfl ?_)
 refine Nj [2,3,4,0,1] rfl rfl ?_
 refine Aa rfl <| ADq rfl rfl (Y9 3 [0] rfl rfl (Ry) rfl ?_)
 rintro _ _ _ ⟨cs'1,rfl,rfl,rfl⟩
 simp only [List.cons_append,List.nil_append]
 refine Am [_,_] rfl ?_
 refine Aa rfl (Bm 4 rfl rfl H3 rfl ?_)
 refine Aa rfl (G6 D5 rfl ?_)
 refine Ae it 1 rfl (by simp) ?_
 refine Am [_] rfl ?_
 refine Kj rfl rfl (fun h1=>by exfalso;omega) (fun h1=>?_)
 refine Am [] rfl ?_
 try simp only [List.drop_succ_cons,List.drop_zero]
 refine Wu 5 [3,4,0,1,2] rfl rfl ?_
 simp only [List.cons_append,List.nil_append,List.drop_succ_cons,List.drop_zero]
 refine Co [0] rfl rfl ⟨_,rfl,rfl,rfl⟩
theorem AEt {b p m ng cg ce cl:Nat}{pg pe pl:Option Addr}{md:List Int}{rh:Row}{n N t bg bv bt br ba:Nat}{c:Int}{hd:Nat→Hd}{cs:Nat→List Value}{ls:Nat→List Int}(K:Fok p m md) (c0:0≤c) (c1:c<((p ^ m:Nat):Int)) (ht:t<n) (hn:n≤1000000) (hN:N≤1000000) (hls:∀ k,k<n→Wd (p ^ m) N (ls k)) :
  Bs Tryz.prog 202 [.func (.func 205) #[] #[.pointer (some ⟨bg,0,none⟩),.pointer (some ⟨bv,0,none⟩),.pointer (some ⟨bt,0,none⟩)],.pointer (some ⟨br,0,none⟩),.pointer (some ⟨ba,0,none⟩)]
   ((some br,25,[.slice (ad rh.bo) n rh.cap])::(some ba,25,[.slice none 0 0])::(some bg,76,[.pointer (some ⟨b,0,none⟩)])::(some bv,3,[.int .i64 c])::(some bt,3,[.int .i64 t])::(rh.bo,22,rh.cs)::Da 3 hd cs n [])
   [I2 b p m (p ^ m) pg ng cg pe (p ^ m-1) ce pl (p ^ m) cl,Ap Ai pe (p ^ m-1) ce (Jg p m md),Ap Ai pl (p ^ m) cl (Jf p m md),A6 Sd rh n (Iv hd n),Ej Ai hd cs ls n []]
   (fun v Φ β=>∃ ch' hd' cs',v = .tuple #[]∧Φ=[A6 Sd ⟨rh.bo,rh.cap,ch'⟩ n (Iv hd' n),Ej Ai hd' cs' (Ek ls t (Ct (Ad (fM p (Ax m md))) c (ls t))) n []]∧β=(some br,25,[.slice (ad rh.bo) n rh.cap])::(some ba,25,[.slice none 0 0])::(some bg,76,[.pointer (some ⟨b,0,none⟩)])::(some bv,3,[.int .i64 c])::(some bt,3,[.int .i64 t])::(rh.bo,22,ch')::Da 3 hd' cs' n []):=by
 refine Ab (F:=Hc) rfl fun C=>?_
 have Sa:=fun {b ng cg ce cl bg bv bt:Nat}{pg pe pl:Option Addr}{rh:Row}{hd:Nat→Hd}{cs:Nat→List Value}=>Rj (b:=b) (ng:=ng) (cg:=cg) (ce:=ce) (cl:=cl) (pg:=pg) (pe:=pe) (pl:=pl) (rh:=rh) (bg:=bg) (bv:=bv) (bt:=bt) (hd:=hd) (cs:=cs) K c0 c1 ht hn hN hls
 refine wk 3 cz ?_
 refine Aa rfl <| ADq rfl rfl (Mz 2 [0,1,2,3,4] rfl rfl (Sa) rfl ?_)
 rintro _ _ _ ⟨ch'1,hd'1,cs'1,rfl,rfl,rfl⟩
 simp only [List.cons_append,List.nil_append]
 refine wk 7 cz ?_
 intro h1
 simp only [List.take_succ_cons,List.take_zero,List.cons_append,List.nil_append]
 refine Co [0,1] rfl rfl ⟨_,_,_,rfl,rfl,rfl⟩
theorem AEG {b p m ng cg ce cl:Nat}{pg pe pl:Option Addr}{md:List Int}{rh:Row}{n N i t bg bi bf bt br ba:Nat}{c:Int}{hd:Nat→Hd}{cs:Nat→List Value}{ls:Nat→List Int}(K:Fok p m md) (c0:0≤c) (c1:c<((p ^ m:Nat):Int)) (hi:i<n) (ht:t<n) (hit:i≠t) (hn:n≤1000000) (hN:N≤1000000) (hls:∀ k,k<n→Wd (p ^ m) N (ls k)) :
  Bs Tryz.prog 202 [.func (.func 206) #[] #[.pointer (some ⟨bg,0,none⟩),.pointer (some ⟨bi,0,none⟩),.pointer (some ⟨bf,0,none⟩),.pointer (some ⟨bt,0,none⟩)],.pointer (some ⟨br,0,none⟩),.pointer (some ⟨ba,0,none⟩)]
   ((some br,25,[.slice (ad rh.bo) n rh.cap])::(some ba,25,[.slice none 0 0])::(some bg,76,[.pointer (some ⟨b,0,none⟩)])::(some bi,3,[.int .i64 i])::(some bf,3,[.int .i64 c])::(some bt,3,[.int .i64 t])::(rh.bo,22,rh.cs)::Da 3 hd cs n [])
   [I2 b p m (p ^ m) pg ng cg pe (p ^ m-1) ce pl (p ^ m) cl,Ap Ai pe (p ^ m-1) ce (Jg p m md),Ap Ai pl (p ^ m) cl (Jf p m md),A6 Sd rh n (Iv hd n),Ej Ai hd cs ls n []]
   (fun v Φ β=>∃ cs',v = .tuple #[]∧Φ=[A6 Sd rh n (Iv hd n),Ej Ai hd cs' (Ek ls i (Ey (Ad (fA p m)) (Ad (fM p (Ax m md))) ((nP p m c.toNat:Nat):Int) (ls t) (ls i))) n []]∧β=(some br,25,[.slice (ad rh.bo) n rh.cap])::(some ba,25,[.slice none 0 0])::(some bg,76,[.pointer (some ⟨b,0,none⟩)])::(some bi,3,[.int .i64 i])::(some bf,3,[.int .i64 c])::(some bt,3,[.int .i64 t])::(rh.bo,22,rh.cs)::Da 3 hd cs' n []):=by
 refine Ab (F:=Hc) rfl fun C=>?_
 have Rw:=fun {b ng cg ce cl bg bi bf bt:Nat}{pg pe pl:Option Addr}{rh:Row}{hd:Nat→Hd}{cs:Nat→List Value}=>Rm (b:=b) (ng:=ng) (cg:=cg) (ce:=ce) (cl:=cl) (pg:=pg) (pe:=pe) (pl:=pl) (rh:=rh) (bg:=bg) (bi:=bi) (bf:=bf) (bt:=bt) (hd:=hd) (cs:=cs) K c0 c1 hi ht hit hn hN hls
 refine wk 3 cz ?_
 refine Aa rfl <| ADq rfl rfl (Mz 2 [0,1,2,3,4] rfl rfl (Rw) rfl ?_)
 rintro _ _ _ ⟨cs'1,rfl,rfl,rfl⟩
 simp only [List.cons_append,List.nil_append]
 refine wk 7 cz ?_
 intro h1
 simp only [List.take_succ_cons,List.take_zero,List.cons_append,List.nil_append]
 refine Co [0,1] rfl rfl ⟨_,rfl,rfl,rfl⟩
end Go.Proofs.YtpienolhkccpnaaGreat
