/-
Combinations of rows, reduced rows without the empty ones, and the words that vanish at some places. Rows of an elimination are combinations of the rows; solutions of equations. Equations with their right hand sides, and their solution by places. The sixteenth text of the frame: function values, and calls of them. The seventeenth text of the frame: blocks that are given up and known cell by cell, such as a struct behind a pointer. The eighteenth text of the frame: several facts as one, for functions that are handed a function value. The document's fields: orders, primes, digits, values. The document's test for divisors of polynomials. The document's fields: irreducible polynomials, Check, elements, their digits and sums. The document's fields: elements, their digits, sums and products. The document's fields: products. The document's fields: sums of products; rows of elements. The program's fields: orders, primes, digits, values, shapes. The program's product of residues. The program's powers of an element.
-/
import Derived.Laws.CopyRow
import Derived.Laws.IdiomCopy
import Derived.Lib.LazyBuf
import Derived.Calls
import Derived.Test.YtlecjbjgbcdilaaGreatRD3
set_option linter.unusedVariables false
set_option linter.unusedSimpArgs false
namespace Go.Proofs.YtlecjbjgbcdilaaGreat
set_option maxRecDepth 100000
set_option linter.unusedVariables false
set_option linter.unusedSimpArgs false
abbrev colL (rows : List (List Int)) (j : Nat) : List Int:=rows.map fun r=>at0 r j
def cmbF (A M : Int → Int → Int) : List Int → List (List Int) → List Int → List Int
 | a::x,r::rows,u=>cmbF A M x rows (if a = 0 then u else axp A M a r u)
 | _,_,u=>u
def cmbL (A M : Int → Int → Int) (n : Nat) (x : List Int) (rows : List (List Int)) : List Int:=cmbF A M x rows (zW n)
def cnE (A M : Int → Int → Int) (N V : Int → Int) (n : Nat) (rows : List (List Int)) : List (List Int) × List Nat :=
 ((elimL A M N V n 0 0 rows).1.take (elimL A M N V n 0 0 rows).2.length,(elimL A M N V n 0 0 rows).2)
def nvL (N : Int → Int) (n : Nat) (E : List (List Int) × List Nat) : List (List Int):=((List.range n).filter fun c=>decide (c ∉ E.2)).map (nullV N n E.1 E.2)
def nuL (A M : Int → Int → Int) (N V : Int → Int) (n : Nat) (rows : List (List Int)) : List (List Int):=(cnE A M N V n (nvL N n (cnE A M N V n rows))).1
theorem at0_zW (n j : Nat) : at0 (zW n) j = 0:=by
 rw [at0,List.getD_eq_getElem?_getD,zW,List.getElem?_replicate];split <;> rfl
theorem wd_col {q n : Nat} {rows : List (List Int)} (hq : 0 < q) (h : Mat q n rows) (j : Nat) : Wd q rows.length (colL rows j) :=
 ⟨by rw [List.length_map],fun x hx=>by
  obtain ⟨r,hr,rfl⟩:=List.mem_map.1 hx
  exact wd_at hq (h r hr) j⟩
section
variable {q : Nat} {A M : Int → Int → Int} {N V : Int → Int} (O : FO q A M N V)
include O
theorem FO.wz (n : Nat) : Wd q n (zW n):=by
 have:=O.q2
 exact ⟨by rw [List.length_replicate],fun x hx=>by rw [List.eq_of_mem_replicate hx];omega⟩
theorem FO.axp0 {n : Nat} {r u : List Int} (hr : Wd q n r) (hu : Wd q n u) : axp A M 0 r u = u:=by
 have F:=O.fi
 have q2:=F.q2
 refine List.ext_getElem (by rw [axp,List.length_zipWith,hr.1,hu.1];omega) fun i h1 h2=>?_
 rw [axp] at h1
 simp only [axp,List.getElem_zipWith]
 obtain ⟨y0,y1⟩:=hu.2 _ (List.getElem_mem h2)
 obtain ⟨x0,x1⟩:=hr.2 (r[i]'(by rw [hr.1,← hu.1];exact h2)) (List.getElem_mem _)
 rw [F.mc 0 _ (by omega) (by omega) x0 x1,F.m0 x0 x1,F.a0 _ y0 y1]
theorem FO.cmb_step {n : Nat} {a : Int} {r u : List Int} (hr : Wd q n r) (hu : Wd q n u) : (if a = 0 then u else axp A M a r u) = axp A M a r u:=by
 split
 ·rename_i e;rw [e,O.axp0 hr hu]
 ·rfl
theorem FO.cmbF_at {n : Nat} : ∀ {x : List Int} {rows : List (List Int)} {u : List Int},(∀ a ∈ x,0 ≤ a ∧ a < q) → Mat q n rows → Wd q n u → Wd q n (cmbF A M x rows u) ∧ ∀ j,at0 (cmbF A M x rows u) j = A (at0 u j) (dotL A M x (colL rows j))
 | [],_,u,_,_,hu=>⟨by rw [cmbF];exact hu;· intros;contradiction,fun j=>by
   have hq:=O.q2
   obtain ⟨h0,h1⟩:=wd_at (by omega) hu j
   rw [cmbF]
   ·exact (O.fi.a0 _ h0 h1).symm
   ·intros;contradiction⟩
 | _::_,[],u,_,_,hu=>⟨by rw [cmbF];exact hu;· intros;contradiction,fun j=>by
   have hq:=O.q2
   obtain ⟨h0,h1⟩:=wd_at (by omega) hu j
   rw [cmbF]
   ·exact (O.fi.a0 _ h0 h1).symm
   ·intros;contradiction⟩
 | a::x,r::rows,u,hx,hM,hu=>by
  have F:=O.fi
  have hq:=O.q2
  have hr:=hM r (.head _)
  have hM' : Mat q n rows:=fun r h=>hM r (.tail _ h)
  obtain ⟨a0,a1⟩:=hx a (.head _)
  have hw:=F.axw a0 a1 hr hu
  rw [cmbF,O.cmb_step hr hu]
  obtain ⟨h1,h2⟩:=FO.cmbF_at (x:=x) (rows:=rows) (fun b hb=>hx b (.tail _ hb)) hM' hw
  refine ⟨h1,fun j=>?_⟩
  rw [h2,O.axp_at a0 a1 hr hu]
  obtain ⟨u0,u1⟩:=wd_at (by omega) hu j
  obtain ⟨r0,r1⟩:=wd_at (by omega) hr j
  obtain ⟨m0,m1⟩:=F.ml a _ a0 a1 r0 r1
  have hd : 0 ≤ dotL A M x (colL rows j) ∧ dotL A M x (colL rows j) < q:=FO.dot_rng x (colL rows j) (fun b hb=>hx b (.tail _ hb)) (wd_col (by omega) hM' j).2
  rw [F.aa _ _ _ u0 u1 m0 m1 hd.1 hd.2]
  rfl
where
 FO.dot_rng : ∀ (x y : List Int),(∀ a ∈ x,0 ≤ a ∧ a < q) → (∀ a ∈ y,0 ≤ a ∧ a < q) → 0 ≤ dotL A M x y ∧ dotL A M x y < q
  | [],_,_,_=>⟨Int.le_refl 0,O.fi.z⟩
  | _::_,[],_,_=>⟨Int.le_refl 0,O.fi.z⟩
  | a::x,b::y,hx,hy=>by
   obtain ⟨a0,a1⟩:=hx a (.head _)
   obtain ⟨b0,b1⟩:=hy b (.head _)
   obtain ⟨m0,m1⟩:=O.fi.ml a b a0 a1 b0 b1
   obtain ⟨d0,d1⟩:=FO.dot_rng x y (fun b hb=>hx b (.tail _ hb)) (fun b hb=>hy b (.tail _ hb))
   exact O.fi.al _ _ m0 m1 d0 d1
theorem FO.cmb_wd {n : Nat} {x : List Int} {rows : List (List Int)} (hx : ∀ a ∈ x,0 ≤ a ∧ a < q) (hM : Mat q n rows) : Wd q n (cmbL A M n x rows):=(O.cmbF_at hx hM (O.wz n)).1
theorem FO.cmb_at {n : Nat} {x : List Int} {rows : List (List Int)} (hx : ∀ a ∈ x,0 ≤ a ∧ a < q) (hM : Mat q n rows) (j : Nat) : at0 (cmbL A M n x rows) j = dotL A M x (colL rows j):=by
 have hq:=O.q2
 have h:=(O.cmbF_at hx hM (O.wz n)).2 j
 rw [at0_zW] at h
 rw [cmbL,h]
 obtain ⟨d0,d1⟩:=FO.cmbF_at.FO.dot_rng O x (colL rows j) hx (wd_col (by omega) hM j).2
 exact O.fi.zl d0 d1
omit O in
theorem Ech.take {R : List (List Int)} {P : List Nat} {n : Nat} (h : Ech R n P) : Ech (R.take P.length) n P where
 le:=by rw [List.length_take];have:=h.le;omega
 inc:=h.inc
 lt:=h.lt
 one:=fun i a hi=>by rw [en_take (List.getElem?_eq_some_iff.1 hi).1];exact h.one i a hi
 zer:=fun i a hi j hj hji=>by
  rw [List.length_take] at hj
  rw [en_take (by omega)];exact h.zer i a hi j (by omega) hji
 low:=fun i a hi e he=>by rw [en_take (List.getElem?_eq_some_iff.1 hi).1];exact h.low i a hi e he
 bot:=fun i h1 h2=>by rw [List.length_take] at h2;omega
where
 en_take {R : List (List Int)} {k i c : Nat} (hi : i < k) : en (R.take k) i c = en R i c:=by
  rw [en,en,row0,row0,List.getD_eq_getElem?_getD,List.getD_eq_getElem?_getD,List.getElem?_take,if_pos hi]
omit O in
theorem Red.take {n : Nat} {R : List (List Int)} {P : List Nat} (h : Red q n R P) : Red q n (R.take P.length) P:=⟨fun r hr=>h.mat r (List.mem_of_mem_take hr),h.ech.take⟩
theorem FO.take_sol {n : Nat} {R : List (List Int)} {P : List Nat} (h : Red q n R P) {x : List Int} (hx : Wd q n x) : Sol A M (R.take P.length) x ↔ Sol A M R x:=by
 constructor
 ·intro hs
  rw [sol_row]
  intro i hi
  by_cases hp : i < P.length
  ·have : row0 (R.take P.length) i = row0 R i:=by rw [row0,row0,List.getD_eq_getElem?_getD,List.getD_eq_getElem?_getD,List.getElem?_take,if_pos hp]
   rw [← this]
   exact sol_row.1 hs i (by rw [List.length_take];omega)
  ·refine O.dot_zero hx (h.mat.row hi) fun e=>?_
   have hq:=O.q2
   obtain ⟨y0,y1⟩:=wd_at (by omega) hx e
   rw [show at0 (row0 R i) e = 0 from h.null_row (by omega) hi e,O.fi.m0 y0 y1]
 ·exact fun hs r hr=>hs r (List.mem_of_mem_take hr)
theorem FO.cn {n : Nat} {rows : List (List Int)} (hM : Mat q n rows) : Red q n (cnE A M N V n rows).1 (cnE A M N V n rows).2 ∧ ∀ x,Wd q n x → (Sol A M (cnE A M N V n rows).1 x ↔ Sol A M rows x):=by
 obtain ⟨h1,h2,h3⟩:=O.elim (m:=n) hM
 have hr : Red q n (elimL A M N V n 0 0 rows).1 (elimL A M N V n 0 0 rows).2:=⟨h1,h2⟩
 exact ⟨hr.take,fun x hx=>(O.take_sol hr hx).trans (h3 x hx)⟩
theorem FO.cn_len {n : Nat} {rows : List (List Int)} (hM : Mat q n rows) : (cnE A M N V n rows).1.length = (cnE A M N V n rows).2.length:=by
 have h:=(O.elim (m:=n) hM).2.1.le
 show (List.take _ _).length = (elimL A M N V n 0 0 rows).2.length
 rw [List.length_take];omega
theorem FO.nv_mat {n : Nat} {E : List (List Int) × List Nat} (h : Red q n E.1 E.2) : Mat q n (nvL N n E):=fun r hr=>by
 obtain ⟨c,_,rfl⟩:=List.mem_map.1 hr
 exact O.null_wd h c
theorem FO.nu {n : Nat} {rows : List (List Int)} (hM : Mat q n rows) : Mat q n (nuL A M N V n rows) ∧ ∀ z,Wd q n z → (Sol A M (nuL A M N V n rows) z ↔ ∀ x,Wd q n x → Sol A M rows x → dotL A M x z = 0):=by
 obtain ⟨h1,h2⟩:=O.cn hM
 obtain ⟨h3,h4⟩:=O.cn (O.nv_mat h1)
 refine ⟨h3.mat,fun z hz=>(h4 z hz).trans ?_⟩
 constructor
 ·intro hs x hx hS
  refine O.null_all h1 hz (fun c hc hn=>?_) n x hx ((h2 x hx).2 hS) fun e he=>wd_out hx he
  rw [O.fi.dcomm (O.null_wd h1 c) hz]
  exact hs _ (List.mem_map.2 ⟨c,List.mem_filter.2 ⟨List.mem_range.2 hc,by simpa using hn⟩,rfl⟩)
 ·intro hs r hr
  obtain ⟨c,hc,rfl⟩:=List.mem_map.1 hr
  obtain ⟨hc1,hc2⟩:=List.mem_filter.1 hc
  rw [O.fi.dcomm hz (O.null_wd h1 c)]
  exact hs _ (O.null_wd h1 c) ((h2 _ (O.null_wd h1 c)).1 (O.null_sol h1 (List.mem_range.1 hc1) (by simpa using hc2)))
theorem FO.dot_unit {n j : Nat} (hj : j < n) {r : List Int} (hr : Wd q n r) : Wd q n (unitW n j) ∧ dotL A M (unitW n j) r = at0 r j:=by
 have hq:=O.q2
 have F:=O.fi
 have hu : Wd q n (unitW n j):=⟨by simp [unitW,zW],fun x hx=>by
  rcases List.mem_or_eq_of_mem_set hx with h | h
  ·rw [List.eq_of_mem_replicate h];omega
  ·omega⟩
 have hat : ∀ e,at0 (unitW n j) e = if e = j then 1 else 0:=fun e=>by
  rw [at0,unitW,List.getD_eq_getElem?_getD,List.getElem?_set,zW,List.length_replicate]
  by_cases h : j = e
  ·subst h;rw [if_pos rfl,if_pos hj,if_pos rfl];rfl
  ·rw [if_neg h,if_neg fun h'=>h h'.symm,List.getElem?_replicate];split <;> rfl
 obtain ⟨r0,r1⟩:=wd_at (by omega) hr j
 refine ⟨hu,?_⟩
 rw [O.dot_one hu hr j fun e he=>?_,hat,if_pos rfl,F.mc 1 _ (by omega) (by omega) r0 r1,F.m1 _ r0 r1]
 obtain ⟨e0,e1⟩:=wd_at (by omega) hr e
 rw [hat,if_neg he,F.mc 0 _ (Int.le_refl 0) F.z e0 e1,F.m0 e0 e1]
theorem FO.sol_unit {n j : Nat} (hj : j < n) {R : List (List Int)} (hR : Mat q n R) : Sol A M R (unitW n j) ↔ ∀ r ∈ R,at0 r j = 0:=by
 constructor
 ·intro h r hr;rw [← (O.dot_unit hj (hR r hr)).2];exact h r hr
 ·intro h r hr;rw [(O.dot_unit hj (hR r hr)).2];exact h r hr
def woL (A M : Int → Int → Int) (N V : Int → Int) (n : Nat) (gen h : List (List Int)) : List (List Int):=(nuL A M N V gen.length h).map fun x=>cmbL A M n x gen
def wiL (A M : Int → Int → Int) (N V : Int → Int) (n : Nat) (gen h : List (List Int)) : List (List Int):=(cnE A M N V n (woL A M N V n gen h)).1
theorem FO.wo_mat {n : Nat} {gen h : List (List Int)} (hG : Mat q n gen) (hh : Mat q gen.length h) : Mat q n (woL A M N V n gen h):=fun r hr=>by
 obtain ⟨x,hx,rfl⟩:=List.mem_map.1 hr
 exact O.cmb_wd ((O.nu hh).1 x hx).2 hG
theorem FO.wi {n : Nat} {gen h : List (List Int)} (hG : Mat q n gen) (hh : Mat q gen.length h) : Mat q n (wiL A M N V n gen h) ∧ ∀ j,j < n →
  ((∀ r ∈ wiL A M N V n gen h,at0 r j = 0) ↔ ∀ x,Wd q gen.length x → Sol A M h x → dotL A M x (colL gen j) = 0):=by
 have hq:=O.q2
 have hwm:=O.wo_mat hG hh
 obtain ⟨h1,h2⟩:=O.cn hwm
 obtain ⟨h3,h4⟩:=O.nu hh
 refine ⟨h1.mat,fun j hj=>?_⟩
 have hc:=wd_col (by omega) hG j
 have hu : Wd q n (unitW n j):=(O.dot_unit hj (O.wz n)).1
 have hs1:=O.sol_unit hj (R:=wiL A M N V n gen h) h1.mat
 rw [← hs1,show Sol A M (wiL A M N V n gen h) (unitW n j) ↔ Sol A M (woL A M N V n gen h) (unitW n j) from h2 _ hu,O.sol_unit hj hwm,← h4 _ hc]
 constructor
 ·intro hs x hx
  have:=hs _ (List.mem_map.2 ⟨x,hx,rfl⟩)
  rw [O.cmb_at (h3 x hx).2 hG] at this
  rw [O.fi.dcomm hc (h3 x hx)];exact this
 ·intro hs r hr
  obtain ⟨x,hx,rfl⟩:=List.mem_map.1 hr
  rw [O.cmb_at (h3 x hx).2 hG,O.fi.dcomm (h3 x hx) hc]
  exact hs x hx
theorem FO.enough_iff {n : Nat} {gen h : List (List Int)} {lost : List Nat} (hG : Mat q n gen) (hh : Mat q gen.length h) (hl : ∀ j ∈ lost,j < n) :
  (cnE A M N V gen.length h).2.length = (cnE A M N V gen.length (h++lost.map (colL gen))).2.length ↔ ∀ j ∈ lost,∀ r ∈ wiL A M N V n gen h,at0 r j = 0:=by
 have hq:=O.q2
 have hl' : Mat q gen.length (lost.map (colL gen)):=fun r hr=>by
  obtain ⟨j,_,rfl⟩:=List.mem_map.1 hr
  exact wd_col (by omega) hG j
 have hm : Mat q gen.length (h++lost.map (colL gen)):=fun r hr=>(List.mem_append.1 hr).elim (hh r) (hl' r)
 obtain ⟨a1,a2⟩:=O.cn hh
 obtain ⟨b1,b2⟩:=O.cn hm
 rw [O.rank_iff a1 b1 fun x hx hs=>(a2 x hx).2 fun r hr=>(b2 x hx).1 hs r (List.mem_append_left _ hr)]
 constructor
 ·intro hs j hj
  refine ((O.wi hG hh).2 j (hl j hj)).2 fun x hx hS=>?_
  exact (b2 x hx).1 (hs x hx ((a2 x hx).2 hS)) _ (List.mem_append_right _ (List.mem_map.2 ⟨j,hj,rfl⟩))
 ·intro hs x hx hS
  refine (b2 x hx).2 fun r hr=>?_
  rcases List.mem_append.1 hr with hr | hr
  ·exact (a2 x hx).1 hS r hr
  ·obtain ⟨j,hj,rfl⟩:=List.mem_map.1 hr
   exact ((O.wi hG hh).2 j (hl j hj)).1 (hs j hj) x hx ((a2 x hx).1 hS)
end
set_option maxRecDepth 100000
set_option linter.unusedVariables false
set_option linter.unusedSimpArgs false
inductive Cmb (q : Nat) (A M : Int → Int → Int) (n : Nat) (rows : List (List Int)) : List Int → Prop
 | zero : Cmb q A M n rows (zW n)
 | add {a : Int} {r u : List Int} : r ∈ rows → 0 ≤ a → a < q → Cmb q A M n rows u → Cmb q A M n rows (axp A M a r u)
section
variable {q : Nat} {A M : Int → Int → Int} {N V : Int → Int} (O : FO q A M N V)
include O
omit O in
theorem wd_at_ext {n : Nat} {u v : List Int} (hu : Wd q n u) (hv : Wd q n v) (h : ∀ j,j < n → at0 u j = at0 v j) : u = v:=by
 refine List.ext_getElem (by rw [hu.1,hv.1]) fun i h1 h2=>?_
 have:=h i (by rw [← hu.1];exact h1)
 rw [at0,at0,List.getD_eq_getElem?_getD,List.getD_eq_getElem?_getD,List.getElem?_eq_getElem h1,List.getElem?_eq_getElem h2] at this
 exact this
theorem FO.cmb_mat {n : Nat} {rows : List (List Int)} (hM : Mat q n rows) {u : List Int} (h : Cmb q A M n rows u) : Wd q n u:=by
 induction h with
 | zero=>exact O.wz n
 | add hr a0 a1 _ ih=>exact O.fi.axw a0 a1 (hM _ hr) ih
theorem FO.cmb_axp {n : Nat} {rows : List (List Int)} (hM : Mat q n rows) {a : Int} (a0 : 0 ≤ a) (a1 : a < q) {u v : List Int} (hu : Cmb q A M n rows u) (hv : Cmb q A M n rows v) : Cmb q A M n rows (axp A M a u v):=by
 have F:=O.fi
 have hq:=O.q2
 have wv:=O.cmb_mat hM hv
 induction hu with
 | zero =>
  have : axp A M a (zW n) v = v:=by
   refine wd_at_ext (F.axw a0 a1 (O.wz n) wv) wv fun j _=>?_
   obtain ⟨v0,v1⟩:=wd_at (by omega) wv j
   rw [O.axp_at a0 a1 (O.wz n) wv,at0_zW,F.m0 a0 a1,F.a0 _ v0 v1]
  rw [this];exact hv
 | @add b r u hr b0 b1 hu ih =>
  have wr:=hM _ hr
  have wu:=O.cmb_mat hM hu
  obtain ⟨m0,m1⟩:=F.ml a b a0 a1 b0 b1
  have w1:=F.axw b0 b1 wr wu
  have w2:=F.axw a0 a1 wu wv
  have e : axp A M a (axp A M b r u) v = axp A M (M a b) r (axp A M a u v):=by
   refine wd_at_ext (F.axw a0 a1 w1 wv) (F.axw m0 m1 wr w2) fun j _=>?_
   rw [O.axp_at a0 a1 w1 wv,O.axp_at b0 b1 wr wu,O.axp_at m0 m1 wr w2,O.axp_at a0 a1 wu wv]
   obtain ⟨v0,v1⟩:=wd_at (by omega) wv j
   obtain ⟨u0,u1⟩:=wd_at (by omega) wu j
   obtain ⟨r0,r1⟩:=wd_at (by omega) wr j
   obtain ⟨c0,c1⟩:=F.ml b _ b0 b1 r0 r1
   obtain ⟨d0,d1⟩:=F.ml a _ a0 a1 u0 u1
   obtain ⟨e0,e1⟩:=F.ml a _ a0 a1 c0 c1
   rw [F.md a _ _ a0 a1 u0 u1 c0 c1,← F.aa _ _ _ v0 v1 d0 d1 e0 e1,F.ma a b _ a0 a1 b0 b1 r0 r1]
  rw [e];exact .add hr m0 m1 ih
theorem FO.cmb_row {n : Nat} {rows : List (List Int)} (hM : Mat q n rows) {r : List Int} (hr : r ∈ rows) : Cmb q A M n rows r:=by
 have hq:=O.q2
 have F:=O.fi
 have : axp A M 1 r (zW n) = r:=by
  refine wd_at_ext (F.axw (by omega) (by omega) (hM _ hr) (O.wz n)) (hM _ hr) fun j _=>?_
  obtain ⟨v0,v1⟩:=wd_at (by omega) (hM _ hr) j
  rw [O.axp_at (by omega) (by omega) (hM _ hr) (O.wz n),at0_zW,F.mc 1 _ (by omega) (by omega) v0 v1,F.m1 _ v0 v1,F.zl v0 v1]
 rw [← this];exact .add hr (by omega) (by omega) .zero
theorem FO.cmb_scl {n : Nat} {rows : List (List Int)} (hM : Mat q n rows) {a : Int} (a0 : 0 ≤ a) (a1 : a < q) {u : List Int} (hu : Cmb q A M n rows u) : Cmb q A M n rows (sclL M a u):=by
 have hq:=O.q2
 have F:=O.fi
 have wu:=O.cmb_mat hM hu
 have : axp A M a u (zW n) = sclL M a u:=by
  refine wd_at_ext (F.axw a0 a1 wu (O.wz n)) (O.scl_wd a0 a1 wu) fun j _=>?_
  obtain ⟨v0,v1⟩:=wd_at (by omega) wu j
  obtain ⟨m0,m1⟩:=F.ml a _ a0 a1 v0 v1
  rw [O.axp_at a0 a1 wu (O.wz n),at0_zW,O.scl_at a0 a1,F.zl m0 m1]
 rw [← this];exact O.cmb_axp hM a0 a1 hu .zero
theorem FO.cmb_trans {n : Nat} {rows rows' : List (List Int)} (hM : Mat q n rows) (h : ∀ r ∈ rows',Cmb q A M n rows r) {u : List Int} (hu : Cmb q A M n rows' u) : Cmb q A M n rows u:=by
 induction hu with
 | zero=>exact .zero
 | add hr a0 a1 _ ih=>exact O.cmb_axp hM a0 a1 (h _ hr) ih
theorem FO.piv_cmb {n : Nat} {rows : List (List Int)} (h : Mat q n rows) {t k c : Nat} (ht : t < rows.length) (hk : k < rows.length) (h0 : en rows k c ≠ 0) : ∀ r ∈ pivL A M N V t k c rows,Cmb q A M n rows r:=fun r hr=>by
 have hq:=O.q2
 have wk:=h.row hk
 obtain ⟨c0,c1⟩:=wd_at (by omega) wk c
 obtain ⟨⟨v0,v1⟩,_⟩:=O.iv _ c0 c1 h0
 obtain ⟨i,hi,rfl⟩:=List.getElem_of_mem hr
 have hil : i < rows.length:=by rw [pivL_len] at hi;exact hi
 have e:=piv_row (A:=A) (M:=M) (N:=N) (V:=V) (t:=t) (k:=k) (c:=c) hil
 have e2 : row0 (pivL A M N V t k c rows) i = (pivL A M N V t k c rows)[i]:=by rw [row0,List.getD_eq_getElem?_getD,List.getElem?_eq_getElem hi];rfl
 rw [← e2,e]
 have cp : Cmb q A M n rows (sclL M (V (en rows k c)) (row0 rows k)):=O.cmb_scl h v0 v1 (O.cmb_row h (row0_mem hk))
 split
 ·exact cp
 ·have ws:=swp_wd h ht hk hil
  obtain ⟨s0,s1⟩:=wd_at (by omega) ws c
  obtain ⟨⟨n0,n1⟩,_⟩:=O.ng _ s0 s1
  refine O.cmb_axp h n0 n1 cp (O.cmb_row h ?_)
  rw [swp_row ht hk]
  repeat' split
  all_goals first | exact row0_mem ht | exact row0_mem hk | exact row0_mem hil
theorem FO.elim_cmb {n : Nat} : ∀ (m c t : Nat) {rows : List (List Int)},t ≤ rows.length → Mat q n rows → ∀ r ∈ (elimL A M N V m c t rows).1,Cmb q A M n rows r
 | 0,_,_,rows,_,hM,r,hr=>O.cmb_row hM hr
 | m + 1,c,t,rows,ht,hM,r,hr=>by
  rw [elimL] at hr
  cases hf : findP rows t c with
  | none=>rw [hf] at hr;exact FO.elim_cmb m (c + 1) t ht hM r hr
  | some k =>
   rw [hf] at hr
   obtain ⟨k1,k2,k3⟩:=findP_some hf
   have hM':=O.piv_wd hM (show t < rows.length by omega) k2 k3
   exact O.cmb_trans hM (O.piv_cmb hM (by omega) k2 k3) (FO.elim_cmb m (c + 1) (t + 1) (by rw [pivL_len];omega) hM' r hr)
theorem FO.cmb_coef {n : Nat} {rows : List (List Int)} (hM : Mat q n rows) {u : List Int} (h : Cmb q A M n rows u) : ∃ t,Wd q rows.length t ∧ ∀ e,at0 u e = dotL A M t (colL rows e):=by
 have hq:=O.q2
 have F:=O.fi
 induction h with
 | zero =>
  refine ⟨zW rows.length,O.wz _,fun e=>?_⟩
  have hc:=wd_col (by omega) hM e
  rw [at0_zW,O.dot_zero (O.wz _) hc fun i=>by
   obtain ⟨v0,v1⟩:=wd_at (by omega) hc i
   rw [at0_zW,F.mc 0 _ (Int.le_refl 0) F.z v0 v1,F.m0 v0 v1]]
 | @add a r u hr a0 a1 hu ih =>
  obtain ⟨t,ht,he⟩:=ih
  obtain ⟨i,hi,rfl⟩:=List.getElem_of_mem hr
  have hun:=(O.dot_unit hi (O.wz rows.length)).1
  refine ⟨axp A M a (unitW rows.length i) t,F.axw a0 a1 hun ht,fun e=>?_⟩
  have hc:=wd_col (by omega) hM e
  have wr:=hM _ hr
  have wu:=O.cmb_mat hM hu
  rw [O.axp_at a0 a1 wr wu,O.dot_axp_l a0 a1 hun ht hc,(O.dot_unit hi hc).2,he]
  congr 2
  rw [at0,at0,List.getD_eq_getElem?_getD,List.getD_eq_getElem?_getD,List.getElem?_map,List.getElem?_eq_getElem hi];rfl
theorem FO.dot_snoc : ∀ {n : Nat} {x y : List Int} {a b : Int},Wd q n x → Wd q n y → 0 ≤ a → a < q → 0 ≤ b → b < q → dotL A M (x++[a]) (y++[b]) = A (dotL A M x y) (M a b)
 | 0,x,y,a,b,hx,hy,a0,a1,b0,b1=>by
  rw [List.length_eq_zero_iff.1 hx.1,List.length_eq_zero_iff.1 hy.1]
  obtain ⟨m0,m1⟩:=O.fi.ml a b a0 a1 b0 b1
  show A (M a b) 0 = A 0 (M a b)
  rw [O.fi.ac _ _ m0 m1 (Int.le_refl 0) O.fi.z]
 | n + 1,[],_,_,_,hx,_,_,_,_,_=>by have:=hx.1;simp at this
 | n + 1,_::_,[],_,_,_,hy,_,_,_,_=>by have:=hy.1;simp at this
 | n + 1,x::u,y::v,a,b,hx,hy,a0,a1,b0,b1=>by
  obtain ⟨⟨x0,x1⟩,hu⟩:=wd_tail hx
  obtain ⟨⟨y0,y1⟩,hv⟩:=wd_tail hy
  obtain ⟨m0,m1⟩:=O.fi.ml a b a0 a1 b0 b1
  obtain ⟨p0,p1⟩:=O.fi.ml x y x0 x1 y0 y1
  obtain ⟨d0,d1⟩:=O.fi.dlt hu hv
  show A (M x y) (dotL A M (u++[a]) (v++[b])) = A (A (M x y) (dotL A M u v)) (M a b)
  rw [FO.dot_snoc hu hv a0 a1 b0 b1,O.fi.aa _ _ _ p0 p1 d0 d1 m0 m1]
def slX (n : Nat) (E : List (List Int) × List Nat) : List Int:=(List.range n).map fun e=>if e ∈ E.2 then en E.1 (E.2.idxOf e) n else 0
def slB (n : Nat) (E : List (List Int) × List Nat) : Bool:=(E.1.drop E.2.length).all fun r=>decide (at0 r n = 0)
omit O in
theorem slB_iff {n : Nat} {E : List (List Int) × List Nat} : slB n E = true ↔ ∀ i,E.2.length ≤ i → i < E.1.length → en E.1 i n = 0:=by
 rw [slB,List.all_eq_true]
 constructor
 ·intro h i h1 h2
  have h3:=h (row0 E.1 i) (List.mem_of_getElem? (i:=i - E.2.length) (by rw [List.getElem?_drop,show E.2.length + (i - E.2.length) = i by omega,row0,List.getD_eq_getElem?_getD,List.getElem?_eq_getElem h2];rfl))
  simpa using h3
 ·intro h r hr
  obtain ⟨j,hj⟩:=List.getElem?_of_mem hr
  rw [List.getElem?_drop] at hj
  obtain ⟨h1,h2⟩:=List.getElem?_eq_some_iff.1 hj
  have:=h (E.2.length + j) (by omega) h1
  rw [en,row0,List.getD_eq_getElem?_getD,hj] at this
  simpa using this
omit O in
theorem slX_at {n e : Nat} {E : List (List Int) × List Nat} (he : e < n) : at0 (slX n E) e = if e ∈ E.2 then en E.1 (E.2.idxOf e) n else 0:=by
 rw [at0,slX,List.getD_eq_getElem?_getD,List.getElem?_map,List.getElem?_range he];rfl
omit O in
theorem ech_idx {R : List (List Int)} {P : List Nat} {c : Nat} (h : Ech R c P) {i a : Nat} (hi : P[i]? = some a) : P.idxOf a = i:=by
 have hm:=List.mem_of_getElem? hi
 have hl : P.idxOf a < P.length:=List.idxOf_lt_length_iff.2 hm
 have h1 : P[P.idxOf a]? = some a:=by rw [List.getElem?_eq_getElem hl,List.getElem_idxOf hl]
 rcases Nat.lt_trichotomy (P.idxOf a) i with h2 | h2 | h2
 ·have:=h.inc _ _ a a h1 hi h2;omega
 ·exact h2
 ·have:=h.inc _ _ a a hi h1 h2;omega
theorem FO.slX_wd {n : Nat} {E : List (List Int) × List Nat} (hM : Mat q (n + 1) E.1) (h : Ech E.1 n E.2) : Wd q n (slX n E):=by
 have hq:=O.q2
 refine ⟨by simp [slX],fun x hx=>?_⟩
 obtain ⟨e,_,rfl⟩:=List.mem_map.1 hx
 split
 ·rename_i hm
  have hl : E.2.idxOf e < E.2.length:=List.idxOf_lt_length_iff.2 hm
  exact wd_at (by omega) (hM.row (Nat.lt_of_lt_of_le hl h.le)) n
 ·omega
theorem FO.slX_sol {n : Nat} {E : List (List Int) × List Nat} (hM : Mat q (n + 1) E.1) (h : Ech E.1 n E.2) (hb : slB n E = true) : Wd q (n + 1) (slX n E++[N 1]) ∧ Sol A M E.1 (slX n E++[N 1]):=by
 have F:=O.fi
 have hq:=O.q2
 have hX:=O.slX_wd hM h
 obtain ⟨⟨n0,n1⟩,en1⟩:=O.ng 1 (by omega) (by omega)
 have hw : Wd q (n + 1) (slX n E++[N 1]):=⟨by rw [List.length_append,hX.1];rfl,fun x hx=>by
  rcases List.mem_append.1 hx with hx | hx
  ·exact hX.2 x hx
  ·rw [List.mem_singleton.1 hx];exact ⟨n0,n1⟩⟩
 refine ⟨hw,sol_row.2 fun i hi=>?_⟩
 have hr:=hM.row hi
 -- the row,cut at its last entry
 have hcut : row0 E.1 i = (row0 E.1 i).take n++[at0 (row0 E.1 i) n]:=by
  have h1 : n < (row0 E.1 i).length:=by rw [hr.1];omega
  conv=>lhs;rw [← List.take_append_drop n (row0 E.1 i)]
  congr 1
  rw [List.drop_eq_getElem_cons h1,List.drop_of_length_le (by rw [hr.1];omega),at0,List.getD_eq_getElem?_getD,List.getElem?_eq_getElem h1];rfl
 have ht : Wd q n ((row0 E.1 i).take n):=⟨by rw [List.length_take,hr.1];omega,fun x hx=>hr.2 x (List.mem_of_mem_take hx)⟩
 have hat : ∀ e,e < n → at0 ((row0 E.1 i).take n) e = en E.1 i e:=fun e he=>by
  rw [at0,List.getD_eq_getElem?_getD,List.getElem?_take,if_pos he,en,at0,List.getD_eq_getElem?_getD]
 obtain ⟨b0,b1⟩:=wd_at (by omega) hr n
 rw [hcut,O.dot_snoc hX ht n0 n1 b0 b1]
 have hneg : A (at0 (row0 E.1 i) n) (M (N 1) (at0 (row0 E.1 i) n)) = 0:=by
  have : A (M (at0 (row0 E.1 i) n) 1) (M (at0 (row0 E.1 i) n) (N 1)) = 0:=by
   rw [← F.md _ 1 _ b0 b1 (by omega) (by omega) n0 n1,en1,F.m0 b0 b1]
  rwa [F.m1 _ b0 b1,F.mc _ (N 1) b0 b1 n0 n1] at this
 have hdot : dotL A M (slX n E) ((row0 E.1 i).take n) = at0 (row0 E.1 i) n:=by
  rcases Nat.lt_or_ge i E.2.length with h1 | h1
  ·have hp : E.2[i]? = some E.2[i]:=List.getElem?_eq_getElem h1
   generalize E.2[i] = p at hp
   have hpn : p < n:=h.lt p (List.mem_of_getElem? hp)
   rw [O.dot_one hX ht p fun e hne=>?_]
   ·rw [slX_at hpn,if_pos (List.mem_of_getElem? hp),ech_idx h hp,hat p hpn,h.one i p hp,F.m1 _ b0 b1]
   ·by_cases hen : e < n
    ·rw [slX_at hen,hat e hen]
     by_cases hm : e ∈ E.2
     ·obtain ⟨j,hj⟩:=List.getElem?_of_mem hm
      have hji : i ≠ j:=fun e9=>by
       subst e9
       exact hne (Option.some.inj (hj.symm.trans hp))
      rw [if_pos hm,ech_idx h hj,h.zer j e hj i hi hji]
      obtain ⟨c0,c1⟩:=wd_at (by omega) (hM.row (i:=j) (by have:=(List.getElem?_eq_some_iff.1 hj).1;have:=h.le;omega)) n
      exact F.m0 c0 c1
     ·rw [if_neg hm]
      obtain ⟨c0,c1⟩:=wd_at (by omega) hr e
      rw [F.mc 0 _ (Int.le_refl 0) F.z c0 c1,F.m0 c0 c1]
    ·rw [wd_out hX (by omega),wd_out ht (by omega),F.m0 (Int.le_refl 0) F.z]
  ·have hz:=(slB_iff.1 hb) i h1 hi
   rw [show at0 (row0 E.1 i) n = 0 from hz]
   refine O.dot_zero hX ht fun e=>?_
   obtain ⟨c0,c1⟩:=wd_at (by omega) hX e
   by_cases hen : e < n
   ·rw [hat e hen,h.bot i h1 hi e hen,F.m0 c0 c1]
   ·rw [wd_out ht (by omega),F.m0 c0 c1]
 rw [hdot];exact hneg
abbrev pkL (w : List Int) (hs : List Nat) : List Int:=hs.map fun j=>at0 w j
abbrev eqL (gen : List (List Int)) (hs : List Nat) (l : Nat) : List (List Int):=gen.map fun r=>pkL r hs++[at0 r l]
abbrev eqE (A M : Int → Int → Int) (N V : Int → Int) (gen : List (List Int)) (hs : List Nat) (l : Nat) : List (List Int) × List Nat:=elimL A M N V hs.length 0 0 (eqL gen hs l)
omit O in
theorem pk_wd {n : Nat} (hq : 0 < q) {w : List Int} (hw : Wd q n w) (hs : List Nat) : Wd q hs.length (pkL w hs) :=
 ⟨by rw [List.length_map],fun x hx=>by obtain ⟨j,_,rfl⟩:=List.mem_map.1 hx;exact wd_at hq hw j⟩
omit O in
theorem eq_mat {n : Nat} (hq : 0 < q) {gen : List (List Int)} (hG : Mat q n gen) (hs : List Nat) (l : Nat) : Mat q (hs.length + 1) (eqL gen hs l):=fun r hr=>by
 obtain ⟨u,hu,rfl⟩:=List.mem_map.1 hr
 refine ⟨by rw [List.length_append,List.length_map];rfl,fun x hx=>?_⟩
 rcases List.mem_append.1 hx with hx | hx
 ·exact (pk_wd hq (hG u hu) hs).2 x hx
 ·rw [List.mem_singleton.1 hx];exact wd_at hq (hG u hu) l
theorem FO.cmbF_ind {n : Nat} {gen : List (List Int)} (hG : Mat q n gen) {P : List Int → Prop} (hP : ∀ (a : Int) (r u : List Int),r ∈ gen → 0 ≤ a → a < q → Wd q n u → P u → P (axp A M a r u)) : ∀ {x : List Int} {rows : List (List Int)} {u : List Int},(∀ a ∈ x,0 ≤ a ∧ a < q) → (∀ r ∈ rows,r ∈ gen) → Wd q n u → P u → P (cmbF A M x rows u)
 | [],_,u,_,_,_,h=>by rw [cmbF];exact h;· intros;contradiction
 | _::_,[],u,_,_,_,h=>by rw [cmbF];exact h;· intros;contradiction
 | a::x,r::rows,u,hx,hr,hu,h=>by
  obtain ⟨a0,a1⟩:=hx a (.head _)
  have hg:=hr r (.head _)
  rw [cmbF,O.cmb_step (hG r hg) hu]
  exact FO.cmbF_ind hG hP (fun b hb=>hx b (.tail _ hb)) (fun s hs=>hr s (.tail _ hs)) (O.fi.axw a0 a1 (hG r hg) hu) (hP a r u hg a0 a1 hu h)
theorem FO.sl_word {n : Nat} {gen : List (List Int)} (hG : Mat q n gen) {hs : List Nat} {l : Nat} (hb : slB hs.length (eqE A M N V gen hs l) = true) {x : List Int} (hx : ∀ a ∈ x,0 ≤ a ∧ a < q) :
  dotL A M (slX hs.length (eqE A M N V gen hs l)) (pkL (cmbL A M n x gen) hs) = at0 (cmbL A M n x gen) l:=by
 have F:=O.fi
 have hq:=O.q2
 have hm:=eq_mat (by omega) hG hs l
 obtain ⟨h1,h2,h3⟩:=O.elim (m:=hs.length) hm
 obtain ⟨s1,s2⟩:=O.slX_sol h1 h2 hb
 have hX:=O.slX_wd h1 h2
 have hsol:=(h3 _ s1).1 s2
 obtain ⟨⟨n0,n1⟩,en1⟩:=O.ng 1 (by omega) (by omega)
 have hrow : ∀ r ∈ gen,dotL A M (slX hs.length (eqE A M N V gen hs l)) (pkL r hs) = at0 r l:=fun r hr=>by
  have hp:=pk_wd (by omega) (hG r hr) hs
  obtain ⟨b0,b1⟩:=wd_at (by omega) (hG r hr) l
  have h:=hsol _ (List.mem_map.2 ⟨r,hr,rfl⟩)
  rw [O.dot_snoc hX hp n0 n1 b0 b1] at h
  obtain ⟨d0,d1⟩:=F.dlt hX hp
  have hneg : A (at0 r l) (M (N 1) (at0 r l)) = 0:=by
   have : A (M (at0 r l) 1) (M (at0 r l) (N 1)) = 0:=by
    rw [← F.md _ 1 _ b0 b1 (by omega) (by omega) n0 n1,en1,F.m0 b0 b1]
   rwa [F.m1 _ b0 b1,F.mc _ (N 1) b0 b1 n0 n1] at this
  obtain ⟨k0,k1⟩:=F.ml (N 1) _ n0 n1 b0 b1
  rw [F.ac _ _ d0 d1 k0 k1] at h
  rw [F.ac _ _ b0 b1 k0 k1] at hneg
  exact F.cancel k0 k1 d0 d1 b0 b1 (h.trans hneg.symm)
 refine O.cmbF_ind (P:=fun u=>dotL A M (slX hs.length (eqE A M N V gen hs l)) (pkL u hs) = at0 u l) hG (fun a r u hr a0 a1 hu h=>?_) hx (fun r hr=>hr) (O.wz n) ?_
 ·have hp:=pk_wd (by omega) (hG r hr) hs
  have hpu:=pk_wd (by omega) hu hs
  have e : pkL (axp A M a r u) hs = axp A M a (pkL r hs) (pkL u hs):=by
   refine wd_at_ext (pk_wd (by omega) (F.axw a0 a1 (hG r hr) hu) hs) (F.axw a0 a1 hp hpu) fun j hj=>?_
   rw [O.axp_at a0 a1 hp hpu]
   simp only [at0,pkL,List.getD_eq_getElem?_getD,List.getElem?_map,List.getElem?_eq_getElem hj,Option.map_some,Option.getD_some]
   have:=O.axp_at a0 a1 (hG r hr) hu hs[j]
   simpa only [at0,List.getD_eq_getElem?_getD] using this
  show dotL A M _ (pkL (axp A M a r u) hs) = at0 (axp A M a r u) l
  rw [e,F.daxp a0 a1 hX hp hpu,h,hrow r hr,O.axp_at a0 a1 (hG r hr) hu]
 ·show dotL A M _ (pkL (zW n) hs) = at0 (zW n) l
  rw [at0_zW]
  refine O.dot_zero hX (pk_wd (by omega) (O.wz n) hs) fun e=>?_
  obtain ⟨c0,c1⟩:=wd_at (by omega) hX e
  have : at0 (pkL (zW n) hs) e = 0:=by
   rw [at0,List.getD_eq_getElem?_getD,List.getElem?_map]
   cases hs[e]? with
   | none=>rfl
   | some j=>exact at0_zW n j
  rw [this,F.m0 c0 c1]
theorem FO.sl_iff {n : Nat} {gen : List (List Int)} (hG : Mat q n gen) {hs : List Nat} {l : Nat} :
  slB hs.length (eqE A M N V gen hs l) = true ↔ ∀ x,Wd q gen.length x → Sol A M (hs.map (colL gen)) x → dotL A M x (colL gen l) = 0:=by
 have F:=O.fi
 have hq:=O.q2
 have hm:=eq_mat (by omega) hG hs l
 obtain ⟨h1,h2,h3⟩:=O.elim (m:=hs.length) hm
 constructor
 ·intro hb x hx hS
  have h:=O.sl_word hG hb hx.2
  rw [O.cmb_at hx.2 hG] at h
  rw [← h]
  have hX:=O.slX_wd h1 h2
  have hw:=O.cmb_wd (n:=n) hx.2 hG
  refine O.dot_zero hX (pk_wd (by omega) hw hs) fun e=>?_
  obtain ⟨c0,c1⟩:=wd_at (by omega) hX e
  have : at0 (pkL (cmbL A M n x gen) hs) e = 0:=by
   rw [at0,List.getD_eq_getElem?_getD,List.getElem?_map]
   cases hj : hs[e]? with
   | none=>rfl
   | some j =>
    show at0 (cmbL A M n x gen) j = 0
    rw [O.cmb_at hx.2 hG]
    exact hS _ (List.mem_map.2 ⟨j,List.mem_of_getElem? hj,rfl⟩)
  rw [this,F.m0 c0 c1]
 ·intro h
  rw [slB_iff]
  intro i hi1 hi2
  have hr:=row0_mem hi2
  obtain ⟨t,ht,he⟩:=O.cmb_coef hm (O.elim_cmb hs.length 0 0 (Nat.zero_le _) hm _ hr)
  have hgl : (eqL gen hs l).length = gen.length:=by rw [List.length_map]
  rw [hgl] at ht
  have hcol : ∀ e,e < hs.length → colL (eqL gen hs l) e = colL gen (hs.getD e 0):=fun e hel=>by
   simp only [colL,eqL,List.map_map]
   refine List.map_congr_left fun r _=>?_
   show at0 (pkL r hs++[at0 r l]) e = _
   rw [at0,List.getD_eq_getElem?_getD,List.getElem?_append_left (by rw [List.length_map];exact hel),List.getElem?_map,List.getElem?_eq_getElem hel]
   show at0 r hs[e] = _
   rw [List.getD_eq_getElem?_getD,List.getElem?_eq_getElem hel];rfl
  have hcol2 : colL (eqL gen hs l) hs.length = colL gen l:=by
   simp only [colL,eqL,List.map_map]
   refine List.map_congr_left fun r _=>?_
   show at0 (pkL r hs++[at0 r l]) hs.length = _
   rw [at0,List.getD_eq_getElem?_getD,List.getElem?_append_right (by rw [List.length_map];exact Nat.le_refl _),List.length_map,Nat.sub_self];rfl
  show at0 (row0 _ i) hs.length = 0
  rw [he,hcol2]
  refine h t ht fun r hr=>?_
  obtain ⟨j,hj,rfl⟩:=List.mem_map.1 hr
  obtain ⟨e,hel,rfl⟩:=List.getElem_of_mem hj
  have:=he e
  rw [hcol e hel,List.getD_eq_getElem?_getD,List.getElem?_eq_getElem hel] at this
  show dotL A M t (colL gen hs[e]) = 0
  rw [show dotL A M t (colL gen hs[e]) = at0 (row0 (elimL A M N V hs.length 0 0 (eqL gen hs l)).1 i) e from this.symm]
  exact h2.bot i hi1 hi2 e hel
end
set_option maxRecDepth 100000
set_option linter.unusedVariables false
set_option linter.unusedSimpArgs false
def auL (rows : List (List Int)) (b : List Int) : List (List Int):=List.zipWith (fun r x=>r++[x]) rows b
theorem auL_len {rows : List (List Int)} {b : List Int} (h : b.length = rows.length) : (auL rows b).length = rows.length:=by rw [auL,List.length_zipWith];omega
theorem auL_at {rows : List (List Int)} {b : List Int} {i : Nat} {r : List Int} {x : Int} (hr : rows[i]? = some r) (hx : b[i]? = some x) : (auL rows b)[i]? = some (r++[x]):=by
 rw [auL,List.getElem?_zipWith,hr,hx]
theorem auL_mat {q n : Nat} {rows : List (List Int)} {b : List Int} (hM : Mat q n rows) (hb : ∀ x ∈ b,0 ≤ x ∧ x < (q : Int)) : Mat q (n + 1) (auL rows b):=fun s hs=>by
 obtain ⟨i,h1,rfl⟩:=List.getElem_of_mem hs
 rw [auL,List.length_zipWith] at h1
 have h2 : i < rows.length:=by omega
 have h3 : i < b.length:=by omega
 obtain ⟨l1,l2⟩:=hM _ (List.getElem_mem h2)
 simp only [auL,List.getElem_zipWith]
 refine ⟨by rw [List.length_append,l1];rfl,fun x hx=>?_⟩
 rcases List.mem_append.1 hx with hx | hx
 ·exact l2 x hx
 ·rw [List.mem_singleton.1 hx];exact hb _ (List.getElem_mem h3)
theorem auL_eq {gen : List (List Int)} {hs : List Nat} {l : Nat} : auL (gen.map fun r=>pkL r hs) (gen.map fun r=>at0 r l) = eqL gen hs l:=by
 rw [auL,List.zipWith_map,List.zipWith_self]
def slK (n : Nat) (E : List (List Int) × List Nat) (k : Nat) : List Int:=(List.range n).map fun e=>if e ∈ E.2.take k then en E.1 (E.2.idxOf e) n else 0
theorem slK_len {n k : Nat} {E : List (List Int) × List Nat} : (slK n E k).length = n:=by simp [slK]
theorem slK_zero {n : Nat} {E : List (List Int) × List Nat} : slK n E 0 = zW n:=by
 refine List.ext_getElem (by simp [slK,zW]) fun j h1 h2=>?_
 simp only [slK,zW,List.getElem_map,List.getElem_range,List.take_zero,List.getElem_replicate]
 exact if_neg (by simp)
theorem slK_end {n : Nat} {E : List (List Int) × List Nat} : slK n E E.2.length = slX n E:=by rw [slK,List.take_length];rfl
theorem slK_set {n k a : Nat} {E : List (List Int) × List Nat} (h : Ech E.1 n E.2) (hk : E.2[k]? = some a) : (slK n E k).set a (en E.1 k n) = slK n E (k + 1):=by
 refine List.ext_getElem (by simp [slK]) fun j h1 h2=>?_
 rw [List.getElem_set]
 simp only [slK,List.getElem_map,List.getElem_range]
 by_cases e : a = j
 ·subst e
  rw [if_pos rfl,if_pos (List.mem_of_getElem? (i:=k) (by rw [List.getElem?_take,if_pos (by omega),hk])),ech_idx h hk]
 ·rw [if_neg e,List.take_add_one,hk]
  by_cases hm : j ∈ E.2.take k
  ·rw [if_pos hm,if_pos (List.mem_append_left _ hm)]
  ·rw [if_neg hm,if_neg]
   intro hm2
   rcases List.mem_append.1 hm2 with h3 | h3
   ·exact hm h3
   ·rw [Option.toList_some,List.mem_singleton] at h3;exact e h3.symm
end Go.Proofs.YtlecjbjgbcdilaaGreat
namespace Go.Fw
set_option linter.unusedVariables false
variable {P : Program} {C : Cx} {σ : Fr} {ty : TypeId} {β : List Blk} {Γ : List Fact}
theorem evs_const (σ : Fr) : ∀ l : List Value,evs σ (l.map Operand.const) = some l
 | []=>rfl
 | v::l=>by
  have h:=evs_const σ l
  simp [evs,ev,h]
theorem x_fv {K : Value → List Blk → List Fact → Prop} {f : FuncId} {x : Operand} {xs : List Operand} {ts : Array TypeId} {args caps : List Value} (hv : ev σ x = some (.func (.func f) #[] caps.toArray)) (hx : evs σ xs = some args)
  (h : Jop P C (.call { callee:=.value (.func f),args:=((args++caps).map Operand.const).toArray,argTypes:=ts }) ty σ β Γ K) : Jop P C (.call { callee:=.value x,args:=xs.toArray,argTypes:=ts }) ty σ β Γ K:=by
 intro w hO hG ρ hρ
 have h1:=h w hO hG ρ hρ
 have hc : ρ (.func f) = .func (.func f) #[] #[]:=hρ _ _ rfl
 have hv' : ρ x = .func (.func f) #[] caps.toArray:=hρ _ _ hv
 have ha : xs.toArray.map ρ = args.toArray:=by rw [List.map_toArray,evs_eq hρ hx]
 have hb : ((args++caps).map Operand.const).toArray.map ρ = (args++caps).toArray:=by rw [List.map_toArray,evs_eq hρ (evs_const σ _)]
 simp only [execOp,bare,resolve,hb,hc,Deferred.ofValue,Sem.run_bind,Sem.run_pure,Result.andThen_ok,invoke,Array.append_empty,Array.empty_append] at h1
 simp only [execOp,bare,resolve,ha,hv',Deferred.ofValue,Sem.run_bind,Sem.run_pure,Result.andThen_ok,invoke,Array.append_empty,Array.empty_append]
 rw [List.append_toArray]
 exact h1
open Go.RowKit (Below)
def celF (b : Nat) (cs : List Value) : Fact where
 holds:=fun w A=>A b ∧ cellsAt w b 0 cs.length cs
 stable:=fun h ⟨hb,h1⟩=>⟨(h _ hb).1,h1.same (h _ hb).2⟩
section
variable {P : Program} {F : Fun P} {C : Cx} {S : List It} {σ : Fr} {ty : TypeId} {β : List Blk} {Γ : List Fact} {R : Value → World → Prop}
theorem j_pubC {e : TypeId} {b : Nat} {cs : List Value} (k : Nat) (hn : nth β k = some (some b,e,cs)) (h : J F C S σ (β.eraseIdx k) (celF b cs::Γ) R) : J F C S σ β Γ R:=fun w hO hG=>by
 have hsub : (β.eraseIdx k).Sublist β:=List.eraseIdx_sublist _ _
 refine h w (hO.sub hsub) fun f hf=>?_
 rcases List.mem_cons.1 hf with rfl | hf
 ·refine ⟨?_,cs.toArray,e,(0,0),hO.blk _ (nth_mem hn) b rfl,by simp,rfl⟩
  have hlt:=hO.lt (nth_mem hn) rfl
  have hnew:=hO.new _ (nth_mem hn) b rfl
  refine ⟨?_,hlt,fun x hx e=>mem_erase hO.apart hn x hx e⟩
  rcases hnew with h1 | h1
  ·exact .inr (.inr h1)
  ·exact .inr (.inl h1)
 ·exact facts_sub hsub hG f hf
theorem celF_at {w : World} {A : Nat → Prop} {b o : Nat} {cs : List Value} {v : Value} (h : (celF b cs).holds w A) (hv : cs[o]? = some v) : w.cell? ⟨b,o,none⟩ = some v:=by
 have:=h.2.rangeAt o v hv
 rwa [Nat.zero_add] at this
theorem x_ldC {K : Value → List Blk → List Fact → Prop} {t : TypeId} {x : Operand} {b o : Nat} {cs : List Value} {v : Value} (n : Nat) (hx : ev σ x = some (.pointer (some ⟨b,o,none⟩))) (hn : nth Γ n = some (celF b cs))
  (hT : ldTy P t = some (false,1)) (hv : cs[o]? = some v) (h : K v β Γ) : Jop P C (.load t x) ty σ β Γ K:=fun w hO hG =>
 Pure.done (Pure_load hT hx (celF_at (hG _ (fact_mem hn)) hv)) h hO hG
theorem d_ldC {t : TypeId} {x : Operand} {b o : Nat} {cs : List Value} {v : Value} (n : Nat) (hx : ev σ x = some (.pointer (some ⟨b,o,none⟩))) (hn : nth Γ n = some (celF b cs))
  (hT : ldTy P t = some (false,1)) (hv : cs[o]? = some v) : JD P (.load t x) ty σ β Γ (fun _=>v) (fun _=>[]):=fun _ w hO hG =>
 (Pure_load hT hx (celF_at (hG _ (fact_mem hn)) hv)).ex.mono fun u w' ⟨h1,h2⟩=>by subst h1;subst h2;exact ⟨Below.refl _ _,fun _=>default,rfl,fun g hg=>by cases hg⟩
end
section
variable {P : Program} {σ : Fr} {ty : TypeId} {β : List Blk} {Γ : List Fact}
theorem d_bld_int {t : TypeId} {x : Operand} {b o : Nat} {z : Int} {T : TypeId} {kd : IntKind} {l : List Int} (n : Nat) (hx : ev σ x = some (.pointer (some ⟨b,o,none⟩))) (hn : nth β n = some (some b,T,intCells kd l))
  (hT : ldTy P t = some (false,1)) (ho : l[o]? = some z) : JD P (.load t x) ty σ β Γ (fun _=>.int kd z) (fun _=>[]) :=
 d_bld n hx hn hT (by simp [intCells,ho])
end
theorem make_int (k : IntKind) (n : Nat) : (List.replicate n [Value.int k 0]).flatten = intCells k (List.replicate n 0):=by
 induction n with
 | zero=>rfl
 | succ n ih=>rw [List.replicate_succ,List.flatten_cons,ih,List.replicate_succ];rfl
section
variable {P : Program} {F : Fun P} {C : Cx} {S : List It} {σ : Fr} {ty : TypeId} {β : List Blk} {Γ : List Fact} {R : Value → World → Prop}
theorem x_xor_nat {K : Value → List Blk → List Fact → Prop} {x y : Operand} {t u : TypeId} {m n : Int} (a b : Nat) (hx : ev σ x = some (.int .i64 m)) (hy : ev σ y = some (.int .i64 n)) (hm : m = a) (hn : n = b) (ha : a < 256) (hb : b < 256)
  (h : K (.int .i64 ((a ^^^ b : Nat) : Int)) β Γ) : Jop P C (.binOp .xor t x y u) ty σ β Γ K :=
 x_pure (fun w ρ hρ=>by
  subst hm;subst hn
  have h1 : a ^^^ b < 256:=Nat.xor_lt_two_pow (n:=8) ha hb
  have h2 : IntKind.wrap .i64 ((a ^^^ b : Nat) : Int) = ((a ^^^ b : Nat) : Int):=wrap_in (by simp only [InR];omega)
  simp only [execOp,bare,hρ _ _ hx,hρ _ _ hy,eqGuard,Go.binOp,Op.intBits]
  have e : (BitVec.ofNat 64 a ^^^ BitVec.ofNat 64 b).toNat = a ^^^ b:=by rw [BitVec.toNat_xor,BitVec.toNat_ofNat,BitVec.toNat_ofNat,Nat.mod_eq_of_lt (by omega),Nat.mod_eq_of_lt (by omega)]
  simp [IntKind.bits]
  exact (congrArg (fun z : Nat=>IntKind.wrap .i64 (z : Int)) e).trans h2) h
theorem x_eqnilS {K : Value → List Blk → List Fact → Prop} {t e u : TypeId} {m : Nat} {x y : Operand} {a : Addr} {n c : Nat} (hT : slTy P t = some (e,m)) (hx : ev σ x = some (.slice (some a) n c)) (hy : ev σ y = some (.slice none 0 0)) (h : K (.bool false) β Γ) : Jop P C (.binOp .eql t x y u) ty σ β Γ K :=
 x_pure (fun w ρ hρ=>by
  have:=run_eql_slice_nil (P:=P) w t e (some a) n c (slTy_some hT).1
  simp [execOp,bare,hρ _ _ hx,hρ _ _ hy,eqGuard,this]) h
theorem x_eqnilN {K : Value → List Blk → List Fact → Prop} {t e u : TypeId} {m : Nat} {x y : Operand} {n c : Nat} (hT : slTy P t = some (e,m)) (hx : ev σ x = some (.slice none n c)) (hy : ev σ y = some (.slice none 0 0)) (h : K (.bool true) β Γ) : Jop P C (.binOp .eql t x y u) ty σ β Γ K :=
 x_pure (fun w ρ hρ=>by
  have:=run_eql_slice_nil (P:=P) w t e none n c (slTy_some hT).1
  simp [execOp,bare,hρ _ _ hx,hρ _ _ hy,eqGuard,this]) h
theorem j_slsome {α : Type} {E : Enc α} {pa : Option Addr} {n ca : Nat} {l : List α} (j : Nat) (hj : nth Γ j = some (slF E pa n ca l)) (hn : 0 < n) (h : ∀ b o,pa = some ⟨b,o,none⟩ → J F C S σ β Γ R) : J F C S σ β Γ R:=fun w hO hG=>by
 obtain ⟨hl,_,_,hs⟩:=hG _ (fact_mem hj)
 rcases hs with rfl | ⟨b,o,e,_⟩
 ·simp at hl;omega
 ·exact h b o e w hO hG
end
def cpL {α : Type} (cs : List α) (o1 o2 n : Nat) : List α:=cs.take o1++(cs.drop o2).take n++cs.drop (o1 + n)
theorem cpL_zero {α : Type} (cs : List α) (o1 o2 : Nat) : cpL cs o1 o2 0 = cs:=by simp [cpL]
theorem cpL_len {α : Type} {cs : List α} {o1 o2 n : Nat} (h1 : o1 + n ≤ cs.length) (h2 : o2 + n ≤ cs.length) : (cpL cs o1 o2 n).length = cs.length:=by
 simp only [cpL,List.length_append,List.length_take,List.length_drop];omega
theorem cpL_int (k : IntKind) (l : List Int) (o1 o2 n : Nat) : cpL (intCells k l) o1 o2 n = intCells k (cpL l o1 o2 n):=by
 simp only [cpL,intCells,List.map_append,List.map_take,List.map_drop]
theorem cpL_nat (k : IntKind) (l : List Nat) (o1 o2 n : Nat) : cpL (natCells k l) o1 o2 n = natCells k (cpL l o1 o2 n):=by
 simp only [cpL,natCells,List.map_append,List.map_take,List.map_drop]
theorem natCells_one (k : IntKind) (l : List Nat) : ∀ v ∈ natCells k l,v.oneCell' = true:=fun v hv=>by
 obtain ⟨x,_,rfl⟩:=List.mem_map.1 hv;rfl
theorem intCells_one (k : IntKind) (l : List Int) : ∀ v ∈ intCells k l,v.oneCell' = true:=fun v hv=>by
 obtain ⟨x,_,rfl⟩:=List.mem_map.1 hv;rfl
theorem cpL_get {α : Type} {cs : List α} {o1 o2 n j : Nat} (h1 : o1 + n ≤ cs.length) (h2 : o2 + n ≤ cs.length) : (cpL cs o1 o2 n)[j]? = if j < o1 then cs[j]? else if j < o1 + n then cs[o2 + (j - o1)]? else cs[j]?:=by
 have l1 : (cs.take o1).length = o1:=by rw [List.length_take];omega
 have l2 : ((cs.drop o2).take n).length = n:=by rw [List.length_take,List.length_drop];omega
 rw [cpL]
 by_cases h : j < o1
 ·rw [if_pos h,List.append_assoc,List.getElem?_append_left (by omega),List.getElem?_take,if_pos h]
 ·rw [if_neg h,List.append_assoc,List.getElem?_append_right (by omega),l1]
  by_cases h3 : j < o1 + n
  ·rw [if_pos h3,List.getElem?_append_left (by omega),List.getElem?_take,if_pos (by omega),List.getElem?_drop]
  ·rw [if_neg h3,List.getElem?_append_right (by omega),l2,List.getElem?_drop]
   congr 1;omega
section
variable {P : Program} {F : Fun P} {C : Cx} {S : List It} {σ : Fr} {ty : TypeId} {β : List Blk} {Γ : List Fact} {R : Value → World → Prop} {p : List Nat} {i : Nat} {d : Option Tmp}
theorem jg_copy {t t2 e : TypeId} {x y : Operand} {b o1 o2 n1 c1 n2 c2 n : Nat} {T : TypeId} {cs : List Value} {p1 p2 : Option Addr} (hx : ev σ x = some (.slice p1 n1 c1)) (hy : ev σ y = some (.slice p2 n2 c2)) (hT : slTy P t = some (e,1))
  (hn : Nat.min n2 n1 = n) (hp : n = 0 ∨ (p1 = some ⟨b,o1,none⟩ ∧ p2 = some ⟨b,o2,none⟩)) (h1 : o1 + n ≤ cs.length) (h2 : o2 + n ≤ cs.length) (hone : ∀ v ∈ cs,v.oneCell' = true) :
  JG P (.call { callee:=.builtin .copy,args:=#[x,y],argTypes:=#[t,t2] }) ty σ (some [(some b,T,cs)]) Γ (fun _=>[(some b,T,cpL cs o1 o2 n)]) (fun _=>.int .i64 n) (fun _=>[]):=by
 intro w A hA hpb _ hG
 obtain ⟨hu,inf,hi,hs⟩:=slTy_some hT
 have hsz : (P.info? e).map (·.size) = some 1:=by rw [hi];simp [hs]
 have hblk : w.heap[b]? = some (.cells cs.toArray T (0,0)):=hpb _ (.head _) b rfl
 have key : ∃ w',(Builtin.copy_ #[t,t2] ty #[.slice p1 n1 c1,.slice p2 n2 c2]).run P w = .ok (goInt n) w' ∧ Other b w w' ∧ w'.heap[b]? = some (.cells (cpL cs o1 o2 n).toArray T (0,0)):=by
  rcases Nat.eq_zero_or_pos n with h0 | h0
  ·subst h0
   refine ⟨w,run_copy_none (P:=P) w t t2 ty e p1 p2 n1 c1 n2 c2 hu hsz hn,⟨rfl,rfl,rfl,rfl,fun _ _=>rfl⟩,?_⟩
   rw [cpL_zero];exact hblk
  ·obtain ⟨rfl,rfl⟩:=hp.resolve_left (by omega)
   have hl : ((cs.drop o2).take n).length = n:=by rw [List.length_take,List.length_drop];omega
   have hr:=run_copy_row (P:=P) w t t2 ty e b o1 n1 c1 ⟨b,o2,none⟩ n2 c2 cs.toArray T ((cs.drop o2).take n) hu hsz hblk (by rw [hl,hn]) (fun j v hv=>by
    rw [Addr.add_mid]
    rw [List.getElem?_take] at hv
    split at hv
    ·rw [List.getElem?_drop] at hv
     simp [World.cell?,hblk,hv]
    ·cases hv) (by rw [hl];simpa using h1) (fun v hv=>hone v (List.mem_of_mem_drop (List.mem_of_mem_take hv)))
   rw [hl] at hr
   refine ⟨_,hr,⟨rfl,rfl,rfl,by simp [World.setRow],fun k hk=>setRow_other w b k _ hk⟩,?_⟩
   exact setRow_heap w b _ _ T _ hblk
 obtain ⟨w',hr,ho,hb'⟩:=key
 intro ρ hρ
 simp only [execOp,bare,resolve,invoke,builtin,Sem.run_bind,Sem.run_pure,Result.andThen_ok,List.map_toArray,List.map_cons,List.map_nil,hρ _ _ hx,hρ _ _ hy,hr]
 refine ⟨fun _=>default,rfl,⟨ho.os,ho.tape,ho.output,Nat.le_of_eq ho.size.symm,fun k hk hm=>ho.block k fun e=>hm ⟨_,.head _,by rw [e]⟩⟩,⟨fun y hy=>(by cases hy),trivial⟩,fun y hy bb hb=>?_,fun g hg=>by cases hg⟩
 obtain rfl:=List.mem_singleton.1 hy
 obtain rfl:=Option.some.inj hb
 exact ⟨.inr ⟨_,.head _,rfl⟩,hb'⟩
theorem lxk_copy {it : List (TypeId × IntKind)} {L : List Oper} {pos : List Po} {pt : List (List Nat)} {κ : Fr} {fs : List (Nat × Fact)} {al : List Blk} {k : Nat} {t t2 e : TypeId} {x y : Operand} {b o1 o2 n1 c1 n2 c2 : Nat} {T : TypeId} {cs : List Value} {p1 p2 : Option Addr} (n : Nat)
  (ho : opL F.fn.ntmps L κ i = some (d,.call { callee:=.builtin .copy,args:=#[x,y],argTypes:=#[t,t2] },ty)) (hx : ev σ x = some (.slice p1 n1 c1)) (hy : ev σ y = some (.slice p2 n2 c2)) (hT : slTy P t = some (e,1))
  (hn : Nat.min n2 n1 = n) (hp : n = 0 ∨ (p1 = some ⟨b,o1,none⟩ ∧ p2 = some ⟨b,o2,none⟩)) (h1 : o1 + n ≤ cs.length) (h2 : o2 + n ≤ cs.length) (hone : ∀ v ∈ cs,v.oneCell' = true)
  (h : LxK it F C p S L pt β Γ R k (i + 1) pos (delF d κ) (putF d (.int .i64 n) σ) fs ((some b,T,cpL cs o1 o2 n)::al) none) :
  LxK it F C p S L pt β Γ R k i (.sg (fun _=>[(some b,T,cpL cs o1 o2 n)]) (fun _=>.int .i64 n) (fun _=>[])::pos) κ σ fs al (some [(some b,T,cs)]) :=
 lxk_sg ho (jg_copy hx hy hT hn hp h1 h2 hone) fun _=>h
end
set_option linter.unusedVariables false
def conjF (l : List Fact) : Fact where
 holds:=fun w A=>∀ g ∈ l,g.holds w A
 stable:=fun h hs g hg=>g.stable h (hs g hg)
section
variable {P : Program} {F : Fun P} {C : Cx} {S : List It} {σ : Fr} {β : List Blk} {Γ : List Fact} {R : Value → World → Prop}
theorem j_conj {l : List Fact} (ix : List Nat) (hp : pick Γ ix = some l) (h : J F C S σ β (conjF l::Γ) R) : J F C S σ β Γ R :=
 j_add (conjF l) (fun w A hG g hg=>hG g (pick_mem hp g hg)) h
end
section
variable {P : Program} {f : FuncId} {args : List Value} {β : List Blk} {Γ : List Fact} {Q : Value → List Fact → List Blk → Prop}
theorem Ctr.conj (h : Ctr P f args β Γ Q) : Ctr P f args β [conjF Γ] Q:=⟨h.1,fun w A h1 h2 h3 h4=>h.2 w A h1 h2 h3 (h4 _ (.head _))⟩
theorem Ctr.conj1 {g : Fact} (h : Ctr P f args β (g::Γ) Q) : Ctr P f args β [g,conjF Γ] Q:=⟨h.1,fun w A h1 h2 h3 h4=>h.2 w A h1 h2 h3 fun x hx=>by
 rcases List.mem_cons.1 hx with rfl | hx
 ·exact h4 _ (.head _)
 ·exact h4 _ (.tail _ (.head _)) x hx⟩
theorem Ctr.mono {Q' : Value → List Fact → List Blk → Prop} (h : Ctr P f args β Γ Q) (hQ : ∀ (C : Cx) (w : World) v Φ β',Q v Φ β' → Own C w β' → (∀ g ∈ Φ,g.holds w (ok C w β')) → ∃ Φ2 β2,Q' v Φ2 β2 ∧ Own C w β2 ∧ ∀ g ∈ Φ2,g.holds w (ok C w β2)) : Ctr P f args β Γ Q' :=
 ⟨h.1,fun w A h1 h2 h3 h4=>(h.2 w A h1 h2 h3 h4).mono fun e w' hr=>by
  cases e with
  | returned v =>
   obtain ⟨Φ,β',hq,ho,hf⟩:=hr
   exact hQ _ _ _ _ _ hq ho hf
  | _=>exact hr⟩
theorem own_pub {C : Cx} {w : World} {α : Type} {E : Enc α} {e : TypeId} {bo : Option Nat} {n cap : Nat} {cs : List Value} {l : List α} {k : Nat} (hO : Own C w β) (hn : nth β k = some (bo,e,cs)) (hj : (rowF E ⟨bo,cap,cs⟩ n l).holds w (ok C w β)) (hby : n * E.bytes ≤ 140737488355328) :
  (slF E (ad bo) n cap l).holds w (ok C w (β.eraseIdx k)):=by
 obtain ⟨hl,hg,vss,hall,hc⟩:=hj
 have hsub : (β.eraseIdx k).Sublist β:=List.eraseIdx_sublist _ _
 refine ⟨hl,?_⟩
 subst hl
 rcases hg with ⟨h0,hn0,h1,h2⟩ | ⟨b,h0,hnc,hcm,hcs⟩
 ·have : l = []:=List.eq_nil_of_length_eq_zero hn0
  subst this
  dsimp only at h0 h1
  subst h0;subst h1
  exact ⟨Nat.le_refl _,hby,.inl rfl⟩
 ·dsimp only at h0 hnc hcm hcs hc
  subst h0
  refine ⟨hnc,hby,.inr ⟨b,0,rfl,?_,fun i x hi=>?_⟩⟩
  ·have hlt:=hO.lt (nth_mem hn) rfl
   have hnew:=hO.new _ (nth_mem hn) b rfl
   refine ⟨?_,hlt,fun x hx e=>mem_erase hO.apart hn x hx e⟩
   rcases hnew with h1 | h1
   ·exact .inr (.inr h1)
   ·exact .inr (.inl h1)
  ·have hlt : i < l.length:=(List.getElem?_eq_some_iff.1 hi).1
   obtain ⟨vs,hvs⟩ : ∃ vs,vss[i]? = some vs:=⟨vss[i]'(hall.1.symm ▸ hlt),by simp⟩
   have hpart:=flatten_part (allF_len hall) i vs hvs
   have hrd:=hall.2 i vs x hvs hi
   refine ⟨vs,⟨cs.toArray,e,(0,0),hO.blk _ (nth_mem hn) b rfl,?_,E.len hrd⟩,E.stable (fun _ hk=>⟨⟨hk.1,hk.2.1,fun x hx=>hk.2.2 x (hsub.subset hx)⟩,rfl⟩) hrd⟩
   rw [← hpart,← hc,Nat.zero_add,List.drop_take,List.take_take]
   congr 1
   have h4 : (i + 1) * E.size ≤ l.length * E.size:=Nat.mul_le_mul_right _ hlt
   rw [Nat.succ_mul] at h4
   omega
theorem Ctr.lend {α : Type} {E : Enc α} {e : TypeId} {r : Row} {n : Nat} {l : List α} {v0 : Value} (hby : n * E.bytes ≤ 140737488355328) (h : Ctr P f args [] (slF E (ad r.bo) n r.cap l::Γ) (fun v Φ β'=>v = v0 ∧ Φ = [] ∧ β' = [])) :
  Ctr P f args [(r.bo,e,r.cs)] (rowF E r n l::Γ) (fun v Φ β'=>v = v0 ∧ Φ = [rowF E r n l] ∧ β' = [(r.bo,e,r.cs)]) :=
 ⟨h.1,fun w A hA hb hd hG=>by
  have hO : Own ⟨w,A,inB [(r.bo,e,r.cs)]⟩ w [(r.bo,e,r.cs)]:=⟨Keep.refl _ _,fun x hx b hb'=>.inr ⟨x,hx,hb'⟩,hb,hd⟩
  have hok : ∀ k,(A k ∧ ¬ inB [(r.bo,e,r.cs)] k) → ok ⟨w,A,inB [(r.bo,e,r.cs)]⟩ w [(r.bo,e,r.cs)] k:=fun k hk=>⟨.inl hk.1,hA k hk.1,fun x hx e=>hk.2 ⟨x,hx,e⟩⟩
  have hrow : (rowF E r n l).holds w (ok ⟨w,A,inB [(r.bo,e,r.cs)]⟩ w [(r.bo,e,r.cs)]):=(rowF E r n l).stable (fun k hk=>⟨hok k hk,rfl⟩) (hG _ (.head _))
  have hcall:=h.2 w (fun k=>k < w.heap.size) (fun k hk=>hk) (fun x hx=>by cases hx) trivial (fun g hg=>by
   rcases List.mem_cons.1 hg with rfl | hg
   ·refine row_sl hO (.head _) (fun k hk=>⟨hk.2.1,fun ⟨x,hx,_⟩=>by cases hx⟩) (fun b hb'=>⟨hO.lt (.head _) hb',fun ⟨x,hx,_⟩=>by cases hx⟩) hrow hby
   ·exact g.stable (fun k hk=>⟨⟨hA k hk.1,fun ⟨x,hx,_⟩=>by cases hx⟩,rfl⟩) (hG g (.tail _ hg)))
  refine hcall.mono fun x w' hr=>?_
  cases x with
  | returned v =>
   obtain ⟨Φ,β',⟨rfl,rfl,rfl⟩,hO',hΦ⟩:=hr
   have hx : Ext w w':=⟨hO'.ext.os,hO'.ext.tape,hO'.ext.output,hO'.ext.size,fun k hk=>hO'.ext.block k hk (fun ⟨x,hx,_⟩=>by cases hx)⟩
   have hO2:=hO.step hx
   exact ⟨_,_,⟨rfl,rfl,rfl⟩,hO2,fun g hg=>by
    obtain rfl:=List.mem_singleton.1 hg
    exact facts_step (Γ:=[rowF E r n l]) hx (fun g hg=>by obtain rfl:=List.mem_singleton.1 hg;exact hrow) _ (.head _)⟩
  | _=>exact hr⟩
theorem Ctr.pubR {α : Type} {E : Enc α} {e : TypeId} {n : Nat} {l : List α} (hby : n * E.bytes ≤ 140737488355328) (h : Ctr P f args β Γ (fun v Φ β'=>∃ r : Row,v = .slice (ad r.bo) n r.cap ∧ Φ = [rowF E r n l] ∧ β' = [(r.bo,e,r.cs)])) :
  Ctr P f args β Γ (fun v Φ β'=>∃ pa ca,v = .slice pa n ca ∧ Φ = [slF E pa n ca l] ∧ β' = []) :=
 h.mono fun C w v Φ β' ⟨r,h1,h2,h3⟩ hO hf=>by
  subst h1;subst h2;subst h3
  have hO' : Own C w []:=hO.sub (List.nil_sublist _)
  refine ⟨_,_,⟨_,_,rfl,rfl,rfl⟩,hO',fun g hg=>?_⟩
  obtain rfl:=List.mem_singleton.1 hg
  exact own_pub (k:=0) hO rfl (hf _ (.head _)) hby
end
end Go.Fw
namespace Go.Proofs.YtlecjbjgbcdilaaGreat
open Go Go.Fw
set_option maxRecDepth 100000
set_option linter.unusedVariables false
set_option linter.unusedSimpArgs false
set_option maxHeartbeats 4000000
def ordP (P M : Int) : Prop:=2 ≤ P ∧ 1 ≤ M ∧ M ≤ 8 ∧ P.toNat ^ M.toNat ≤ 256
instance (P M : Int) : Decidable (ordP P M):=by unfold ordP;infer_instance
def ordI (P M : Int) : Int:=if ordP P M then ((P.toNat ^ M.toNat : Nat) : Int) else 0
theorem S_codewrightref04_Order {P M : Int} {pm : Option Addr} {n c : Nat} {res : Int} (hres : ordI P M = res) : Ctr Tryz.prog 68 [.agg #[.int .i64 P,.int .i64 M,.slice pm n c]] [] [] (Rv (.int .i64 res) []):=by
 refine Ctr_of_j' (F:=F_codewrightref04_Order) rfl fun C=>?_
 have no : ¬ ordP P M → res = 0:=fun h=>by rw [← hres,ordI,if_neg h]
 by_cases h1 : P < 2
 ·rw [no (by unfold ordP;omega)]
  refine j_nf [_,_] rfl (j_step rfl (x_box_agg rfl fun b1=>?_))
  refine j_run it 1 rfl (by simp) ?_
  refine j_nf [_,_,_] rfl (j_step rfl (x_field rfl fd24_0 ?_))
  refine j_step rfl (x_bld 0 rfl rfl ld3 rfl ?_)
  refine j_run it 2 rfl (by simp) ?_
  refine j_split_dec (t:=8) rfl (fun h2=>?_) (fun h2=>by exfalso;omega)
  refine j_run it 9 rfl (by simp) ?_
  refine j_nf [_,_] rfl ?_
  refine j_true rfl rfl ?_
  refine j_nf [_,_,_] rfl (j_run it 1 rfl (by simp) ?_)
  refine j_nf [_,_] rfl ?_
  refine j_giv [] rfl rfl rfl ⟨rfl,rfl,rfl⟩
 by_cases h2 : M < 1
 ·rw [no (by unfold ordP;omega)]
  refine j_nf [_,_] rfl (j_step rfl (x_box_agg rfl fun b1=>?_))
  refine j_run it 1 rfl (by simp) ?_
  refine j_nf [_,_,_] rfl (j_step rfl (x_field rfl fd24_0 ?_))
  refine j_step rfl (x_bld 0 rfl rfl ld3 rfl ?_)
  refine j_run it 2 rfl (by simp) ?_
  refine j_split_dec (t:=8) rfl (fun h3=>by exfalso;omega) (fun h3=>?_)
  refine j_gstep rfl rfl (x_field rfl fd24_1 ?_)
  refine j_gstep rfl rfl (x_bld 0 rfl rfl ld3 rfl ?_)
  refine j_run it 3 rfl (by simp) ?_
  refine j_split_dec (t:=13) rfl (fun h4=>?_) (fun h4=>by exfalso;omega)
  refine j_run it 4 rfl (by simp) ?_
  refine j_nf [_,_] rfl ?_
  refine j_true rfl rfl ?_
  refine j_nf [_,_,_] rfl (j_run it 1 rfl (by simp) ?_)
  refine j_nf [_,_] rfl ?_
  refine j_giv [] rfl rfl rfl ⟨rfl,rfl,rfl⟩
 by_cases h3 : 8 < M
 ·rw [no (by unfold ordP;omega)]
  refine j_nf [_,_] rfl (j_step rfl (x_box_agg rfl fun b1=>?_))
  refine j_run it 1 rfl (by simp) ?_
  refine j_nf [_,_,_] rfl (j_step rfl (x_field rfl fd24_0 ?_))
  refine j_step rfl (x_bld 0 rfl rfl ld3 rfl ?_)
  refine j_run it 2 rfl (by simp) ?_
  refine j_split_dec (t:=8) rfl (fun h4=>by exfalso;omega) (fun h4=>?_)
  refine j_gstep rfl rfl (x_field rfl fd24_1 ?_)
  refine j_gstep rfl rfl (x_bld 0 rfl rfl ld3 rfl ?_)
  refine j_run it 3 rfl (by simp) ?_
  refine j_split_dec (t:=13) rfl (fun h5=>by exfalso;omega) (fun h5=>?_)
  refine j_gstep rfl rfl (x_field rfl fd24_1 ?_)
  refine j_gstep rfl rfl (x_bld 0 rfl rfl ld3 rfl ?_)
  refine j_run it 2 rfl (by simp) ?_
  refine j_nf [_,_] rfl (j_if rfl rfl (fun h6=>?_) (fun h6=>by exfalso;omega))
  refine j_nf [_,_,_] rfl (j_run it 1 rfl (by simp) ?_)
  refine j_nf [_,_] rfl ?_
  refine j_giv [] rfl rfl rfl ⟨rfl,rfl,rfl⟩
 obtain ⟨p,rfl⟩ : ∃ p : Nat,P = p:=⟨P.toNat,by omega⟩
 obtain ⟨m,rfl⟩ : ∃ m : Nat,M = m:=⟨M.toNat,by omega⟩
 refine j_nf [_,_] rfl (j_step rfl (x_box_agg rfl fun b1=>?_))
 refine j_run it 1 rfl (by simp) ?_
 refine j_nf [_,_,_] rfl (j_step rfl (x_field rfl fd24_0 ?_))
 refine j_step rfl (x_bld 0 rfl rfl ld3 rfl ?_)
 refine j_run it 2 rfl (by simp) ?_
 refine j_split_dec (t:=8) rfl (fun h4=>by exfalso;omega) (fun h4=>?_)
 refine j_gstep rfl rfl (x_field rfl fd24_1 ?_)
 refine j_gstep rfl rfl (x_bld 0 rfl rfl ld3 rfl ?_)
 refine j_run it 3 rfl (by simp) ?_
 refine j_split_dec (t:=13) rfl (fun h5=>by exfalso;omega) (fun h5=>?_)
 refine j_gstep rfl rfl (x_field rfl fd24_1 ?_)
 refine j_gstep rfl rfl (x_bld 0 rfl rfl ld3 rfl ?_)
 refine j_run it 2 rfl (by simp) ?_
 refine j_nf [_,_] rfl (j_if rfl rfl (fun h6=>by exfalso;omega) (fun h6=>?_))
 refine j_nf [_,_] rfl (j_run it 1 rfl (by simp) ?_)
 refine j_nf [_,_,_] rfl (j_run it 1 rfl (by simp) ?_)
 refine j_nf [_,_,_] rfl ?_
 refine j_loopG (X:=Nat) [1] [] (fun i=>[(4,.int .i64 (i : Int)),(3,.int .i64 ((p ^ i : Nat) : Int))]) (fun _=>[(some b1,24,[.int .i64 (p : Int),.int .i64 (m : Int),.slice pm n c])]) (fun _=>[]) (fun i=>i ≤ m ∧ p ^ i ≤ 256) (fun i=>m - i) 0 [] rfl rfl rfl ⟨Nat.zero_le _,by simp⟩ (by repeat (first | exact Fr.sub_nil _ | refine Fr.sub_cons rfl ?_)) rfl rfl ?_
 rintro i ⟨hi,hq⟩ ih
 simp only [List.cons_append,List.nil_append] at hi hq ih ⊢
 by_cases hil : i < m
 ·have hp0 : 0 < p:=by omega
  have hdiv : (256 : Int) / (p : Int) = ((256 / p : Nat) : Int):=(Int.natCast_ediv 256 p).symm
  by_cases hb : p ^ (i + 1) ≤ 256
  ·have hle : p ^ i ≤ 256 / p:=by rw [Nat.le_div_iff_mul_le hp0];rwa [Nat.pow_succ] at hb
   have e : ((p ^ i : Nat) : Int) * (p : Int) = ((p ^ (i + 1) : Nat) : Int):=by rw [Nat.pow_succ,Int.natCast_mul]
   refine j_nf [_,_,_,_,_,_] rfl (j_run it 1 rfl (by simp) ?_)
   refine j_step rfl (x_field rfl fd24_1 ?_)
   refine j_step rfl (x_bld 0 rfl rfl ld3 rfl ?_)
   refine j_run it 1 rfl (by simp) ?_
   refine j_nf [_,_,_,_,_] rfl (j_if rfl rfl (fun h7=>?_) (fun h7=>by exfalso;omega))
   refine j_nf [_,_,_,_,_,_,_,_] rfl (j_run it 1 rfl (by simp) ?_)
   refine j_step rfl (x_field rfl fd24_0 ?_)
   refine j_step rfl (x_bld 0 rfl rfl ld3 rfl ?_)
   refine j_run it 2 rfl ⟨trivial,⟨by omega,by omega,by omega,by omega⟩,trivial⟩ ?_
   refine j_nf [_,_,_,_,_,_,_] rfl (j_if rfl rfl (fun h8=>by exfalso;omega) (fun h8=>?_))
   refine j_nf [_,_,_,_,_,_] rfl (j_run it 1 rfl (by simp) ?_)
   refine j_step rfl (x_field rfl fd24_0 ?_)
   refine j_step rfl (x_bld 0 rfl rfl ld3 rfl ?_)
   refine j_run it 2 rfl ⟨trivial,⟨by omega,by omega⟩,trivial⟩ ?_
   refine j_nf [_,_,_,_] rfl (j_run it 3 rfl ⟨trivial,⟨by omega,by omega⟩,trivial,trivial⟩ ?_)
   refine j_nfn 1 [.lp (pL 244),.blk 0,.c [1,1,1,1]] rfl ?_
   rw [e]
   refine j_to [] (by exact fra rfl) rfl rfl (ih (i + 1) (by omega) ⟨by omega,hb⟩)
  ·have hgt : 256 / p < p ^ i:=by
    refine Nat.lt_of_not_le fun h=>hb ?_
    rw [Nat.le_div_iff_mul_le hp0] at h
    rw [Nat.pow_succ];exact h
   rw [no fun h=>hb (Nat.le_trans (Nat.pow_le_pow_right hp0 hil) (by have:=h.2.2.2;simpa using this))]
   refine j_nf [_,_,_,_,_,_] rfl (j_run it 1 rfl (by simp) ?_)
   refine j_step rfl (x_field rfl fd24_1 ?_)
   refine j_step rfl (x_bld 0 rfl rfl ld3 rfl ?_)
   refine j_run it 1 rfl (by simp) ?_
   refine j_nf [_,_,_,_,_] rfl (j_if rfl rfl (fun h7=>?_) (fun h7=>by exfalso;omega))
   refine j_nf [_,_,_,_,_,_,_,_] rfl (j_run it 1 rfl (by simp) ?_)
   refine j_step rfl (x_field rfl fd24_0 ?_)
   refine j_step rfl (x_bld 0 rfl rfl ld3 rfl ?_)
   refine j_run it 2 rfl ⟨trivial,⟨by omega,by omega,by omega,by omega⟩,trivial⟩ ?_
   refine j_nf [_,_,_,_,_,_,_] rfl (j_if rfl rfl (fun h8=>?_) (fun h8=>by exfalso;omega))
   refine j_nf [_,_,_,_,_,_,_,_] rfl (j_run it 1 rfl (by simp) ?_)
   refine j_nf [_,_,_,_,_,_,_] rfl ?_
   refine j_giv [] rfl rfl rfl ⟨rfl,rfl,rfl⟩
 ·obtain rfl : m = i:=by omega
  have : res = ((p ^ m : Nat) : Int):=by
   rw [← hres,ordI,if_pos ⟨by omega,by omega,by omega,by simpa using hq⟩];simp
  rw [this]
  refine j_nf [_,_,_,_,_,_] rfl (j_run it 1 rfl (by simp) ?_)
  refine j_step rfl (x_field rfl fd24_1 ?_)
  refine j_step rfl (x_bld 0 rfl rfl ld3 rfl ?_)
  refine j_run it 1 rfl (by simp) ?_
  refine j_nf [_,_,_,_,_] rfl (j_if rfl rfl (fun h7=>by exfalso;omega) (fun h7=>?_))
  refine j_nf [_,_] rfl (j_run it 2 rfl (by simp) ?_)
  refine j_nf [_] rfl ?_
  refine j_giv [] rfl rfl rfl ⟨rfl,rfl,rfl⟩
theorem S_codewrightref04_prime {n : Nat} (hn : 2 ≤ n) (hn2 : n ≤ 1000000) {res : Bool} (hres : res = true ↔ Prm n) : Ctr Tryz.prog 69 [.int .i64 n] [] [] (Rv (.bool res) []):=by
 refine Ctr_of_j' (F:=F_codewrightref04_prime) rfl fun C=>?_
 refine j_nf [_,_] rfl (j_run it 1 rfl (by simp) ?_)
 refine j_nf [_,_,_] rfl (j_run it 1 rfl (by simp) ?_)
 refine j_nf [_,_,_] rfl ?_
 refine j_loopG (X:=Nat) [0] [] (fun d=>[(3,.int .i64 (d : Int))]) (fun _=>[]) (fun _=>[]) (fun d=>2 ≤ d ∧ d ≤ n ∧ ∀ e,2 ≤ e → e < d → ¬ e ∣ n) (fun d=>n - d) 2 [] rfl rfl rfl ⟨Nat.le_refl 2,hn,fun e h1 h2=>by omega⟩ (by repeat (first | exact Fr.sub_nil _ | refine Fr.sub_cons rfl ?_)) rfl rfl ?_
 rintro d ⟨hd,hdn,hall⟩ ih
 simp only [List.cons_append,List.nil_append] at hd hdn hall ih ⊢
 by_cases hdl : d < n
 ·by_cases hm : n % d = 0
  ·have hm' : (n : Int) % (d : Int) = 0:=by omega
   have : res = false:=by
    cases res with
    | false=>rfl
    | true=>exact absurd (Nat.dvd_of_mod_eq_zero hm) ((hres.1 rfl).2 d hd hdl)
   rw [this]
   refine j_nf [_,_,_,_,_,_] rfl (j_run it 3 rfl (by simp) ?_)
   refine j_nf [_,_,_,_,_] rfl (j_if rfl rfl (fun h1=>?_) (fun h1=>by exfalso;omega))
   refine j_nf [_,_,_,_,_,_,_] rfl (j_run it 4 rfl ⟨trivial,⟨by omega,by omega⟩,trivial,trivial,trivial⟩ ?_)
   refine j_nf [_,_,_,_,_,_] rfl (j_if rfl rfl (fun h2=>?_) (fun h2=>by exfalso;omega))
   refine j_nf [_,_,_,_,_,_,_] rfl (j_run it 1 rfl (by simp) ?_)
   refine j_nf [_,_,_,_,_,_] rfl ?_
   refine j_giv [] rfl rfl rfl ⟨rfl,rfl,rfl⟩
  ·have hm' : ¬ (n : Int) % (d : Int) = 0:=by omega
   refine j_nf [_,_,_,_,_,_] rfl (j_run it 3 rfl (by simp) ?_)
   refine j_nf [_,_,_,_,_] rfl (j_if rfl rfl (fun h1=>?_) (fun h1=>by exfalso;omega))
   refine j_nf [_,_,_,_,_,_,_] rfl (j_run it 4 rfl ⟨trivial,⟨by omega,by omega⟩,trivial,trivial,trivial⟩ ?_)
   refine j_nf [_,_,_,_,_,_] rfl (j_if rfl rfl (fun h2=>by exfalso;omega) (fun h2=>?_))
   refine j_nf [_,_,_,_] rfl (j_run it 3 rfl ⟨trivial,⟨by omega,by omega⟩,trivial,trivial⟩ ?_)
   refine j_nfn 1 [.lp [1,0,1,0,0],.blk 0,.c [1,1]] rfl ?_
   refine j_to [] (by exact fra rfl) rfl rfl (ih (d + 1) (by omega) ⟨by omega,by omega,fun e h1 h2=>by
    rcases Nat.lt_succ_iff_lt_or_eq.1 h2 with h3 | rfl
    ·exact hall e h1 h3
    ·exact fun hdv=>hm (Nat.mod_eq_zero_of_dvd hdv)⟩)
 ·obtain rfl : n = d:=by omega
  have : res = true:=hres.2 ⟨hn,hall⟩
  rw [this]
  refine j_nf [_,_,_,_,_,_] rfl (j_run it 3 rfl (by simp) ?_)
  refine j_nf [_,_,_,_,_] rfl (j_if rfl rfl (fun h1=>by exfalso;omega) (fun h1=>?_))
  refine j_nf [_,_] rfl (j_run it 1 rfl (by simp) ?_)
  refine j_nf [_] rfl ?_
  refine j_giv [] rfl rfl rfl ⟨rfl,rfl,rfl⟩
theorem fill_set {T : List Nat} {i n : Nat} (hT : T.length = n) (hi : i < n) {z : Nat} (hz : T[i]? = some z) : (T.take i++List.replicate (n - i) 0).set i z = T.take (i + 1)++List.replicate (n - (i + 1)) 0:=by
 have hl : (T.take i).length = i:=by rw [List.length_take];omega
 rw [List.set_append,if_neg (by omega),hl,Nat.sub_self,show n - i = (n - (i + 1)) + 1 by omega,List.replicate_succ,List.set_cons_zero,List.take_add_one,hz]
 simp
theorem dig_at {p : Nat} : ∀ {n i x : Nat},i < n → (dig p n x)[i]? = some (x / p ^ i % p)
 | n + 1,0,x,_=>by rw [dig,List.getElem?_cons_zero,Nat.pow_zero,Nat.div_one]
 | n + 1,i + 1,x,h=>by
  rw [dig,List.getElem?_cons_succ,dig_at (by omega),Nat.div_div_eq_div_mul,Nat.pow_succ,Nat.mul_comm p]
theorem toI_at {l : List Nat} {i x : Nat} (h : l[i]? = some x) : (toI l)[i]? = some (x : Int):=by rw [toI,List.getElem?_map,h];rfl
theorem natCells_toI (k : IntKind) (l : List Nat) : natCells k l = intCells k (toI l):=by simp [natCells,intCells,toI]
theorem toI_rng {l : List Nat} (h : ∀ x ∈ l,x ≤ 9223372036854775807) : ∀ x ∈ toI l,InR .i64 x:=fun x hx=>by
 obtain ⟨n,hn,rfl⟩:=List.mem_map.1 hx
 have:=h n hn
 simp only [InR];omega
abbrev SvI (n : Nat) (l : List Int) : Value → List Fact → List Blk → Prop:=fun v Φ β=>∃ pa ca,v = .slice pa n ca ∧ Φ = [slF I64 pa n ca l] ∧ β = []
theorem S_codewrightref04_digits {p n x : Nat} (hp : 1 ≤ p) (hp2 : p ≤ 1000000) (hn : n ≤ 100) (hx : x ≤ 1000000000) : Ctr Tryz.prog 103 [.int .i64 x,.int .i64 p,.int .i64 n] [] [] (SvI n (toI (dig p n x))):=by
 refine Ctr_of_j' (F:=F_codewrightref04_digits) rfl fun C=>?_
 have hl:=dig_len p n x
 refine j_nf [_,_] rfl (j_run it 1 rfl (by simp) ?_)
 refine j_nf [_,_] rfl (j_run it 1 rfl (by simp) ?_)
 refine j_step rfl (x_make_nat (n) _ rfl rfl sl22 zo22e by22e (by omega) (by omega) (by omega) fun b1=>?_)
 refine j_run it 1 rfl (by simp) ?_
 refine j_nf [_,_,_] rfl (j_run it 1 rfl (by simp) ?_)
 refine j_nf [_,_,_] rfl ?_
 rw [show List.replicate n 0 = (dig p n x).take 0++List.replicate (n - 0) 0 by simp]
 refine j_loopG (X:=Nat) [1,2,6,7] [] (fun i=>[(8,.int .i64 (i : Int)),(0,.int .i64 ((x / p ^ i : Nat) : Int))]) (fun i=>[(some b1,3,natCells .i64 ((dig p n x).take i++List.replicate (n - i) 0))]) (fun _=>[]) (fun i=>i ≤ n) (fun i=>n - i) 0 [] rfl rfl rfl (Nat.zero_le _) (by refine Fr.sub_cons rfl ?_;refine Fr.sub_consI rfl (by simp) ?_;repeat (first | exact Fr.sub_nil _ | refine Fr.sub_cons rfl ?_)) rfl rfl ?_
 rintro i hi ih
 simp only [List.cons_append,List.nil_append] at hi ih ⊢
 have hxi : x / p ^ i ≤ x:=Nat.div_le_self _ _
 have hz:=fun h=>dig_at (p:=p) (n:=n) (i:=i) (x:=x) h
 have hnx : x / p ^ (i + 1) = x / p ^ i / p:=by rw [Nat.pow_succ,← Nat.div_div_eq_div_mul]
 by_cases hil : i < n
 ·have ih':=ih (i + 1) (by omega) (by omega)
  rw [hnx,← fill_set hl hil (hz hil)] at ih'
  generalize x / p ^ i = y at *
  have e1 : (y : Int) % (p : Int) = ((y % p : Nat) : Int):=(Int.natCast_emod _ _).symm
  have e2 : (y : Int) / (p : Int) = ((y / p : Nat) : Int):=(Int.natCast_ediv _ _).symm
  have hlen : ((dig p n x).take i++List.replicate (n - i) 0).length = n:=by simp [hl];omega
  refine j_nf [_,_,_,_,_,_] rfl (j_run it 3 rfl (by simp) ?_)
  refine j_nf [_,_,_,_,_] rfl (j_if rfl rfl (fun h1=>?_) (fun h1=>by exfalso;omega))
  refine j_nf [_,_,_,_,_,_,_] rfl (j_run it 5 rfl ⟨⟨by omega,by omega⟩,trivial,trivial,trivial,trivial,trivial⟩ ?_)
  refine j_step rfl (x_idx_own (i) (i) rfl rfl sl22 rfl (by omega) (Nat.mul_one _) ?_)
  refine j_step rfl (x_bst_nat 0 ((y) % (p)) rfl rfl rfl ld3 (by first | rfl | omega) (by first | omega | (simp;omega)) ?_)
  refine j_nf [_,_,_,_,_,_] rfl (j_run it 4 rfl ⟨trivial,⟨by omega,by omega,by omega,by omega⟩,trivial,trivial,trivial⟩ ?_)
  refine j_nf [_,_,_,_] rfl (j_run it 3 rfl ⟨trivial,⟨by omega,by omega⟩,trivial,trivial⟩ ?_)
  refine j_nfn 1 [.lp (pL 116),.blk 0,.c [1,1,1]] rfl ?_
  rw [e2]
  refine j_to [] (by exact fra rfl) rfl rfl (ih')
 ·obtain rfl : i = n:=by omega
  clear hz hnx
  rw [List.take_of_length_le (by omega),Nat.sub_self,List.replicate_zero,List.append_nil,natCells_toI]
  refine j_nf [_,_,_,_,_,_] rfl (j_run it 3 rfl (by simp) ?_)
  refine j_nf [_,_,_,_,_] rfl (j_if rfl rfl (fun h1=>by exfalso;omega) (fun h1=>?_))
  refine j_nf [_,_] rfl (j_run it 2 rfl (by simp) ?_)
  refine j_nf [_] rfl ?_
  refine j_pub_madei 8 (toI (dig p i x)) 0 rfl (by rw [toI_len,hl]) (toI_rng fun d hd=>by have:=dig_lt (by omega) d hd;omega) (by omega) (by omega) ?_
  refine j_giv [0] rfl rfl rfl ⟨_,_,rfl,rfl,rfl⟩
theorem valP_drop {p : Nat} {l : List Nat} {j : Nat} (hj : j < l.length) : valP p (l.drop j) = l.getD j 0 + p * valP p (l.drop (j + 1)):=by
 rw [List.drop_eq_getElem_cons hj,valP,List.getD_eq_getElem?_getD,List.getElem?_eq_getElem hj];rfl
theorem S_codewrightref04_Value {P M : Int} {pm pd : Option Addr} {nm cm nd cd p : Nat} {l : List Nat} (hP : P = p) (hp : 1 ≤ p) (hp2 : p ≤ 256) (hd : ∀ x ∈ l,x < p) (hl : p ^ l.length ≤ 1000000) :
  Ctr Tryz.prog 62 [.agg #[.int .i64 P,.int .i64 M,.slice pm nm cm],.slice pd nd cd] [] [slF I64 pd nd cd (toI l)] (Rv (.int .i64 ((valP p l : Nat) : Int)) []):=by
 subst hP
 refine Ctr_of_j' (F:=F_codewrightref04_Value) rfl fun C=>?_
 refine j_len 0 rfl fun hn hb _=>?_
 rw [toI_len] at hn hb
 subst hn
 have hb : l.length * 8 ≤ 140737488355328:=hb
 refine j_nf [_,_] rfl ?_
 refine j_step rfl (x_box_agg rfl fun b1=>?_)
 refine j_run it 1 rfl (by simp) ?_
 refine j_nf [_,_] rfl ?_
 refine j_run it 1 rfl (by simp) ?_
 refine j_nf [_,_,_] rfl ?_
 refine j_run it 1 rfl (by simp) ?_
 refine j_step rfl (x_len sl22 rfl ?_)
 refine j_run it 2 rfl ⟨trivial,⟨by omega,by omega⟩,trivial⟩ ?_
 refine j_nf [_,_,_] rfl ?_
 refine j_loopG (X:=Nat) [1,2,4] [0] (fun j=>[(6,.int .i64 ((j : Int) - 1)),(5,.int .i64 ((valP p (l.drop j) : Nat) : Int))]) (fun _=>[(some b1,24,[.int .i64 (p : Int),.int .i64 M,.slice pm nm cm])]) (fun _=>[]) (fun j=>j ≤ l.length) (fun j=>j) l.length [] rfl rfl rfl (Nat.le_refl _) (by refine Fr.sub_cons rfl ?_;refine Fr.sub_consI rfl (by simp [valP]) ?_;repeat (first | exact Fr.sub_nil _ | refine Fr.sub_cons rfl ?_)) rfl rfl ?_
 rintro j hj ih
 simp only [List.cons_append,List.nil_append] at hj ih ⊢
 have hlt : valP p (l.drop j) < p ^ l.length:=Nat.lt_of_lt_of_le (valP_lt (by omega) fun x hx=>hd x (List.mem_of_mem_drop hx)) (Nat.pow_le_pow_right (by omega) (by rw [List.length_drop];omega))
 cases j with
 | zero =>
  rw [List.drop_zero]
  refine j_nf [_,_,_,_,_,_] rfl ?_
  refine j_run it 2 rfl (by simp) ?_
  refine j_nf [_,_,_,_,_] rfl ?_
  refine j_if rfl rfl (fun h1=>by exfalso;omega) (fun h1=>?_)
  refine j_nf [_,_] rfl ?_
  refine j_run it 2 rfl (by simp) ?_
  refine j_nf [_] rfl ?_
  refine j_giv [] rfl rfl rfl ⟨rfl,rfl,rfl⟩
 | succ j =>
  have hz : (toI l)[j]? = some ((l.getD j 0 : Nat) : Int):=toI_at (by rw [List.getD_eq_getElem?_getD,List.getElem?_eq_getElem (by omega)];rfl)
  have hz2 : l.getD j 0 < p:=hd _ (List.mem_of_getElem? (i:=j) (by rw [List.getD_eq_getElem?_getD,List.getElem?_eq_getElem (by omega)];rfl))
  have ih':=ih j (by omega) (by omega)
  have hlt2 : valP p (l.drop j) < p ^ l.length:=Nat.lt_of_lt_of_le (valP_lt (by omega) fun x hx=>hd x (List.mem_of_mem_drop hx)) (Nat.pow_le_pow_right (by omega) (by rw [List.length_drop];omega))
  rw [valP_drop (show j < l.length by omega)] at ih' hlt2
  generalize valP p (l.drop (j + 1)) = v at *
  generalize hw : l.getD j 0 = w at *
  have hgd : (toI l).getD (j + 1 - 1) default = (w : Int):=by rw [Nat.add_sub_cancel,List.getD_eq_getElem?_getD,hz];rfl
  have hvp : (v : Int) * (p : Int) ≤ 1000000:=by rw [← Int.natCast_mul,Nat.mul_comm];omega
  have hv0 : 0 ≤ (v : Int) * (p : Int):=by rw [← Int.natCast_mul];omega
  have e : (v : Int) * (p : Int) + (w : Int) = ((w + p * v : Nat) : Int):=by rw [Int.natCast_add,Int.natCast_mul,Int.mul_comm];omega
  refine j_nf [_,_,_,_,_,_] rfl ?_
  refine j_run it 2 rfl (by simp) ?_
  refine j_nf [_,_,_,_,_] rfl ?_
  refine j_if rfl rfl (fun h1=>?_) (fun h1=>by exfalso;omega)
  refine j_nf [_,_,_,_,_,_] rfl ?_
  (apply j_drawK it mx 9;(· rfl);(· rfl))
  (apply lxk_run 1;(· rfl);(· simp))
  (apply lxk_eq;(· rfl);(· exact d_x fun _=>x_field rfl fd24_0 dk_eq))
  (apply lxk_eq;(· rfl);(· exact d_bld 0 rfl rfl ld3 rfl))
  (apply lxk_run 3;(· rfl);(· exact ⟨trivial,trivial,⟨by omega,by omega⟩,trivial⟩))
  (apply lxk_pt;(· rfl);(· exact d_x fun _=>x_idx 0 ((j + 1) - 1) rfl rfl rfl sl22 (by omega) (by omega) fun z1 hz1 b2 o1=>(dk_ptD default hz1 0 rfl));intro b2 o1)
  (apply lxk_eq;(· rfl);(· exact d_x fun _=>x_ld_int 0 rfl rfl ld3 fun ⟨r1,r2⟩=>dk_eq))
  (apply lxk_run 1;(· rfl);(· exact ⟨⟨by omega,by omega⟩,trivial⟩))
  refine lxk_end rfl ?_
  simp only [List.map_cons,List.map_nil,List.cons_append,List.nil_append]
  refine j_run it 1 rfl (by simp) ?_
  refine j_nf [_,_,_,_] rfl ?_
  refine j_run it 3 rfl ⟨trivial,⟨by omega,by omega⟩,trivial,trivial⟩ ?_
  refine j_nfn 1 [.lp (pL 116),.blk 0,.c [1,1,1]] rfl ?_
  rw [hgd,e]
  refine j_to [1] (by exact fii rfl (by omega) (fcc rfl (fcc rfl (fcc rfl (fcc rfl (fzz _)))))) rfl rfl (ih')
def divR (p : Nat) (g r : List Int) : Nat → List Int
 | 0=>r
 | n + 1=>(stepR p (p - (divR p g r n).getD (r.length - 1 - n) 0) g (r.length - 1 - n - g.length) g.length (divR p g r n)).set (r.length - 1 - n) 0
theorem divR_len (p : Nat) (g r : List Int) : ∀ n,(divR p g r n).length = r.length
 | 0=>rfl
 | n + 1=>by rw [divR,List.length_set,stepR_len,divR_len p g r n]
theorem divR_rng {p : Nat} (hp : 0 < p) (g : List Int) {r : List Int} (hr : ∀ x ∈ r,0 ≤ x ∧ x < p) : ∀ n,∀ x ∈ divR p g r n,0 ≤ x ∧ x < p
 | 0=>hr
 | n + 1=>fun x hx=>by
  rw [divR] at hx
  rcases List.mem_or_eq_of_mem_set hx with h | rfl
  ·exact stepR_rng hp _ _ _ (divR_rng hp g hr n) _ x h
  ·omega
theorem divR_out {p : Nat} {g r : List Int} : ∀ n,n + g.length ≤ r.length → ∀ k,r.length - n ≤ k → k < r.length → (divR p g r n).getD k 0 = 0
 | 0,_,k,h1,h2=>by omega
 | n + 1,hn,k,h1,h2=>by
  rw [divR,List.getD_eq_getElem?_getD,List.getElem?_set]
  by_cases e : r.length - 1 - n = k
  ·rw [if_pos e,if_pos (by rw [stepR_len,divR_len];omega)];rfl
  ·rw [if_neg e,← List.getD_eq_getElem?_getD,stepR_out _ _ _ _ _ _ (by omega)]
   exact divR_out n (by omega) k (by omega) h2
theorem divR_ev {p : Nat} {g r : List Int} (hg : 1 ≤ g.length) : ∀ n,n + g.length ≤ r.length → cg p fun j=>evL (Xg g) ((divR p g r n).take (r.length - n)) oneV j - evL (Xg g) r oneV j
 | 0,_=>fun j=>by
  rw [divR,Nat.sub_zero,List.take_length]
  exact ⟨0,by show evL (Xg g) r oneV j - evL (Xg g) r oneV j = _;omega⟩
 | n + 1,hn=>fun j=>by
  have ih : (p : Int) ∣ evL (Xg g) ((divR p g r n).take (r.length - n)) oneV j - evL (Xg g) r oneV j:=divR_ev hg n (by omega) j
  have h1 : (p : Int) ∣ evL (Xg g) ((stepR p (p - (divR p g r n).getD (r.length - 1 - n) 0) g (r.length - 1 - n - g.length) g.length (divR p g r n)).take (r.length - 1 - n)) oneV j - evL (Xg g) ((divR p g r n).take (r.length - 1 - n + 1)) oneV j:=red_step (p:=p) hg (r:=divR p g r n) (i:=r.length - 1 - n) (by omega) (by rw [divR_len];omega) j
  rw [show r.length - 1 - n + 1 = r.length - n by omega] at h1
  refine dvd_eq (Int.dvd_add h1 ih) ?_
  show _ = evL (Xg g) ((divR p g r (n + 1)).take (r.length - (n + 1))) oneV j - _
  rw [show r.length - (n + 1) = r.length - 1 - n by omega,divR,List.take_set,List.set_eq_of_length_le (by rw [List.length_take];omega)]
  omega
theorem divR_zero {p : Nat} (hp : 0 < p) {g r : List Int} (hg : 1 ≤ g.length) (hr : ∀ x ∈ r,0 ≤ x ∧ x < p) (hl : g.length ≤ r.length) :
  (∀ k,k < r.length → (divR p g r (r.length - g.length)).getD k 0 = 0) ↔ cg p (evL (Xg g) r oneV):=by
 have h1:=divR_ev (p:=p) hg (r:=r) (r.length - g.length) (by omega)
 rw [show r.length - (r.length - g.length) = g.length by omega] at h1
 have h2:=divR_out (p:=p) (g:=g) (r:=r) (r.length - g.length) (by omega)
 have h3:=divR_rng hp g hr (r.length - g.length)
 have h4:=divR_len p g r (r.length - g.length)
 generalize divR p g r (r.length - g.length) = s at *
 rw [ev_one (by rw [List.length_take];omega)] at h1
 constructor
 ·intro h j
  have h5 : (p : Int) ∣ vec (s.take g.length) j - evL (Xg g) r oneV j:=h1 j
  have h6 : vec (s.take g.length) j = 0:=by
   by_cases hj : j < g.length
   ·have:=h j (by omega)
    rw [vec,List.getD_eq_getElem?_getD,List.getElem?_take,if_pos hj,← List.getD_eq_getElem?_getD];exact this
   ·exact vec_out (by rw [List.length_take];omega)
  rw [h6] at h5
  exact Int.dvd_neg.1 (dvd_eq h5 (by omega))
 ·intro h k hk
  by_cases hkd : k < g.length
  ·have h5 : (p : Int) ∣ vec (s.take g.length) k - evL (Xg g) r oneV k:=h1 k
   have h6:=Int.dvd_add h5 (h k)
   have h7 : vec (s.take g.length) k = s.getD k 0:=by
    rw [vec,List.getD_eq_getElem?_getD,List.getElem?_take,if_pos hkd,← List.getD_eq_getElem?_getD]
   rw [h7] at h6
   have h8 : (p : Int) ∣ s.getD k 0:=dvd_eq h6 (by omega)
   obtain ⟨b0,b1⟩:=h3 (s.getD k 0) (List.mem_of_getElem? (i:=k) (by rw [List.getD_eq_getElem?_getD,List.getElem?_eq_getElem (by omega)];rfl))
   obtain ⟨z,hz⟩:=h8
   have hp' : (0 : Int) < p:=by omega
   rcases Int.lt_trichotomy z 0 with h9 | h9 | h9
   ·have:=Int.mul_le_mul_of_nonneg_left (show z ≤ -1 by omega) (Int.le_of_lt hp')
    omega
   ·rw [hz,h9,Int.mul_zero]
   ·have:=Int.mul_le_mul_of_nonneg_left (show 1 ≤ z by omega) (Int.le_of_lt hp')
    omega
  ·exact h2 k (by omega) hk
theorem S_codewrightref04_divides {pg pm : Option Addr} {ng nm cg' cm p : Nat} {g md : List Int} (hp : 1 ≤ p) (hp2 : p ≤ 256) (hg : 1 ≤ g.length) (hl : g.length ≤ md.length) (hm : md.length ≤ 100) (rg : ∀ x ∈ g,0 ≤ x ∧ x < p) (rm : ∀ x ∈ md,0 ≤ x ∧ x < p) (h1p : 1 < p)
  {res : Bool} (hres : res = true ↔ cg p (evL (Xg g) (md++[1]) oneV)) :
  Ctr Tryz.prog 109 [.slice pg ng cg',.slice pm nm cm,.int .i64 p] [] [slF I64 pg ng cg' g,slF I64 pm nm cm md] (Rv (.bool res) []):=by
 refine Ctr_of_j' (F:=F_codewrightref04_divides) rfl fun C=>?_
 refine j_len 0 rfl fun hn1 _ _=>?_
 refine j_len 1 rfl fun hn2 _ _=>?_
 subst hn1;subst hn2
 refine j_nf [_,_] rfl ?_
 refine j_run it 1 rfl (by simp) ?_
 refine j_nf [_,_] rfl ?_
 refine j_run it 1 rfl (by simp) ?_
 refine j_step rfl (x_len sl22 rfl ?_)
 refine j_run it 1 rfl (by simp) ?_
 refine j_nf [_,_] rfl ?_
 refine j_step rfl (x_lit0 sl22 fun b1=>?_)
 refine j_run it 1 rfl (by simp) ?_
 (apply j_rowlit (E:=encInt IntKind.i64 8) (n:=0) (cs:=[]) [] [] 0 (fun w A hG=>allrd_nil);(· rfl);(· rfl);(· rfl);(· rfl);(· decide))
 refine j_step rfl (x_appS 0 0 2 rfl rfl rfl rfl rfl sl22 zo22e rfl (by omega) _ by22e (by omega) fun r1=>?_)
 refine j_run it 1 rfl (by simp) ?_
 refine j_nf [_,_] rfl ?_
 refine j_run it 1 rfl (by simp) ?_
 refine j_step rfl (x_lit sl22 zo22e rfl rfl rfl rfl (by decide) (by decide) rfl fun b2=>?_)
 refine j_step rfl (x_appR (z:=(1 : Int)) 1 0 0 rfl rfl rfl rfl rfl sl22 zo22e rfl (fun w A hG=>(rd_int (by first | (simp only [InR];omega) | (simp [InR];done)))) (by omega) _ by22e (by omega) fun r2=>?_)
 refine j_run it 1 rfl (by simp) ?_
 refine j_nf [_,_,_] rfl ?_
 refine j_run it 1 rfl (by simp) ?_
 refine j_step rfl (x_len sl22 rfl ?_)
 refine j_run it 2 rfl ⟨trivial,⟨by omega,by omega⟩,trivial⟩ ?_
 refine j_nf [_,_,_] rfl ?_
 simp only [Nat.zero_add,List.nil_append]
 have r0 : ∀ x ∈ md++[1],0 ≤ x ∧ x < (p : Int):=fun x hx=>by
  rcases List.mem_append.1 hx with h | h
  ·exact rm x h
  ·rw [List.mem_singleton.1 h];omega
 have l0 : (md++[1]).length = md.length + 1:=by simp
 have hz:=divR_zero (p:=p) (by omega) hg r0 (by omega)
 have hR:=divR_rng (p:=p) (by omega) g r0
 have hL:=divR_len p g (md++[1])
 have hO:=divR_out (p:=p) (g:=g) (r:=md++[1])
 rw [l0] at hz hL hO
 refine j_rowB 0 rfl (by omega) fun bR capR csR hRow=>?_
 subst hRow
 refine j_loopG (X:=Nat × List Value) [0,2,6,7,8] [2,3] (fun x=>[(9,.int .i64 ((md.length : Int) - (x.1 : Int)))]) (fun x=>[(some bR,3,x.2),(some b2,3,[.int .i64 1])])
  (fun x=>[rowF I64 ⟨some bR,capR,x.2⟩ (md.length + 1) (divR p g (md++[1]) x.1)]) (fun x=>x.1 ≤ md.length + 1 - g.length) (fun x=>md.length + 1 - g.length - x.1) (0,csR) [0] rfl rfl rfl (Nat.zero_le _) (by refine Fr.sub_consI rfl (by simp) ?_;repeat (first | exact Fr.sub_nil _ | refine Fr.sub_cons rfl ?_)) rfl rfl ?_
 rintro ⟨n,csA⟩ hn ih
 simp only [List.cons_append,List.nil_append] at hn ih ⊢
 by_cases hil : n < md.length + 1 - g.length
 ·have hlt : md.length - n < md.length + 1:=by omega
  have hLn:=hL n
  have hRn:=hR n
  have ihn:=fun r : List Value=>ih (n + 1,r) (by dsimp only;omega) (by dsimp only;omega)
  simp only [divR,l0] at ihn
  rw [show md.length + 1 - 1 - n = md.length - n by omega] at ihn
  generalize divR p g (md++[1]) n = L at *
  have hzc : L[md.length - n]? = some (L.getD (md.length - n) 0):=by rw [List.getD_eq_getElem?_getD,List.getElem?_eq_getElem (by omega)];rfl
  obtain ⟨c0,c1⟩:=hRn _ (List.mem_of_getElem? hzc)
  generalize L.getD (md.length - n) 0 = c at *
  obtain ⟨cN,rfl⟩ : ∃ cN : Nat,c = cN:=⟨c.toNat,by omega⟩
  have hpc : (p : Int) - (cN : Int) = ((p - cN : Nat) : Int):=by omega
  rw [hpc] at ihn
  refine j_nf [_,_,_,_,_,_] rfl ?_
  refine j_run it 3 rfl (by simp) ?_
  refine j_nf [_,_,_,_,_] rfl ?_
  refine j_if rfl rfl (fun h1=>?_) (fun h1=>by exfalso;omega)
  refine j_nf [_,_,_,_,_,_,_] rfl ?_
  refine j_run it 2 rfl (by simp) ?_
  refine j_step rfl (x_idx_own ((md.length) - (n)) ((md.length) - (n)) rfl rfl sl22 (by omega) (by omega) (Nat.mul_one _) ?_)
  refine j_step rfl (x_ldR_int 0 0 (md.length - n) rfl rfl rfl ld3 rfl (by assumption) fun hr1=>?_)
  refine j_run it 1 rfl (by simp) ?_
  refine j_nf [_,_,_,_,_,_,_,_] rfl ?_
  refine j_run it 1 rfl (by simp) ?_
  refine j_nf [_,_,_,_,_,_,_,_] rfl ?_
  have hk : md.length - n - g.length + g.length ≤ md.length:=by omega
  generalize hkk : md.length - n - g.length = k at *
  refine j_loopG (X:=Nat × List Value) [0,2,6,7,8,9,10,24,25,26,29,30,31,32] [1,2] (fun x=>[(11,.int .i64 (x.1 : Int))]) (fun x=>[(some bR,3,x.2),(some b2,3,[.int .i64 1])])
   (fun x=>[rowF I64 ⟨some bR,capR,x.2⟩ (md.length + 1) (stepR p ((p - cN : Nat) : Int) g k x.1 L)]) (fun x=>x.1 ≤ g.length) (fun x=>g.length - x.1) (0,csA) [0] rfl rfl rfl (Nat.zero_le _) (by repeat (first | exact Fr.sub_nil _ | refine Fr.sub_cons rfl ?_)) rfl rfl ?_
  rintro ⟨j,csB⟩ hj ihj
  simp only [List.cons_append,List.nil_append] at hj ihj ⊢
  by_cases hjl : j < g.length
  ·have hSl:=stepR_len p ((p - cN : Nat) : Int) g k L j
   have hSr:=stepR_rng (p:=p) (by omega) ((p - cN : Nat) : Int) g k hRn j
   have ihj':=fun r : List Value=>ihj (j + 1,r) (by dsimp only;omega) (by dsimp only;omega)
   simp only [stepR] at ihj'
   generalize stepR p ((p - cN : Nat) : Int) g k j L = S at *
   have hzS : S[k + j]? = some (S.getD (k + j) 0):=by rw [List.getD_eq_getElem?_getD,List.getElem?_eq_getElem (by omega)];rfl
   have hgd : g.getD j 0 = g.getD j default:=rfl
   rw [hgd] at ihj'
   have hzg : g[j]? = some (g.getD j default):=by rw [List.getD_eq_getElem?_getD,List.getElem?_eq_getElem (by omega)];rfl
   obtain ⟨s0,s1⟩:=hSr _ (List.mem_of_getElem? hzS)
   obtain ⟨g0,g1⟩:=rg _ (List.mem_of_getElem? hzg)
   generalize S.getD (k + j) 0 = s at *
   have hm0 : 0 ≤ ((p - cN : Nat) : Int) * g.getD j default:=Int.mul_nonneg (by omega) g0
   have hm1 : ((p - cN : Nat) : Int) * g.getD j default ≤ 65536:=Int.le_trans (Int.mul_le_mul (show ((p - cN : Nat) : Int) ≤ 256 by omega) (show g.getD j default ≤ 256 by omega) g0 (by decide)) (by decide)
   have em : (s + ((p - cN : Nat) : Int) * g.getD j default) % (p : Int) < p:=Int.emod_lt_of_pos _ (by omega)
   have em0 : 0 ≤ (s + ((p - cN : Nat) : Int) * g.getD j default) % (p : Int):=Int.emod_nonneg _ (by omega)
   rw [← hkk] at hzS ihj'
   refine j_nf [_,_,_,_,_,_,_,_,_,_,_] rfl ?_
   refine j_run it 3 rfl (by simp) ?_
   refine j_nf [_,_,_,_,_,_,_,_,_,_] rfl ?_
   refine j_if rfl rfl (fun h2=>?_) (fun h2=>by exfalso;omega)
   refine j_nf [_,_,_,_,_,_,_,_,_,_,_] rfl ?_
   (apply j_drawK it mx 25;(· rfl);(· rfl))
   (apply lxk_run 3;(· rfl);(· simp))
   (apply lxk_eq (v:=Value.int IntKind.i64 (((((md.length) - (n)) - (g.length) : Nat)) : Int));(· rfl);(· exact d_x fun _=>x_asN it _ rfl ⟨by omega,by omega⟩ (by omega) dk_eq))
   simp only [Nat.add_sub_cancel]
   (apply lxk_run 5;(· rfl);(· exact ⟨trivial,trivial,trivial,⟨by omega,by omega⟩,trivial,trivial⟩))
   (apply lxk_eq (v:=Value.int IntKind.i64 (((((md.length) - (n)) - (g.length) : Nat)) : Int));(· rfl);(· exact d_x fun _=>x_asN it _ rfl ⟨by omega,by omega⟩ (by omega) dk_eq))
   simp only [Nat.add_sub_cancel]
   (apply lxk_run 2;(· rfl);(· exact ⟨⟨by omega,by omega⟩,trivial,trivial⟩))
   (apply lxk_eq;(· rfl);(· exact d_x fun _=>x_idx_own ((md.length - n - g.length) + (j)) ((md.length - n - g.length) + (j)) rfl rfl sl22 (by omega) (by omega) (Nat.mul_one _) dk_eq))
   (apply lxk_eq;(· rfl);(· exact d_ldR_int 0 0 (md.length - n - g.length + j) rfl rfl rfl ld3 rfl (by assumption)))
   (apply lxk_run 2;(· rfl);(· simp))
   (apply lxk_eq (v:=Value.int IntKind.i64 ((((p) - (cN) : Nat)) : Int));(· rfl);(· exact d_x fun _=>x_asN it _ rfl ⟨by omega,by omega⟩ (by omega) dk_eq))
   simp only [Nat.add_sub_cancel]
   (apply lxk_run 2;(· rfl);(· simp))
   (apply lxk_pt;(· rfl);(· exact d_x fun _=>x_idx 2 (j) rfl rfl rfl sl22 rfl (by omega) fun z1 hz1 b3 o1=>(dk_ptD default hz1 0 rfl));intro b3 o1)
   (apply lxk_eq;(· rfl);(· exact d_x fun _=>x_ld_int 0 rfl rfl ld3 fun ⟨r2,r3⟩=>dk_eq))
   (apply lxk_run 4;(· rfl);(· exact ⟨⟨by omega,by omega⟩,trivial,⟨by omega,by omega⟩,⟨by omega,by omega⟩,trivial⟩))
   refine lxk_end rfl ?_
   simp only [List.map_cons,List.map_nil,List.cons_append,List.nil_append]
   refine j_step rfl (x_idx_own ((md.length - n - g.length) + (j)) ((md.length - n - g.length) + (j)) rfl rfl sl22 (by omega) (by omega) (Nat.mul_one _) ?_)
   refine j_step rfl (x_stR (vs:=[Value.int IntKind.i64 ((s + ↑(p - cN) * g.getD j default) % ↑p)]) (z:=((s + ↑(p - cN) * g.getD j default) % ↑p : Int)) 0 1 (md.length - n - g.length + j) rfl rfl rfl rfl rfl ld3 (Nat.mul_one _).symm (by omega) (fun w A hG=>(rd_int (by first | (simp only [InR];omega) | (simp [InR];done)))) fun cs1=>?_)
   refine j_nf [_,_,_,_,_,_,_,_,_] rfl ?_
   refine j_run it 3 rfl ⟨trivial,⟨by omega,by omega⟩,trivial,trivial⟩ ?_
   refine j_nfn 1 [.lp (pL 128148),.blk 2,.c (pL 16019),.blk 1,.c (pL 2003),.lp (pL 500),.blk 0,.c [1,1,1,1,1]] rfl ?_
   refine j_to [0,3,4] (by exact fra rfl) rfl rfl (ihj' cs1)
  ·obtain rfl : j = g.length:=by omega
   refine j_nf [_,_,_,_,_,_,_,_,_,_,_] rfl ?_
   refine j_run it 3 rfl (by simp) ?_
   refine j_nf [_,_,_,_,_,_,_,_,_,_] rfl ?_
   refine j_if rfl rfl (fun h2=>by exfalso;omega) (fun h2=>?_)
   refine j_nf [_,_,_,_,_,_] rfl ?_
   refine j_run it 2 rfl (by simp) ?_
   refine j_step rfl (x_idx_own ((md.length) - (n)) ((md.length) - (n)) rfl rfl sl22 (by omega) (by omega) (Nat.mul_one _) ?_)
   refine j_step rfl (x_stR (vs:=[Value.int IntKind.i64 0]) (z:=(0 : Int)) 0 0 (md.length - n) rfl rfl rfl rfl rfl ld3 (Nat.mul_one _).symm (by omega) (fun w A hG=>(rd_int (by first | (simp only [InR];omega) | (simp [InR];done)))) fun cs1=>?_)
   refine j_nf [_,_,_,_] rfl ?_
   refine j_run it 3 rfl ⟨trivial,⟨by omega,by omega⟩,trivial,trivial⟩ ?_
   refine j_nfn 1 [.lp (pL 500),.blk 0,.c [1,1,1,1,1]] rfl ?_
   refine j_to [0,2,3] (by exact fii rfl (by omega) (fcc rfl (fcc rfl (fcc rfl (fcc rfl (fcc rfl (fzz _))))))) rfl rfl (ihn cs1)
 ·obtain rfl : n = md.length + 1 - g.length:=by omega
  clear ih
  have hLn:=hL (md.length + 1 - g.length)
  generalize divR p g (md++[1]) (md.length + 1 - g.length) = L at *
  refine j_nf [_,_,_,_,_,_] rfl ?_
  refine j_run it 3 rfl (by simp) ?_
  refine j_nf [_,_,_,_,_] rfl ?_
  refine j_if rfl rfl (fun h1=>by exfalso;omega) (fun h1=>?_)
  refine j_nf [_,_,_] rfl ?_
  refine j_run it 1 rfl (by simp) ?_
  refine j_nf [_,_,_] rfl ?_
  refine j_loopG (X:=Nat) [8] [1,2] (fun i=>[(12,.int .i64 (i : Int))]) (fun _=>[(some bR,3,csA),(some b2,3,[.int .i64 1])]) (fun _=>[rowF I64 ⟨some bR,capR,csA⟩ (md.length + 1) L]) (fun i=>i ≤ md.length + 1 ∧ ∀ k,k < i → L.getD k 0 = 0) (fun i=>md.length + 1 - i) 0 [0] rfl rfl rfl ⟨Nat.zero_le _,fun k hk=>by omega⟩ (by repeat (first | exact Fr.sub_nil _ | refine Fr.sub_cons rfl ?_)) rfl rfl ?_
  rintro i ⟨hi,hall⟩ ih
  simp only [List.cons_append,List.nil_append] at hi hall ih ⊢
  by_cases hil : i < md.length + 1
  ·have hzi : L[i]? = some (L.getD i 0):=by rw [List.getD_eq_getElem?_getD,List.getElem?_eq_getElem (by omega)];rfl
   by_cases h0 : L.getD i 0 = 0
   ·generalize hv : L.getD i 0 = v at *
    refine j_nf [_,_,_,_,_,_] rfl ?_
    refine j_run it 2 rfl (by simp) ?_
    refine j_step rfl (x_len sl22 rfl ?_)
    refine j_run it 1 rfl (by simp) ?_
    refine j_nf [_,_,_,_,_] rfl ?_
    refine j_if rfl rfl (fun h2=>?_) (fun h2=>by exfalso;omega)
    refine j_nf [_,_,_,_,_,_,_] rfl ?_
    refine j_run it 2 rfl (by simp) ?_
    refine j_step rfl (x_idx_own (i) (i) rfl rfl sl22 rfl (by omega) (Nat.mul_one _) ?_)
    refine j_step rfl (x_ldR_int 0 0 (i) rfl rfl rfl ld3 rfl (by assumption) fun hr1=>?_)
    refine j_run it 1 rfl (by simp) ?_
    refine j_nf [_,_,_,_,_,_] rfl ?_
    refine j_ifn rfl rfl (fun h3=>by exfalso;omega) (fun h3=>?_)
    refine j_nf [_,_,_,_] rfl ?_
    refine j_run it 3 rfl ⟨trivial,⟨by omega,by omega⟩,trivial,trivial⟩ ?_
    refine j_nfn 1 [.lp (pL 1012),.blk 4,.c (pL 127)] rfl ?_
    refine j_to [0,1,2] (by exact fra rfl) rfl rfl (ih (i + 1) (by omega) ⟨by omega,fun k hk=>by
     rcases Nat.lt_succ_iff_lt_or_eq.1 hk with h | rfl
     ·exact hall k h
     ·rw [hv];exact h0⟩)
   ·have hf : res = false:=by
     cases res with
     | false=>rfl
     | true=>exact absurd (hz.2 (hres.1 rfl) i hil) h0
    rw [hf]
    generalize L.getD i 0 = v at *
    refine j_nf [_,_,_,_,_,_] rfl ?_
    refine j_run it 2 rfl (by simp) ?_
    refine j_step rfl (x_len sl22 rfl ?_)
    refine j_run it 1 rfl (by simp) ?_
    refine j_nf [_,_,_,_,_] rfl ?_
    refine j_if rfl rfl (fun h2=>?_) (fun h2=>by exfalso;omega)
    refine j_nf [_,_,_,_,_,_,_] rfl ?_
    refine j_run it 2 rfl (by simp) ?_
    refine j_step rfl (x_idx_own (i) (i) rfl rfl sl22 rfl (by omega) (Nat.mul_one _) ?_)
    refine j_step rfl (x_ldR_int 0 0 (i) rfl rfl rfl ld3 rfl (by assumption) fun hr1=>?_)
    refine j_run it 1 rfl (by simp) ?_
    refine j_nf [_,_,_,_,_,_] rfl ?_
    refine j_ifn rfl rfl (fun h3=>?_) (fun h3=>by exfalso;omega)
    refine j_nf [_,_,_,_,_,_,_] rfl ?_
    refine j_run it 1 rfl (by simp) ?_
    refine j_nf [_,_,_,_,_,_] rfl ?_
    refine j_giv [] rfl rfl rfl ⟨rfl,rfl,rfl⟩
  ·obtain rfl : i = md.length + 1:=by omega
   have ht : res = true:=hres.2 (hz.1 hall)
   rw [ht]
   refine j_nf [_,_,_,_,_,_] rfl ?_
   refine j_run it 2 rfl (by simp) ?_
   refine j_step rfl (x_len sl22 rfl ?_)
   refine j_run it 1 rfl (by simp) ?_
   refine j_nf [_,_,_,_,_] rfl ?_
   refine j_if rfl rfl (fun h2=>by exfalso;omega) (fun h2=>?_)
   refine j_nf [_,_] rfl ?_
   refine j_run it 1 rfl (by simp) ?_
   refine j_nf [_] rfl ?_
   refine j_giv [] rfl rfl rfl ⟨rfl,rfl,rfl⟩
theorem toI_digs {l : List Nat} {p : Nat} (h : ∀ x ∈ l,x < p) : ∀ x ∈ toI l,0 ≤ x ∧ x < (p : Int):=fun x hx=>by
 obtain ⟨n,hn,rfl⟩:=List.mem_map.1 hx
 have:=h n hn
 omega
open Classical in
theorem S_codewrightref04_irreducible {pm : Option Addr} {nm cm p : Nat} {md : List Nat} (hp : 2 ≤ p) (hp2 : p ≤ 256) (hq : p ^ md.length ≤ 256) (hm : md.length ≤ 8) (rm : ∀ x ∈ md,x < p) {res : Bool} (hres : res = true ↔ irrP p md) :
  Ctr Tryz.prog 70 [.slice pm nm cm,.int .i64 p] [] [slF I64 pm nm cm (toI md)] (Rv (.bool res) []):=by
 refine Ctr_of_j' (F:=F_codewrightref04_irreducible) rfl fun C=>?_
 refine j_len 0 rfl fun hn1 _ _=>?_
 rw [toI_len] at hn1
 subst hn1
 have rI:=toI_digs rm
 have lI:=toI_len md
 refine j_nf [_,_] rfl (j_run it 1 rfl (by simp) ?_)
 refine j_nf [_,_] rfl (j_run it 1 rfl (by simp) ?_)
 refine j_nf [_,_,_] rfl (j_run it 1 rfl (by simp) ?_)
 refine j_nf [_,_,_] rfl ?_
 refine j_loopG (X:=Nat) [0,1] [0] (fun d=>[(6,.int .i64 ((d + 1 : Nat) : Int)),(5,.int .i64 ((p ^ d : Nat) : Int))]) (fun _=>[]) (fun _=>[]) (fun d=>2 * d ≤ md.length ∧ ∀ e,1 ≤ e → e ≤ d → ∀ v,v < p ^ e → ¬ cg p (evL (Xg (toI (dig p e v))) (toI md++[1]) oneV)) (fun d=>md.length - d) 0 [] rfl rfl rfl ⟨Nat.zero_le _,fun e h1 h2=>by omega⟩ (by refine Fr.sub_cons rfl ?_;refine Fr.sub_consI rfl (by simp) ?_;repeat (first | exact Fr.sub_nil _ | refine Fr.sub_cons rfl ?_)) rfl rfl ?_
 rintro d ⟨hd,hall⟩ ih
 simp only [List.cons_append,List.nil_append] at hd hall ih ⊢
 have hpd : p ^ d ≤ 256:=Nat.le_trans (Nat.pow_le_pow_right (by omega) (by omega)) hq
 by_cases hdl : 2 * (d + 1) ≤ md.length
 ·have hpe : p ^ (d + 1) ≤ 256:=Nat.le_trans (Nat.pow_le_pow_right (by omega) (by omega)) hq
  have ee : ((p ^ d : Nat) : Int) * (p : Int) = ((p ^ (d + 1) : Nat) : Int):=by rw [Nat.pow_succ,Int.natCast_mul]
  have ih':=ih (d + 1) (by omega)
  generalize hP : p ^ (d + 1) = P at *
  generalize p ^ d = Q at *
  have hQP : 0 ≤ (Q : Int) * (p : Int) ∧ (Q : Int) * (p : Int) ≤ 256:=by omega
  refine j_nf [_,_,_,_,_,_] rfl (j_run it 3 rfl ⟨trivial,⟨by omega,by omega⟩,trivial,trivial⟩ ?_)
  refine j_step rfl (x_len sl22 rfl ?_)
  refine j_run it 1 rfl (by simp) ?_
  refine j_nf [_,_,_,_,_] rfl (j_if rfl rfl (fun h1=>?_) (fun h1=>by exfalso;omega))
  refine j_nf [_,_,_,_,_,_,_] rfl (j_run it 4 rfl ⟨trivial,⟨by omega,by omega⟩,trivial,trivial,trivial⟩ ?_)
  refine j_nf [_,_,_,_,_,_,_] rfl (j_run it 1 rfl (by simp) ?_)
  refine j_nf [_,_,_,_,_,_,_] rfl ?_
  rw [ee]
  refine j_loopG (X:=Nat) [0,1,5,6,8,9,10,11,12,15,16,17] [0] (fun v=>[(7,.int .i64 (v : Int))]) (fun _=>[]) (fun _=>[]) (fun v=>v ≤ P ∧ ∀ u,u < v → ¬ cg p (evL (Xg (toI (dig p (d + 1) u))) (toI md++[1]) oneV)) (fun v=>P - v) 0 [] rfl rfl rfl ⟨Nat.zero_le _,fun u h=>by omega⟩ (by repeat (first | exact Fr.sub_nil _ | refine Fr.sub_cons rfl ?_)) rfl rfl ?_
  rintro v ⟨hv,hvall⟩ ihv
  simp only [List.cons_append,List.nil_append] at hv hvall ihv ⊢
  by_cases hvl : v < P
  ·have gl : (toI (dig p (d + 1) v)).length = d + 1:=by rw [toI_len,dig_len]
   have gr:=toI_digs fun x hx=>dig_lt (p:=p) (n:=d + 1) (x:=v) (by omega) x hx
   have c_codewrightref04_divides:=fun {pg pm : Option Addr} {ng nm cg' cm : Nat} {res : Bool} hres=>S_codewrightref04_divides (pg:=pg) (pm:=pm) (ng:=ng) (nm:=nm) (cg':=cg') (cm:=cm) (p:=p) (g:=toI (dig p (d + 1) v)) (md:=toI md) (by omega) hp2 (by omega) (by omega) (by omega) gr rI (by omega) (res:=res) hres
   by_cases hdv : cg p (evL (Xg (toI (dig p (d + 1) v))) (toI md++[1]) oneV)
   ·have hf : res = false:=by
     cases res with
     | false=>rfl
     | true=>exact absurd hdv ((hres.1 rfl) (d + 1) (by omega) hdl v (by rw [hP];exact hvl))
    have hr : (true = true ↔ cg p (evL (Xg (toI (dig p (d + 1) v))) (toI md++[1]) oneV)):=⟨fun _=>hdv,fun _=>rfl⟩
    rw [hf]
    refine j_nf [_,_,_,_,_,_,_,_,_,_] rfl (j_run it 3 rfl (by simp) ?_)
    refine j_nf [_,_,_,_,_,_,_,_,_] rfl (j_if rfl rfl (fun h2=>?_) (fun h2=>by exfalso;omega))
    refine j_nf [_,_,_,_,_,_,_,_,_,_,_] rfl (j_run it 3 rfl (by simp) ?_)
    refine j_step rfl (x_call [] rfl (S_codewrightref04_digits (by omega) (by omega) (by omega) (by omega)) rfl ?_)
    rintro _ _ _ ⟨pa1,ca1,rfl,rfl,rfl⟩
    simp only [List.cons_append,List.nil_append]
    refine j_run it 2 rfl (by simp) ?_
    refine j_step rfl (x_call [0,1] rfl (c_codewrightref04_divides (by omega)) rfl ?_)
    rintro _ _ _ ⟨rfl,rfl,rfl⟩
    simp only [List.cons_append,List.nil_append]
    refine j_nf [_,_,_,_,_,_,_,_,_,_] rfl ?_
    refine j_true rfl rfl ?_
    refine j_nf [_,_,_,_,_,_,_,_,_,_,_] rfl (j_run it 1 rfl (by simp) ?_)
    refine j_nf [_,_,_,_,_,_,_,_,_,_] rfl ?_
    refine j_giv [] rfl rfl rfl ⟨rfl,rfl,rfl⟩
   ·have hr : (false = true ↔ cg p (evL (Xg (toI (dig p (d + 1) v))) (toI md++[1]) oneV)):=⟨fun h=>(by cases h),fun h=>absurd h hdv⟩
    refine j_nf [_,_,_,_,_,_,_,_,_,_] rfl (j_run it 3 rfl (by simp) ?_)
    refine j_nf [_,_,_,_,_,_,_,_,_] rfl (j_if rfl rfl (fun h2=>?_) (fun h2=>by exfalso;omega))
    refine j_nf [_,_,_,_,_,_,_,_,_,_,_] rfl (j_run it 3 rfl (by simp) ?_)
    refine j_step rfl (x_call [] rfl (S_codewrightref04_digits (by omega) (by omega) (by omega) (by omega)) rfl ?_)
    rintro _ _ _ ⟨pa1,ca1,rfl,rfl,rfl⟩
    simp only [List.cons_append,List.nil_append]
    refine j_run it 2 rfl (by simp) ?_
    refine j_step rfl (x_call [0,1] rfl (c_codewrightref04_divides (by omega)) rfl ?_)
    rintro _ _ _ ⟨rfl,rfl,rfl⟩
    simp only [List.cons_append,List.nil_append]
    refine j_nf [_,_,_,_,_,_,_,_,_,_] rfl ?_
    refine j_false rfl rfl ?_
    refine j_nf [_,_,_,_,_,_,_,_] rfl (j_run it 3 rfl ⟨trivial,⟨by omega,by omega⟩,trivial,trivial⟩ ?_)
    refine j_nfn 1 [.lp (pL 14924),.blk 2,.blk 1,.c (pL 467),.lp (pL 116),.blk 0,.c [1,1,1]] rfl ?_
    refine j_to [1] (by exact fra rfl) rfl rfl (ihv (v + 1) (by omega) ⟨by omega,fun u hu=>by
     rcases Nat.lt_succ_iff_lt_or_eq.1 hu with h | rfl
     ·exact hvall u h
     ·exact hdv⟩)
  ·obtain rfl : v = P:=by omega
   refine j_nf [_,_,_,_,_,_,_,_,_,_] rfl (j_run it 3 rfl (by simp) ?_)
   refine j_nf [_,_,_,_,_,_,_,_,_] rfl (j_if rfl rfl (fun h2=>by exfalso;omega) (fun h2=>?_))
   refine j_nf [_,_,_,_] rfl (j_run it 3 rfl ⟨trivial,⟨by omega,by omega⟩,trivial,trivial⟩ ?_)
   refine j_nfn 1 [.lp (pL 116),.blk 0,.c [1,1,1]] rfl ?_
   refine j_to [0] (by exact fra rfl) rfl rfl (ih' ⟨by omega,fun e h1 h2 u hu=>by
    rcases Nat.lt_succ_iff_lt_or_eq.1 (Nat.lt_succ_of_le h2) with h | rfl
    ·exact hall e h1 (by omega) u hu
    ·exact hvall u (by rw [← hP];exact hu)⟩)
 ·have ht : res = true:=hres.2 fun e h1 h2 v hv=>hall e h1 (by omega) v hv
  rw [ht]
  refine j_nf [_,_,_,_,_,_] rfl (j_run it 3 rfl ⟨trivial,⟨by omega,by omega⟩,trivial,trivial⟩ ?_)
  refine j_step rfl (x_len sl22 rfl ?_)
  refine j_run it 1 rfl (by simp) ?_
  refine j_nf [_,_,_,_,_] rfl (j_if rfl rfl (fun h1=>by exfalso;omega) (fun h1=>?_))
  refine j_nf [_,_] rfl (j_run it 1 rfl (by simp) ?_)
  refine j_nf [_] rfl ?_
  refine j_giv [] rfl rfl rfl ⟨rfl,rfl,rfl⟩
def chkF (P M : Int) (md : List Int) : Prop:=ordP P M ∧ Prm P.toNat ∧ (M = 1 → md.length = 0) ∧ (M ≠ 1 → (md.length : Int) = M ∧ (∀ x ∈ md,0 ≤ x ∧ x < P) ∧ irrP P.toNat (md.map Int.toNat))
theorem toI_toNat {l : List Int} (h : ∀ x ∈ l,0 ≤ x) : toI (l.map Int.toNat) = l:=by
 rw [toI,List.map_map]
 conv=>rhs;rw [← List.map_id l]
 refine List.map_congr_left fun x hx=>?_
 have:=h x hx
 show ((x.toNat : Nat) : Int) = x
 omega
open Classical in
theorem S_codewrightref04_Check {P M : Int} {pm : Option Addr} {nm cm : Nat} {md : List Int} {e : Int} (he : e = if chkF P M md then 0 else 1) : Ctr Tryz.prog 39 [.agg #[.int .i64 P,.int .i64 M,.slice pm nm cm]] [] [slF I64 pm nm cm md] (Rv (.int .i64 e) []):=by
 refine Ctr_of_j' (F:=F_codewrightref04_Check) rfl fun C=>?_
 refine j_len 0 rfl fun hn1 hb1 _=>?_
 subst hn1
 have no : ¬ chkF P M md → e = 1:=fun h=>by rw [he,if_neg h]
 by_cases ho : ordP P M
 case neg =>
  have hI : ordI P M = 0:=by rw [ordI,if_neg ho]
  rw [no fun h=>ho h.1]
  refine j_nf [_,_] rfl ?_
  refine j_step rfl (x_box_agg rfl fun b1=>?_)
  refine j_run it 1 rfl (by simp) ?_
  refine j_nf [_,_,_] rfl ?_
  refine j_step rfl (x_bld_all 0 rfl rfl ld24 rfl ?_)
  refine j_step rfl (x_call [] rfl (S_codewrightref04_Order (by omega)) rfl ?_)
  rintro _ _ _ ⟨rfl,rfl,rfl⟩
  simp only [List.cons_append,List.nil_append]
  refine j_run it 7 rfl (by simp) ?_
  refine j_nf [_,_] rfl ?_
  refine j_true rfl rfl ?_
  refine j_nf [_,_,_] rfl ?_
  refine j_run it 1 rfl (by simp) ?_
  refine j_nf [_,_] rfl ?_
  refine j_giv [] rfl rfl rfl ⟨rfl,rfl,rfl⟩
 obtain ⟨h1,h2,h3,h4⟩:=ho
 obtain ⟨p,rfl⟩ : ∃ p : Nat,P = p:=⟨P.toNat,by omega⟩
 obtain ⟨m,rfl⟩ : ∃ m : Nat,M = m:=⟨M.toNat,by omega⟩
 simp only [Int.toNat_natCast] at h4
 have hI : ordI (p : Int) (m : Int) = ((p ^ m : Nat) : Int):=by rw [ordI,if_pos ⟨h1,h2,h3,by simpa using h4⟩];simp
 have hpm : p ≤ p ^ m:=Nat.le_self_pow (by omega) p
 have hq0 : ¬ ((p ^ m : Nat) : Int) = 0:=by omega
 by_cases hp : Prm p
 case neg =>
  have hr : (false = true ↔ Prm p):=⟨fun h=>(by cases h),fun h=>absurd h hp⟩
  rw [no fun h=>hp (by simpa using h.2.1)]
  generalize p ^ m = Q at *
  refine j_nf [_,_] rfl ?_
  refine j_step rfl (x_box_agg rfl fun b1=>?_)
  refine j_run it 1 rfl (by simp) ?_
  refine j_nf [_,_,_] rfl ?_
  refine j_step rfl (x_bld_all 0 rfl rfl ld24 rfl ?_)
  refine j_step rfl (x_call [] rfl (S_codewrightref04_Order (by omega)) rfl ?_)
  rintro _ _ _ ⟨rfl,rfl,rfl⟩
  simp only [List.cons_append,List.nil_append]
  refine j_run it 2 rfl (by simp) ?_
  refine j_split_dec (t:=7) rfl (fun h5=>by exfalso;omega) (fun h5=>?_)
  refine j_gstep rfl rfl (x_field rfl fd24_0 ?_)
  refine j_gstep rfl rfl (x_bld 0 rfl rfl ld3 rfl ?_)
  refine j_gstep rfl rfl (x_call [] rfl (S_codewrightref04_prime (by omega) (by omega) (by omega)) rfl ?_)
  rintro _ _ _ ⟨rfl,rfl,rfl⟩
  simp only [List.cons_append,List.nil_append]
  refine j_run it 2 rfl (by simp) ?_
  refine j_nf [_,_] rfl ?_
  refine j_true rfl rfl ?_
  refine j_nf [_,_,_] rfl ?_
  refine j_run it 1 rfl (by simp) ?_
  refine j_nf [_,_] rfl ?_
  refine j_giv [] rfl rfl rfl ⟨rfl,rfl,rfl⟩
 have hr : (true = true ↔ Prm p):=⟨fun _=>hp,fun _=>rfl⟩
 by_cases hm1 : m = 1
 ·subst hm1
  by_cases hl : md.length = 0
  ·have : e = 0:=by rw [he,if_pos ⟨⟨h1,h2,h3,by simpa using h4⟩,by simpa using hp,fun _=>hl,fun h=>absurd rfl h⟩]
   rw [this]
   generalize p ^ 1 = Q at *
   refine j_nf [_,_] rfl ?_
   refine j_step rfl (x_box_agg rfl fun b1=>?_)
   refine j_run it 1 rfl (by simp) ?_
   refine j_nf [_,_,_] rfl ?_
   refine j_step rfl (x_bld_all 0 rfl rfl ld24 rfl ?_)
   refine j_step rfl (x_call [] rfl (S_codewrightref04_Order (by omega)) rfl ?_)
   rintro _ _ _ ⟨rfl,rfl,rfl⟩
   simp only [List.cons_append,List.nil_append]
   refine j_run it 2 rfl (by simp) ?_
   refine j_split_dec (t:=7) rfl (fun h5=>by exfalso;omega) (fun h5=>?_)
   refine j_gstep rfl rfl (x_field rfl fd24_0 ?_)
   refine j_gstep rfl rfl (x_bld 0 rfl rfl ld3 rfl ?_)
   refine j_gstep rfl rfl (x_call [] rfl (S_codewrightref04_prime (by omega) (by omega) (by omega)) rfl ?_)
   rintro _ _ _ ⟨rfl,rfl,rfl⟩
   simp only [List.cons_append,List.nil_append]
   refine j_run it 2 rfl (by simp) ?_
   refine j_nf [_,_] rfl ?_
   refine j_false rfl rfl ?_
   refine j_nf [_,_,_] rfl ?_
   refine j_step rfl (x_field rfl fd24_1 ?_)
   refine j_step rfl (x_bld 0 rfl rfl ld3 rfl ?_)
   refine j_run it 1 rfl (by simp) ?_
   refine j_nf [_,_] rfl ?_
   refine j_if rfl rfl (fun h6=>?_) (fun h6=>by exfalso;omega)
   refine j_nf [_,_,_,_] rfl ?_
   refine j_step rfl (x_field rfl fd24_2 ?_)
   refine j_step rfl (x_bld 0 rfl rfl ld22 rfl ?_)
   refine j_step rfl (x_len sl22 rfl ?_)
   refine j_run it 1 rfl (by simp) ?_
   refine j_nf [_,_,_] rfl ?_
   refine j_ifn rfl rfl (fun h7=>by exfalso;omega) (fun h7=>?_)
   refine j_nf [_,_,_] rfl ?_
   refine j_run it 1 rfl (by simp) ?_
   refine j_nf [_,_] rfl ?_
   refine j_giv [] rfl rfl rfl ⟨rfl,rfl,rfl⟩
  ·rw [no fun h=>hl (h.2.2.1 rfl)]
   generalize p ^ 1 = Q at *
   refine j_nf [_,_] rfl ?_
   refine j_step rfl (x_box_agg rfl fun b1=>?_)
   refine j_run it 1 rfl (by simp) ?_
   refine j_nf [_,_,_] rfl ?_
   refine j_step rfl (x_bld_all 0 rfl rfl ld24 rfl ?_)
   refine j_step rfl (x_call [] rfl (S_codewrightref04_Order (by omega)) rfl ?_)
   rintro _ _ _ ⟨rfl,rfl,rfl⟩
   simp only [List.cons_append,List.nil_append]
   refine j_run it 2 rfl (by simp) ?_
   refine j_split_dec (t:=7) rfl (fun h5=>by exfalso;omega) (fun h5=>?_)
   refine j_gstep rfl rfl (x_field rfl fd24_0 ?_)
   refine j_gstep rfl rfl (x_bld 0 rfl rfl ld3 rfl ?_)
   refine j_gstep rfl rfl (x_call [] rfl (S_codewrightref04_prime (by omega) (by omega) (by omega)) rfl ?_)
   rintro _ _ _ ⟨rfl,rfl,rfl⟩
   simp only [List.cons_append,List.nil_append]
   refine j_run it 2 rfl (by simp) ?_
   refine j_nf [_,_] rfl ?_
   refine j_false rfl rfl ?_
   refine j_nf [_,_,_] rfl ?_
   refine j_step rfl (x_field rfl fd24_1 ?_)
   refine j_step rfl (x_bld 0 rfl rfl ld3 rfl ?_)
   refine j_run it 1 rfl (by simp) ?_
   refine j_nf [_,_] rfl ?_
   refine j_if rfl rfl (fun h6=>?_) (fun h6=>by exfalso;omega)
   refine j_nf [_,_,_,_] rfl ?_
   refine j_step rfl (x_field rfl fd24_2 ?_)
   refine j_step rfl (x_bld 0 rfl rfl ld22 rfl ?_)
   refine j_step rfl (x_len sl22 rfl ?_)
   refine j_run it 1 rfl (by simp) ?_
   refine j_nf [_,_,_] rfl ?_
   refine j_ifn rfl rfl (fun h7=>?_) (fun h7=>by exfalso;omega)
   refine j_nf [_,_,_,_] rfl ?_
   refine j_run it 1 rfl (by simp) ?_
   refine j_nf [_,_,_] rfl ?_
   refine j_giv [] rfl rfl rfl ⟨rfl,rfl,rfl⟩
 have hm1' : ¬ (m : Int) = 1:=by omega
 by_cases hl : md.length = m
 case neg =>
  rw [no fun h=>hl (by have:=(h.2.2.2 hm1').1;omega)]
  generalize p ^ m = Q at *
  refine j_nf [_,_] rfl ?_
  refine j_step rfl (x_box_agg rfl fun b1=>?_)
  refine j_run it 1 rfl (by simp) ?_
  refine j_nf [_,_,_] rfl ?_
  refine j_step rfl (x_bld_all 0 rfl rfl ld24 rfl ?_)
  refine j_step rfl (x_call [] rfl (S_codewrightref04_Order (by omega)) rfl ?_)
  rintro _ _ _ ⟨rfl,rfl,rfl⟩
  simp only [List.cons_append,List.nil_append]
  refine j_run it 2 rfl (by simp) ?_
  refine j_split_dec (t:=7) rfl (fun h5=>by exfalso;omega) (fun h5=>?_)
  refine j_gstep rfl rfl (x_field rfl fd24_0 ?_)
  refine j_gstep rfl rfl (x_bld 0 rfl rfl ld3 rfl ?_)
  refine j_gstep rfl rfl (x_call [] rfl (S_codewrightref04_prime (by omega) (by omega) (by omega)) rfl ?_)
  rintro _ _ _ ⟨rfl,rfl,rfl⟩
  simp only [List.cons_append,List.nil_append]
  refine j_run it 2 rfl (by simp) ?_
  refine j_nf [_,_] rfl ?_
  refine j_false rfl rfl ?_
  refine j_nf [_,_,_] rfl ?_
  refine j_step rfl (x_field rfl fd24_1 ?_)
  refine j_step rfl (x_bld 0 rfl rfl ld3 rfl ?_)
  refine j_run it 1 rfl (by simp) ?_
  refine j_nf [_,_] rfl ?_
  refine j_if rfl rfl (fun h6=>by exfalso;omega) (fun h6=>?_)
  refine j_nf [_,_,_] rfl ?_
  refine j_step rfl (x_field rfl fd24_2 ?_)
  refine j_step rfl (x_bld 0 rfl rfl ld22 rfl ?_)
  refine j_step rfl (x_len sl22 rfl ?_)
  refine j_step rfl (x_field rfl fd24_1 ?_)
  refine j_step rfl (x_bld 0 rfl rfl ld3 rfl ?_)
  refine j_run it 1 rfl (by simp) ?_
  refine j_nf [_,_] rfl ?_
  refine j_ifn rfl rfl (fun h7=>?_) (fun h7=>by exfalso;omega)
  refine j_nf [_,_,_] rfl ?_
  refine j_run it 1 rfl (by simp) ?_
  refine j_nf [_,_] rfl ?_
  refine j_giv [] rfl rfl rfl ⟨rfl,rfl,rfl⟩
 subst hl
 have hm8 : md.length ≤ 8:=by omega
 generalize hQ : p ^ md.length = Q at *
 refine j_nf [_,_] rfl ?_
 refine j_step rfl (x_box_agg rfl fun b1=>?_)
 refine j_run it 1 rfl (by simp) ?_
 refine j_nf [_,_,_] rfl ?_
 refine j_step rfl (x_bld_all 0 rfl rfl ld24 rfl ?_)
 refine j_step rfl (x_call [] rfl (S_codewrightref04_Order (by omega)) rfl ?_)
 rintro _ _ _ ⟨rfl,rfl,rfl⟩
 simp only [List.cons_append,List.nil_append]
 refine j_run it 2 rfl (by simp) ?_
 refine j_split_dec (t:=7) rfl (fun h5=>by exfalso;omega) (fun h5=>?_)
 refine j_gstep rfl rfl (x_field rfl fd24_0 ?_)
 refine j_gstep rfl rfl (x_bld 0 rfl rfl ld3 rfl ?_)
 refine j_gstep rfl rfl (x_call [] rfl (S_codewrightref04_prime (by omega) (by omega) (by omega)) rfl ?_)
 rintro _ _ _ ⟨rfl,rfl,rfl⟩
 simp only [List.cons_append,List.nil_append]
 refine j_run it 2 rfl (by simp) ?_
 refine j_nf [_,_] rfl ?_
 refine j_false rfl rfl ?_
 refine j_nf [_,_,_] rfl ?_
 refine j_step rfl (x_field rfl fd24_1 ?_)
 refine j_step rfl (x_bld 0 rfl rfl ld3 rfl ?_)
 refine j_run it 1 rfl (by simp) ?_
 refine j_nf [_,_] rfl ?_
 refine j_if rfl rfl (fun h6=>by exfalso;omega) (fun h6=>?_)
 refine j_nf [_,_,_] rfl ?_
 refine j_step rfl (x_field rfl fd24_2 ?_)
 refine j_step rfl (x_bld 0 rfl rfl ld22 rfl ?_)
 refine j_step rfl (x_len sl22 rfl ?_)
 refine j_step rfl (x_field rfl fd24_1 ?_)
 refine j_step rfl (x_bld 0 rfl rfl ld3 rfl ?_)
 refine j_run it 1 rfl (by simp) ?_
 refine j_nf [_,_] rfl ?_
 refine j_ifn rfl rfl (fun h7=>by exfalso;omega) (fun h7=>?_)
 refine j_nf [_,_,_] rfl ?_
 refine j_run it 1 rfl (by simp) ?_
 refine j_nf [_,_,_] rfl ?_
 refine j_loopG (X:=Nat) [1] [0] (fun i=>[(3,.int .i64 (i : Int))]) (fun _=>[(some b1,24,[.int .i64 (p : Int),.int .i64 (md.length : Int),.slice pm md.length cm])]) (fun _=>[]) (fun i=>i ≤ md.length ∧ ∀ k,k < i → 0 ≤ md.getD k 0 ∧ md.getD k 0 < p) (fun i=>md.length - i) 0 [] rfl rfl rfl ⟨Nat.zero_le _,fun k hk=>by omega⟩ (by repeat (first | exact Fr.sub_nil _ | refine Fr.sub_cons rfl ?_)) rfl rfl ?_
 rintro i ⟨hi,hall⟩ ih
 simp only [List.cons_append,List.nil_append] at hi hall ih ⊢
 by_cases hil : i < md.length
 ·have hz : md[i]? = some (md.getD i 0):=by rw [List.getD_eq_getElem?_getD,List.getElem?_eq_getElem hil];rfl
  have hdd : md.getD i 0 = md.getD i default:=rfl
  rw [hdd] at hz
  by_cases ha : md.getD i default < 0
  ·rw [no fun h=>by have:=(h.2.2.2 hm1').2.1 _ (List.mem_of_getElem? hz);omega]
   refine j_nf [_,_,_,_,_,_] rfl ?_
   refine j_run it 1 rfl (by simp) ?_
   refine j_step rfl (x_field rfl fd24_1 ?_)
   refine j_step rfl (x_bld 0 rfl rfl ld3 rfl ?_)
   refine j_run it 1 rfl (by simp) ?_
   refine j_nf [_,_,_,_,_] rfl ?_
   refine j_if rfl rfl (fun h8=>?_) (fun h8=>by exfalso;omega)
   refine j_nf [_,_,_,_,_,_,_] rfl ?_
   (apply j_drawK it mx 16;(· rfl);(· rfl))
   (apply lxk_eq;(· rfl);(· exact d_x fun _=>x_field rfl fd24_2 dk_eq))
   (apply lxk_eq;(· rfl);(· exact d_bld 0 rfl rfl ld22 rfl))
   (apply lxk_run 1;(· rfl);(· simp))
   (apply lxk_pt;(· rfl);(· exact d_x fun _=>x_idx 0 (i) rfl rfl rfl sl22 rfl (by omega) fun z1 hz1 b2 o1=>(dk_ptD default hz1 0 rfl));intro b2 o1)
   (apply lxk_eq;(· rfl);(· exact d_x fun _=>x_ld_int 0 rfl rfl ld3 fun ⟨r1,r2⟩=>dk_eq))
   (apply lxk_eq;(· rfl);(· exact d_x fun _=>x_true it rfl (by trivial) (by omega) dk_eq))
   (apply lxk_run 8;(· rfl);(· simp))
   (apply lxk_run 2;(· rfl);(· simp))
   refine lxk_end rfl ?_
   simp only [List.map_cons,List.map_nil,List.cons_append,List.nil_append]
   refine j_nf [_,_,_,_,_,_] rfl ?_
   refine j_true rfl rfl ?_
   refine j_nf [_,_,_,_,_,_,_] rfl ?_
   refine j_run it 1 rfl (by simp) ?_
   refine j_nf [_,_,_,_,_,_] rfl ?_
   refine j_giv [] rfl rfl rfl ⟨rfl,rfl,rfl⟩
  by_cases hb : (p : Int) ≤ md.getD i default
  ·rw [no fun h=>by have:=(h.2.2.2 hm1').2.1 _ (List.mem_of_getElem? hz);omega]
   refine j_nf [_,_,_,_,_,_] rfl ?_
   refine j_run it 1 rfl (by simp) ?_
   refine j_step rfl (x_field rfl fd24_1 ?_)
   refine j_step rfl (x_bld 0 rfl rfl ld3 rfl ?_)
   refine j_run it 1 rfl (by simp) ?_
   refine j_nf [_,_,_,_,_] rfl ?_
   refine j_if rfl rfl (fun h8=>?_) (fun h8=>by exfalso;omega)
   refine j_nf [_,_,_,_,_,_,_] rfl ?_
   (apply j_drawK it mx 16;(· rfl);(· rfl))
   (apply lxk_eq;(· rfl);(· exact d_x fun _=>x_field rfl fd24_2 dk_eq))
   (apply lxk_eq;(· rfl);(· exact d_bld 0 rfl rfl ld22 rfl))
   (apply lxk_run 1;(· rfl);(· simp))
   (apply lxk_pt;(· rfl);(· exact d_x fun _=>x_idx 0 (i) rfl rfl rfl sl22 rfl (by omega) fun z1 hz1 b2 o1=>(dk_ptD default hz1 0 rfl));intro b2 o1)
   (apply lxk_eq;(· rfl);(· exact d_x fun _=>x_ld_int 0 rfl rfl ld3 fun ⟨r1,r2⟩=>dk_eq))
   (apply lxk_eq;(· rfl);(· exact d_x fun _=>x_false it rfl (by trivial) (by omega) dk_eq))
   (apply lxk_run 1;(· rfl);(· simp))
   (apply lxk_eq;(· rfl);(· exact d_x fun _=>x_field rfl fd24_2 dk_eq))
   (apply lxk_eq;(· rfl);(· exact d_bld 0 rfl rfl ld22 rfl))
   (apply lxk_run 1;(· rfl);(· simp))
   (apply lxk_pt;(· rfl);(· exact d_x fun _=>x_idx 1 (i) rfl rfl rfl sl22 rfl (by omega) fun z1 hz1 b3 o2=>(dk_ptD default hz1 0 rfl));intro b3 o2)
   (apply lxk_eq;(· rfl);(· exact d_x fun _=>x_ld_int 0 rfl rfl ld3 fun ⟨r1,r2⟩=>dk_eq))
   (apply lxk_eq;(· rfl);(· exact d_x fun _=>x_field rfl fd24_0 dk_eq))
   (apply lxk_eq;(· rfl);(· exact d_bld 0 rfl rfl ld3 rfl))
   (apply lxk_eq;(· rfl);(· exact d_x fun _=>x_true it rfl (by trivial) (by omega) dk_eq))
   (apply lxk_run 1;(· rfl);(· simp))
   refine lxk_end rfl ?_
   simp only [List.map_cons,List.map_nil,List.cons_append,List.nil_append]
   refine j_nf [_,_,_,_,_,_] rfl ?_
   refine j_true rfl rfl ?_
   refine j_nf [_,_,_,_,_,_,_] rfl ?_
   refine j_run it 1 rfl (by simp) ?_
   refine j_nf [_,_,_,_,_,_] rfl ?_
   refine j_giv [] rfl rfl rfl ⟨rfl,rfl,rfl⟩
  ·refine j_nf [_,_,_,_,_,_] rfl ?_
   refine j_run it 1 rfl (by simp) ?_
   refine j_step rfl (x_field rfl fd24_1 ?_)
   refine j_step rfl (x_bld 0 rfl rfl ld3 rfl ?_)
   refine j_run it 1 rfl (by simp) ?_
   refine j_nf [_,_,_,_,_] rfl ?_
   refine j_if rfl rfl (fun h8=>?_) (fun h8=>by exfalso;omega)
   refine j_nf [_,_,_,_,_,_,_] rfl ?_
   (apply j_drawK it mx 16;(· rfl);(· rfl))
   (apply lxk_eq;(· rfl);(· exact d_x fun _=>x_field rfl fd24_2 dk_eq))
   (apply lxk_eq;(· rfl);(· exact d_bld 0 rfl rfl ld22 rfl))
   (apply lxk_run 1;(· rfl);(· simp))
   (apply lxk_pt;(· rfl);(· exact d_x fun _=>x_idx 0 (i) rfl rfl rfl sl22 rfl (by omega) fun z1 hz1 b2 o1=>(dk_ptD default hz1 0 rfl));intro b2 o1)
   (apply lxk_eq;(· rfl);(· exact d_x fun _=>x_ld_int 0 rfl rfl ld3 fun ⟨r1,r2⟩=>dk_eq))
   (apply lxk_eq;(· rfl);(· exact d_x fun _=>x_false it rfl (by trivial) (by omega) dk_eq))
   (apply lxk_run 1;(· rfl);(· simp))
   (apply lxk_eq;(· rfl);(· exact d_x fun _=>x_field rfl fd24_2 dk_eq))
   (apply lxk_eq;(· rfl);(· exact d_bld 0 rfl rfl ld22 rfl))
   (apply lxk_run 1;(· rfl);(· simp))
   (apply lxk_pt;(· rfl);(· exact d_x fun _=>x_idx 1 (i) rfl rfl rfl sl22 rfl (by omega) fun z1 hz1 b3 o2=>(dk_ptD default hz1 0 rfl));intro b3 o2)
   (apply lxk_eq;(· rfl);(· exact d_x fun _=>x_ld_int 0 rfl rfl ld3 fun ⟨r1,r2⟩=>dk_eq))
   (apply lxk_eq;(· rfl);(· exact d_x fun _=>x_field rfl fd24_0 dk_eq))
   (apply lxk_eq;(· rfl);(· exact d_bld 0 rfl rfl ld3 rfl))
   (apply lxk_eq;(· rfl);(· exact d_x fun _=>x_false it rfl (by trivial) (by omega) dk_eq))
   (apply lxk_run 1;(· rfl);(· simp))
   refine lxk_end rfl ?_
   simp only [List.map_cons,List.map_nil,List.cons_append,List.nil_append]
   refine j_nf [_,_,_,_,_,_] rfl ?_
   refine j_false rfl rfl ?_
   refine j_nf [_,_,_,_] rfl ?_
   refine j_run it 3 rfl ⟨trivial,⟨by omega,by omega⟩,trivial,trivial⟩ ?_
   refine j_nfn 1 [.lp (pL 500),.blk 0,.c [1,1,1,1,1]] rfl ?_
   refine j_to [2] (by exact fra rfl) rfl rfl (ih (i + 1) (by omega) ⟨by omega,fun k hk=>by
    rcases Nat.lt_succ_iff_lt_or_eq.1 hk with h | rfl
    ·exact hall k h
    ·rw [hdd];omega⟩)
 ·obtain rfl : i = md.length:=by omega
  have hrng : ∀ x ∈ md,0 ≤ x ∧ x < (p : Int):=fun x hx=>by
   obtain ⟨k,hk⟩:=List.getElem?_of_mem hx
   have hkl:=(List.getElem?_eq_some_iff.1 hk).1
   have:=hall k hkl
   rw [List.getD_eq_getElem?_getD,hk] at this
   exact this
  have eI:=toI_toNat fun x hx=>(hrng x hx).1
  have lN : (md.map Int.toNat).length = md.length:=List.length_map _
  have rN : ∀ x ∈ md.map Int.toNat,x < p:=fun x hx=>by
   obtain ⟨y,hy,rfl⟩:=List.mem_map.1 hx
   have:=hrng y hy
   omega
  have c_codewrightref04_irreducible:=fun {pm : Option Addr} {nm cm : Nat} {res : Bool} hres=>S_codewrightref04_irreducible (pm:=pm) (nm:=nm) (cm:=cm) (p:=p) (md:=md.map Int.toNat) hp.1 (by omega) (by rw [lN,hQ];exact h4) (by omega) rN (res:=res) hres
  rw [eI] at c_codewrightref04_irreducible
  by_cases hirr : irrP p (md.map Int.toNat)
  ·have hri : (true = true ↔ irrP p (md.map Int.toNat)):=⟨fun _=>hirr,fun _=>rfl⟩
   have : e = 0:=by rw [he,if_pos ⟨⟨h1,h2,h3,by simpa [hQ] using h4⟩,by simpa using hp,fun h=>absurd h hm1',fun _=>⟨rfl,hrng,by simpa using hirr⟩⟩]
   rw [this]
   refine j_nf [_,_,_,_,_,_] rfl ?_
   refine j_run it 1 rfl (by simp) ?_
   refine j_step rfl (x_field rfl fd24_1 ?_)
   refine j_step rfl (x_bld 0 rfl rfl ld3 rfl ?_)
   refine j_run it 1 rfl (by simp) ?_
   refine j_nf [_,_,_,_,_] rfl ?_
   refine j_if rfl rfl (fun h8=>by exfalso;omega) (fun h8=>?_)
   refine j_nf [_,_,_] rfl ?_
   refine j_step rfl (x_field rfl fd24_2 ?_)
   refine j_step rfl (x_bld 0 rfl rfl ld22 rfl ?_)
   refine j_step rfl (x_field rfl fd24_0 ?_)
   refine j_step rfl (x_bld 0 rfl rfl ld3 rfl ?_)
   refine j_step rfl (x_call [0] rfl (c_codewrightref04_irreducible (by omega)) rfl ?_)
   rintro _ _ _ ⟨rfl,rfl,rfl⟩
   simp only [List.cons_append,List.nil_append]
   refine j_run it 1 rfl (by simp) ?_
   refine j_nf [_,_] rfl ?_
   refine j_false rfl rfl ?_
   refine j_nf [_,_] rfl ?_
   refine j_run it 1 rfl (by simp) ?_
   refine j_nf [_] rfl ?_
   refine j_giv [] rfl rfl rfl ⟨rfl,rfl,rfl⟩
  ·have hri : (false = true ↔ irrP p (md.map Int.toNat)):=⟨fun h=>(by cases h),fun h=>absurd h hirr⟩
   rw [no fun h=>hirr (by have:=(h.2.2.2 hm1').2.2;simpa using this)]
   refine j_nf [_,_,_,_,_,_] rfl ?_
   refine j_run it 1 rfl (by simp) ?_
   refine j_step rfl (x_field rfl fd24_1 ?_)
   refine j_step rfl (x_bld 0 rfl rfl ld3 rfl ?_)
   refine j_run it 1 rfl (by simp) ?_
   refine j_nf [_,_,_,_,_] rfl ?_
   refine j_if rfl rfl (fun h8=>by exfalso;omega) (fun h8=>?_)
   refine j_nf [_,_,_] rfl ?_
   refine j_step rfl (x_field rfl fd24_2 ?_)
   refine j_step rfl (x_bld 0 rfl rfl ld22 rfl ?_)
   refine j_step rfl (x_field rfl fd24_0 ?_)
   refine j_step rfl (x_bld 0 rfl rfl ld3 rfl ?_)
   refine j_step rfl (x_call [0] rfl (c_codewrightref04_irreducible (by omega)) rfl ?_)
   rintro _ _ _ ⟨rfl,rfl,rfl⟩
   simp only [List.cons_append,List.nil_append]
   refine j_run it 1 rfl (by simp) ?_
   refine j_nf [_,_] rfl ?_
   refine j_true rfl rfl ?_
   refine j_nf [_,_,_] rfl ?_
   refine j_run it 1 rfl (by simp) ?_
   refine j_nf [_,_] rfl ?_
   refine j_giv [] rfl rfl rfl ⟨rfl,rfl,rfl⟩
structure Fok (p m : Nat) (md : List Int) : Prop where
 pr : Prm p
 m1 : 1 ≤ m
 m8 : m ≤ 8
 q : p ^ m ≤ 256
 one : m = 1 → md = []
 len : m ≠ 1 → md.length = m
 rng : ∀ x ∈ md,0 ≤ x ∧ x < (p : Int)
 irr : m ≠ 1 → irrP p (md.map Int.toNat)
theorem chk_ok {P M : Int} {md : List Int} (h : chkF P M md) : ∃ p m : Nat,P = p ∧ M = m ∧ Fok p m md:=by
 obtain ⟨⟨h1,h2,h3,h4⟩,hp,ho,hn⟩:=h
 refine ⟨P.toNat,M.toNat,by omega,by omega,hp,by omega,by omega,h4,fun e=>List.length_eq_zero_iff.1 (ho (by omega)),fun e=>?_,fun x hx=>?_,fun e=>(hn (by omega)).2.2⟩
 ·have:=(hn (by omega)).1;omega
 ·by_cases e : M = 1
  ·have:=List.length_eq_zero_iff.1 (ho e)
   rw [this] at hx;cases hx
  ·have:=(hn e).2.1 x hx
   omega
def fpo (m : Nat) (md : List Int) : List Int:=if m = 1 then [0] else md
section
variable {p m : Nat} {md : List Int} (K : Fok p m md)
include K
theorem Fok.p2 : 2 ≤ p:=K.pr.1
theorem Fok.p256 : p ≤ 256:=Nat.le_trans (Nat.le_self_pow (by have:=K.m1;omega) p) K.q
theorem Fok.flen : (fpo m md).length = m:=by
 unfold fpo
 by_cases h : m = 1
 ·rw [if_pos h,h];rfl
 ·rw [if_neg h,K.len h]
theorem Fok.fi : FI (p ^ m) (liftI (fA p m)) (liftI (fM p (fpo m md))):=by
 have hl:=K.flen
 have h:=fld_of K.pr (f:=fpo m md) (by rw [hl];exact K.m1) (by
  unfold fpo
  by_cases h : m = 1
  ·rw [if_pos h]
   rintro ⟨g,s,h1,h2,h3,_⟩
   simp at h3;omega
  ·rw [if_neg h,← toI_toNat fun x hx=>(K.rng x hx).1]
   exact irr_splits (by have:=K.p2;omega) (K.irr h))
 rw [hl] at h
 exact fi_of h
theorem Fok.ord : ordI p m = ((p ^ m : Nat) : Int):=by
 have:=K.p2;have:=K.m1;have:=K.m8
 rw [ordI,if_pos ⟨by omega,by omega,by omega,by simpa using K.q⟩];simp
end
theorem S_codewrightref04_Is {P M x : Int} {pm : Option Addr} {n c : Nat} {res : Bool} (hres : decide (0 ≤ x ∧ x < ordI P M) = res) : Ctr Tryz.prog 84 [.agg #[.int .i64 P,.int .i64 M,.slice pm n c],.int .i64 x] [] [] (Rv (.bool res) []):=by
 subst hres
 refine Ctr_of_j' (F:=F_codewrightref04_Is) rfl fun C=>?_
 by_cases h : 0 ≤ x
 ·rw [show decide (0 ≤ x ∧ x < ordI P M) = decide (x < ordI P M) from decide_eq_decide.2 ⟨fun h=>h.2,fun h2=>⟨h,h2⟩⟩]
  refine j_nf [_,_] rfl (j_step rfl (x_box_agg rfl fun b1=>?_))
  refine j_run it 1 rfl (by simp) ?_
  refine j_nf [_,_] rfl (j_run it 3 rfl (by simp) ?_)
  refine j_split_dec (t:=7) rfl (fun h1=>?_) (fun h1=>by exfalso;omega)
  refine j_run it 1 rfl (by simp) ?_
  refine j_gstep rfl rfl (x_bld_all 0 rfl rfl ld24 rfl ?_)
  refine j_gstep rfl rfl (x_call [] rfl (S_codewrightref04_Order (by rfl)) rfl ?_)
  rintro _ _ _ ⟨rfl,rfl,rfl⟩
  simp only [List.cons_append,List.nil_append]
  refine j_run it 3 rfl (by simp) ?_
  refine j_nf [_] rfl ?_
  refine j_giv [] rfl rfl rfl ⟨rfl,rfl,rfl⟩
 ·rw [decide_eq_false fun h2=>h h2.1]
  refine j_nf [_,_] rfl (j_step rfl (x_box_agg rfl fun b1=>?_))
  refine j_run it 1 rfl (by simp) ?_
  refine j_nf [_,_] rfl (j_run it 3 rfl (by simp) ?_)
  refine j_split_dec (t:=7) rfl (fun h1=>by exfalso;omega) (fun h1=>?_)
  refine j_run it 6 rfl (by simp) ?_
  refine j_nf [_] rfl ?_
  refine j_giv [] rfl rfl rfl ⟨rfl,rfl,rfl⟩
def inI (q x : Int) : Int:=if 0 ≤ x ∧ x < q then x else 0
theorem S_codewrightref04_In {P M x : Int} {pm : Option Addr} {n c : Nat} {res : Int} (hres : inI (ordI P M) x = res) : Ctr Tryz.prog 104 [.agg #[.int .i64 P,.int .i64 M,.slice pm n c],.int .i64 x] [] [] (Rv (.int .i64 res) []):=by
 subst hres
 refine Ctr_of_j' (F:=F_codewrightref04_In) rfl fun C=>?_
 by_cases h : 0 ≤ x ∧ x < ordI P M
 ·have hd : decide (0 ≤ x ∧ x < ordI P M) = true:=decide_eq_true h
  rw [inI,if_pos h]
  refine j_nf [_,_] rfl (j_step rfl (x_box_agg rfl fun b1=>?_))
  refine j_run it 1 rfl (by simp) ?_
  refine j_nf [_,_,_] rfl (j_step rfl (x_bld_all 0 rfl rfl ld24 rfl ?_))
  refine j_run it 1 rfl (by simp) ?_
  refine j_step rfl (x_call [] rfl (S_codewrightref04_Is (by omega)) rfl ?_)
  rintro _ _ _ ⟨rfl,rfl,rfl⟩
  simp only [List.cons_append,List.nil_append]
  refine j_nf [_,_] rfl ?_
  refine j_true rfl rfl ?_
  refine j_nf [_,_,_] rfl (j_run it 2 rfl (by simp) ?_)
  refine j_nf [_,_] rfl ?_
  refine j_giv [] rfl rfl rfl ⟨rfl,rfl,rfl⟩
 ·have hd : decide (0 ≤ x ∧ x < ordI P M) = false:=decide_eq_false h
  rw [inI,if_neg h]
  refine j_nf [_,_] rfl (j_step rfl (x_box_agg rfl fun b1=>?_))
  refine j_run it 1 rfl (by simp) ?_
  refine j_nf [_,_,_] rfl (j_step rfl (x_bld_all 0 rfl rfl ld24 rfl ?_))
  refine j_run it 1 rfl (by simp) ?_
  refine j_step rfl (x_call [] rfl (S_codewrightref04_Is (by omega)) rfl ?_)
  rintro _ _ _ ⟨rfl,rfl,rfl⟩
  simp only [List.cons_append,List.nil_append]
  refine j_nf [_,_] rfl ?_
  refine j_false rfl rfl ?_
  refine j_nf [_,_] rfl (j_run it 1 rfl (by simp) ?_)
  refine j_nf [_] rfl ?_
  refine j_giv [] rfl rfl rfl ⟨rfl,rfl,rfl⟩
abbrev OvI (e : TypeId) (n : Nat) (l : List Nat) : Value → List Fact → List Blk → Prop:=fun v Φ β=>∃ b,v = .slice (some ⟨b,0,none⟩) n n ∧ Φ = [] ∧ β = [(some b,e,natCells .i64 l)]
theorem O_codewrightref04_digits {p n x : Nat} (hp : 1 ≤ p) (hp2 : p ≤ 1000000) (hn : n ≤ 100) (hx : x ≤ 1000000000) : Ctr Tryz.prog 103 [.int .i64 x,.int .i64 p,.int .i64 n] [] [] (OvI 3 n (dig p n x)):=by
 refine Ctr_of_j' (F:=F_codewrightref04_digits) rfl fun C=>?_
 have hl:=dig_len p n x
 refine j_nf [_,_] rfl (j_run it 1 rfl (by simp) ?_)
 refine j_nf [_,_] rfl (j_run it 1 rfl (by simp) ?_)
 refine j_step rfl (x_make_nat (n) _ rfl rfl sl22 zo22e by22e (by omega) (by omega) (by omega) fun b1=>?_)
 refine j_run it 1 rfl (by simp) ?_
 refine j_nf [_,_,_] rfl (j_run it 1 rfl (by simp) ?_)
 refine j_nf [_,_,_] rfl ?_
 rw [show List.replicate n 0 = (dig p n x).take 0++List.replicate (n - 0) 0 by simp]
 refine j_loopG (X:=Nat) [1,2,6,7] [] (fun i=>[(8,.int .i64 (i : Int)),(0,.int .i64 ((x / p ^ i : Nat) : Int))]) (fun i=>[(some b1,3,natCells .i64 ((dig p n x).take i++List.replicate (n - i) 0))]) (fun _=>[]) (fun i=>i ≤ n) (fun i=>n - i) 0 [] rfl rfl rfl (Nat.zero_le _) (by refine Fr.sub_cons rfl ?_;refine Fr.sub_consI rfl (by simp) ?_;repeat (first | exact Fr.sub_nil _ | refine Fr.sub_cons rfl ?_)) rfl rfl ?_
 rintro i hi ih
 simp only [List.cons_append,List.nil_append] at hi ih ⊢
 have hxi : x / p ^ i ≤ x:=Nat.div_le_self _ _
 have hz:=fun h=>dig_at (p:=p) (n:=n) (i:=i) (x:=x) h
 have hnx : x / p ^ (i + 1) = x / p ^ i / p:=by rw [Nat.pow_succ,← Nat.div_div_eq_div_mul]
 by_cases hil : i < n
 ·have ih':=ih (i + 1) (by omega) (by omega)
  rw [hnx,← fill_set hl hil (hz hil)] at ih'
  generalize x / p ^ i = y at *
  have e1 : (y : Int) % (p : Int) = ((y % p : Nat) : Int):=(Int.natCast_emod _ _).symm
  have e2 : (y : Int) / (p : Int) = ((y / p : Nat) : Int):=(Int.natCast_ediv _ _).symm
  have hlen : ((dig p n x).take i++List.replicate (n - i) 0).length = n:=by simp [hl];omega
  refine j_nf [_,_,_,_,_,_] rfl (j_run it 3 rfl (by simp) ?_)
  refine j_nf [_,_,_,_,_] rfl (j_if rfl rfl (fun h1=>?_) (fun h1=>by exfalso;omega))
  refine j_nf [_,_,_,_,_,_,_] rfl (j_run it 5 rfl ⟨⟨by omega,by omega⟩,trivial,trivial,trivial,trivial,trivial⟩ ?_)
  refine j_step rfl (x_idx_own (i) (i) rfl rfl sl22 rfl (by omega) (Nat.mul_one _) ?_)
  refine j_step rfl (x_bst_nat 0 ((y) % (p)) rfl rfl rfl ld3 (by first | rfl | omega) (by first | omega | (simp;omega)) ?_)
  refine j_nf [_,_,_,_,_,_] rfl (j_run it 4 rfl ⟨trivial,⟨by omega,by omega,by omega,by omega⟩,trivial,trivial,trivial⟩ ?_)
  refine j_nf [_,_,_,_] rfl (j_run it 3 rfl ⟨trivial,⟨by omega,by omega⟩,trivial,trivial⟩ ?_)
  refine j_nfn 1 [.lp (pL 116),.blk 0,.c [1,1,1]] rfl ?_
  rw [e2]
  refine j_to [] (by exact fra rfl) rfl rfl (ih')
 ·obtain rfl : i = n:=by omega
  clear hz hnx
  rw [List.take_of_length_le (by omega),Nat.sub_self,List.replicate_zero,List.append_nil]
  refine j_nf [_,_,_,_,_,_] rfl (j_run it 3 rfl (by simp) ?_)
  refine j_nf [_,_,_,_,_] rfl (j_if rfl rfl (fun h1=>by exfalso;omega) (fun h1=>?_))
  refine j_nf [_,_] rfl (j_run it 2 rfl (by simp) ?_)
  refine j_nf [_] rfl ?_
  refine j_gives [] rfl rfl rfl ⟨_,rfl,rfl,rfl⟩
theorem S_codewrightref04_Digits {p m nm cm : Nat} {md : List Int} {pm : Option Addr} (K : Fok p m md) {x : Int} (x0 : 0 ≤ x) (x1 : x < ((p ^ m : Nat) : Int)) : Ctr Tryz.prog 61 [.agg #[.int .i64 p,.int .i64 m,.slice pm nm cm],.int .i64 x] [] [] (OvI 3 m (dig p m x.toNat)):=by
 refine Ctr_of_j' (F:=F_codewrightref04_Digits) rfl fun C=>?_
 have h1:=K.p2
 have h2:=K.p256
 have h3:=K.m8
 have h4:=K.q
 have hi : inI (ordI (p : Int) (m : Int)) x = ((x.toNat : Nat) : Int):=by rw [K.ord,inI,if_pos ⟨x0,x1⟩];omega
 have hx : x.toNat ≤ 1000000000:=by omega
 have c_codewrightref04_digits:=@O_codewrightref04_digits
 refine j_nf [_,_] rfl ?_
 refine j_step rfl (x_box_agg rfl fun b1=>?_)
 refine j_run it 1 rfl (by simp) ?_
 refine j_nf [_,_] rfl ?_
 (apply j_drawK it mx 7;(· rfl);(· rfl))
 (apply lxk_eq;(· rfl);(· exact d_bld_all 0 rfl rfl ld24 rfl))
 (apply lxk_run 1;(· rfl);(· simp))
 (apply lxk_eq;(· rfl);(· exact d_x fun _=>x_call [] rfl (S_codewrightref04_In (by omega)) rfl (by rintro _ _ _ ⟨rfl,rfl,rfl⟩;exact dk_eq)))
 (apply lxk_eq;(· rfl);(· exact d_x fun _=>x_field rfl fd24_0 dk_eq))
 (apply lxk_eq;(· rfl);(· exact d_bld 0 rfl rfl ld3 rfl))
 (apply lxk_eq;(· rfl);(· exact d_x fun _=>x_field rfl fd24_1 dk_eq))
 (apply lxk_eq;(· rfl);(· exact d_bld 0 rfl rfl ld3 rfl))
 refine lxk_end rfl ?_
 simp only [List.map_cons,List.map_nil,List.cons_append,List.nil_append]
 refine j_step rfl (x_call [] rfl (c_codewrightref04_digits (by omega) (by omega) (by omega) (by omega)) rfl ?_)
 rintro _ _ _ ⟨b2,rfl,rfl,rfl⟩
 simp only [List.cons_append,List.nil_append]
 refine j_run it 1 rfl (by simp) ?_
 refine j_nf [_] rfl ?_
 refine j_givK 2 [0] [] rfl (.tmp rfl .nil) rfl rfl rfl ⟨_,rfl,rfl,rfl⟩
theorem mix_set {T D : List Nat} {i n : Nat} (hT : T.length = n) (hD : D.length = n) (hi : i < n) {z : Nat} (hz : T[i]? = some z) : (T.take i++D.drop i).set i z = T.take (i + 1)++D.drop (i + 1):=by
 have hl : (T.take i).length = i:=by rw [List.length_take];omega
 rw [List.set_append,if_neg (by omega),hl,Nat.sub_self,List.drop_eq_getElem_cons (by omega),List.set_cons_zero,List.take_add_one,hz]
 simp
theorem mix_at {T D : List Nat} {i n : Nat} (hT : T.length = n) (hD : D.length = n) (hi : i < n) : (T.take i++D.drop i)[i]? = D[i]?:=by
 have hl : (T.take i).length = i:=by rw [List.length_take];omega
 rw [List.getElem?_append_right (by omega),hl,Nat.sub_self,List.getElem?_drop,Nat.add_zero]
theorem S_codewrightref04_Add {p m nm cm : Nat} {md : List Int} {pm : Option Addr} (K : Fok p m md) {x y : Int} (x0 : 0 ≤ x) (x1 : x < ((p ^ m : Nat) : Int)) (y0 : 0 ≤ y) (y1 : y < ((p ^ m : Nat) : Int)) :
  Ctr Tryz.prog 33 [.agg #[.int .i64 p,.int .i64 m,.slice pm nm cm],.int .i64 x,.int .i64 y] [] [] (Rv (.int .i64 (liftI (fA p m) x y)) []):=by
 refine Ctr_of_j' (F:=F_codewrightref04_Add) rfl fun C=>?_
 have h1:=K.p2
 have h2:=K.p256
 have h3:=K.m8
 have h4:=K.q
 let T : List Nat:=(List.range m).map fun j=>((dig p m x.toNat).getD j 0 + (dig p m y.toNat).getD j 0) % p
 have lT : T.length = m:=by simp [T]
 have lx:=dig_len p m x.toNat
 have ly:=dig_len p m y.toNat
 have eT : valP p T = fA p m x.toNat y.toNat:=by
  rw [fA,un]
  congr 1
  refine List.map_congr_left fun j hj=>?_
  have hj:=List.mem_range.1 hj
  rw [rep_at hj,rep_at hj,← Int.natCast_add,← Int.natCast_emod]
  exact (Int.toNat_natCast _).symm
 have rT : ∀ d ∈ T,d < p:=fun d hd=>by
  obtain ⟨j,_,rfl⟩:=List.mem_map.1 hd
  exact Nat.mod_lt _ (by omega)
 have tz : ∀ i,i < m → T[i]? = some (((dig p m x.toNat).getD i 0 + (dig p m y.toNat).getD i 0) % p):=fun i hi=>by
  rw [List.getElem?_map,List.getElem?_range hi];rfl
 have xr:=fun d hd=>dig_lt (p:=p) (n:=m) (x:=x.toNat) (by omega) d hd
 have yr:=fun d hd=>dig_lt (p:=p) (n:=m) (x:=y.toNat) (by omega) d hd
 have eR : liftI (fA p m) x y = ((valP p T : Nat) : Int):=by rw [eT];rfl
 rw [eR]
 clear eR eT
 clear_value T
 have ep : p ^ T.length ≤ 1000000:=by rw [lT];omega
 refine j_nf [_,_] rfl ?_
 refine j_step rfl (x_box_agg rfl fun b1=>?_)
 refine j_run it 1 rfl (by simp) ?_
 refine j_nf [_,_] rfl ?_
 refine j_step rfl (x_bld_all 0 rfl rfl ld24 rfl ?_)
 refine j_run it 1 rfl (by simp) ?_
 refine j_step rfl (x_call [] rfl (S_codewrightref04_Digits (by omega) (by omega) (by omega)) rfl ?_)
 rintro _ _ _ ⟨b2,rfl,rfl,rfl⟩
 simp only [List.cons_append,List.nil_append]
 refine j_run it 1 rfl (by simp) ?_
 refine j_nf [_,_] rfl ?_
 refine j_step rfl (x_bld_all 1 rfl rfl ld24 rfl ?_)
 refine j_run it 1 rfl (by simp) ?_
 refine j_step rfl (x_call [] rfl (S_codewrightref04_Digits (by omega) (by omega) (by omega)) rfl ?_)
 rintro _ _ _ ⟨b3,rfl,rfl,rfl⟩
 simp only [List.cons_append,List.nil_append]
 refine j_run it 1 rfl (by simp) ?_
 refine j_nf [_,_,_] rfl ?_
 refine j_run it 1 rfl (by simp) ?_
 refine j_nf [_,_,_] rfl ?_
 rw [show natCells .i64 (dig p m x.toNat) = natCells .i64 (T.take 0++(dig p m x.toNat).drop 0) by simp]
 refine j_loopG (X:=Nat) [3,6,7,8] [] (fun i=>[(9,.int .i64 (i : Int))]) (fun i=>[(some b3,3,natCells .i64 (dig p m y.toNat)),(some b2,3,natCells .i64 (T.take i++(dig p m x.toNat).drop i)),(some b1,24,[.int .i64 p,.int .i64 m,.slice pm nm cm])]) (fun _=>[]) (fun i=>i ≤ m) (fun i=>m - i) 0 [] rfl rfl rfl (Nat.zero_le _) (by repeat (first | exact Fr.sub_nil _ | refine Fr.sub_cons rfl ?_)) rfl rfl ?_
 rintro i hi ih
 simp only [List.cons_append,List.nil_append] at hi ih ⊢
 by_cases hil : i < m
 ·have zx : (dig p m x.toNat)[i]? = some ((dig p m x.toNat).getD i 0):=by rw [List.getD_eq_getElem?_getD,List.getElem?_eq_getElem (by omega)];rfl
  have zy : (dig p m y.toNat)[i]? = some ((dig p m y.toNat).getD i 0):=by rw [List.getD_eq_getElem?_getD,List.getElem?_eq_getElem (by omega)];rfl
  have zt:=tz i hil
  have bx:=xr _ (List.mem_of_getElem? zx)
  have by':=yr _ (List.mem_of_getElem? zy)
  have ih':=ih (i + 1) (by omega) (by omega)
  have zm:=(mix_at (T:=T) (D:=dig p m x.toNat) lT lx hil).trans zx
  have lm : (T.take i++(dig p m x.toNat).drop i).length = m:=by rw [List.length_append,List.length_take,List.length_drop];omega
  rw [← mix_set lT lx hil zt] at ih'
  generalize (dig p m x.toNat).getD i 0 = u at *
  generalize (dig p m y.toNat).getD i 0 = v at *
  have em : ((u : Int) + (v : Int)) % (p : Int) = (((u + v) % p : Nat) : Int):=by rw [← Int.natCast_add,← Int.natCast_emod]
  refine j_nf [_,_,_,_,_,_] rfl ?_
  refine j_run it 2 rfl (by simp) ?_
  refine j_step rfl (x_len sl22 rfl ?_)
  refine j_run it 1 rfl (by simp) ?_
  refine j_nf [_,_,_,_,_] rfl ?_
  refine j_if rfl rfl (fun h5=>?_) (fun h5=>by exfalso;omega)
  refine j_nf [_,_,_,_,_,_] rfl ?_
  (apply j_drawK it mx 14;(· rfl);(· rfl))
  (apply lxk_run 4;(· rfl);(· simp))
  (apply lxk_eq;(· rfl);(· exact d_x fun _=>x_idx_own (i) (i) rfl rfl sl22 rfl (by omega) (Nat.mul_one _) dk_eq))
  (apply lxk_eq;(· rfl);(· exact d_bld_nat 1 rfl rfl ld3 (by assumption)))
  (apply lxk_run 2;(· rfl);(· simp))
  (apply lxk_eq;(· rfl);(· exact d_x fun _=>x_idx_own (i) (i) rfl rfl sl22 rfl (by omega) (Nat.mul_one _) dk_eq))
  (apply lxk_eq;(· rfl);(· exact d_bld_nat 0 rfl rfl ld3 (by assumption)))
  (apply lxk_run 1;(· rfl);(· exact ⟨⟨by omega,by omega⟩,trivial⟩))
  (apply lxk_eq;(· rfl);(· exact d_x fun _=>x_field rfl fd24_0 dk_eq))
  (apply lxk_eq;(· rfl);(· exact d_bld 2 rfl rfl ld3 rfl))
  (apply lxk_run 1;(· rfl);(· exact ⟨⟨by omega,by omega⟩,trivial⟩))
  refine lxk_end rfl ?_
  simp only [List.map_cons,List.map_nil,List.cons_append,List.nil_append]
  refine j_step rfl (x_idx_own (i) (i) rfl rfl sl22 rfl (by omega) (Nat.mul_one _) ?_)
  refine j_step rfl (x_bst_nat 1 (((u) + (v)) % (p)) rfl rfl rfl ld3 (by first | rfl | omega) (by first | omega | (simp;omega)) ?_)
  refine j_nf [_,_,_,_] rfl ?_
  refine j_run it 3 rfl ⟨trivial,⟨by omega,by omega⟩,trivial,trivial⟩ ?_
  refine j_nfn 1 [.lp (pL 244),.blk 0,.c [1,1,1,1]] rfl ?_
  refine j_to [] (by exact fra rfl) rfl rfl (ih')
 ·obtain rfl : i = m:=by omega
  clear ih
  rw [List.take_of_length_le (by omega),List.drop_of_length_le (by omega),List.append_nil,natCells_toI .i64 T]
  refine j_nf [_,_,_,_,_,_] rfl ?_
  refine j_run it 2 rfl (by simp) ?_
  refine j_step rfl (x_len sl22 rfl ?_)
  refine j_run it 1 rfl (by simp) ?_
  refine j_nf [_,_,_,_,_] rfl ?_
  refine j_if rfl rfl (fun h5=>by exfalso;omega) (fun h5=>?_)
  refine j_nf [_,_] rfl ?_
  refine j_step rfl (x_bld_all 2 rfl rfl ld24 rfl ?_)
  refine j_run it 1 rfl (by simp) ?_
  refine j_pub_madei 8 (toI T) 1 rfl (by rw [toI_len,lT]) (toI_rng fun d hd=>by have:=rT d hd;omega) (by omega) (by omega) ?_
  simp only [List.eraseIdx_cons_zero,List.eraseIdx_cons_succ]
  refine j_step rfl (x_call [0] rfl (S_codewrightref04_Value (by rfl) (by omega) (by omega) (by omega) (by omega)) rfl ?_)
  rintro _ _ _ ⟨rfl,rfl,rfl⟩
  simp only [List.cons_append,List.nil_append]
  refine j_run it 1 rfl (by simp) ?_
  refine j_nf [_] rfl ?_
  refine j_giv [] rfl rfl rfl ⟨rfl,rfl,rfl⟩
open Go Go.Fw
set_option maxRecDepth 100000
set_option linter.unusedVariables false
set_option linter.unusedSimpArgs false
set_option maxHeartbeats 4000000
theorem toI_set (l : List Nat) (i z : Nat) : toI (l.set i z) = (toI l).set i (z : Int):=by simp [toI,List.map_set]
theorem toI_getD {l : List Nat} {i : Nat} : (toI l).getD i 0 = ((l.getD i 0 : Nat) : Int):=by
 rw [toI,List.getD_eq_getElem?_getD,List.getD_eq_getElem?_getD,List.getElem?_map]
 cases l[i]? <;> rfl
theorem getD_z {l : List Nat} {i : Nat} (h : i < l.length) : l[i]? = some (l.getD i 0):=by
 rw [List.getD_eq_getElem?_getD,List.getElem?_eq_getElem h];rfl
theorem toI_zeros (n : Nat) : toI (List.replicate n 0) = List.replicate n 0:=by simp [toI]
theorem S_codewrightref04_Mul {p m nm cm : Nat} {md : List Int} {pm : Option Addr} (K : Fok p m md) {x y : Int} (x0 : 0 ≤ x) (x1 : x < ((p ^ m : Nat) : Int)) (y0 : 0 ≤ y) (y1 : y < ((p ^ m : Nat) : Int)) :
  Ctr Tryz.prog 34 [.agg #[.int .i64 p,.int .i64 m,.slice pm nm cm],.int .i64 x,.int .i64 y] [] [slF I64 pm nm cm md] (Rv (.int .i64 (liftI (fM p (fpo m md)) x y)) []):=by
 refine Ctr_of_j' (F:=F_codewrightref04_Mul) rfl fun C=>?_
 have h1:=K.p2
 have h2:=K.p256
 have h3:=K.m8
 have h4:=K.q
 have h5:=K.m1
 have lx:=dig_len p m x.toNat
 have ly:=dig_len p m y.toNat
 have fl:=K.flen
 have md0:=mul_digs (p:=p) (by omega) (f:=fpo m md) (by omega) x.toNat y.toNat
 rw [fl] at md0
 have xr:=fun d hd=>dig_lt (p:=p) (n:=m) (x:=x.toNat) (by omega) d hd
 have yr:=fun d hd=>dig_lt (p:=p) (n:=m) (x:=y.toNat) (by omega) d hd
 have eR : liftI (fM p (fpo m md)) x y = ((valP p ((List.range m).map fun j=>(mulV (fpo m md) (rep p m x.toNat) (rep p m y.toNat) j % p).toNat) : Nat) : Int):=by
  rw [liftI,fM,un,fl]
 rw [eR]
 clear eR
 refine j_len 0 rfl fun hn _ _=>?_
 subst hn
 generalize hT : (List.range m).map (fun j=>(mulV (fpo m md) (rep p m x.toNat) (rep p m y.toNat) j % p).toNat) = T at *
 have lT : T.length = m:=by rw [← hT];simp
 have rT : ∀ d ∈ T,d < p:=fun d hd=>by rw [← hT] at hd;exact un_digs (by omega) _ d hd
 clear hT
 have ep : p ^ T.length ≤ 1000000:=by rw [lT];omega
 have c_codewrightref04_Digits:=fun {z : Int} (z0 : 0 ≤ z) (z1 : z < ((p ^ m : Nat) : Int))=>S_codewrightref04_Digits (nm:=md.length) (cm:=cm) (pm:=pm) K z0 z1
 refine j_nf [_,_] rfl ?_
 refine j_step rfl (x_box_agg rfl fun b1=>?_)
 refine j_run it 1 rfl (by simp) ?_
 refine j_nf [_,_] rfl ?_
 refine j_step rfl (x_bld_all 0 rfl rfl ld24 rfl ?_)
 refine j_run it 1 rfl (by simp) ?_
 refine j_step rfl (x_call [] rfl (c_codewrightref04_Digits (by omega) (by omega)) rfl ?_)
 rintro _ _ _ ⟨b2,rfl,rfl,rfl⟩
 simp only [List.cons_append,List.nil_append]
 refine j_run it 1 rfl (by simp) ?_
 refine j_nf [_,_] rfl ?_
 refine j_step rfl (x_bld_all 1 rfl rfl ld24 rfl ?_)
 refine j_run it 1 rfl (by simp) ?_
 refine j_step rfl (x_call [] rfl (c_codewrightref04_Digits (by omega) (by omega)) rfl ?_)
 rintro _ _ _ ⟨b3,rfl,rfl,rfl⟩
 simp only [List.cons_append,List.nil_append]
 refine j_run it 1 rfl (by simp) ?_
 refine j_nf [_,_] rfl ?_
 refine j_step rfl (x_field rfl fd24_1 ?_)
 refine j_step rfl (x_bld 2 rfl rfl ld3 rfl ?_)
 refine j_run it 2 rfl ⟨⟨by omega,by omega⟩,⟨by omega,by omega⟩,trivial⟩ ?_
 refine j_step rfl (x_make_nat ((2 * (m)) - 1) _ rfl rfl sl22 zo22e by22e (by omega) (by omega) (by omega) fun b4=>?_)
 refine j_run it 1 rfl (by simp) ?_
 refine j_nf [_,_,_] rfl ?_
 refine j_run it 1 rfl (by simp) ?_
 refine j_nf [_,_,_] rfl ?_
 generalize hDX : dig p m x.toNat = DX at *
 generalize hDY : dig p m y.toNat = DY at *
 have mL:=mulR_len p m (toI DX) (toI DY)
 have mR:=mulR_rng (p:=p) (by omega) m (toI DX) (toI DY)
 refine j_loopG (X:=Nat × List Nat) [3,6,7,8,9] [0] (fun x=>[(10,.int .i64 (x.1 : Int))]) (fun x=>[(some b4,3,natCells .i64 x.2),(some b3,3,natCells .i64 DY),(some b2,3,natCells .i64 DX),(some b1,24,[.int .i64 p,.int .i64 m,.slice pm md.length cm])]) (fun _=>[])
  (fun x=>x.1 ≤ m ∧ toI x.2 = mulR p m (toI DX) (toI DY) x.1) (fun x=>m - x.1) (0,List.replicate (2 * m - 1) 0) [] rfl rfl rfl ⟨Nat.zero_le _,toI_zeros _⟩ (by repeat (first | exact Fr.sub_nil _ | refine Fr.sub_cons rfl ?_)) rfl rfl ?_
 rintro ⟨i,L⟩ ⟨hi,hL⟩ ih
 simp only [List.cons_append,List.nil_append] at hi hL ih ⊢
 by_cases hil : i < m
 ·refine j_nf [_,_,_,_,_,_] rfl ?_
  refine j_run it 1 rfl (by simp) ?_
  refine j_step rfl (x_field rfl fd24_1 ?_)
  refine j_step rfl (x_bld 3 rfl rfl ld3 rfl ?_)
  refine j_run it 1 rfl (by simp) ?_
  refine j_nf [_,_,_,_,_] rfl ?_
  refine j_if rfl rfl (fun h6=>?_) (fun h6=>by exfalso;omega)
  refine j_nf [_,_,_,_,_,_,_] rfl ?_
  refine j_run it 1 rfl (by simp) ?_
  refine j_nf [_,_,_,_,_,_,_] rfl ?_
  have ihn:=fun l h=>ih (i + 1,l) (by dsimp only;omega) ⟨by dsimp only;omega,h⟩
  simp only [mulR] at ihn
  rw [← hL] at ihn
  have lL : L.length = 2 * m - 1:=by rw [← toI_len,hL,mL]
  have rL : ∀ z ∈ toI L,0 ≤ z ∧ z < (p : Int):=by rw [hL];exact mR i
  have zx:=getD_z (l:=DX) (i:=i) (by omega)
  have bx:=xr _ (List.mem_of_getElem? zx)
  rw [toI_getD] at ihn
  generalize DX.getD i 0 = u at *
  refine j_loopG (X:=Nat × List Nat) [3,6,7,8,9,10,25,26,27,28] [0] (fun x=>[(11,.int .i64 (x.1 : Int))]) (fun x=>[(some b4,3,natCells .i64 x.2),(some b3,3,natCells .i64 DY),(some b2,3,natCells .i64 DX),(some b1,24,[.int .i64 p,.int .i64 m,.slice pm md.length cm])]) (fun _=>[])
   (fun x=>x.1 ≤ m ∧ toI x.2 = stepR p (u : Int) (toI DY) i x.1 (toI L)) (fun x=>m - x.1) (0,L) [] rfl rfl rfl ⟨Nat.zero_le _,rfl⟩ (by repeat (first | exact Fr.sub_nil _ | refine Fr.sub_cons rfl ?_)) rfl rfl ?_
  rintro ⟨j,S⟩ ⟨hj,hS⟩ ihj
  simp only [List.cons_append,List.nil_append] at hj hS ihj ⊢
  by_cases hjl : j < m
  ·have lS : S.length = 2 * m - 1:=by rw [← toI_len,hS,stepR_len,toI_len,lL]
   have rS:=stepR_rng (p:=p) (by omega) (u : Int) (toI DY) i rL j
   rw [← hS] at rS
   have ihj':=fun l h=>ihj (j + 1,l) (by dsimp only;omega) ⟨by dsimp only;omega,h⟩
   simp only [stepR] at ihj'
   rw [← hS] at ihj'
   simp only [toI_getD] at ihj'
   have zy:=getD_z (l:=DY) (i:=j) (by omega)
   have by':=yr _ (List.mem_of_getElem? zy)
   have zs:=getD_z (l:=S) (i:=i + j) (by omega)
   have bs:=rS _ (List.mem_of_getElem? (toI_at zs))
   generalize DY.getD j 0 = v at *
   generalize S.getD (i + j) 0 = s at *
   have huv : u * v ≤ 65536:=Nat.le_trans (Nat.mul_le_mul (show u ≤ 256 by omega) (show v ≤ 256 by omega)) (by decide)
   have huv' : (u : Int) * (v : Int) = ((u * v : Nat) : Int):=by omega
   have hb0 : 0 ≤ (u : Int) * (v : Int) ∧ (u : Int) * (v : Int) ≤ 65536:=by omega
   have em : ((s : Int) + (u : Int) * (v : Int)) % (p : Int) = (((s + u * v) % p : Nat) : Int):=by rw [huv',← Int.natCast_add,← Int.natCast_emod]
   have hmod : (s + u * v) % p < p:=Nat.mod_lt _ (by omega)
   refine j_nf [_,_,_,_,_,_,_,_,_,_] rfl ?_
   refine j_run it 1 rfl (by simp) ?_
   refine j_step rfl (x_field rfl fd24_1 ?_)
   refine j_step rfl (x_bld 3 rfl rfl ld3 rfl ?_)
   refine j_run it 1 rfl (by simp) ?_
   refine j_nf [_,_,_,_,_,_,_,_,_] rfl ?_
   refine j_if rfl rfl (fun h7=>?_) (fun h7=>by exfalso;omega)
   refine j_nf [_,_,_,_,_,_,_,_,_,_] rfl ?_
   (apply j_drawK it mx 23;(· rfl);(· rfl))
   (apply lxk_run 8;(· rfl);(· exact ⟨⟨by omega,by omega⟩,trivial,trivial,trivial,⟨by omega,by omega⟩,trivial,trivial,trivial,trivial⟩))
   (apply lxk_eq;(· rfl);(· exact d_x fun _=>x_idx_own ((i) + (j)) ((i) + (j)) rfl rfl sl22 (by omega) (by omega) (Nat.mul_one _) dk_eq))
   (apply lxk_eq;(· rfl);(· exact d_bld_nat 0 rfl rfl ld3 (by assumption)))
   (apply lxk_run 2;(· rfl);(· simp))
   (apply lxk_eq;(· rfl);(· exact d_x fun _=>x_idx_own (i) (i) rfl rfl sl22 rfl (by omega) (Nat.mul_one _) dk_eq))
   (apply lxk_eq;(· rfl);(· exact d_bld_nat 2 rfl rfl ld3 (by assumption)))
   (apply lxk_run 2;(· rfl);(· simp))
   (apply lxk_eq;(· rfl);(· exact d_x fun _=>x_idx_own (j) (j) rfl rfl sl22 rfl (by omega) (Nat.mul_one _) dk_eq))
   (apply lxk_eq;(· rfl);(· exact d_bld_nat 1 rfl rfl ld3 (by assumption)))
   (apply lxk_run 2;(· rfl);(· exact ⟨⟨by omega,by omega⟩,⟨by omega,by omega⟩,trivial⟩))
   (apply lxk_eq;(· rfl);(· exact d_x fun _=>x_field rfl fd24_0 dk_eq))
   (apply lxk_eq;(· rfl);(· exact d_bld 3 rfl rfl ld3 rfl))
   (apply lxk_run 1;(· rfl);(· exact ⟨⟨by omega,by omega⟩,trivial⟩))
   refine lxk_end rfl ?_
   simp only [List.map_cons,List.map_nil,List.cons_append,List.nil_append]
   refine j_step rfl (x_idx_own ((i) + (j)) ((i) + (j)) rfl rfl sl22 (by omega) (by omega) (Nat.mul_one _) ?_)
   refine j_step rfl (x_bst_nat 0 (((s) + ((u) * (v))) % (p)) rfl rfl rfl ld3 (by first | rfl | omega) (by first | omega | (simp;omega)) ?_)
   refine j_nf [_,_,_,_,_,_,_,_] rfl ?_
   refine j_run it 3 rfl ⟨trivial,⟨by omega,by omega⟩,trivial,trivial⟩ ?_
   refine j_nfn 1 [.lp (pL 32036),.blk 2,.blk 1,.c (pL 2003),.lp (pL 500),.blk 0,.c [1,1,1,1,1]] rfl ?_
   refine j_to [0] (by exact fra rfl) rfl rfl (ihj' (S.set (i + j) ((s + u * v) % p)) (by rw [toI_set,← em]))
  ·obtain rfl : j = m:=by omega
   refine j_nf [_,_,_,_,_,_,_,_,_,_] rfl ?_
   refine j_run it 1 rfl (by simp) ?_
   refine j_step rfl (x_field rfl fd24_1 ?_)
   refine j_step rfl (x_bld 3 rfl rfl ld3 rfl ?_)
   refine j_run it 1 rfl (by simp) ?_
   refine j_nf [_,_,_,_,_,_,_,_,_] rfl ?_
   refine j_if rfl rfl (fun h7=>by exfalso;omega) (fun h7=>?_)
   refine j_nf [_,_,_,_] rfl ?_
   refine j_run it 3 rfl ⟨trivial,⟨by omega,by omega⟩,trivial,trivial⟩ ?_
   refine j_nfn 1 [.lp (pL 500),.blk 0,.c [1,1,1,1,1]] rfl ?_
   refine j_to [0] (by exact fra rfl) rfl rfl (ihn S hS)
 ·obtain rfl : i = m:=by omega
  clear ih
  rw [← hL] at md0
  have lL : L.length = 2 * i - 1:=by rw [← toI_len,hL,mL]
  have rL : ∀ z ∈ toI L,0 ≤ z ∧ z < (p : Int):=by rw [hL];exact mR i
  clear hL mL mR
  have kL:=redL_len p (fpo i md) (toI L)
  have kR:=redL_rng (p:=p) (by omega) (fpo i md) rL
  have tl : (toI L).length = 2 * i - 1:=by rw [toI_len,lL]
  rw [tl] at kL
  refine j_nf [_,_,_,_,_,_] rfl ?_
  refine j_run it 1 rfl (by simp) ?_
  refine j_step rfl (x_field rfl fd24_1 ?_)
  refine j_step rfl (x_bld 3 rfl rfl ld3 rfl ?_)
  refine j_run it 1 rfl (by simp) ?_
  refine j_nf [_,_,_,_,_] rfl ?_
  refine j_if rfl rfl (fun h6=>by exfalso;omega) (fun h6=>?_)
  refine j_nf [_,_,_] rfl ?_
  refine j_step rfl (x_field rfl fd24_1 ?_)
  refine j_step rfl (x_bld 3 rfl rfl ld3 rfl ?_)
  refine j_run it 3 rfl ⟨trivial,⟨by omega,by omega⟩,⟨by omega,by omega⟩,trivial⟩ ?_
  refine j_nf [_,_,_] rfl ?_
  refine j_loopG (X:=Nat × List Nat) [3,6,9] [0] (fun x=>[(12,.int .i64 (2 * (i : Int) - 2 - (x.1 : Int)))]) (fun x=>[(some b4,3,natCells .i64 x.2),(some b3,3,natCells .i64 DY),(some b2,3,natCells .i64 DX),(some b1,24,[.int .i64 p,.int .i64 i,.slice pm md.length cm])]) (fun _=>[])
   (fun x=>x.1 ≤ i - 1 ∧ toI x.2 = redL p (fpo i md) (toI L) x.1) (fun x=>i - 1 - x.1) (0,L) [] rfl rfl rfl ⟨Nat.zero_le _,rfl⟩ (by refine Fr.sub_consI rfl (by simp) ?_;repeat (first | exact Fr.sub_nil _ | refine Fr.sub_cons rfl ?_)) rfl rfl ?_
  rintro ⟨n,Z⟩ ⟨hn,hZ⟩ ih
  simp only [List.cons_append,List.nil_append] at hn hZ ih ⊢
  by_cases hnl : n < i - 1
  ·have hi1 : i ≠ 1:=by omega
   have hfp : fpo i md = md:=if_neg hi1
   have hml : md.length = i:=K.len hi1
   have hrm:=K.rng
   refine j_nf [_,_,_,_,_,_] rfl ?_
   refine j_run it 1 rfl (by simp) ?_
   refine j_step rfl (x_field rfl fd24_1 ?_)
   refine j_step rfl (x_bld 3 rfl rfl ld3 rfl ?_)
   refine j_run it 1 rfl (by simp) ?_
   refine j_nf [_,_,_,_,_] rfl ?_
   refine j_if rfl rfl (fun h7=>?_) (fun h7=>by exfalso;omega)
   refine j_nf [_,_,_,_,_,_,_] rfl ?_
   refine j_run it 1 rfl (by simp) ?_
   refine j_nf [_,_,_,_,_,_,_] rfl ?_
   have ihn:=fun l h=>ih (n + 1,l) (by dsimp only;omega) ⟨by dsimp only;omega,h⟩
   simp only [redL] at ihn
   rw [← hZ,tl,hfp,toI_getD,show 2 * i - 1 - 1 - n = 2 * i - 2 - n by omega] at ihn
   have lZ : Z.length = 2 * i - 1:=by rw [← toI_len,hZ,kL]
   have rZ : ∀ z ∈ toI Z,0 ≤ z ∧ z < (p : Int):=by rw [hZ];exact kR n
   have zc:=getD_z (l:=Z) (i:=2 * i - 2 - n) (by omega)
   have bc:=rZ _ (List.mem_of_getElem? (toI_at zc))
   generalize hcv : Z.getD (2 * i - 2 - n) 0 = c at *
   have hpc : (p : Int) - (c : Int) = ((p - c : Nat) : Int):=by omega
   rw [hpc] at ihn
   refine j_loopG (X:=Nat × List Nat) [3,6,9,12,65,66,67,68] [0] (fun x=>[(13,.int .i64 (x.1 : Int))]) (fun x=>[(some b4,3,natCells .i64 x.2),(some b3,3,natCells .i64 DY),(some b2,3,natCells .i64 DX),(some b1,24,[.int .i64 p,.int .i64 i,.slice pm md.length cm])]) (fun _=>[])
    (fun x=>x.1 ≤ i ∧ toI x.2 = stepR p ((p - c : Nat) : Int) md (2 * i - 2 - n - i) x.1 (toI Z)) (fun x=>i - x.1) (0,Z) [] rfl rfl rfl ⟨Nat.zero_le _,rfl⟩ (by repeat (first | exact Fr.sub_nil _ | refine Fr.sub_cons rfl ?_)) rfl rfl ?_
   rintro ⟨j,S⟩ ⟨hj,hS⟩ ihj
   simp only [List.cons_append,List.nil_append] at hj hS ihj ⊢
   by_cases hjl : j < i
   ·have lS : S.length = 2 * i - 1:=by rw [← toI_len,hS,stepR_len,toI_len,lZ]
    have rS:=stepR_rng (p:=p) (by omega) ((p - c : Nat) : Int) md (2 * i - 2 - n - i) rZ j
    rw [← hS] at rS
    have oS:=stepR_out p ((p - c : Nat) : Int) md (2 * i - 2 - n - i) (toI Z) (i:=2 * i - 2 - n) j (by omega)
    rw [← hS,toI_getD,toI_getD,hcv] at oS
    have ihj':=fun l h=>ihj (j + 1,l) (by dsimp only;omega) ⟨by dsimp only;omega,h⟩
    simp only [stepR] at ihj'
    rw [← hS] at ihj'
    simp only [toI_getD] at ihj'
    have hdd : md.getD j 0 = md.getD j default:=rfl
    rw [hdd] at ihj'
    have zm : md[j]? = some (md.getD j default):=by rw [List.getD_eq_getElem?_getD,List.getElem?_eq_getElem (by omega)];rfl
    have bm:=hrm _ (List.mem_of_getElem? zm)
    have zi:=getD_z (l:=S) (i:=2 * i - 2 - n) (by omega)
    rw [show S.getD (2 * i - 2 - n) 0 = c by omega] at zi
    have zs:=getD_z (l:=S) (i:=2 * i - 2 - n - i + j) (by omega)
    have bs:=rS _ (List.mem_of_getElem? (toI_at zs))
    generalize S.getD (2 * i - 2 - n - i + j) 0 = s at *
    have hb0 : 0 ≤ ((p - c : Nat) : Int) * md.getD j default:=Int.mul_nonneg (by omega) bm.1
    have hb1 : ((p - c : Nat) : Int) * md.getD j default ≤ 65536:=Int.le_trans (Int.mul_le_mul (show ((p - c : Nat) : Int) ≤ 256 by omega) (show md.getD j default ≤ 256 by omega) bm.1 (by decide)) (by decide)
    have em0 : 0 ≤ ((s : Int) + ((p - c : Nat) : Int) * md.getD j default) % (p : Int):=Int.emod_nonneg _ (by omega)
    have em1 : ((s : Int) + ((p - c : Nat) : Int) * md.getD j default) % (p : Int) < p:=Int.emod_lt_of_pos _ (by omega)
    refine j_nf [_,_,_,_,_,_,_,_,_,_] rfl ?_
    refine j_run it 1 rfl (by simp) ?_
    refine j_step rfl (x_field rfl fd24_1 ?_)
    refine j_step rfl (x_bld 3 rfl rfl ld3 rfl ?_)
    refine j_run it 1 rfl (by simp) ?_
    refine j_nf [_,_,_,_,_,_,_,_,_] rfl ?_
    refine j_if rfl rfl (fun h8=>?_) (fun h8=>by exfalso;omega)
    refine j_nf [_,_,_,_,_,_,_,_,_,_] rfl ?_
    (apply j_drawK it mx 33;(· rfl);(· rfl))
    (apply lxk_run 2;(· rfl);(· simp))
    (apply lxk_eq;(· rfl);(· exact d_x fun _=>x_field rfl fd24_1 dk_eq))
    (apply lxk_eq;(· rfl);(· exact d_bld 3 rfl rfl ld3 rfl))
    (apply lxk_eq (v:=Value.int IntKind.i64 ((((((2 * (i)) - 2) - (n)) - (i) : Nat)) : Int));(· rfl);(· exact d_x fun _=>x_asN it _ rfl ⟨by omega,by omega⟩ (by omega) dk_eq))
    simp only [Nat.add_sub_cancel]
    (apply lxk_run 4;(· rfl);(· exact ⟨trivial,trivial,⟨by omega,by omega⟩,trivial,trivial⟩))
    (apply lxk_eq;(· rfl);(· exact d_x fun _=>x_field rfl fd24_1 dk_eq))
    (apply lxk_eq;(· rfl);(· exact d_bld 3 rfl rfl ld3 rfl))
    (apply lxk_eq (v:=Value.int IntKind.i64 ((((((2 * (i)) - 2) - (n)) - (i) : Nat)) : Int));(· rfl);(· exact d_x fun _=>x_asN it _ rfl ⟨by omega,by omega⟩ (by omega) dk_eq))
    simp only [Nat.add_sub_cancel]
    (apply lxk_run 2;(· rfl);(· exact ⟨⟨by omega,by omega⟩,trivial,trivial⟩))
    (apply lxk_eq;(· rfl);(· exact d_x fun _=>x_idx_own ((2 * i - 2 - n - i) + (j)) ((2 * i - 2 - n - i) + (j)) rfl rfl sl22 (by omega) (by omega) (Nat.mul_one _) dk_eq))
    (apply lxk_eq;(· rfl);(· exact d_bld_nat 0 rfl rfl ld3 (by assumption)))
    (apply lxk_eq;(· rfl);(· exact d_x fun _=>x_field rfl fd24_0 dk_eq))
    (apply lxk_eq;(· rfl);(· exact d_bld 3 rfl rfl ld3 rfl))
    (apply lxk_run 2;(· rfl);(· simp))
    (apply lxk_eq;(· rfl);(· exact d_x fun _=>x_idx_own (((2 * (i)) - 2) - (n)) (((2 * (i)) - 2) - (n)) rfl rfl sl22 (by omega) (by omega) (Nat.mul_one _) dk_eq))
    (apply lxk_eq;(· rfl);(· exact d_bld_nat 0 rfl rfl ld3 (by assumption)))
    (apply lxk_eq (v:=Value.int IntKind.i64 ((((p) - (c) : Nat)) : Int));(· rfl);(· exact d_x fun _=>x_asN it _ rfl ⟨by omega,by omega⟩ (by omega) dk_eq))
    simp only [Nat.add_sub_cancel]
    (apply lxk_eq;(· rfl);(· exact d_x fun _=>x_field rfl fd24_2 dk_eq))
    (apply lxk_eq;(· rfl);(· exact d_bld 3 rfl rfl ld22 rfl))
    (apply lxk_run 1;(· rfl);(· simp))
    (apply lxk_pt;(· rfl);(· exact d_x fun _=>x_idx 0 (j) rfl rfl rfl sl22 rfl (by omega) fun z1 hz1 b5 o1=>(dk_ptD default hz1 0 rfl));intro b5 o1)
    (apply lxk_eq;(· rfl);(· exact d_x fun _=>x_ld_int 0 rfl rfl ld3 fun ⟨r1,r2⟩=>dk_eq))
    (apply lxk_run 2;(· rfl);(· exact ⟨⟨by omega,by omega⟩,⟨by omega,by omega⟩,trivial⟩))
    (apply lxk_eq;(· rfl);(· exact d_x fun _=>x_field rfl fd24_0 dk_eq))
    (apply lxk_eq;(· rfl);(· exact d_bld 3 rfl rfl ld3 rfl))
    (apply lxk_run 1;(· rfl);(· exact ⟨⟨by omega,by omega⟩,trivial⟩))
    refine lxk_end rfl ?_
    simp only [List.map_cons,List.map_nil,List.cons_append,List.nil_append]
    refine j_step rfl (x_idx_own ((2 * i - 2 - n - i) + (j)) ((2 * i - 2 - n - i) + (j)) rfl rfl sl22 (by omega) (by omega) (Nat.mul_one _) ?_)
    refine j_step rfl (x_bst_nat 0 (((s) + ((p - c) * ((md.getD j default : Int).toNat))) % (p)) rfl rfl rfl ld3 ?_ ?_ ?_)
    ·rw [Int.natCast_emod,Int.natCast_add,Int.natCast_mul,Int.toNat_of_nonneg bm.1]
    ·rw [lS];omega
    refine j_nf [_,_,_,_,_,_,_,_] rfl ?_
    refine j_run it 3 rfl ⟨trivial,⟨by omega,by omega⟩,trivial,trivial⟩ ?_
    refine j_nfn 1 [.lp (pL 64804),.blk 6,.blk 5,.c (pL 4051),.lp (pL 1012),.blk 4,.c (pL 127)] rfl ?_
    refine j_to [1] (by exact fra rfl) rfl rfl (ihj' (S.set (2 * i - 2 - n - i + j) ((s + (p - c) * (md.getD j default).toNat) % p)) (by rw [toI_set,Int.natCast_emod,Int.natCast_add,Int.natCast_mul,Int.toNat_of_nonneg bm.1]))
   ·obtain rfl : j = i:=by omega
    refine j_nf [_,_,_,_,_,_,_,_,_,_] rfl ?_
    refine j_run it 1 rfl (by simp) ?_
    refine j_step rfl (x_field rfl fd24_1 ?_)
    refine j_step rfl (x_bld 3 rfl rfl ld3 rfl ?_)
    refine j_run it 1 rfl (by simp) ?_
    refine j_nf [_,_,_,_,_,_,_,_,_] rfl ?_
    refine j_if rfl rfl (fun h8=>by exfalso;omega) (fun h8=>?_)
    refine j_nf [_,_,_,_] rfl ?_
    refine j_run it 3 rfl ⟨trivial,⟨by omega,by omega⟩,trivial,trivial⟩ ?_
    refine j_nfn 1 [.lp (pL 1012),.blk 4,.c (pL 127)] rfl ?_
    refine j_to [0] (by exact fii rfl (by omega) (fcc rfl (fcc rfl (fcc rfl (fzz _))))) rfl rfl (ihn S (by rw [hml];exact hS))
  ·obtain rfl : n = i - 1:=by omega
   rw [← hZ] at md0
   have lZ : Z.length = 2 * i - 1:=by rw [← toI_len,hZ,kL]
   have rZ : ∀ z ∈ toI Z,0 ≤ z ∧ z < (p : Int):=by rw [hZ];exact kR (i - 1)
   have c_codewrightref04_Value:=fun {pd : Option Addr} {cd : Nat}=>S_codewrightref04_Value (P:=(p : Int)) (M:=(i : Int)) (pm:=pm) (pd:=pd) (nm:=md.length) (cm:=cm) (nd:=i) (cd:=cd) (p:=p) (l:=T) rfl (by omega) h2 rT ep
   rw [← md0] at c_codewrightref04_Value
   rw [natCells_toI .i64 Z]
   refine j_pub_madei 8 (toI Z) 0 rfl (by rw [toI_len,lZ]) (fun z hz=>by have:=rZ z hz;simp only [InR];omega) (by omega) (by omega) ?_
   simp only [List.eraseIdx_cons_zero]
   generalize (some (⟨b4,0,none⟩ : Addr)) = pc
   refine j_nf [_,_,_,_,_,_] rfl ?_
   refine j_run it 1 rfl (by simp) ?_
   refine j_step rfl (x_field rfl fd24_1 ?_)
   refine j_step rfl (x_bld 2 rfl rfl ld3 rfl ?_)
   refine j_run it 1 rfl (by simp) ?_
   refine j_nf [_,_,_,_,_] rfl ?_
   refine j_if rfl rfl (fun h7=>by exfalso;omega) (fun h7=>?_)
   refine j_nf [_,_] rfl ?_
   (apply j_drawK it mx 6;(· rfl);(· rfl))
   (apply lxk_eq;(· rfl);(· exact d_bld_all 2 rfl rfl ld24 rfl))
   (apply lxk_run 1;(· rfl);(· simp))
   (apply lxk_eq;(· rfl);(· exact d_x fun _=>x_field rfl fd24_1 dk_eq))
   (apply lxk_eq;(· rfl);(· exact d_bld 2 rfl rfl ld3 rfl))
   (apply lxk_sl;(· rfl);(· exact d_x fun _=>x_slice_h 0 (i) rfl rfl rfl sl22 (by omega) (by omega) (dk_sl 0 rfl));intro pa1 ca1)
   (apply lxk_eq;(· rfl);(· exact d_x fun _=>x_call [0] rfl (c_codewrightref04_Value) rfl (by rintro _ _ _ ⟨rfl,rfl,rfl⟩;exact dk_eq)))
   refine lxk_end rfl ?_
   simp only [List.map_cons,List.map_nil,List.cons_append,List.nil_append]
   refine j_run it 1 rfl (by simp) ?_
   refine j_nf [_] rfl ?_
   refine j_giv [] rfl rfl rfl ⟨rfl,rfl,rfl⟩
abbrev aF (p m : Nat) : Int → Int → Int:=liftI (fA p m)
abbrev mF (p m : Nat) (md : List Int) : Int → Int → Int:=liftI (fM p (fpo m md))
theorem dot_snoc {q : Nat} {A M : Int → Int → Int} (F : FI q A M) : ∀ {n : Nat} {u v : List Int} {x y : Int},Wd q n u → Wd q n v → 0 ≤ x → x < q → 0 ≤ y → y < q → dotL A M (u++[x]) (v++[y]) = A (dotL A M u v) (M x y)
 | 0,u,v,x,y,hu,hv,x0,x1,y0,y1=>by
  rw [List.length_eq_zero_iff.1 hu.1,List.length_eq_zero_iff.1 hv.1]
  obtain ⟨m0,m1⟩:=F.ml x y x0 x1 y0 y1
  show A (M x y) 0 = A 0 (M x y)
  exact F.ac _ _ m0 m1 (Int.le_refl 0) F.z
 | n + 1,[],_,_,_,h,_,_,_,_,_=>by have:=h.1;simp at this
 | n + 1,_::_,[],_,_,_,h,_,_,_,_=>by have:=h.1;simp at this
 | n + 1,a::u,b::v,x,y,hu,hv,x0,x1,y0,y1=>by
  obtain ⟨a0,a1⟩:=hu.2 a (.head _)
  obtain ⟨b0,b1⟩:=hv.2 b (.head _)
  have hu' : Wd q n u:=⟨by simpa using hu.1,fun z hz=>hu.2 z (.tail _ hz)⟩
  have hv' : Wd q n v:=⟨by simpa using hv.1,fun z hz=>hv.2 z (.tail _ hz)⟩
  obtain ⟨m0,m1⟩:=F.ml a b a0 a1 b0 b1
  obtain ⟨k0,k1⟩:=F.ml x y x0 x1 y0 y1
  obtain ⟨d0,d1⟩:=F.dlt hu' hv'
  show A (M a b) (dotL A M (u++[x]) (v++[y])) = A (A (M a b) (dotL A M u v)) (M x y)
  rw [dot_snoc F hu' hv' x0 x1 y0 y1,F.aa _ _ _ m0 m1 d0 d1 k0 k1]
theorem wd_take {q n k : Nat} {u : List Int} (h : Wd q n u) (hk : k ≤ n) : Wd q k (u.take k):=⟨by rw [List.length_take,h.1];omega,fun x hx=>h.2 x (List.mem_of_mem_take hx)⟩
theorem wd_atD {q n k : Nat} {u : List Int} (h : Wd q n u) (hk : k < n) : 0 ≤ u.getD k default ∧ u.getD k default < q:=h.2 _ (List.mem_of_getElem? (i:=k) (by rw [List.getD_eq_getElem?_getD,List.getElem?_eq_getElem (by rw [h.1];exact hk)];rfl))
theorem take_getD {u : List Int} {k : Nat} (hk : k < u.length) : u.take (k + 1) = u.take k++[u.getD k default]:=by
 rw [List.take_succ_eq_append_getElem hk,List.getD_eq_getElem?_getD,List.getElem?_eq_getElem hk];rfl
theorem S_codewrightref04_Dot {p m nm cm n na ca nb cb : Nat} {md a b : List Int} {pm pa pb : Option Addr} (K : Fok p m md) (ha : Wd (p ^ m) n a) (hb : Wd (p ^ m) n b) :
  Ctr Tryz.prog 13 [.agg #[.int .i64 p,.int .i64 m,.slice pm nm cm],.slice pa na ca,.slice pb nb cb] [] [slF I64 pm nm cm md,slF I64 pa na ca a,slF I64 pb nb cb b] (Rv (.int .i64 (dotL (aF p m) (mF p m md) a b)) []):=by
 refine Ctr_of_j' (F:=F_codewrightref04_Dot) rfl fun C=>?_
 have h2:=K.q
 have F:=K.fi
 refine j_len 1 rfl fun e1 hba _=>?_
 refine j_len 2 rfl fun e2 _ _=>?_
 have hba' : a.length * 8 ≤ 140737488355328:=hba
 rw [ha.1] at e1 hba'
 rw [hb.1] at e2
 subst e1;subst e2
 refine j_nf [_,_] rfl ?_
 refine j_step rfl (x_box_agg rfl fun b1=>?_)
 refine j_run it 1 rfl (by simp) ?_
 refine j_nf [_,_] rfl ?_
 refine j_run it 1 rfl (by simp) ?_
 refine j_nf [_,_,_] rfl ?_
 refine j_run it 1 rfl (by simp) ?_
 refine j_nf [_,_,_] rfl ?_
 refine j_loopG (X:=Nat) [1,2,3,6] [0,1,2] (fun k=>[(8,.int .i64 (k : Int)),(7,.int .i64 (dotL (aF p m) (mF p m md) (a.take k) (b.take k)))]) (fun _=>[(some b1,24,[.int .i64 p,.int .i64 m,.slice pm nm cm])]) (fun _=>[]) (fun k=>k ≤ nb) (fun k=>nb - k) 0 [] rfl rfl rfl (Nat.zero_le _) (by repeat (first | exact Fr.sub_nil _ | refine Fr.sub_cons rfl ?_)) rfl rfl ?_
 rintro k hk ih
 simp only [List.cons_append,List.nil_append] at hk ih ⊢
 obtain ⟨d0,d1⟩:=F.dlt (wd_take ha hk) (wd_take hb hk)
 by_cases hkl : k < nb
 ·have wa:=wd_atD ha hkl
  have wb:=wd_atD hb hkl
  obtain ⟨m0,m1⟩:=F.ml _ _ wa.1 wa.2 wb.1 wb.2
  have ih':=ih (k + 1) (by omega) (by omega)
  rw [take_getD (by rw [ha.1];exact hkl),take_getD (by rw [hb.1];exact hkl),dot_snoc F (wd_take ha hk) (wd_take hb hk) wa.1 wa.2 wb.1 wb.2] at ih'
  have la:=ha.1
  have lb:=hb.1
  generalize dotL (aF p m) (mF p m md) (a.take k) (b.take k) = s at *
  have c_codewrightref04_Mul:=fun {x y : Int} (x0 : 0 ≤ x) (x1 : x < ((p ^ m : Nat) : Int)) (y0 : 0 ≤ y) (y1 : y < ((p ^ m : Nat) : Int))=>S_codewrightref04_Mul (pm:=pm) (nm:=nm) (cm:=cm) K x0 x1 y0 y1
  have c_codewrightref04_Add:=fun {x y : Int} (x0 : 0 ≤ x) (x1 : x < ((p ^ m : Nat) : Int)) (y0 : 0 ≤ y) (y1 : y < ((p ^ m : Nat) : Int))=>S_codewrightref04_Add (pm:=pm) (nm:=nm) (cm:=cm) K x0 x1 y0 y1
  refine j_nf [_,_,_,_,_,_] rfl ?_
  refine j_run it 2 rfl (by simp) ?_
  refine j_step rfl (x_len sl22 rfl ?_)
  refine j_run it 2 rfl (by simp) ?_
  refine j_split_dec (t:=13) rfl (fun h1=>?_) (fun h1=>by exfalso;omega)
  refine j_run it 2 rfl (by simp) ?_
  refine j_gstep rfl rfl (x_len sl22 rfl ?_)
  refine j_run it 2 rfl (by simp) ?_
  refine j_nf [_,_,_,_,_] rfl ?_
  refine j_if rfl rfl (fun h3=>?_) (fun h3=>by exfalso;omega)
  refine j_nf [_,_,_,_,_,_] rfl ?_
  (apply j_drawK it mx 13;(· rfl);(· rfl))
  (apply lxk_eq;(· rfl);(· exact d_bld_all 0 rfl rfl ld24 rfl))
  (apply lxk_run 1;(· rfl);(· simp))
  (apply lxk_eq;(· rfl);(· exact d_bld_all 0 rfl rfl ld24 rfl))
  (apply lxk_run 2;(· rfl);(· simp))
  (apply lxk_pt;(· rfl);(· exact d_x fun _=>x_idx 1 (k) rfl rfl rfl sl22 rfl (by omega) fun z1 hz1 b2 o1=>(dk_ptD default hz1 0 rfl));intro b2 o1)
  (apply lxk_eq;(· rfl);(· exact d_x fun _=>x_ld_int 0 rfl rfl ld3 fun ⟨r1,r2⟩=>dk_eq))
  (apply lxk_run 2;(· rfl);(· simp))
  (apply lxk_pt;(· rfl);(· exact d_x fun _=>x_idx 2 (k) rfl rfl rfl sl22 rfl (by omega) fun z1 hz1 b3 o2=>(dk_ptD default hz1 0 rfl));intro b3 o2)
  (apply lxk_eq;(· rfl);(· exact d_x fun _=>x_ld_int 0 rfl rfl ld3 fun ⟨r1,r2⟩=>dk_eq))
  (apply lxk_eq;(· rfl);(· exact d_x fun _=>x_call [2] rfl (c_codewrightref04_Mul (by omega) (by omega) (by omega) (by omega)) rfl (by rintro _ _ _ ⟨rfl,rfl,rfl⟩;exact dk_eq)))
  (apply lxk_eq;(· rfl);(· exact d_x fun _=>x_call [] rfl (c_codewrightref04_Add (by omega) (by omega) (by omega) (by omega)) rfl (by rintro _ _ _ ⟨rfl,rfl,rfl⟩;exact dk_eq)))
  refine lxk_end rfl ?_
  simp only [List.map_cons,List.map_nil,List.cons_append,List.nil_append]
  refine j_run it 1 rfl (by simp) ?_
  refine j_nf [_,_,_,_] rfl ?_
  refine j_run it 3 rfl ⟨trivial,⟨by omega,by omega⟩,trivial,trivial⟩ ?_
  refine j_nfn 1 [.lp (pL 116),.blk 0,.c [1,1,1]] rfl ?_
  refine j_to [2,3,4] (by exact fra rfl) rfl rfl (ih')
 ·obtain rfl : k = nb:=by omega
  rw [List.take_of_length_le (by rw [ha.1];exact Nat.le_refl _),List.take_of_length_le (by rw [hb.1];exact Nat.le_refl _)]
  refine j_nf [_,_,_,_,_,_] rfl ?_
  refine j_run it 2 rfl (by simp) ?_
  refine j_step rfl (x_len sl22 rfl ?_)
  refine j_run it 2 rfl (by simp) ?_
  refine j_split_dec (t:=13) rfl (fun h1=>by exfalso;omega) (fun h1=>?_)
  refine j_run it 5 rfl (by simp) ?_
  refine j_nf [_,_,_,_,_] rfl ?_
  refine j_false rfl rfl ?_
  refine j_nf [_,_] rfl ?_
  refine j_run it 2 rfl (by simp) ?_
  refine j_nf [_] rfl ?_
  refine j_giv [] rfl rfl rfl ⟨rfl,rfl,rfl⟩
theorem S_field_order {P M : Int} {res : Int} (hres : ordI P M = res) : Ctr Tryz.prog 73 [.int .i64 P,.int .i64 M] [] [] (Rv (.int .i64 res) []):=by
 refine Ctr_of_j' (F:=F_field_order) rfl fun C=>?_
 have no : ¬ ordP P M → res = 0:=fun h=>by rw [← hres,ordI,if_neg h]
 by_cases h1 : P < 2
 ·rw [no (by unfold ordP;omega)]
  refine j_nf [_,_] rfl (j_run it 1 rfl (by simp) ?_)
  refine j_nf [_,_,_] rfl (j_run it 3 rfl (by simp) ?_)
  refine j_split_dec (t:=8) rfl (fun h2=>?_) (fun h2=>by exfalso;omega)
  refine j_run it 11 rfl (by simp) ?_
  refine j_nf [_,_] rfl ?_
  refine j_true rfl rfl ?_
  refine j_nf [_,_,_] rfl (j_run it 1 rfl (by simp) ?_)
  refine j_nf [_,_] rfl ?_
  refine j_giv [] rfl rfl rfl ⟨rfl,rfl,rfl⟩
 by_cases h0 : 256 < P
 ·rw [no fun h=>by
   have h9:=h.2.2.2
   have h8:=Nat.le_self_pow (n:=M.toNat) (by have:=h.2.1;omega) P.toNat
   omega]
  refine j_nf [_,_] rfl (j_run it 1 rfl (by simp) ?_)
  refine j_nf [_,_,_] rfl (j_run it 3 rfl (by simp) ?_)
  refine j_split_dec (t:=8) rfl (fun h2=>by exfalso;omega) (fun h2=>?_)
  refine j_run it 4 rfl (by simp) ?_
  refine j_split_dec (t:=12) rfl (fun h3=>?_) (fun h3=>by exfalso;omega)
  refine j_run it 7 rfl (by simp) ?_
  refine j_nf [_,_] rfl ?_
  refine j_true rfl rfl ?_
  refine j_nf [_,_,_] rfl (j_run it 1 rfl (by simp) ?_)
  refine j_nf [_,_] rfl ?_
  refine j_giv [] rfl rfl rfl ⟨rfl,rfl,rfl⟩
 by_cases h2 : M < 1
 ·rw [no (by unfold ordP;omega)]
  refine j_nf [_,_] rfl (j_run it 1 rfl (by simp) ?_)
  refine j_nf [_,_,_] rfl (j_run it 3 rfl (by simp) ?_)
  refine j_split_dec (t:=8) rfl (fun h3=>by exfalso;omega) (fun h3=>?_)
  refine j_run it 4 rfl (by simp) ?_
  refine j_split_dec (t:=12) rfl (fun h4=>by exfalso;omega) (fun h4=>?_)
  refine j_run it 4 rfl (by simp) ?_
  refine j_split_dec (t:=16) rfl (fun h5=>?_) (fun h5=>by exfalso;omega)
  refine j_run it 3 rfl (by simp) ?_
  refine j_nf [_,_] rfl ?_
  refine j_true rfl rfl ?_
  refine j_nf [_,_,_] rfl (j_run it 1 rfl (by simp) ?_)
  refine j_nf [_,_] rfl ?_
  refine j_giv [] rfl rfl rfl ⟨rfl,rfl,rfl⟩
 by_cases h3 : 8 < M
 ·rw [no (by unfold ordP;omega)]
  refine j_nf [_,_] rfl (j_run it 1 rfl (by simp) ?_)
  refine j_nf [_,_,_] rfl (j_run it 3 rfl (by simp) ?_)
  refine j_split_dec (t:=8) rfl (fun h4=>by exfalso;omega) (fun h4=>?_)
  refine j_run it 4 rfl (by simp) ?_
  refine j_split_dec (t:=12) rfl (fun h5=>by exfalso;omega) (fun h5=>?_)
  refine j_run it 4 rfl (by simp) ?_
  refine j_split_dec (t:=16) rfl (fun h6=>by exfalso;omega) (fun h6=>?_)
  refine j_run it 3 rfl (by simp) ?_
  refine j_nf [_,_] rfl (j_if rfl rfl (fun h7=>?_) (fun h7=>by exfalso;omega))
  refine j_nf [_,_,_] rfl (j_run it 1 rfl (by simp) ?_)
  refine j_nf [_,_] rfl ?_
  refine j_giv [] rfl rfl rfl ⟨rfl,rfl,rfl⟩
 obtain ⟨p,rfl⟩ : ∃ p : Nat,P = p:=⟨P.toNat,by omega⟩
 obtain ⟨m,rfl⟩ : ∃ m : Nat,M = m:=⟨M.toNat,by omega⟩
 refine j_nf [_,_] rfl (j_run it 1 rfl (by simp) ?_)
 refine j_nf [_,_,_] rfl (j_run it 3 rfl (by simp) ?_)
 refine j_split_dec (t:=8) rfl (fun h4=>by exfalso;omega) (fun h4=>?_)
 refine j_run it 4 rfl (by simp) ?_
 refine j_split_dec (t:=12) rfl (fun h5=>by exfalso;omega) (fun h5=>?_)
 refine j_run it 4 rfl (by simp) ?_
 refine j_split_dec (t:=16) rfl (fun h6=>by exfalso;omega) (fun h6=>?_)
 refine j_run it 3 rfl (by simp) ?_
 refine j_nf [_,_] rfl (j_if rfl rfl (fun h7=>by exfalso;omega) (fun h7=>?_))
 refine j_nf [_,_] rfl (j_run it 1 rfl (by simp) ?_)
 refine j_nf [_,_,_] rfl (j_run it 2 rfl (by simp) ?_)
 refine j_nf [_,_,_] rfl ?_
 refine j_loopG (X:=Nat) [0,20] [] (fun i=>[(21,.int .i64 (i : Int)),(5,.int .i64 ((p ^ i : Nat) : Int))]) (fun _=>[]) (fun _=>[]) (fun i=>i ≤ m ∧ p ^ i ≤ 256) (fun i=>m - i) 0 [] rfl rfl rfl ⟨Nat.zero_le _,by simp⟩ (by repeat (first | exact Fr.sub_nil _ | refine Fr.sub_cons rfl ?_)) rfl rfl ?_
 rintro i ⟨hi,hq⟩ ih
 simp only [List.cons_append,List.nil_append] at hi hq ih ⊢
 by_cases hil : i < m
 ·have hp0 : 0 < p:=by omega
  have e : ((p ^ i : Nat) : Int) * (p : Int) = ((p ^ (i + 1) : Nat) : Int):=by rw [Nat.pow_succ,Int.natCast_mul]
  have h65 : p ^ (i + 1) ≤ 65536:=by rw [Nat.pow_succ];exact Nat.mul_le_mul hq (show p ≤ 256 by omega)
  have e2 : 0 ≤ ((p ^ i : Nat) : Int) * (p : Int):=by rw [e];omega
  have e3 : ((p ^ i : Nat) : Int) * (p : Int) ≤ 65536:=by rw [e];omega
  by_cases hb : p ^ (i + 1) ≤ 256
  ·have e4 : ((p ^ i : Nat) : Int) * (p : Int) ≤ 256:=by rw [e];omega
   refine j_nf [_,_,_,_,_] rfl (j_run it 1 rfl (by simp) ?_)
   refine j_nf [_,_,_,_,_] rfl (j_if rfl rfl (fun h8=>?_) (fun h8=>by exfalso;omega))
   refine j_nf [_,_,_,_,_,_,_] rfl (j_run it 4 rfl ⟨trivial,⟨by omega,by omega⟩,trivial,trivial,trivial⟩ ?_)
   refine j_nf [_,_,_,_,_,_,_] rfl (j_run it 2 rfl (by simp) ?_)
   refine j_nf [_,_,_,_,_,_] rfl (j_if rfl rfl (fun h9=>by exfalso;omega) (fun h9=>?_))
   refine j_nf [_,_,_,_] rfl (j_run it 2 rfl ⟨trivial,⟨by omega,by omega⟩,trivial⟩ ?_)
   refine j_nfn 1 [.lp (pL 244),.blk 0,.c [1,1,1,1]] rfl ?_
   rw [e]
   refine j_to [] (by exact fra rfl) rfl rfl (ih (i + 1) (by omega) ⟨by omega,hb⟩)
  ·have e4 : 256 < ((p ^ i : Nat) : Int) * (p : Int):=by rw [e];omega
   rw [no fun h=>hb (Nat.le_trans (Nat.pow_le_pow_right hp0 hil) (by have:=h.2.2.2;simpa using this))]
   refine j_nf [_,_,_,_,_] rfl (j_run it 1 rfl (by simp) ?_)
   refine j_nf [_,_,_,_,_] rfl (j_if rfl rfl (fun h8=>?_) (fun h8=>by exfalso;omega))
   refine j_nf [_,_,_,_,_,_,_] rfl (j_run it 4 rfl ⟨trivial,⟨by omega,by omega⟩,trivial,trivial,trivial⟩ ?_)
   refine j_nf [_,_,_,_,_,_,_] rfl (j_run it 2 rfl (by simp) ?_)
   refine j_nf [_,_,_,_,_,_] rfl (j_if rfl rfl (fun h9=>?_) (fun h9=>by exfalso;omega))
   refine j_nf [_,_,_,_,_,_,_] rfl (j_run it 1 rfl (by simp) ?_)
   refine j_nf [_,_,_,_,_,_] rfl ?_
   refine j_giv [] rfl rfl rfl ⟨rfl,rfl,rfl⟩
 ·obtain rfl : m = i:=by omega
  have : res = ((p ^ m : Nat) : Int):=by
   rw [← hres,ordI,if_pos ⟨by omega,by omega,by omega,by simpa using hq⟩];simp
  rw [this]
  refine j_nf [_,_,_,_,_] rfl (j_run it 1 rfl (by simp) ?_)
  refine j_nf [_,_,_,_,_] rfl (j_if rfl rfl (fun h8=>by exfalso;omega) (fun h8=>?_))
  refine j_nf [_,_] rfl (j_run it 2 rfl (by simp) ?_)
  refine j_nf [_] rfl ?_
  refine j_giv [] rfl rfl rfl ⟨rfl,rfl,rfl⟩
theorem prm_sqrt {n : Nat} (hn : 2 ≤ n) (h : ∀ d,2 ≤ d → d * d ≤ n → ¬ d ∣ n) : Prm n:=by
 refine ⟨hn,fun d hd hl hdv=>?_⟩
 obtain ⟨c,rfl⟩:=hdv
 have hc : 2 ≤ c:=by
  rcases Nat.lt_or_ge c 2 with h1 | h1
  ·exfalso
   have : c = 0 ∨ c = 1:=by omega
   rcases this with rfl | rfl <;> simp at hn hl
  ·exact h1
 rcases Nat.le_total d c with h1 | h1
 ·exact h d hd (Nat.mul_le_mul_left d h1) (Nat.dvd_mul_right _ _)
 ·exact h c hc (Nat.mul_le_mul_right c h1) (Nat.dvd_mul_left _ _)
theorem S_field_isPrime {n : Nat} (hn : 2 ≤ n) (hn2 : n ≤ 1000000) {res : Bool} (hres : res = true ↔ Prm n) : Ctr Tryz.prog 111 [.int .i64 n] [] [] (Rv (.bool res) []):=by
 refine Ctr_of_j' (F:=F_field_isPrime) rfl fun C=>?_
 refine j_nf [_,_] rfl (j_run it 1 rfl (by simp) ?_)
 refine j_nf [_,_,_] rfl (j_run it 1 rfl (by simp) ?_)
 refine j_nf [_,_,_] rfl ?_
 refine j_loopG (X:=Nat) [0] [] (fun d=>[(3,.int .i64 (d : Int))]) (fun _=>[]) (fun _=>[]) (fun d=>2 ≤ d ∧ d ≤ n ∧ ∀ e,2 ≤ e → e < d → ¬ e ∣ n) (fun d=>n - d) 2 [] rfl rfl rfl ⟨Nat.le_refl 2,hn,fun e h1 h2=>by omega⟩ (by repeat (first | exact Fr.sub_nil _ | refine Fr.sub_cons rfl ?_)) rfl rfl ?_
 rintro d ⟨hd,hdn,hall⟩ ih
 simp only [List.cons_append,List.nil_append] at hd hdn hall ih ⊢
 have q0 : (0 : Int) ≤ (d : Int) * (d : Int):=Int.mul_nonneg (by omega) (by omega)
 have q1 : (d : Int) * (d : Int) ≤ 1000000 * 1000000:=Int.mul_le_mul (by omega) (by omega) (by omega) (by omega)
 have q2 : (d : Int) * (d : Int) = ((d * d : Nat) : Int):=(Int.natCast_mul d d).symm
 by_cases hdl : d * d ≤ n
 ·have hlt : d < n:=by
   have:=Nat.mul_le_mul_right d hd
   omega
  by_cases hm : n % d = 0
  ·have hm' : (n : Int) % (d : Int) = 0:=by omega
   have : res = false:=by
    cases res with
    | false=>rfl
    | true=>exact absurd (Nat.dvd_of_mod_eq_zero hm) ((hres.1 rfl).2 d hd hlt)
   rw [this]
   refine j_nf [_,_,_,_,_,_] rfl (j_run it 5 rfl ⟨trivial,trivial,⟨by omega,by omega⟩,trivial,trivial,trivial⟩ ?_)
   refine j_nf [_,_,_,_,_] rfl (j_if rfl rfl (fun h1=>?_) (fun h1=>by exfalso;omega))
   refine j_nf [_,_,_,_,_,_,_] rfl (j_run it 4 rfl ⟨trivial,⟨by omega,by omega⟩,trivial,trivial,trivial⟩ ?_)
   refine j_nf [_,_,_,_,_,_] rfl (j_if rfl rfl (fun h2=>?_) (fun h2=>by exfalso;omega))
   refine j_nf [_,_,_,_,_,_,_] rfl (j_run it 1 rfl (by simp) ?_)
   refine j_nf [_,_,_,_,_,_] rfl ?_
   refine j_giv [] rfl rfl rfl ⟨rfl,rfl,rfl⟩
  ·have hm' : ¬ (n : Int) % (d : Int) = 0:=by omega
   refine j_nf [_,_,_,_,_,_] rfl (j_run it 5 rfl ⟨trivial,trivial,⟨by omega,by omega⟩,trivial,trivial,trivial⟩ ?_)
   refine j_nf [_,_,_,_,_] rfl (j_if rfl rfl (fun h1=>?_) (fun h1=>by exfalso;omega))
   refine j_nf [_,_,_,_,_,_,_] rfl (j_run it 4 rfl ⟨trivial,⟨by omega,by omega⟩,trivial,trivial,trivial⟩ ?_)
   refine j_nf [_,_,_,_,_,_] rfl (j_if rfl rfl (fun h2=>by exfalso;omega) (fun h2=>?_))
   refine j_nf [_,_,_,_] rfl (j_run it 3 rfl ⟨trivial,⟨by omega,by omega⟩,trivial,trivial⟩ ?_)
   refine j_nfn 1 [.lp [1,0,1,0,0],.blk 0,.c [1,1]] rfl ?_
   refine j_to [] (by exact fra rfl) rfl rfl (ih (d + 1) (by omega) ⟨by omega,by omega,fun e h1 h2=>by
    rcases Nat.lt_succ_iff_lt_or_eq.1 h2 with h3 | rfl
    ·exact hall e h1 h3
    ·exact fun hdv=>hm (Nat.mod_eq_zero_of_dvd hdv)⟩)
 ·have : res = true:=hres.2 (prm_sqrt hn fun e h1 h2=>by
   refine hall e h1 (Nat.lt_of_not_le fun hle=>hdl ?_)
   exact Nat.le_trans (Nat.mul_le_mul hle hle) h2)
  rw [this]
  refine j_nf [_,_,_,_,_,_] rfl (j_run it 5 rfl ⟨trivial,trivial,⟨by omega,by omega⟩,trivial,trivial,trivial⟩ ?_)
  refine j_nf [_,_,_,_,_] rfl (j_if rfl rfl (fun h1=>by exfalso;omega) (fun h1=>?_))
  refine j_nf [_,_] rfl (j_run it 3 rfl (by simp) ?_)
  refine j_nf [_] rfl ?_
  rw [decide_eq_true (show (2 : Int) ≤ (n : Int) by omega)]
  refine j_giv [] rfl rfl rfl ⟨rfl,rfl,rfl⟩
theorem S_field_digitsOf {p n x : Nat} (hp : 1 ≤ p) (hp2 : p ≤ 1000000) (hn : n ≤ 100) (hx : x ≤ 1000000000) : Ctr Tryz.prog 131 [.int .i64 x,.int .i64 p,.int .i64 n] [] [] (SvI n (toI (dig p n x))):=by
 refine Ctr_of_j' (F:=F_field_digitsOf) rfl fun C=>?_
 have hl:=dig_len p n x
 refine j_nf [_,_] rfl (j_run it 1 rfl (by simp) ?_)
 refine j_nf [_,_] rfl (j_run it 1 rfl (by simp) ?_)
 refine j_step rfl (x_make_nat (n) _ rfl rfl sl22 zo22e by22e (by omega) (by omega) (by omega) fun b1=>?_)
 refine j_run it 1 rfl (by simp) ?_
 refine j_nf [_,_,_] rfl (j_run it 1 rfl (by simp) ?_)
 refine j_step rfl (x_len sl22 rfl ?_)
 refine j_run it 1 rfl (by simp) ?_
 refine j_nf [_,_,_] rfl ?_
 rw [show List.replicate n 0 = (dig p n x).take 0++List.replicate (n - 0) 0 by simp]
 refine j_loopG (X:=Nat) [1,6,7,12] [] (fun i=>[(13,.int .i64 (i : Int)),(0,.int .i64 ((x / p ^ i : Nat) : Int))]) (fun i=>[(some b1,3,natCells .i64 ((dig p n x).take i++List.replicate (n - i) 0))]) (fun _=>[]) (fun i=>i ≤ n) (fun i=>n - i) 0 [] rfl rfl rfl (Nat.zero_le _) (by refine Fr.sub_cons rfl ?_;refine Fr.sub_consI rfl (by simp) ?_;repeat (first | exact Fr.sub_nil _ | refine Fr.sub_cons rfl ?_)) rfl rfl ?_
 rintro i hi ih
 simp only [List.cons_append,List.nil_append] at hi ih ⊢
 have hxi : x / p ^ i ≤ x:=Nat.div_le_self _ _
 have hz:=fun h=>dig_at (p:=p) (n:=n) (i:=i) (x:=x) h
 have hnx : x / p ^ (i + 1) = x / p ^ i / p:=by rw [Nat.pow_succ,← Nat.div_div_eq_div_mul]
 by_cases hil : i < n
 ·have ih':=ih (i + 1) (by omega) (by omega)
  rw [hnx,← fill_set hl hil (hz hil)] at ih'
  generalize x / p ^ i = y at *
  have e1 : (y : Int) % (p : Int) = ((y % p : Nat) : Int):=(Int.natCast_emod _ _).symm
  have e2 : (y : Int) / (p : Int) = ((y / p : Nat) : Int):=(Int.natCast_ediv _ _).symm
  have hlen : ((dig p n x).take i++List.replicate (n - i) 0).length = n:=by simp [hl];omega
  refine j_nf [_,_,_,_,_] rfl (j_run it 1 rfl (by simp) ?_)
  refine j_nf [_,_,_,_,_] rfl (j_if rfl rfl (fun h1=>?_) (fun h1=>by exfalso;omega))
  refine j_nf [_,_,_,_,_,_,_] rfl (j_run it 2 rfl (by simp) ?_)
  refine j_nf [_,_,_,_,_,_,_] rfl (j_run it 5 rfl ⟨⟨by omega,by omega⟩,trivial,trivial,trivial,trivial,trivial⟩ ?_)
  refine j_step rfl (x_idx_own (i) (i) rfl rfl sl22 rfl (by omega) (Nat.mul_one _) ?_)
  refine j_step rfl (x_bst_nat 0 ((y) % (p)) rfl rfl rfl ld3 (by first | rfl | omega) (by first | omega | (simp;omega)) ?_)
  refine j_nf [_,_,_,_,_,_] rfl (j_run it 4 rfl ⟨trivial,⟨by omega,by omega,by omega,by omega⟩,trivial,trivial,trivial⟩ ?_)
  refine j_nf [_,_,_,_] rfl (j_run it 2 rfl ⟨trivial,⟨by omega,by omega⟩,trivial⟩ ?_)
  refine j_nfn 1 [.lp (pL 116),.blk 0,.c [1,1,1]] rfl ?_
  rw [e2]
  refine j_to [] (by exact fra rfl) rfl rfl (ih')
 ·obtain rfl : i = n:=by omega
  clear hz hnx
  rw [List.take_of_length_le (by omega),Nat.sub_self,List.replicate_zero,List.append_nil,natCells_toI]
  refine j_nf [_,_,_,_,_] rfl (j_run it 1 rfl (by simp) ?_)
  refine j_nf [_,_,_,_,_] rfl (j_if rfl rfl (fun h1=>by exfalso;omega) (fun h1=>?_))
  refine j_nf [_,_] rfl (j_run it 2 rfl (by simp) ?_)
  refine j_nf [_] rfl ?_
  refine j_pub_madei 8 (toI (dig p i x)) 0 rfl (by rw [toI_len,hl]) (toI_rng fun d hd=>by have:=dig_lt (by omega) d hd;omega) (by omega) (by omega) ?_
  refine j_giv [0] rfl rfl rfl ⟨_,_,rfl,rfl,rfl⟩
theorem S_field_valueOf {pd : Option Addr} {nd cd p : Nat} {l : List Nat} (hp : 1 ≤ p) (hp2 : p ≤ 256) (hd : ∀ x ∈ l,x < p) (hl : p ^ l.length ≤ 1000000) :
  Ctr Tryz.prog 132 [.slice pd nd cd,.int .i64 p] [] [slF I64 pd nd cd (toI l)] (Rv (.int .i64 ((valP p l : Nat) : Int)) []):=by
 refine Ctr_of_j' (F:=F_field_valueOf) rfl fun C=>?_
 refine j_len 0 rfl fun hn hb _=>?_
 rw [toI_len] at hn hb
 subst hn
 have hb : l.length * 8 ≤ 140737488355328:=hb
 refine j_nf [_,_] rfl (j_run it 1 rfl (by simp) ?_)
 refine j_nf [_,_] rfl (j_run it 1 rfl (by simp) ?_)
 refine j_nf [_,_,_] rfl (j_run it 1 rfl (by simp) ?_)
 refine j_step rfl (x_len sl22 rfl ?_)
 refine j_run it 2 rfl ⟨trivial,⟨by omega,by omega⟩,trivial⟩ ?_
 refine j_nf [_,_,_] rfl ?_
 refine j_loopG (X:=Nat) [0,1,4] [0] (fun j=>[(6,.int .i64 ((j : Int) - 1)),(5,.int .i64 ((valP p (l.drop j) : Nat) : Int))]) (fun _=>[]) (fun _=>[]) (fun j=>j ≤ l.length) (fun j=>j) l.length [] rfl rfl rfl (Nat.le_refl _) (by refine Fr.sub_cons rfl ?_;refine Fr.sub_consI rfl (by simp [valP]) ?_;repeat (first | exact Fr.sub_nil _ | refine Fr.sub_cons rfl ?_)) rfl rfl ?_
 rintro j hj ih
 simp only [List.cons_append,List.nil_append] at hj ih ⊢
 have hlt : valP p (l.drop j) < p ^ l.length:=Nat.lt_of_lt_of_le (valP_lt (by omega) fun x hx=>hd x (List.mem_of_mem_drop hx)) (Nat.pow_le_pow_right (by omega) (by rw [List.length_drop];omega))
 cases j with
 | zero =>
  rw [List.drop_zero]
  refine j_nf [_,_,_,_,_,_] rfl (j_run it 2 rfl (by simp) ?_)
  refine j_nf [_,_,_,_,_] rfl (j_if rfl rfl (fun h1=>by exfalso;omega) (fun h1=>?_))
  refine j_nf [_,_] rfl (j_run it 2 rfl (by simp) ?_)
  refine j_nf [_] rfl ?_
  refine j_giv [] rfl rfl rfl ⟨rfl,rfl,rfl⟩
 | succ j =>
  have at_z : (toI l)[j]? = some ((l.getD j 0 : Nat) : Int):=toI_at (by rw [List.getD_eq_getElem?_getD,List.getElem?_eq_getElem (by omega)];rfl)
  have hz2 : l.getD j 0 < p:=hd _ (List.mem_of_getElem? (i:=j) (by rw [List.getD_eq_getElem?_getD,List.getElem?_eq_getElem (by omega)];rfl))
  have ih':=ih j (by omega) (by omega)
  have hlt2 : valP p (l.drop j) < p ^ l.length:=Nat.lt_of_lt_of_le (valP_lt (by omega) fun x hx=>hd x (List.mem_of_mem_drop hx)) (Nat.pow_le_pow_right (by omega) (by rw [List.length_drop];omega))
  rw [valP_drop (show j < l.length by omega)] at ih' hlt2
  generalize valP p (l.drop (j + 1)) = v at *
  generalize hw : l.getD j 0 = w at *
  have at_z2 : (toI l)[j + 1 - 1]? = some (w : Int):=by rw [Nat.add_sub_cancel];exact at_z
  have hvp : (v : Int) * (p : Int) ≤ 1000000:=by rw [← Int.natCast_mul,Nat.mul_comm];omega
  have hv0 : 0 ≤ (v : Int) * (p : Int):=by rw [← Int.natCast_mul];omega
  have e : (v : Int) * (p : Int) + (w : Int) = ((w + p * v : Nat) : Int):=by rw [Int.natCast_add,Int.natCast_mul,Int.mul_comm];omega
  refine j_nf [_,_,_,_,_,_] rfl (j_run it 2 rfl (by simp) ?_)
  refine j_nf [_,_,_,_,_] rfl (j_if rfl rfl (fun h1=>?_) (fun h1=>by exfalso;omega))
  refine j_nf [_,_,_,_,_,_] rfl (j_run it 5 rfl ⟨trivial,trivial,⟨by omega,by omega⟩,trivial,trivial,trivial⟩ ?_)
  refine j_step rfl (x_idx 0 ((j + 1) - 1) rfl rfl rfl sl22 (by omega) (by omega) fun z1 hz1 b1 o1=>?_)
  obtain rfl : _ = z1:=Option.some.inj (at_z2.symm.trans hz1)
  refine j_step rfl (x_ld_int 0 rfl rfl ld3 fun ⟨r1,r2⟩=>?_)
  refine j_run it 2 rfl ⟨trivial,⟨by omega,by omega⟩,trivial⟩ ?_
  refine j_nf [_,_,_,_] rfl (j_run it 3 rfl ⟨trivial,⟨by omega,by omega⟩,trivial,trivial⟩ ?_)
  refine j_nfn 1 [.lp (pL 116),.blk 0,.c [1,1,1]] rfl ?_
  rw [e]
  refine j_to [1] (by exact fii rfl (by omega) (fcc rfl (fcc rfl (fcc rfl (fcc rfl (fzz _)))))) rfl rfl (ih')
def shpF (P M : Int) (md : List Int) : Prop:=ordP P M ∧ Prm P.toNat ∧ (M = 1 → md.length = 0) ∧ (M ≠ 1 → (md.length : Int) = M ∧ ∀ x ∈ md,0 ≤ x ∧ x < P)
theorem S_field_shape {P M : Int} {pm : Option Addr} {nm cm : Nat} {md : List Int} {res : Bool} (hres : res = true ↔ shpF P M md) : Ctr Tryz.prog 72 [.agg #[.int .i64 P,.int .i64 M,.slice pm nm cm]] [] [slF I64 pm nm cm md] (Rv (.bool res) []):=by
 refine Ctr_of_j' (F:=F_field_shape) rfl fun C=>?_
 refine j_len 0 rfl fun hn1 hb1 _=>?_
 subst hn1
 have hb1' : md.length * 8 ≤ 140737488355328:=hb1
 have no : ¬ shpF P M md → res = false:=fun h=>by
  cases res with
  | false=>rfl
  | true=>exact absurd (hres.1 rfl) h
 by_cases h1 : ordP P M
 ·have ho : ordI P M ≠ 0:=by
   rw [ordI,if_pos h1]
   have:=Nat.pow_pos (n:=M.toNat) (show 0 < P.toNat by have:=h1.1;omega)
   omega
  have hP256 : P.toNat ≤ 256:=Nat.le_trans (Nat.le_self_pow (by have:=h1.2.1;omega) _) h1.2.2.2
  obtain ⟨p,rfl⟩ : ∃ p : Nat,P = p:=⟨P.toNat,by have:=h1.1;omega⟩
  rw [Int.toNat_natCast] at hP256
  have hp2 : 2 ≤ p:=by have:=h1.1;omega
  by_cases h2 : Prm p
  ·have c_field_isPrime:=S_field_isPrime hp2 (by omega) (res:=true) ⟨fun _=>h2,fun _=>rfl⟩
   by_cases hM : M = 1
   ·subst hM
    by_cases h3 : md.length = 0
    ·have : res = true:=hres.2 ⟨h1,h2,fun _=>h3,fun h=>absurd rfl h⟩
     rw [this]
     refine j_nf [_,_] rfl (j_step rfl (x_box_agg rfl fun b1=>?_))
     refine j_run it 1 rfl (by simp) ?_
     refine j_nf [_,_,_] rfl (j_step rfl (x_field rfl fd24_0 ?_))
     refine j_step rfl (x_bld 0 rfl rfl ld3 rfl ?_)
     refine j_step rfl (x_field rfl fd24_1 ?_)
     refine j_step rfl (x_bld 0 rfl rfl ld3 rfl ?_)
     refine j_step rfl (x_call [] rfl (S_field_order (by rfl)) rfl ?_)
     rintro _ _ _ ⟨rfl,rfl,rfl⟩
     simp only [List.cons_append,List.nil_append]
     refine j_run it 2 rfl (by simp) ?_
     refine j_split_dec (t:=11) rfl (fun h4=>by exfalso;omega) (fun h4=>?_)
     refine j_gstep rfl rfl (x_field rfl fd24_0 ?_)
     refine j_gstep rfl rfl (x_bld 0 rfl rfl ld3 rfl ?_)
     refine j_gstep rfl rfl (x_call [] rfl (c_field_isPrime) rfl ?_)
     rintro _ _ _ ⟨rfl,rfl,rfl⟩
     simp only [List.cons_append,List.nil_append]
     refine j_run it 2 rfl (by simp) ?_
     refine j_nf [_,_] rfl ?_
     refine j_false rfl rfl ?_
     refine j_nf [_,_,_] rfl (j_step rfl (x_field rfl fd24_1 ?_))
     refine j_step rfl (x_bld 0 rfl rfl ld3 rfl ?_)
     refine j_run it 1 rfl (by simp) ?_
     refine j_nf [_,_] rfl (j_if rfl rfl (fun h5=>?_) (fun h5=>by exfalso;omega))
     refine j_nf [_,_,_] rfl (j_step rfl (x_field rfl fd24_2 ?_))
     refine j_step rfl (x_bld 0 rfl rfl ld22 rfl ?_)
     refine j_step rfl (x_len sl22 rfl ?_)
     refine j_run it 2 rfl (by simp) ?_
     refine j_nf [_,_] rfl ?_
     rw [decide_eq_true (show (md.length : Int) = 0 by omega)]
     refine j_giv [] rfl rfl rfl ⟨rfl,rfl,rfl⟩
    ·rw [no fun h=>h3 (h.2.2.1 rfl)]
     refine j_nf [_,_] rfl (j_step rfl (x_box_agg rfl fun b1=>?_))
     refine j_run it 1 rfl (by simp) ?_
     refine j_nf [_,_,_] rfl (j_step rfl (x_field rfl fd24_0 ?_))
     refine j_step rfl (x_bld 0 rfl rfl ld3 rfl ?_)
     refine j_step rfl (x_field rfl fd24_1 ?_)
     refine j_step rfl (x_bld 0 rfl rfl ld3 rfl ?_)
     refine j_step rfl (x_call [] rfl (S_field_order (by rfl)) rfl ?_)
     rintro _ _ _ ⟨rfl,rfl,rfl⟩
     simp only [List.cons_append,List.nil_append]
     refine j_run it 2 rfl (by simp) ?_
     refine j_split_dec (t:=11) rfl (fun h4=>by exfalso;omega) (fun h4=>?_)
     refine j_gstep rfl rfl (x_field rfl fd24_0 ?_)
     refine j_gstep rfl rfl (x_bld 0 rfl rfl ld3 rfl ?_)
     refine j_gstep rfl rfl (x_call [] rfl (c_field_isPrime) rfl ?_)
     rintro _ _ _ ⟨rfl,rfl,rfl⟩
     simp only [List.cons_append,List.nil_append]
     refine j_run it 2 rfl (by simp) ?_
     refine j_nf [_,_] rfl ?_
     refine j_false rfl rfl ?_
     refine j_nf [_,_,_] rfl (j_step rfl (x_field rfl fd24_1 ?_))
     refine j_step rfl (x_bld 0 rfl rfl ld3 rfl ?_)
     refine j_run it 1 rfl (by simp) ?_
     refine j_nf [_,_] rfl (j_if rfl rfl (fun h5=>?_) (fun h5=>by exfalso;omega))
     refine j_nf [_,_,_] rfl (j_step rfl (x_field rfl fd24_2 ?_))
     refine j_step rfl (x_bld 0 rfl rfl ld22 rfl ?_)
     refine j_step rfl (x_len sl22 rfl ?_)
     refine j_run it 2 rfl (by simp) ?_
     refine j_nf [_,_] rfl ?_
     rw [decide_eq_false (show ¬ (md.length : Int) = 0 by omega)]
     refine j_giv [] rfl rfl rfl ⟨rfl,rfl,rfl⟩
   ·by_cases h3 : (md.length : Int) = M
    ·generalize hall : md.all (fun x=>decide (0 ≤ x ∧ x < (p : Int))) = al
     have hr : res = al:=by
      cases al with
      | true=>exact hres.2 ⟨h1,h2,fun h=>absurd h hM,fun _=>⟨h3,fun x hx=>by simpa using List.all_eq_true.1 hall x hx⟩⟩
      | false =>
       refine no fun h=>?_
       obtain ⟨x,hx,hn⟩:=List.all_eq_false.1 hall
       exact hn (decide_eq_true ((h.2.2.2 hM).2 x hx))
     rw [hr]
     clear hr hres no
     refine j_nf [_,_] rfl (j_step rfl (x_box_agg rfl fun b1=>?_))
     refine j_run it 1 rfl (by simp) ?_
     refine j_nf [_,_,_] rfl (j_step rfl (x_field rfl fd24_0 ?_))
     refine j_step rfl (x_bld 0 rfl rfl ld3 rfl ?_)
     refine j_step rfl (x_field rfl fd24_1 ?_)
     refine j_step rfl (x_bld 0 rfl rfl ld3 rfl ?_)
     refine j_step rfl (x_call [] rfl (S_field_order (by rfl)) rfl ?_)
     rintro _ _ _ ⟨rfl,rfl,rfl⟩
     simp only [List.cons_append,List.nil_append]
     refine j_run it 2 rfl (by simp) ?_
     refine j_split_dec (t:=11) rfl (fun h4=>by exfalso;omega) (fun h4=>?_)
     refine j_gstep rfl rfl (x_field rfl fd24_0 ?_)
     refine j_gstep rfl rfl (x_bld 0 rfl rfl ld3 rfl ?_)
     refine j_gstep rfl rfl (x_call [] rfl (c_field_isPrime) rfl ?_)
     rintro _ _ _ ⟨rfl,rfl,rfl⟩
     simp only [List.cons_append,List.nil_append]
     refine j_run it 2 rfl (by simp) ?_
     refine j_nf [_,_] rfl ?_
     refine j_false rfl rfl ?_
     refine j_nf [_,_,_] rfl (j_step rfl (x_field rfl fd24_1 ?_))
     refine j_step rfl (x_bld 0 rfl rfl ld3 rfl ?_)
     refine j_run it 1 rfl (by simp) ?_
     refine j_nf [_,_] rfl (j_if rfl rfl (fun h5=>by exfalso;omega) (fun h5=>?_))
     refine j_nf [_,_,_] rfl (j_step rfl (x_field rfl fd24_2 ?_))
     refine j_step rfl (x_bld 0 rfl rfl ld22 rfl ?_)
     refine j_step rfl (x_len sl22 rfl ?_)
     refine j_step rfl (x_field rfl fd24_1 ?_)
     refine j_step rfl (x_bld 0 rfl rfl ld3 rfl ?_)
     refine j_run it 1 rfl (by simp) ?_
     refine j_nf [_,_] rfl (j_ifn rfl rfl (fun h6=>by exfalso;omega) (fun h6=>?_))
     refine j_nf [_,_,_] rfl (j_step rfl (x_field rfl fd24_2 ?_))
     refine j_step rfl (x_bld 0 rfl rfl ld22 rfl ?_)
     refine j_step rfl (x_len sl22 rfl ?_)
     refine j_run it 1 rfl (by simp) ?_
     refine j_nf [_,_,_] rfl ?_
     refine j_loopG (X:=Nat) [1,31,32] [0] (fun i=>[(33,.int .i64 (i : Int))]) (fun _=>[(some b1,24,[.int .i64 (p : Int),.int .i64 M,.slice pm md.length cm])]) (fun _=>[]) (fun i=>i ≤ md.length ∧ (md.drop i).all (fun x=>decide (0 ≤ x ∧ x < (p : Int))) = al) (fun i=>md.length - i) 0 [] rfl rfl rfl ⟨Nat.zero_le _,hall⟩ (by repeat (first | exact Fr.sub_nil _ | refine Fr.sub_cons rfl ?_)) rfl rfl ?_
     rintro i ⟨hi,he⟩ ih
     simp only [List.cons_append,List.nil_append] at hi he ih ⊢
     by_cases hil : i < md.length
     ·obtain ⟨z,at_z,ed⟩ : ∃ z,md[i]? = some z ∧ md.drop i = z::md.drop (i + 1):=⟨md[i],List.getElem?_eq_getElem hil,List.drop_eq_getElem_cons hil⟩
      rw [ed,List.all_cons] at he
      by_cases h4 : 0 ≤ z ∧ z < (p : Int)
      ·rw [decide_eq_true h4,Bool.true_and] at he
       refine j_nf [_,_,_,_,_] rfl (j_run it 1 rfl (by simp) ?_)
       refine j_nf [_,_,_,_,_] rfl (j_if rfl rfl (fun h7=>?_) (fun h7=>by exfalso;omega))
       refine j_nf [_,_,_,_,_,_,_] rfl (j_step rfl (x_idx 0 (i) rfl rfl rfl sl22 rfl (by omega) fun z1 hz1 b2 o1=>?_))
       obtain rfl : _ = z1:=Option.some.inj (at_z.symm.trans hz1)
       refine j_step rfl (x_ld_int 0 rfl rfl ld3 fun ⟨r1,r2⟩=>?_)
       refine j_run it 1 rfl (by simp) ?_
       refine j_nf [_,_,_,_,_,_,_] rfl (j_run it 3 rfl (by simp) ?_)
       refine j_split_dec (t:=39) rfl (fun h8=>by exfalso;omega) (fun h8=>?_)
       refine j_run it 1 rfl (by simp) ?_
       refine j_gstep rfl rfl (x_field rfl fd24_0 ?_)
       refine j_gstep rfl rfl (x_bld 0 rfl rfl ld3 rfl ?_)
       refine j_run it 2 rfl (by simp) ?_
       refine j_nf [_,_,_,_,_,_] rfl (j_if rfl rfl (fun h9=>by exfalso;omega) (fun h9=>?_))
       refine j_nf [_,_,_,_] rfl (j_run it 2 rfl ⟨trivial,⟨by omega,by omega⟩,trivial⟩ ?_)
       refine j_nfn 1 [.lp (pL 500),.blk 0,.c [1,1,1,1,1]] rfl ?_
       refine j_to [1] (by exact fra rfl) rfl rfl (ih (i + 1) (by omega) ⟨by omega,he⟩)
      ·rw [decide_eq_false h4,Bool.false_and] at he
       subst he
       by_cases h5 : z < 0
       ·refine j_nf [_,_,_,_,_] rfl (j_run it 1 rfl (by simp) ?_)
        refine j_nf [_,_,_,_,_] rfl (j_if rfl rfl (fun h7=>?_) (fun h7=>by exfalso;omega))
        refine j_nf [_,_,_,_,_,_,_] rfl (j_step rfl (x_idx 0 (i) rfl rfl rfl sl22 rfl (by omega) fun z1 hz1 b2 o1=>?_))
        obtain rfl : _ = z1:=Option.some.inj (at_z.symm.trans hz1)
        refine j_step rfl (x_ld_int 0 rfl rfl ld3 fun ⟨r1,r2⟩=>?_)
        refine j_run it 1 rfl (by simp) ?_
        refine j_nf [_,_,_,_,_,_,_] rfl (j_run it 3 rfl (by simp) ?_)
        refine j_split_dec (t:=39) rfl (fun h8=>?_) (fun h8=>by exfalso;omega)
        refine j_run it 5 rfl (by simp) ?_
        refine j_nf [_,_,_,_,_,_] rfl ?_
        refine j_true rfl rfl ?_
        refine j_nf [_,_,_,_,_,_,_] rfl (j_run it 1 rfl (by simp) ?_)
        refine j_nf [_,_,_,_,_,_] rfl ?_
        refine j_giv [] rfl rfl rfl ⟨rfl,rfl,rfl⟩
       ·refine j_nf [_,_,_,_,_] rfl (j_run it 1 rfl (by simp) ?_)
        refine j_nf [_,_,_,_,_] rfl (j_if rfl rfl (fun h7=>?_) (fun h7=>by exfalso;omega))
        refine j_nf [_,_,_,_,_,_,_] rfl (j_step rfl (x_idx 0 (i) rfl rfl rfl sl22 rfl (by omega) fun z1 hz1 b2 o1=>?_))
        obtain rfl : _ = z1:=Option.some.inj (at_z.symm.trans hz1)
        refine j_step rfl (x_ld_int 0 rfl rfl ld3 fun ⟨r1,r2⟩=>?_)
        refine j_run it 1 rfl (by simp) ?_
        refine j_nf [_,_,_,_,_,_,_] rfl (j_run it 3 rfl (by simp) ?_)
        refine j_split_dec (t:=39) rfl (fun h8=>by exfalso;omega) (fun h8=>?_)
        refine j_run it 1 rfl (by simp) ?_
        refine j_gstep rfl rfl (x_field rfl fd24_0 ?_)
        refine j_gstep rfl rfl (x_bld 0 rfl rfl ld3 rfl ?_)
        refine j_run it 2 rfl (by simp) ?_
        refine j_nf [_,_,_,_,_,_] rfl (j_if rfl rfl (fun h9=>?_) (fun h9=>by exfalso;omega))
        refine j_nf [_,_,_,_,_,_,_] rfl (j_run it 1 rfl (by simp) ?_)
        refine j_nf [_,_,_,_,_,_] rfl ?_
        refine j_giv [] rfl rfl rfl ⟨rfl,rfl,rfl⟩
     ·obtain rfl : i = md.length:=by omega
      rw [List.drop_length,List.all_nil] at he
      subst he
      refine j_nf [_,_,_,_,_] rfl (j_run it 1 rfl (by simp) ?_)
      refine j_nf [_,_,_,_,_] rfl (j_if rfl rfl (fun h7=>by exfalso;omega) (fun h7=>?_))
      refine j_nf [_,_] rfl (j_run it 1 rfl (by simp) ?_)
      refine j_nf [_] rfl ?_
      refine j_giv [] rfl rfl rfl ⟨rfl,rfl,rfl⟩
    ·rw [no fun h=>h3 (h.2.2.2 hM).1]
     refine j_nf [_,_] rfl (j_step rfl (x_box_agg rfl fun b1=>?_))
     refine j_run it 1 rfl (by simp) ?_
     refine j_nf [_,_,_] rfl (j_step rfl (x_field rfl fd24_0 ?_))
     refine j_step rfl (x_bld 0 rfl rfl ld3 rfl ?_)
     refine j_step rfl (x_field rfl fd24_1 ?_)
     refine j_step rfl (x_bld 0 rfl rfl ld3 rfl ?_)
     refine j_step rfl (x_call [] rfl (S_field_order (by rfl)) rfl ?_)
     rintro _ _ _ ⟨rfl,rfl,rfl⟩
     simp only [List.cons_append,List.nil_append]
     refine j_run it 2 rfl (by simp) ?_
     refine j_split_dec (t:=11) rfl (fun h4=>by exfalso;omega) (fun h4=>?_)
     refine j_gstep rfl rfl (x_field rfl fd24_0 ?_)
     refine j_gstep rfl rfl (x_bld 0 rfl rfl ld3 rfl ?_)
     refine j_gstep rfl rfl (x_call [] rfl (c_field_isPrime) rfl ?_)
     rintro _ _ _ ⟨rfl,rfl,rfl⟩
     simp only [List.cons_append,List.nil_append]
     refine j_run it 2 rfl (by simp) ?_
     refine j_nf [_,_] rfl ?_
     refine j_false rfl rfl ?_
     refine j_nf [_,_,_] rfl (j_step rfl (x_field rfl fd24_1 ?_))
     refine j_step rfl (x_bld 0 rfl rfl ld3 rfl ?_)
     refine j_run it 1 rfl (by simp) ?_
     refine j_nf [_,_] rfl (j_if rfl rfl (fun h5=>by exfalso;omega) (fun h5=>?_))
     refine j_nf [_,_,_] rfl (j_step rfl (x_field rfl fd24_2 ?_))
     refine j_step rfl (x_bld 0 rfl rfl ld22 rfl ?_)
     refine j_step rfl (x_len sl22 rfl ?_)
     refine j_step rfl (x_field rfl fd24_1 ?_)
     refine j_step rfl (x_bld 0 rfl rfl ld3 rfl ?_)
     refine j_run it 1 rfl (by simp) ?_
     refine j_nf [_,_] rfl (j_ifn rfl rfl (fun h6=>?_) (fun h6=>by exfalso;omega))
     refine j_nf [_,_,_] rfl (j_run it 1 rfl (by simp) ?_)
     refine j_nf [_,_] rfl ?_
     refine j_giv [] rfl rfl rfl ⟨rfl,rfl,rfl⟩
  ·have c_field_isPrime:=S_field_isPrime hp2 (by omega) (res:=false) ⟨fun h=>(by cases h),fun h=>absurd h h2⟩
   rw [no fun h=>h2 h.2.1]
   refine j_nf [_,_] rfl (j_step rfl (x_box_agg rfl fun b1=>?_))
   refine j_run it 1 rfl (by simp) ?_
   refine j_nf [_,_,_] rfl (j_step rfl (x_field rfl fd24_0 ?_))
   refine j_step rfl (x_bld 0 rfl rfl ld3 rfl ?_)
   refine j_step rfl (x_field rfl fd24_1 ?_)
   refine j_step rfl (x_bld 0 rfl rfl ld3 rfl ?_)
   refine j_step rfl (x_call [] rfl (S_field_order (by rfl)) rfl ?_)
   rintro _ _ _ ⟨rfl,rfl,rfl⟩
   simp only [List.cons_append,List.nil_append]
   refine j_run it 2 rfl (by simp) ?_
   refine j_split_dec (t:=11) rfl (fun h3=>by exfalso;omega) (fun h3=>?_)
   refine j_gstep rfl rfl (x_field rfl fd24_0 ?_)
   refine j_gstep rfl rfl (x_bld 0 rfl rfl ld3 rfl ?_)
   refine j_gstep rfl rfl (x_call [] rfl (c_field_isPrime) rfl ?_)
   rintro _ _ _ ⟨rfl,rfl,rfl⟩
   simp only [List.cons_append,List.nil_append]
   refine j_run it 2 rfl (by simp) ?_
   refine j_nf [_,_] rfl ?_
   refine j_true rfl rfl ?_
   refine j_nf [_,_,_] rfl (j_run it 1 rfl (by simp) ?_)
   refine j_nf [_,_] rfl ?_
   refine j_giv [] rfl rfl rfl ⟨rfl,rfl,rfl⟩
 ·have ho : ordI P M = 0:=by rw [ordI,if_neg h1]
  rw [no fun h=>h1 h.1]
  refine j_nf [_,_] rfl (j_step rfl (x_box_agg rfl fun b1=>?_))
  refine j_run it 1 rfl (by simp) ?_
  refine j_nf [_,_,_] rfl (j_step rfl (x_field rfl fd24_0 ?_))
  refine j_step rfl (x_bld 0 rfl rfl ld3 rfl ?_)
  refine j_step rfl (x_field rfl fd24_1 ?_)
  refine j_step rfl (x_bld 0 rfl rfl ld3 rfl ?_)
  refine j_step rfl (x_call [] rfl (S_field_order (by omega)) rfl ?_)
  rintro _ _ _ ⟨rfl,rfl,rfl⟩
  simp only [List.cons_append,List.nil_append]
  refine j_run it 7 rfl (by simp) ?_
  refine j_nf [_,_] rfl ?_
  refine j_true rfl rfl ?_
  refine j_nf [_,_,_] rfl (j_run it 1 rfl (by simp) ?_)
  refine j_nf [_,_] rfl ?_
  refine j_giv [] rfl rfl rfl ⟨rfl,rfl,rfl⟩
set_option maxHeartbeats 8000000
structure Shp (p m : Nat) (md : List Int) : Prop where
 p2 : 2 ≤ p
 m1 : 1 ≤ m
 m8 : m ≤ 8
 q : p ^ m ≤ 256
 one : m = 1 → md = []
 len : m ≠ 1 → md.length = m
 rng : ∀ x ∈ md,0 ≤ x ∧ x < (p : Int)
theorem Fok.shp {p m : Nat} {md : List Int} (K : Fok p m md) : Shp p m md:=⟨K.p2,K.m1,K.m8,K.q,K.one,K.len,K.rng⟩
section
variable {p m : Nat} {md : List Int} (K : Shp p m md)
include K
theorem Shp.p256 : p ≤ 256:=Nat.le_trans (Nat.le_self_pow (by have:=K.m1;omega) p) K.q
theorem Shp.flen : (fpo m md).length = m:=by
 unfold fpo
 by_cases h : m = 1
 ·rw [if_pos h,h];rfl
 ·rw [if_neg h,K.len h]
end
theorem set_mix {T Z S : List Int} {j m : Nat} {z : Int} (hT : T.length = m) (hZ : Z.length = m) (hj : j < m) (hS : S = T.take j++Z.drop j) (hz : T.getD j 0 = z) : S.set j z = T.take (j + 1)++Z.drop (j + 1):=by
 rw [hS,List.set_append,if_neg (by rw [List.length_take];omega),List.length_take,Nat.min_eq_left (by omega),Nat.sub_self,List.drop_eq_getElem_cons (by omega),List.set_cons_zero,List.take_succ_eq_append_getElem (by omega),List.append_assoc]
 rw [List.getD_eq_getElem?_getD,List.getElem?_eq_getElem (by omega)] at hz
 rw [← hz];rfl
theorem shift_eq {R : List Int} {m : Nat} (h : R.length = m) (hm : 1 ≤ m) : (cpL R 1 0 (m - 1)).set 0 0 = 0::R.take (m - 1):=by
 refine List.ext_getElem? fun i=>?_
 have hl:=cpL_len (cs:=R) (o1:=1) (o2:=0) (n:=m - 1) (by omega) (by omega)
 rw [List.getElem?_set]
 by_cases h0 : 0 = i
 ·subst h0
  rw [if_pos rfl,if_pos (by omega)];rfl
 ·rw [if_neg h0,cpL_get (by omega) (by omega),if_neg (by omega)]
  obtain ⟨i,rfl⟩ : ∃ k,i = k + 1:=⟨i - 1,by omega⟩
  rw [List.getElem?_cons_succ,List.getElem?_take]
  by_cases h1 : i + 1 < 1 + (m - 1)
  ·rw [if_pos h1,if_pos (by omega)];congr 1;omega
  ·rw [if_neg h1,if_neg (by omega),List.getElem?_eq_none (by omega)]
theorem getI {l : List Int} {i : Nat} (h : i < l.length) : l[i]? = some (l.getD i 0):=by
 rw [List.getD_eq_getElem?_getD,List.getElem?_eq_getElem h];rfl
theorem S_field_multiply {nm cm : Nat} {pm : Option Addr} {p m : Nat} {md : List Int} (K : Shp p m md) {x y : Nat} (hx : x < p ^ m) (hy : y < p ^ m) :
  Ctr Tryz.prog 113 [.agg #[.int .i64 p,.int .i64 m,.slice pm nm cm],.int .i64 x,.int .i64 y] [] [slF I64 pm nm cm md] (Rv (.int .i64 ((fM p (fpo m md) x y : Nat) : Int)) []):=by
 refine Ctr_of_j' (F:=F_field_multiply) rfl fun C=>?_
 have h1:=K.p2
 have h2:=K.p256
 have h3:=K.m8
 have h4:=K.m1
 have hq:=K.q
 have hl:=K.flen
 refine j_len 0 rfl fun en hb _=>?_
 subst en
 have hmul:=hoL_mul (p:=p) (by omega) (f:=fpo m md) x y
 rw [hl] at hmul
 have lx : (toI (dig p m x)).length = m:=by rw [toI_len,dig_len]
 have ly : (toI (dig p m y)).length = m:=by rw [toI_len,dig_len]
 have rx : ∀ z ∈ toI (dig p m x),0 ≤ z ∧ z < (p : Int):=fun z hz=>by
  obtain ⟨d,hd,rfl⟩:=List.mem_map.1 hz
  have:=dig_lt (p:=p) (by omega) d hd;omega
 have ry : ∀ z ∈ toI (dig p m y),0 ≤ z ∧ z < (p : Int):=fun z hz=>by
  obtain ⟨d,hd,rfl⟩:=List.mem_map.1 hz
  have:=dig_lt (p:=p) (by omega) d hd;omega
 have hx9 : x ≤ 1000000000:=by omega
 have hy9 : y ≤ 1000000000:=by omega
 refine j_nf [_,_] rfl ?_
 refine j_step rfl (x_box_agg rfl fun b1=>?_)
 refine j_run it 1 rfl (by simp) ?_
 refine j_nf [_,_] rfl ?_
 (apply j_drawK it mx 12;(· rfl);(· rfl))
 (apply lxk_run 1;(· rfl);(· simp))
 (apply lxk_eq;(· rfl);(· exact d_x fun _=>x_field rfl fd24_0 dk_eq))
 (apply lxk_eq;(· rfl);(· exact d_bld 0 rfl rfl ld3 rfl))
 (apply lxk_eq;(· rfl);(· exact d_x fun _=>x_field rfl fd24_1 dk_eq))
 (apply lxk_eq;(· rfl);(· exact d_bld 0 rfl rfl ld3 rfl))
 (apply lxk_sl;(· rfl);(· exact d_x fun _=>x_call [] rfl (S_field_digitsOf (by omega) (by omega) (by omega) (by omega)) rfl (by rintro _ _ _ ⟨pa1,ca1,rfl,rfl,rfl⟩;exact (dk_sl 0 rfl)));intro pa1 ca1)
 (apply lxk_run 1;(· rfl);(· simp))
 (apply lxk_eq;(· rfl);(· exact d_x fun _=>x_field rfl fd24_0 dk_eq))
 (apply lxk_eq;(· rfl);(· exact d_bld 0 rfl rfl ld3 rfl))
 (apply lxk_eq;(· rfl);(· exact d_x fun _=>x_field rfl fd24_1 dk_eq))
 (apply lxk_eq;(· rfl);(· exact d_bld 0 rfl rfl ld3 rfl))
 (apply lxk_sl;(· rfl);(· exact d_x fun _=>x_call [] rfl (S_field_digitsOf (by omega) (by omega) (by omega) (by omega)) rfl (by rintro _ _ _ ⟨pa2,ca2,rfl,rfl,rfl⟩;exact (dk_sl 0 rfl)));intro pa2 ca2)
 refine lxk_end rfl ?_
 simp only [List.map_cons,List.map_nil,List.cons_append,List.nil_append]
 refine j_run it 2 rfl (by simp) ?_
 refine j_nf [_,_] rfl ?_
 refine j_step rfl (x_field rfl fd24_1 ?_)
 refine j_step rfl (x_bld 0 rfl rfl ld3 rfl ?_)
 refine j_step rfl (x_make_nat (m) _ rfl rfl sl22 zo22e by22e (by omega) (by omega) (by omega) fun b2=>?_)
 refine j_run it 1 rfl (by simp) ?_
 refine j_nf [_,_,_] rfl ?_
 refine j_step rfl (x_field rfl fd24_1 ?_)
 refine j_step rfl (x_bld 1 rfl rfl ld3 rfl ?_)
 refine j_run it 2 rfl ⟨trivial,⟨by omega,by omega⟩,trivial⟩ ?_
 refine j_nf [_,_,_] rfl ?_
 generalize toI (dig p m x) = DX at *
 generalize toI (dig p m y) = DY at *
 generalize fM p (fpo m md) x y = res at *
 rw [natCells_toI,toI_zeros]
 have hd0 : hoL p m (fpo m md) DX (DY.drop m) = List.replicate m 0:=by
  rw [List.drop_of_length_le (by omega),hoL]
 refine j_loopG (X:=Nat × List Int) [3,6,7,8,9] [0,1,2] (fun x=>[(10,.int .i64 ((x.1 : Int) - 1))]) (fun x=>[(some b2,3,intCells .i64 x.2),(some b1,24,[.int .i64 p,.int .i64 m,.slice pm md.length cm])]) (fun _=>[])
  (fun x=>x.1 ≤ m ∧ x.2 = hoL p m (fpo m md) DX (DY.drop x.1)) (fun x=>x.1) (m,List.replicate m 0) [] rfl rfl rfl ⟨Nat.le_refl _,hd0.symm⟩ (by repeat (first | exact Fr.sub_nil _ | refine Fr.sub_cons rfl ?_)) rfl rfl ?_
 rintro ⟨j,R⟩ ⟨hj,hR⟩ ih
 simp only [List.cons_append,List.nil_append] at hj hR ih ⊢
 have lR : R.length = m:=by rw [hR,hoL_len]
 have rR : ∀ z ∈ R,0 ≤ z ∧ z < (p : Int):=by rw [hR];exact hoL_rng (by omega) _ _ _
 cases j with
 | zero =>
  rw [List.drop_zero] at hR
  rw [← hR] at hmul
  have eRn : toI (R.map Int.toNat) = R:=toI_toNat fun z hz=>(rR z hz).1
  have rRn : ∀ z ∈ R.map Int.toNat,z < p:=fun z hz=>by
   obtain ⟨d,hd,rfl⟩:=List.mem_map.1 hz
   have:=rR d hd;omega
  have c_field_valueOf:=fun {pd : Option Addr} {nd cd : Nat}=>S_field_valueOf (pd:=pd) (nd:=nd) (cd:=cd) (p:=p) (l:=R.map Int.toNat) (by omega) h2 rRn (by rw [List.length_map,lR];omega)
  rw [hmul,eRn] at c_field_valueOf
  refine j_pub_madei 8 R 0 rfl lR.symm (fun z hz=>by have:=rR z hz;simp only [InR];omega) (by omega) (by omega) ?_
  simp only [List.eraseIdx_cons_zero]
  refine j_nf [_,_,_,_,_,_] rfl ?_
  refine j_run it 2 rfl (by simp) ?_
  refine j_nf [_,_,_,_,_] rfl ?_
  refine j_if rfl rfl (fun h5=>by exfalso;omega) (fun h5=>?_)
  refine j_nf [_,_] rfl ?_
  refine j_run it 1 rfl (by simp) ?_
  refine j_step rfl (x_field rfl fd24_0 ?_)
  refine j_step rfl (x_bld 0 rfl rfl ld3 rfl ?_)
  refine j_step rfl (x_call [0] rfl (c_field_valueOf) rfl ?_)
  rintro _ _ _ ⟨rfl,rfl,rfl⟩
  simp only [List.cons_append,List.nil_append]
  refine j_run it 1 rfl (by simp) ?_
  refine j_nf [_] rfl ?_
  refine j_giv [] rfl rfl rfl ⟨rfl,rfl,rfl⟩
 | succ j =>
  have at_v : DY[j]? = some (DY.getD j 0):=getI (by omega)
  have bv:=ry _ (List.mem_of_getElem? at_v)
  have eR : hoL p m (fpo m md) DX (DY.drop j) = hoF p m (fpo m md) DX (DY.getD j 0) R:=by
   have hjl : j < DY.length:=by omega
   rw [List.drop_eq_getElem_cons hjl,hoL,← hR,show DY[j] = DY.getD j 0 from Option.some.inj ((List.getElem?_eq_getElem hjl).symm.trans at_v)]
  have ih':=fun l (h : l = hoF p m (fpo m md) DX (DY.getD j 0) R)=>ih (j,l) (by dsimp only;omega) ⟨by dsimp only;omega,by dsimp only;rw [eR];exact h⟩
  dsimp only at ih'
  have lT:=hoF_len p m (fpo m md) DX (DY.getD j 0) R
  have at_t : R[m - 1]? = some (R.getD (m - 1) 0):=getI (by omega)
  have rt:=rR _ (List.mem_of_getElem? at_t)
  have hT : ∀ i,i < m → (hoF p m (fpo m md) DX (DY.getD j 0) R).getD i 0 = ((if i = 0 then 0 else R.getD (i - 1) 0) + ((p : Int) - R.getD (m - 1) 0) * (fpo m md).getD i 0 + DY.getD j 0 * DX.getD i 0) % p:=fun i hi=>by
   rw [hoF,List.getD_eq_getElem?_getD,List.getElem?_map,List.getElem?_range hi];rfl
  generalize hoF p m (fpo m md) DX (DY.getD j 0) R = T at *
  generalize hvv : DY.getD j 0 = v at *
  generalize htop : R.getD (m - 1) 0 = top at *
  have hcl : (cpL R (1 * 1) 0 (m - 1)).length = m:=by rw [cpL_len (by omega) (by omega),lR]
  refine j_nf [_,_,_,_,_,_] rfl ?_
  refine j_run it 2 rfl (by simp) ?_
  refine j_nf [_,_,_,_,_] rfl ?_
  refine j_if rfl rfl (fun h5=>?_) (fun h5=>by exfalso;omega)
  refine j_nf [_,_,_,_,_,_,_] rfl ?_
  refine j_run it 1 rfl (by simp) ?_
  refine j_step rfl (x_field rfl fd24_1 ?_)
  refine j_step rfl (x_bld 1 rfl rfl ld3 rfl ?_)
  refine j_run it 1 rfl ⟨⟨by omega,by omega⟩,trivial⟩ ?_
  refine j_step rfl (x_idx_own ((m) - 1) ((m) - 1) rfl rfl sl22 (by omega) (by omega) (Nat.mul_one _) ?_)
  refine j_step rfl (x_bld_int 0 rfl rfl ld3 (by first | omega | (simp;omega)) fun z1 hz1=>?_)
  obtain rfl : _ = z1:=Option.some.inj (at_t.symm.trans hz1)
  refine j_run it 1 rfl (by simp) ?_
  refine j_nf [_,_,_,_,_,_,_] rfl ?_
  (refine j_selB [0,1] rfl rfl ?_;apply j_drawKB it mx 1 8;(· rfl);(· rfl);(· rfl))
  (apply lxk_run 1;(· rfl);(· simp))
  (apply lxk_eq;(· rfl);(· exact d_x fun _=>x_slice_l_own (1) rfl rfl sl22 (by omega) (by omega) (by omega) dk_eq))
  (apply lxk_run 1;(· rfl);(· simp))
  (apply lxk_eq;(· rfl);(· exact d_x fun _=>x_field rfl fd24_1 dk_eq))
  (apply lxk_eq;(· rfl);(· exact d_bld 0 rfl rfl ld3 rfl))
  (apply lxk_eq (v:=Value.int IntKind.i64 ((((m) - 1 : Nat)) : Int));(· rfl);(· exact d_x fun _=>x_asN it _ rfl ⟨by omega,by omega⟩ (by omega) dk_eq))
  simp only [Nat.add_sub_cancel]
  (apply lxk_eq;(· rfl);(· exact d_x fun _=>x_slice_h_own (m - 1) rfl rfl sl22 (by omega) (by omega) (by omega) dk_eq))
  (apply lxk_copy (o1:=1 * 1) (o2:=0) (m - 1);(· rfl);(· rfl);(· rfl);(· exact sl22);(· first | rfl | exact Nat.min_self _ | (show min _ _ = _;omega));(· first | exact .inl rfl | exact .inl (by omega) | exact .inr ⟨rfl,rfl⟩ | exact .inr ⟨if_neg (by omega),rfl⟩ | exact (Nat.eq_zero_or_pos (m - 1)).elim .inl fun h=>.inr ⟨if_neg (by omega),rfl⟩);(· first | omega | (simp only [natCells_length,intCells_length];omega));(· first | omega | (simp only [natCells_length,intCells_length];omega));(· first | exact natCells_one _ _ | exact intCells_one _ _))
  simp only [cpL_nat,cpL_int]
  refine lxk_end rfl ?_
  simp only [List.map_cons,List.map_nil,List.cons_append,List.nil_append]
  refine j_nf [_,_,_,_,_,_,_] rfl ?_
  refine j_run it 1 rfl (by simp) ?_
  refine j_step rfl (x_idx_own 0 0 rfl rfl sl22 (by omega) (by omega) (Nat.mul_one _) ?_)
  refine j_step rfl (x_bst_int 0 rfl rfl rfl ld3 (by first | omega | (simp;omega)) ?_)
  refine j_nf [_,_,_,_,_,_,_] rfl ?_
  refine j_run it 1 rfl (by simp) ?_
  refine j_step rfl (x_len sl22 rfl ?_)
  refine j_run it 1 rfl (by simp) ?_
  refine j_nf [_,_,_,_,_,_,_] rfl ?_
  rw [shift_eq lR h4]
  have lZ : (0::R.take (m - 1)).length = m:=by rw [List.length_cons,List.length_take];omega
  have hZ : ∀ i,i < m → (0::R.take (m - 1)).getD i 0 = if i = 0 then 0 else R.getD (i - 1) 0:=fun i hi=>by
   cases i with
   | zero=>rfl
   | succ i =>
    rw [if_neg (by omega),Nat.add_sub_cancel,List.getD_cons_succ,List.getD_eq_getElem?_getD,List.getD_eq_getElem?_getD,List.getElem?_take,if_pos (by omega)]
  have rZ : ∀ z ∈ 0::R.take (m - 1),0 ≤ z ∧ z < (p : Int):=fun z hz=>by
   rcases List.mem_cons.1 hz with rfl | hz
   ·omega
   ·exact rR z (List.mem_of_mem_take hz)
  generalize 0::R.take (m - 1) = Z at *
  refine j_loopG (X:=Nat × List Int) [3,6,7,8,9,10,11,32,33,36,37,38,39,40,41,42,43,44,45,46,47,48,50,51,52,53] [0,1,2] (fun x=>[(54,.int .i64 (x.1 : Int))]) (fun x=>[(some b2,3,intCells .i64 x.2),(some b1,24,[.int .i64 p,.int .i64 m,.slice pm md.length cm])]) (fun _=>[])
   (fun x=>x.1 ≤ m ∧ x.2 = T.take x.1++Z.drop x.1) (fun x=>m - x.1) (0,Z) [] rfl rfl rfl ⟨Nat.zero_le _,by simp⟩ (by repeat (first | exact Fr.sub_nil _ | refine Fr.sub_cons rfl ?_)) rfl rfl ?_
  rintro ⟨i,S⟩ ⟨hi,hS⟩ ihi
  simp only [List.cons_append,List.nil_append] at hi hS ihi ⊢
  by_cases hil : i < m
  ·have lS : S.length = m:=by rw [hS,List.length_append,List.length_take,List.length_drop];omega
   have zs:=getI (l:=S) (i:=i) (by omega)
   have es : S.getD i 0 = if i = 0 then 0 else R.getD (i - 1) 0:=by
    rw [← hZ i hil,hS,List.getD_eq_getElem?_getD,List.getD_eq_getElem?_getD,List.getElem?_append_right (by rw [List.length_take];omega),List.length_take,Nat.min_eq_left (by omega),Nat.sub_self,List.getElem?_drop,Nat.add_zero]
   have hsp : 0 ≤ S.getD i 0 ∧ S.getD i 0 < (p : Int):=by
    rw [es,← hZ i hil]
    exact rZ _ (List.mem_of_getElem? (getI (l:=Z) (i:=i) (by omega)))
   have za:=getI (l:=DX) (i:=i) (by omega)
   have ba:=rx _ (List.mem_of_getElem? za)
   have hTi:=hT i hil
   rw [← es] at hTi
   have ihi':=fun (z : Int) (h : T.getD i 0 = z)=>ihi (i + 1,S.set i z) (by dsimp only;omega) ⟨by dsimp only;omega,set_mix lT lZ hil hS h⟩
   generalize S.getD i 0 = s at *
   generalize haa : DX.getD i 0 = a at *
   have hb0 : 0 ≤ v * a:=Int.mul_nonneg (by omega) (by omega)
   have hb1 : v * a ≤ 65536:=Int.le_trans (Int.mul_le_mul (show v ≤ 256 by omega) (show a ≤ 256 by omega) (by omega) (by decide)) (by decide)
   have gv : DY.getD (j + 1 - 1) default = v:=hvv
   have ga : DX.getD i default = a:=haa
   have hpt : ((p - top.toNat : Nat) : Int) = (p : Int) - top:=by omega
   have hb2 : 0 ≤ DY.getD (j + 1 - 1) default * DX.getD i default:=by rw [gv,ga];exact hb0
   have hb3 : DY.getD (j + 1 - 1) default * DX.getD i default ≤ 65536:=by rw [gv,ga];exact hb1
   by_cases hm : m = 1
   ·have hf : (fpo m md).getD i 0 = 0:=by
     rw [fpo,if_pos hm]
     obtain rfl : i = 0:=by omega
     rfl
    rw [hf] at hTi
    refine j_nf [_,_,_,_,_,_,_,_,_] rfl ?_
    refine j_run it 1 rfl (by simp) ?_
    refine j_nf [_,_,_,_,_,_,_,_,_] rfl ?_
    refine j_if rfl rfl (fun h6=>?_) (fun h6=>by exfalso;omega)
    refine j_nf [_,_,_,_,_,_,_,_,_,_,_] rfl ?_
    refine j_run it 2 rfl (by simp) ?_
    refine j_nf [_,_,_,_,_,_,_,_,_,_,_] rfl ?_
    refine j_run it 1 rfl (by simp) ?_
    refine j_nf [_,_,_,_,_,_,_,_,_,_,_,_] rfl ?_
    refine j_step rfl (x_field rfl fd24_1 ?_)
    refine j_step rfl (x_bld 1 rfl rfl ld3 rfl ?_)
    refine j_run it 1 rfl (by simp) ?_
    refine j_nf [_,_,_,_,_,_,_,_,_,_,_] rfl ?_
    refine j_if rfl rfl (fun h7=>by exfalso;omega) (fun h7=>?_)
    refine j_nf [_,_,_,_,_,_,_,_,_,_] rfl ?_
    (apply j_drawK it mx 26;(· rfl);(· rfl))
    (apply lxk_run 4;(· rfl);(· simp))
    (apply lxk_eq;(· rfl);(· exact d_x fun _=>x_idx_own (i) (i) rfl rfl sl22 rfl (by omega) (Nat.mul_one _) dk_eq))
    (apply lxk_eq;(· rfl);(· exact d_bld_int 0 rfl rfl ld3 (by assumption)))
    (apply lxk_eq;(· rfl);(· exact d_x fun _=>x_field rfl fd24_0 dk_eq))
    (apply lxk_eq;(· rfl);(· exact d_bld 1 rfl rfl ld3 rfl))
    (apply lxk_run 1;(· rfl);(· simp))
    (apply lxk_eq (v:=Value.int IntKind.i64 ((((p) - ((top : Int).toNat) : Nat)) : Int));(· rfl);(· exact d_x fun _=>x_asN it _ rfl ⟨by omega,by omega⟩ (by omega) dk_eq))
    simp only [Nat.add_sub_cancel]
    (apply lxk_run 5;(· rfl);(· exact ⟨trivial,trivial,⟨by omega,by omega⟩,⟨by omega,by omega⟩,trivial,trivial⟩))
    (apply lxk_pt;(· rfl);(· exact d_x fun _=>x_idx 0 ((j + 1) - 1) rfl rfl rfl sl22 (by omega) (by omega) fun z1 hz2 b3 o1=>(dk_ptD default hz2 0 rfl));intro b3 o1)
    (apply lxk_eq;(· rfl);(· exact d_x fun _=>x_ld_int 0 rfl rfl ld3 fun ⟨r1,r2⟩=>dk_eq))
    (apply lxk_run 2;(· rfl);(· simp))
    (apply lxk_pt;(· rfl);(· exact d_x fun _=>x_idx 1 (i) rfl rfl rfl sl22 rfl (by omega) fun z1 hz2 b4 o2=>(dk_ptD default hz2 0 rfl));intro b4 o2)
    (apply lxk_eq;(· rfl);(· exact d_x fun _=>x_ld_int 0 rfl rfl ld3 fun ⟨r1,r2⟩=>dk_eq))
    (apply lxk_run 2;(· rfl);(· exact ⟨⟨by omega,by omega⟩,⟨by omega,by omega⟩,trivial⟩))
    (apply lxk_eq;(· rfl);(· exact d_x fun _=>x_field rfl fd24_0 dk_eq))
    (apply lxk_eq;(· rfl);(· exact d_bld 1 rfl rfl ld3 rfl))
    (apply lxk_run 1;(· rfl);(· exact ⟨⟨by omega,by omega⟩,trivial⟩))
    refine lxk_end rfl ?_
    simp only [List.map_cons,List.map_nil,List.cons_append,List.nil_append]
    refine j_step rfl (x_idx_own (i) (i) rfl rfl sl22 rfl (by omega) (Nat.mul_one _) ?_)
    refine j_step rfl (x_bst_int 0 rfl rfl rfl ld3 (by first | omega | (simp;omega)) ?_)
    refine j_nf [_,_,_,_,_,_,_,_] rfl ?_
    refine j_run it 2 rfl ⟨trivial,⟨by omega,by omega⟩,trivial⟩ ?_
    refine j_nfn 1 [.lp (pL 125244),.blk 2,.blk 1,.c (pL 979),.lp (pL 244),.blk 0,.c [1,1,1,1]] rfl ?_
    refine j_to [2,3,4] (by exact fra rfl) rfl rfl (ihi' ((s + ((p - top.toNat : Nat) : Int) * 0 + DY.getD (j + 1 - 1) default * DX.getD i default) % (p : Int)) (by rw [hTi,hpt,gv,ga]))
   ·have hf : (fpo m md) = md:=if_neg hm
    have hml:=K.len hm
    obtain ⟨c,at_c⟩ : ∃ c,md[i]? = some c:=⟨md[i],List.getElem?_eq_getElem (by omega)⟩
    have bc:=K.rng c (List.mem_of_getElem? at_c)
    have gc : md.getD i 0 = c:=by rw [List.getD_eq_getElem?_getD,at_c];rfl
    rw [hf,gc] at hTi
    have hc0 : 0 ≤ ((p : Int) - top) * c:=Int.mul_nonneg (by omega) bc.1
    have hc1 : ((p : Int) - top) * c ≤ 65536:=Int.le_trans (Int.mul_le_mul (show (p : Int) - top ≤ 256 by omega) (show c ≤ 256 by omega) bc.1 (by decide)) (by decide)
    rw [← hpt] at hc0 hc1
    refine j_nf [_,_,_,_,_,_,_,_,_] rfl ?_
    refine j_run it 1 rfl (by simp) ?_
    refine j_nf [_,_,_,_,_,_,_,_,_] rfl ?_
    refine j_if rfl rfl (fun h6=>?_) (fun h6=>by exfalso;omega)
    refine j_nf [_,_,_,_,_,_,_,_,_,_,_] rfl ?_
    refine j_run it 2 rfl (by simp) ?_
    refine j_nf [_,_,_,_,_,_,_,_,_,_,_] rfl ?_
    refine j_run it 1 rfl (by simp) ?_
    refine j_nf [_,_,_,_,_,_,_,_,_,_,_,_] rfl ?_
    refine j_step rfl (x_field rfl fd24_1 ?_)
    refine j_step rfl (x_bld 1 rfl rfl ld3 rfl ?_)
    refine j_run it 1 rfl (by simp) ?_
    refine j_nf [_,_,_,_,_,_,_,_,_,_,_] rfl ?_
    refine j_if rfl rfl (fun h7=>?_) (fun h7=>by exfalso;omega)
    refine j_nf [_,_,_,_,_,_,_,_,_,_,_] rfl ?_
    refine j_step rfl (x_field rfl fd24_2 ?_)
    refine j_step rfl (x_bld 1 rfl rfl ld22 rfl ?_)
    refine j_run it 1 rfl (by simp) ?_
    refine j_step rfl (x_idx 2 (i) rfl rfl rfl sl22 rfl (by omega) fun z1 hz2 b3 o1=>?_)
    obtain rfl : _ = z1:=Option.some.inj (at_c.symm.trans hz2)
    refine j_step rfl (x_ld_int 0 rfl rfl ld3 fun ⟨r1,r2⟩=>?_)
    refine j_run it 1 rfl (by simp) ?_
    refine j_nf [_,_,_,_,_,_,_,_,_,_] rfl ?_
    (apply j_drawK it mx 26;(· rfl);(· rfl))
    (apply lxk_run 4;(· rfl);(· simp))
    (apply lxk_eq;(· rfl);(· exact d_x fun _=>x_idx_own (i) (i) rfl rfl sl22 rfl (by omega) (Nat.mul_one _) dk_eq))
    (apply lxk_eq;(· rfl);(· exact d_bld_int 0 rfl rfl ld3 (by assumption)))
    (apply lxk_eq;(· rfl);(· exact d_x fun _=>x_field rfl fd24_0 dk_eq))
    (apply lxk_eq;(· rfl);(· exact d_bld 1 rfl rfl ld3 rfl))
    (apply lxk_run 1;(· rfl);(· simp))
    (apply lxk_eq (v:=Value.int IntKind.i64 ((((p) - ((top : Int).toNat) : Nat)) : Int));(· rfl);(· exact d_x fun _=>x_asN it _ rfl ⟨by omega,by omega⟩ (by omega) dk_eq))
    simp only [Nat.add_sub_cancel]
    (apply lxk_run 5;(· rfl);(· exact ⟨trivial,trivial,⟨by omega,by omega⟩,⟨by omega,by omega⟩,trivial,trivial⟩))
    (apply lxk_pt;(· rfl);(· exact d_x fun _=>x_idx 1 ((j + 1) - 1) rfl rfl rfl sl22 (by omega) (by omega) fun z1 hz3 b4 o2=>(dk_ptD default hz3 0 rfl));intro b4 o2)
    (apply lxk_eq;(· rfl);(· exact d_x fun _=>x_ld_int 0 rfl rfl ld3 fun ⟨r3,r4⟩=>dk_eq))
    (apply lxk_run 2;(· rfl);(· simp))
    (apply lxk_pt;(· rfl);(· exact d_x fun _=>x_idx 2 (i) rfl rfl rfl sl22 rfl (by omega) fun z1 hz3 b5 o3=>(dk_ptD default hz3 0 rfl));intro b5 o3)
    (apply lxk_eq;(· rfl);(· exact d_x fun _=>x_ld_int 0 rfl rfl ld3 fun ⟨r3,r4⟩=>dk_eq))
    (apply lxk_run 2;(· rfl);(· exact ⟨⟨by omega,by omega⟩,⟨by omega,by omega⟩,trivial⟩))
    (apply lxk_eq;(· rfl);(· exact d_x fun _=>x_field rfl fd24_0 dk_eq))
    (apply lxk_eq;(· rfl);(· exact d_bld 1 rfl rfl ld3 rfl))
    (apply lxk_run 1;(· rfl);(· exact ⟨⟨by omega,by omega⟩,trivial⟩))
    refine lxk_end rfl ?_
    simp only [List.map_cons,List.map_nil,List.cons_append,List.nil_append]
    refine j_step rfl (x_idx_own (i) (i) rfl rfl sl22 rfl (by omega) (Nat.mul_one _) ?_)
    refine j_step rfl (x_bst_int 0 rfl rfl rfl ld3 (by first | omega | (simp;omega)) ?_)
    refine j_nf [_,_,_,_,_,_,_,_] rfl ?_
    refine j_run it 2 rfl ⟨trivial,⟨by omega,by omega⟩,trivial⟩ ?_
    refine j_nfn 1 [.lp (pL 125244),.blk 2,.blk 1,.c (pL 979),.lp (pL 244),.blk 0,.c [1,1,1,1]] rfl ?_
    refine j_to [3,4,5] (by exact fra rfl) rfl rfl (ihi' ((s + ((p - top.toNat : Nat) : Int) * c + DY.getD (j + 1 - 1) default * DX.getD i default) % (p : Int)) (by rw [hTi,hpt,gv,ga]))
  ·obtain rfl : i = m:=by omega
   rw [List.take_of_length_le (by omega),List.drop_of_length_le (by omega),List.append_nil] at hS
   refine j_nf [_,_,_,_,_,_,_,_,_] rfl ?_
   refine j_run it 1 rfl (by simp) ?_
   refine j_nf [_,_,_,_,_,_,_,_,_] rfl ?_
   refine j_if rfl rfl (fun h6=>by exfalso;omega) (fun h6=>?_)
   refine j_nf [_,_,_,_] rfl ?_
   refine j_run it 3 rfl ⟨trivial,⟨by omega,by omega⟩,trivial,trivial⟩ ?_
   refine j_nfn 1 [.lp (pL 244),.blk 0,.c [1,1,1,1]] rfl ?_
   refine j_to [0,1,2] (by exact fii rfl (by omega) (fcc rfl (fcc rfl (fcc rfl (fcc rfl (fcc rfl (fzz _))))))) rfl rfl (ih' S hS)
open Go Go.Fw
set_option maxRecDepth 100000
set_option linter.unusedVariables false
set_option linter.unusedSimpArgs false
set_option maxHeartbeats 8000000
def stopP (M : Nat → Nat → Nat) (x k : Nat) : Prop:=pwF M x k = 0 ∨ ∃ j,j < k ∧ pwF M x j = pwF M x k
instance (M : Nat → Nat → Nat) (x k : Nat) : Decidable (stopP M x k):=by unfold stopP;infer_instance
def kP (q : Nat) (M : Nat → Nat → Nat) (x : Nat) : Nat:=((List.range' 1 q).find? fun k=>decide (stopP M x k)).getD 0
theorem kP_of {q k : Nat} {M : Nat → Nat → Nat} {x : Nat} (h1 : 1 ≤ k) (h2 : k ≤ q) (h : stopP M x k) (hn : ∀ i,1 ≤ i → i < k → ¬ stopP M x i) : kP q M x = k:=by
 rw [kP]
 have hs : (List.range' 1 q).find? (fun k=>decide (stopP M x k)) = some k:=by
  rw [show List.range' 1 q = List.range' 1 (k - 1)++k::List.range' (k + 1) (q - k) by
   rw [← List.range'_succ]
   have:=List.range'_append_1 (s:=1) (m:=k - 1) (n:=q - k + 1)
   rw [show 1 + (k - 1) = k by omega,show k - 1 + (q - k + 1) = q by omega] at this
   exact this.symm]
  rw [List.find?_append,List.find?_eq_none.2 fun i hi=>by
   obtain ⟨a,b⟩:=List.mem_range'_1.1 hi
   simpa using hn i a (by omega)]
  rw [Option.none_or,List.find?_cons,decide_eq_true h]
 rw [hs];rfl
theorem go_on {q k : Nat} {M : Nat → Nat → Nat} {x : Nat} (hl : ∀ i,pwF M x i < q) (hn : ∀ i,1 ≤ i → i < k + 1 → ¬ stopP M x i) : k + 1 ≤ q - 1:=by
 have hnd : ((List.range (k + 1)).map (pwF M x)).Nodup:=by
  rw [List.Nodup,List.pairwise_map,List.pairwise_iff_getElem]
  intro i j hi hj hij e
  rw [List.getElem_range,List.getElem_range] at e
  rw [List.length_range] at hj
  exact hn j (by omega) hj (.inr ⟨i,hij,e⟩)
 have:=nodup_len (l':=List.range' 1 (q - 1)) hnd fun y hy=>by
  obtain ⟨i,hi,rfl⟩:=List.mem_map.1 hy
  have hi:=List.mem_range.1 hi
  have h1:=hl i
  have h2 : pwF M x i ≠ 0:=fun e=>by
   rcases Nat.eq_zero_or_pos i with h | h
   ·subst h;exact absurd (show (1 : Nat) = 0 from e) (by decide)
   ·exact hn i h hi (.inl e)
  exact List.mem_range'_1.2 ⟨by omega,by omega⟩
 rwa [List.length_map,List.length_range,List.length_range'] at this
abbrev boolC (l : List Bool) : List Value:=l.map Value.bool
theorem boolC_get {l : List Bool} {i : Nat} {b : Bool} (h : l[i]? = some b) : (boolC l)[i]? = some (.bool b):=by rw [List.getElem?_map,h];rfl
theorem S_field_powers {nm cm : Nat} {pm : Option Addr} {p m q : Nat} {md : List Int} (K : Shp p m md) (hq : q = p ^ m) {x : Nat} (hx1 : 1 ≤ x) (hx : x < q) :
  Ctr Tryz.prog 112 [.agg #[.int .i64 p,.int .i64 m,.slice pm nm cm],.int .i64 q,.int .i64 x] [] [slF I64 pm nm cm md] (SvI (kP q (fM p (fpo m md)) x) (toI ((List.range (kP q (fM p (fpo m md)) x)).map (pwF (fM p (fpo m md)) x)))):=by
 refine Ctr_of_j' (F:=F_field_powers) rfl fun C=>?_
 have h1:=K.p2
 have hqb:=K.q
 have hl:=K.flen
 have R : Rng q (fA p m) (fM p (fpo m md)):=by
  have:=rng_of h1 (f:=fpo m md) (by rw [hl];exact K.m1)
  rwa [hl,← hq] at this
 have hpl:=R.pw_lt hx
 have c_field_multiply:=fun {nm cm : Nat} {pm : Option Addr} {x y : Nat} (hx : x < q) (hy : y < q)=>S_field_multiply (nm:=nm) (cm:=cm) (pm:=pm) K (x:=x) (y:=y) (hq ▸ hx) (hq ▸ hy)
 have e1 : pwF (fM p (fpo m md)) x 1 = x:=R.one_mul hx
 generalize fM p (fpo m md) = M at *
 refine j_nf [_,_] rfl (j_step rfl (x_box_agg rfl fun b1=>?_))
 refine j_run it 1 rfl (by simp) ?_
 refine j_nf [_,_] rfl (j_step rfl (x_lit sl22 zo22e rfl rfl rfl rfl (by decide) (by decide) rfl fun b2=>?_))
 refine j_run it 1 rfl (by simp) ?_
 refine j_nf [_,_] rfl (j_run it 1 rfl (by simp) ?_)
 refine j_step rfl (x_make (q) _ rfl rfl sl143 zo143e rfl rfl by143e (by omega) (by omega) (by omega) fun b3=>?_)
 refine j_run it 1 rfl (by simp) ?_
 refine j_nf [_,_] rfl (j_run it 1 rfl (by simp) ?_)
 refine j_step rfl (x_idx_own 1 1 rfl rfl sl143 (by omega) (by omega) (Nat.mul_one _) ?_)
 refine j_step rfl (x_bst1 0 rfl rfl rfl rfl ld4 rfl (by first | omega | (simp;omega)) ?_)
 refine j_nf [_,_,_] rfl (j_run it 2 rfl (by simp) ?_)
 refine j_nf [_,_,_] rfl ?_
 rw [show (List.replicate q [Value.bool false]).flatten.set 1 (Value.bool true) = boolC ((List.replicate q false).set 1 true) by simp [List.map_set]]
 refine j_rowlit (E:=I64) (n:=1) [[.int .i64 1]] [1] 1 (fun w A hG=>allrd_cons (rd_int (by simp only [InR];omega)) allrd_nil) rfl rfl rfl rfl (by decide) ?_
 have hp1 : pwF M x 0 = 1:=rfl
 refine j_loopG (X:=Nat × Row × List Bool × List Int) [2,3,6,8] [0,1] (fun k=>[(9,.int .i64 ((pwF M x k.1 : Nat) : Int)),(7,.slice (ad k.2.1.bo) k.2.2.2.length k.2.1.cap)]) (fun k=>[(some b3,4,boolC k.2.2.1),(k.2.1.bo,3,k.2.1.cs),(some b1,24,[.int .i64 p,.int .i64 m,.slice pm nm cm])]) (fun k=>[rowF I64 k.2.1 k.2.2.2.length k.2.2.2])
  (fun k=>1 ≤ k.1 ∧ k.1 ≤ q ∧ k.2.2.2 = toI ((List.range k.1).map (pwF M x)) ∧ k.2.2.1.length = q ∧ (∀ j,j < q → (k.2.2.1[j]? = some true ↔ ∃ i,i < k.1 ∧ pwF M x i = j)) ∧ (∀ i,1 ≤ i → i < k.1 → ¬ stopP M x i)) (fun k=>q - k.1) (1,⟨some b2,1,[.int .i64 1]⟩,(List.replicate q false).set 1 true,[1]) [0] rfl rfl rfl ⟨Nat.le_refl 1,by omega,rfl,by simp,fun j hj=>?_,fun i h1 h2=>by omega⟩ (by refine Fr.sub_consI rfl (by rw [e1]) ?_;repeat (first | exact Fr.sub_nil _ | refine Fr.sub_cons rfl ?_)) rfl rfl ?_
 ·rw [List.getElem?_set]
  by_cases h9 : 1 = j
  ·subst h9
   rw [if_pos rfl,if_pos (by simp;omega)]
   exact ⟨fun _=>⟨0,Nat.zero_lt_one,rfl⟩,fun _=>rfl⟩
  ·rw [if_neg h9,List.getElem?_replicate,if_pos hj]
   exact ⟨fun h=>by simp at h,fun ⟨i,hi,e⟩=>by
    obtain rfl : i = 0:=by omega
    exact absurd e h9⟩
 rintro ⟨k,r,B,L⟩ ⟨hk1,hkq,hL,hBl,hB,hns⟩ ih
 simp only [List.cons_append,List.nil_append] at hk1 hkq hL hBl hB hns ih ⊢
 have hkl:=hpl k
 have hLl : L.length = k:=by rw [hL];simp [toI]
 by_cases h0 : pwF M x k = 0
 ·have hst : stopP M x k:=.inl h0
  rw [kP_of hk1 hkq hst hns,← hL]
  refine j_nf [_,_,_,_,_,_] rfl (j_run it 3 rfl (by simp) ?_)
  refine j_split_ndec (t:=18) rfl (fun h2=>by exfalso;omega) (fun h2=>?_)
  refine j_run it 6 rfl (by simp) ?_
  refine j_nf [_,_,_,_,_] rfl ?_
  refine j_false rfl rfl ?_
  refine j_nf [_,_] rfl (j_run it 2 rfl (by simp) ?_)
  refine j_nf [_] rfl ?_
  refine j_pubR 1 0 rfl rfl (by show L.length * 8 ≤ 140737488355328;omega) ?_
  rw [hLl]
  refine j_giv [0] rfl rfl rfl ⟨_,_,rfl,rfl,rfl⟩
 ·obtain ⟨b,hb⟩ : ∃ b,B[pwF M x k]? = some b:=⟨B[pwF M x k],List.getElem?_eq_getElem (by omega)⟩
  have hbc:=boolC_get hb
  cases b with
  | true =>
   have hst : stopP M x k:=.inr ((hB _ hkl).1 hb)
   rw [kP_of hk1 hkq hst hns,← hL]
   refine j_nf [_,_,_,_,_,_] rfl (j_run it 3 rfl (by simp) ?_)
   refine j_split_ndec (t:=18) rfl (fun h2=>?_) (fun h2=>by exfalso;omega)
   refine j_run it 2 rfl (by simp) ?_
   refine j_gstep rfl rfl (x_idx_own (pwF M x k) (pwF M x k) rfl rfl sl143 rfl (by omega) (Nat.mul_one _) ?_)
   refine j_gstep rfl rfl (x_bld 0 rfl rfl ld4 (by assumption) ?_)
   refine j_run it 2 rfl (by simp) ?_
   refine j_nf [_,_,_,_,_] rfl ?_
   refine j_false rfl rfl ?_
   refine j_nf [_,_] rfl (j_run it 2 rfl (by simp) ?_)
   refine j_nf [_] rfl ?_
   refine j_pubR 1 0 rfl rfl (by show L.length * 8 ≤ 140737488355328;omega) ?_
   rw [hLl]
   refine j_giv [0] rfl rfl rfl ⟨_,_,rfl,rfl,rfl⟩
  | false =>
   have hst : ¬ stopP M x k:=fun h=>by
    rcases h with h | h
    ·exact h0 h
    ·have:=(hB _ hkl).2 h
     rw [hb] at this;cases this
   have hns' : ∀ i,1 ≤ i → i < k + 1 → ¬ stopP M x i:=fun i h1 h2=>by
    rcases Nat.lt_succ_iff_lt_or_eq.1 h2 with h3 | rfl
    ·exact hns i h1 h3
    ·exact hst
   have hgo:=go_on hpl hns'
   have ih':=fun r1=>ih (k + 1,r1,B.set (pwF M x k) true,L++[((pwF M x k : Nat) : Int)]) (by dsimp only;omega) ⟨by dsimp only;omega,by dsimp only;omega,by dsimp only;rw [List.range_succ,List.map_append,toI,List.map_append,← toI,← hL];rfl,by dsimp only;rw [List.length_set,hBl],fun j hj=>by
    dsimp only
    rw [List.getElem?_set]
    by_cases h9 : pwF M x k = j
    ·rw [if_pos h9,if_pos (by omega)]
     exact ⟨fun _=>⟨k,by omega,h9⟩,fun _=>rfl⟩
    ·rw [if_neg h9,hB j hj]
     constructor
     ·rintro ⟨i,hi,e⟩;exact ⟨i,by omega,e⟩
     ·rintro ⟨i,hi,e⟩
      rcases Nat.lt_succ_iff_lt_or_eq.1 hi with h3 | rfl
      ·exact ⟨i,h3,e⟩
      ·exact absurd e h9,hns'⟩
   simp only [List.length_append,List.length_singleton,show pwF M x (k + 1) = M (pwF M x k) x from rfl,boolC,List.map_set] at ih'
   refine j_nf [_,_,_,_,_,_] rfl (j_run it 3 rfl (by simp) ?_)
   refine j_split_ndec (t:=18) rfl (fun h2=>?_) (fun h2=>by exfalso;omega)
   refine j_run it 2 rfl (by simp) ?_
   refine j_gstep rfl rfl (x_idx_own (pwF M x k) (pwF M x k) rfl rfl sl143 rfl (by omega) (Nat.mul_one _) ?_)
   refine j_gstep rfl rfl (x_bld 0 rfl rfl ld4 (by assumption) ?_)
   refine j_run it 2 rfl (by simp) ?_
   refine j_nf [_,_,_,_,_] rfl ?_
   refine j_true rfl rfl ?_
   refine j_nf [_,_,_,_,_,_,_] rfl (j_run it 2 rfl (by simp) ?_)
   refine j_step rfl (x_idx_own (pwF M x k) (pwF M x k) rfl rfl sl143 rfl (by omega) (Nat.mul_one _) ?_)
   refine j_step rfl (x_bst1 0 rfl rfl rfl rfl ld4 rfl (by first | omega | (simp;omega)) ?_)
   refine j_nf [_,_,_,_,_,_] rfl (j_run it 2 rfl (by simp) ?_)
   refine j_step rfl (x_lit sl22 zo22e rfl rfl rfl rfl (by decide) (by decide) rfl fun b4=>?_)
   refine j_step rfl (x_appR (z:=(↑(pwF M x k) : Int)) 2 0 0 rfl rfl rfl rfl rfl sl22 zo22e rfl (fun w A hG=>(rd_int (by first | (simp only [InR];omega) | (simp [InR];done)))) (by omega) _ by22e (by omega) fun r1=>?_)
   refine j_run it 1 rfl (by simp) ?_
   refine j_nf [_,_,_,_] rfl (j_step rfl (x_bld_all 3 rfl rfl ld24 rfl ?_))
   refine j_run it 2 rfl (by simp) ?_
   refine j_step rfl (x_call [3] rfl (c_field_multiply (by omega) (by omega)) rfl ?_)
   rintro _ _ _ ⟨rfl,rfl,rfl⟩
   simp only [List.cons_append,List.nil_append]
   refine j_run it 1 rfl (by simp) ?_
   refine j_nfn 1 [.lp (pL 500),.blk 0,.c [1,1,1,1,1]] rfl ?_
   refine j_toX [2,0,3] [0,2,3] (by exact fra rfl) rfl rfl rfl (ih' r1)
end Go.Proofs.YtlecjbjgbcdilaaGreat
