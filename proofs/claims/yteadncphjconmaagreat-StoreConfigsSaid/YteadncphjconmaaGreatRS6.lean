/-
Independent columns: a basis that grows, and the pivots of the rows. Independent columns and the pivots of the rows. Columns taken as long as they are independent, in plain words. Exclusion trees in plain words. The words of a space that vanish outside some positions; the least witness. The least witness, and the program's answer whether helpers suffice. Whether helpers suffice: what the program answers. Columns and ranks in the document, what is enough, and the least witness. What is enough by ranks and by witnesses; the walk of RepairSuffices. Words of messages in the document; the walk of RepairDetermines. Differences in a field; the program's test of a word. The exclusion prover's basis, in the program. Columns in their order, as far as they are independent, in the program. The nodes below a node of an exclusion tree, in the program. Right nodes of an exclusion tree, in the program. The program's walk through an exclusion tree. The program's CheckRank and CheckDistance. A word of the span of a reduced matrix leaves nothing. The document's fields: sums of products; rows of elements. Entries of a word at some places, in the document. Tests of exclusion trees in the document. The document's walk through an exclusion tree. Binomial coefficients as numbers of the machine, in the program. Sums and extreme entries of lists; how many sets there are. The tests of a store's configuration. The law's function StoreConfigs.
-/
import Derived.Test.YteadncphjconmaaGreatRS5
set_option linter.unusedVariables false
set_option linter.unusedSimpArgs false
namespace Go.Proofs.YteadncphjconmaaGreat
set_option maxRecDepth 100000
set_option linter.unusedVariables false
set_option linter.unusedSimpArgs false
def BasL : List Nat → List (List Int) → Prop
 | [],[]=>True
 | p::ps,r::rs=>at0 r p = 1 ∧ (∀ s ∈ rs,at0 s p = 0) ∧ BasL ps rs
 | _,_=>False
theorem BasL.snoc {k : Nat} {r : List Int} (h1 : at0 r k = 1) : ∀ {P : List Nat} {R : List (List Int)},BasL P R → (∀ p ∈ P,at0 r p = 0) → BasL (P++[k]) (R++[r])
 | [],[],_,_=>⟨h1,fun s hs=>(by cases hs),trivial⟩
 | [],_::_,h,_=>h.elim
 | _::_,[],h,_=>h.elim
 | p::ps,s::rs,⟨a,b,c⟩,h=>⟨a,fun t ht=>by
   rcases List.mem_append.1 ht with ht | ht
   ·exact b t ht
   ·rw [List.mem_singleton.1 ht];exact h p (.head _),BasL.snoc h1 c fun x hx=>h x (.tail _ hx)⟩
section
variable {q : Nat} {A M : Int → Int → Int} {N V : Int → Int} (O : FO q A M N V)
include O
theorem FO.rp_keep {n a : Nat} : ∀ {P : List Nat} {R : List (List Int)} {v : List Int},Mat q n R → Wd q n v → (∀ s ∈ R,at0 s a = 0) → at0 (rpF A M N P R v) a = at0 v a
 | [],_,_,_,_,_=>rfl
 | _::_,[],_,_,_,_=>rfl
 | p::ps,r::rs,v,hM,hv,h=>by
  have hq:=O.q2
  obtain ⟨v0,v1⟩:=wd_at (by omega) hv p
  obtain ⟨⟨n0,n1⟩,_⟩:=O.ng _ v0 v1
  obtain ⟨w0,w1⟩:=wd_at (by omega) hv a
  rw [rpF,FO.rp_keep (fun x hx=>hM x (.tail _ hx)) (O.fi.axw n0 n1 (hM r (.head _)) hv) (fun s hs=>h s (.tail _ hs)),O.axp_at n0 n1 (hM r (.head _)) hv,h r (.head _),O.fi.m0 n0 n1,O.fi.a0 _ w0 w1]
theorem FO.rp_zero {n : Nat} : ∀ {P : List Nat} {R : List (List Int)} {v : List Int},BasL P R → Mat q n R → Wd q n v → ∀ a ∈ P,at0 (rpF A M N P R v) a = 0
 | [],_,_,_,_,_,_,ha=>by cases ha
 | _::_,[],_,h,_,_,_,_=>h.elim
 | p::ps,r::rs,v,⟨h1,h2,h3⟩,hM,hv,a,ha=>by
  have hq:=O.q2
  obtain ⟨v0,v1⟩:=wd_at (by omega) hv p
  obtain ⟨⟨n0,n1⟩,hn⟩:=O.ng _ v0 v1
  have hM' : Mat q n rs:=fun x hx=>hM x (.tail _ hx)
  have hw:=O.fi.axw n0 n1 (hM r (.head _)) hv
  rw [rpF]
  rcases List.mem_cons.1 ha with rfl | ha
  ·rw [O.rp_keep hM' hw h2,O.axp_at n0 n1 (hM r (.head _)) hv,h1,O.fi.m1 _ n0 n1,hn]
  ·exact FO.rp_zero h3 hM' hw a ha
theorem FO.rp_in {n : Nat} {G : List (List Int)} (hG : Mat q n G) : ∀ {P : List Nat} {R : List (List Int)} {v : List Int},(∀ r ∈ R,r ∈ G) → Cmb q A M n G v → Cmb q A M n G (rpF A M N P R v)
 | [],_,_,_,h=>h
 | _::_,[],_,_,h=>h
 | p::ps,r::rs,v,hR,h=>by
  have hq:=O.q2
  obtain ⟨v0,v1⟩:=wd_at (by omega) (O.cmb_mat hG h) p
  obtain ⟨⟨n0,n1⟩,_⟩:=O.ng _ v0 v1
  exact FO.rp_in hG (P:=ps) (R:=rs) (fun x hx=>hR x (.tail _ hx)) (.add (hR r (.head _)) n0 n1 h)
theorem FO.axp_back {n : Nat} {a : Int} (a0 : 0 ≤ a) (a1 : a < q) {r v : List Int} (hr : Wd q n r) (hv : Wd q n v) : axp A M a r (axp A M (N a) r v) = v:=by
 have hq:=O.q2
 obtain ⟨⟨n0,n1⟩,hn⟩:=O.ng _ a0 a1
 have hw:=O.fi.axw n0 n1 hr hv
 refine wd_at_ext (O.fi.axw a0 a1 hr hw) hv fun j _=>?_
 rw [O.axp_at a0 a1 hr hw,O.axp_at n0 n1 hr hv]
 obtain ⟨r0,r1⟩:=wd_at (by omega) hr j
 obtain ⟨v0,v1⟩:=wd_at (by omega) hv j
 obtain ⟨x0,x1⟩:=O.fi.ml _ _ n0 n1 r0 r1
 obtain ⟨y0,y1⟩:=O.fi.ml _ _ a0 a1 r0 r1
 rw [O.fi.aa _ _ _ v0 v1 x0 x1 y0 y1,← O.ng_mul a0 a1 r0 r1]
 obtain ⟨⟨z0,z1⟩,hz⟩:=O.ng _ y0 y1
 rw [O.fi.ac _ _ z0 z1 y0 y1,hz,O.fi.a0 _ v0 v1]
theorem FO.rp_out {n : Nat} {G : List (List Int)} (hG : Mat q n G) : ∀ {P : List Nat} {R : List (List Int)} {v : List Int},(∀ r ∈ R,r ∈ G) → Wd q n v → Cmb q A M n G (rpF A M N P R v) → Cmb q A M n G v
 | [],_,_,_,_,h=>h
 | _::_,[],_,_,_,h=>h
 | p::ps,r::rs,v,hR,hv,h=>by
  have hq:=O.q2
  have hr:=hG r (hR r (.head _))
  obtain ⟨v0,v1⟩:=wd_at (by omega) hv p
  obtain ⟨⟨n0,n1⟩,_⟩:=O.ng _ v0 v1
  have:=FO.rp_out hG (P:=ps) (R:=rs) (fun x hx=>hR x (.tail _ hx)) (O.fi.axw n0 n1 hr hv) h
  rw [← O.axp_back v0 v1 hr hv]
  exact .add (hR r (.head _)) v0 v1 this
theorem FO.cmb_split {n : Nat} {r : List Int} {rs : List (List Int)} (hM : Mat q n (r::rs)) {u : List Int} (h : Cmb q A M n (r::rs) u) : ∃ (c : Int) (u' : List Int),(0 ≤ c ∧ c < q) ∧ Cmb q A M n rs u' ∧ u = axp A M c r u':=by
 have hq:=O.q2
 have hr:=hM r (.head _)
 have hM' : Mat q n rs:=fun x hx=>hM x (.tail _ hx)
 induction h with
 | zero=>exact ⟨0,zW n,⟨by omega,by omega⟩,.zero,(O.axp0 hr (O.wz n)).symm⟩
 | @add a s u hs a0 a1 hu ih =>
  obtain ⟨c,u',⟨c0,c1⟩,h1,rfl⟩:=ih
  have hu':=O.cmb_mat hM' h1
  rcases List.mem_cons.1 hs with rfl | hs
  ·obtain ⟨d0,d1⟩:=O.fi.al _ _ c0 c1 a0 a1
   refine ⟨A c a,u',⟨d0,d1⟩,h1,wd_at_ext (O.fi.axw a0 a1 hr (O.fi.axw c0 c1 hr hu')) (O.fi.axw d0 d1 hr hu') fun j _=>?_⟩
   rw [O.axp_at a0 a1 hr (O.fi.axw c0 c1 hr hu'),O.axp_at c0 c1 hr hu',O.axp_at d0 d1 hr hu']
   obtain ⟨r0,r1⟩:=wd_at (by omega) hr j
   obtain ⟨v0,v1⟩:=wd_at (by omega) hu' j
   obtain ⟨x0,x1⟩:=O.fi.ml _ _ c0 c1 r0 r1
   obtain ⟨y0,y1⟩:=O.fi.ml _ _ a0 a1 r0 r1
   rw [O.fi.aa _ _ _ v0 v1 x0 x1 y0 y1,O.fi.mc _ _ d0 d1 r0 r1,O.fi.md _ _ _ r0 r1 c0 c1 a0 a1,O.fi.mc _ _ c0 c1 r0 r1,O.fi.mc _ _ a0 a1 r0 r1]
  ·have hsw:=hM' s hs
   have hw:=O.fi.axw a0 a1 hsw hu'
   refine ⟨c,axp A M a s u',⟨c0,c1⟩,.add hs a0 a1 h1,wd_at_ext (O.fi.axw a0 a1 hsw (O.fi.axw c0 c1 hr hu')) (O.fi.axw c0 c1 hr hw) fun j _=>?_⟩
   rw [O.axp_at a0 a1 hsw (O.fi.axw c0 c1 hr hu'),O.axp_at c0 c1 hr hu',O.axp_at c0 c1 hr hw,O.axp_at a0 a1 hsw hu']
   obtain ⟨r0,r1⟩:=wd_at (by omega) hr j
   obtain ⟨s0,s1⟩:=wd_at (by omega) hsw j
   obtain ⟨v0,v1⟩:=wd_at (by omega) hu' j
   obtain ⟨x0,x1⟩:=O.fi.ml _ _ c0 c1 r0 r1
   obtain ⟨y0,y1⟩:=O.fi.ml _ _ a0 a1 s0 s1
   rw [O.fi.aa _ _ _ v0 v1 x0 x1 y0 y1,O.fi.ac _ _ x0 x1 y0 y1,O.fi.aa _ _ _ v0 v1 y0 y1 x0 x1]
theorem FO.cmb_at0 {n a : Nat} {rs : List (List Int)} (hM : Mat q n rs) (h0 : ∀ s ∈ rs,at0 s a = 0) {u : List Int} (h : Cmb q A M n rs u) : at0 u a = 0:=by
 induction h with
 | zero=>exact at0_zW n a
 | @add b s u hs b0 b1 hu ih=>rw [O.axp_at b0 b1 (hM s hs) (O.cmb_mat hM hu),ih,h0 s hs,O.fi.m0 b0 b1,O.fi.a0 0 (Int.le_refl 0) (by have:=O.q2;omega)]
theorem FO.bas_span {n : Nat} : ∀ {P : List Nat} {R : List (List Int)} {u : List Int},BasL P R → Mat q n R → Cmb q A M n R u → (∀ a ∈ P,at0 u a = 0) → u = zW n
 | [],[],u,_,hM,h,_=>by
  cases h with
  | zero=>rfl
  | add hr=>cases hr
 | [],_::_,_,h,_,_,_=>h.elim
 | _::_,[],_,h,_,_,_=>h.elim
 | p::ps,r::rs,u,⟨h1,h2,h3⟩,hM,h,h0=>by
  have hq:=O.q2
  obtain ⟨c,u',⟨c0,c1⟩,hu,rfl⟩:=O.cmb_split hM h
  have hr:=hM r (.head _)
  have hM' : Mat q n rs:=fun x hx=>hM x (.tail _ hx)
  have hu':=O.cmb_mat hM' hu
  have hp:=h0 p (.head _)
  rw [O.axp_at c0 c1 hr hu',h1,O.fi.m1 _ c0 c1,O.cmb_at0 hM' h2 hu,O.fi.ac 0 c (Int.le_refl 0) (by omega) c0 c1,O.fi.a0 _ c0 c1] at hp
  subst hp
  rw [O.axp0 hr hu']
  refine FO.bas_span h3 hM' hu fun a ha=>?_
  have:=h0 a (.tail _ ha)
  rwa [O.axp0 hr hu'] at this
end
set_option maxRecDepth 100000
set_option linter.unusedVariables false
set_option linter.unusedSimpArgs false
theorem nodup_bkN : ∀ {l l' : List Nat},l.Nodup → (∀ x ∈ l,x ∈ l') → l'.length ≤ l.length → ∀ x ∈ l',x ∈ l
 | [],l',_,_,hl,x,hx=>by
  have : l' = []:=List.length_eq_zero_iff.1 (by simpa using hl)
  rw [this] at hx;cases hx
 | y::l,l',hn,hs,hl,x,hx=>by
  obtain ⟨h1,h2⟩:=List.nodup_cons.1 hn
  by_cases e : x = y
  ·rw [e];exact .head _
  ·refine .tail _ (nodup_bkN (l:=l) (l':=l'.erase y) h2 (fun z hz=>?_) ?_ x ?_)
   ·exact (List.mem_erase_of_ne (fun (e : z = y)=>h1 (e ▸ hz))).2 (hs z (.tail _ hz))
   ·rw [List.length_erase_of_mem (hs y (.head _))];simp only [List.length_cons] at hl;omega
   ·exact (List.mem_erase_of_ne e).2 hx
def Ind (q : Nat) (A M : Int → Int → Int) (n : Nat) (G : List (List Int)) : Prop:=∀ x,Wd q G.length x → (∀ j,j < n → dotL A M x (colL G j) = 0) → x = zW G.length
section
variable {q : Nat} {A M : Int → Int → Int} {N V : Int → Int} (O : FO q A M N V)
include O
theorem FO.cmb_of {n : Nat} {G : List (List Int)} (hG : Mat q n G) {x : List Int} (hx : ∀ a ∈ x,0 ≤ a ∧ a < q) : Cmb q A M n G (cmbL A M n x G) :=
 O.cmbF_ind hG (P:=Cmb q A M n G) (fun a r u hr a0 a1 hu h=>.add hr a0 a1 h) hx (fun r hr=>hr) (O.wz n) .zero
theorem FO.ind_grow {n : Nat} {G R : List (List Int)} {P : List Nat} {v : List Int} (hG : Mat q n G) (hR : Mat q n R) (hv : Wd q n v) (hb : BasL P R) (hi : Ind q A M n G) (hGR : ∀ g ∈ G,Cmb q A M n R g) (hne : rpF A M N P R v ≠ zW n) : Ind q A M n (G++[v]):=fun x hx h=>by
 have hq:=O.q2
 have hxl:=hx.1
 rw [List.length_append,List.length_singleton] at hxl
 obtain ⟨y,a,rfl⟩ : ∃ y a,x = y++[a]:=by
  rcases List.eq_nil_or_concat x with h | ⟨y,a,h⟩
  ·rw [h] at hxl;simp at hxl
  ·exact ⟨y,a,by simpa using h⟩
 have hy : Wd q G.length y:=⟨by rw [List.length_append,List.length_singleton] at hxl;omega,fun z hz=>hx.2 z (List.mem_append_left _ hz)⟩
 obtain ⟨a0,a1⟩:=hx.2 a (List.mem_append_right _ (.head _))
 have h' : ∀ j,j < n → A (dotL A M y (colL G j)) (M a (at0 v j)) = 0:=fun j hj=>by
  obtain ⟨v0,v1⟩:=wd_at (by omega) hv j
  have:=h j hj
  rw [show colL (G++[v]) j = colL G j++[at0 v j] by simp [colL],O.dot_snoc hy (wd_col (by omega) hG j) a0 a1 v0 v1] at this
  exact this
 by_cases ha : a = 0
 ·subst ha
  have hz:=hi y hy fun j hj=>by
   obtain ⟨v0,v1⟩:=wd_at (by omega) hv j
   obtain ⟨d0,d1⟩:=O.fi.dlt hy (wd_col (show 0 < q by omega) hG j)
   have:=h' j hj
   rwa [O.fi.mc 0 _ (Int.le_refl 0) (by omega) v0 v1,O.fi.m0 v0 v1,O.fi.a0 _ d0 d1] at this
  rw [hz,List.length_append,List.length_singleton,zW,zW,List.replicate_succ']
 ·exfalso
  obtain ⟨⟨i0,i1⟩,hiv⟩:=O.iv a a0 a1 ha
  obtain ⟨⟨n0,n1⟩,_⟩:=O.ng _ i0 i1
  have hu:=O.cmb_of hG hy.2
  have huw:=O.cmb_mat hG hu
  have hvG : Cmb q A M n G v:=by
   have e : v = axp A M (N (V a)) (cmbL A M n y G) (zW n):=by
    refine wd_at_ext hv (O.fi.axw n0 n1 huw (O.wz n)) fun j hj=>?_
    obtain ⟨v0,v1⟩:=wd_at (show 0 < q by omega) hv j
    obtain ⟨u0,u1⟩:=wd_at (show 0 < q by omega) huw j
    obtain ⟨m0,m1⟩:=O.fi.ml _ _ a0 a1 v0 v1
    obtain ⟨k0,k1⟩:=O.fi.ml _ _ i0 i1 u0 u1
    obtain ⟨⟨z0,z1⟩,hz⟩:=O.ng _ k0 k1
    rw [O.axp_at n0 n1 huw (O.wz n),at0_zW,← O.ng_mul i0 i1 u0 u1,O.fi.ac 0 _ (Int.le_refl 0) (by omega) z0 z1,O.fi.a0 _ z0 z1]
    have h1:=h' j hj
    rw [← O.cmb_at hy.2 hG j] at h1
    have h2 : A (M (V a) (at0 (cmbL A M n y G) j)) (at0 v j) = 0:=by
     have h3 : M (V a) (A (at0 (cmbL A M n y G) j) (M a (at0 v j))) = 0:=by rw [h1,O.fi.m0 i0 i1]
     rw [O.fi.md _ _ _ i0 i1 u0 u1 m0 m1,← O.fi.ma _ _ _ i0 i1 a0 a1 v0 v1,O.fi.mc _ _ i0 i1 a0 a1,hiv,O.fi.mc 1 _ (by omega) (by omega) v0 v1,O.fi.m1 _ v0 v1] at h3
     exact h3
    refine O.fi.cancel k0 k1 v0 v1 z0 z1 ?_
    rw [h2,hz]
   rw [e]
   exact O.cmb_axp hG n0 n1 hu .zero
  have hvR:=O.cmb_trans hR hGR hvG
  exact hne (O.bas_span hb hR (O.rp_in hR (fun r hr=>hr) hvR) (O.rp_zero hb hR hv))
theorem FO.dot_zeros {n : Nat} {x y : List Int} (hx : Wd q n x) (hy : Wd q n y) : ∀ {k : Nat} {z : List Int},Wd q k z → dotL A M (x++zW k) (y++z) = dotL A M x y
 | 0,z,hz=>by rw [List.length_eq_zero_iff.1 hz.1];simp [zW]
 | k + 1,z,hz=>by
  have hq:=O.q2
  have hzl:=hz.1
  obtain ⟨u,c,rfl⟩ : ∃ u c,z = u++[c]:=by
   rcases List.eq_nil_or_concat z with h | ⟨u,c,h⟩
   ·rw [h] at hzl;simp at hzl
   ·exact ⟨u,c,by simpa using h⟩
  have hu : Wd q k u:=⟨by simpa using hzl,fun w hw=>hz.2 w (List.mem_append_left _ hw)⟩
  obtain ⟨c0,c1⟩:=hz.2 c (List.mem_append_right _ (.head _))
  have hxz : Wd q (n + k) (x++zW k):=⟨by rw [List.length_append,hx.1,zW,List.length_replicate],fun w hw=>by
   rcases List.mem_append.1 hw with hw | hw
   ·exact hx.2 w hw
   ·rw [List.eq_of_mem_replicate hw];exact ⟨by omega,by omega⟩⟩
  have hyu : Wd q (n + k) (y++u):=⟨by rw [List.length_append,hy.1,hu.1],fun w hw=>by
   rcases List.mem_append.1 hw with hw | hw
   ·exact hy.2 w hw
   ·exact hu.2 w hw⟩
  obtain ⟨d0,d1⟩:=O.fi.dlt hx hy
  rw [show zW (k + 1) = zW k++[0] from List.replicate_succ',← List.append_assoc,← List.append_assoc,O.dot_snoc hxz hyu (Int.le_refl 0) (by omega) c0 c1,FO.dot_zeros hx hy hu,O.fi.mc 0 _ (Int.le_refl 0) (by omega) c0 c1,O.fi.m0 c0 c1,O.fi.a0 _ d0 d1]
theorem FO.ind_fail {n : Nat} {G G2 : List (List Int)} {v : List Int} (hG : Mat q n G) (h2 : Mat q n G2) (hv : Cmb q A M n G v) : ¬ Ind q A M n (G++v::G2):=fun hi=>by
 have hq:=O.q2
 have hvw:=O.cmb_mat hG hv
 obtain ⟨t,ht,he⟩:=O.cmb_coef hG hv
 obtain ⟨⟨n0,n1⟩,hn⟩:=O.ng 1 (by omega) (by omega)
 have hx : Wd q (G.length + 1) (t++[N 1]):=⟨by rw [List.length_append,ht.1];rfl,fun w hw=>by
  rcases List.mem_append.1 hw with hw | hw
  ·exact ht.2 w hw
  ·rw [List.mem_singleton.1 hw];exact ⟨n0,n1⟩⟩
 have h:=hi ((t++[N 1])++zW G2.length) ⟨by rw [List.length_append,hx.1,zW,List.length_replicate,List.length_append,List.length_cons];omega,fun w hw=>by
  rcases List.mem_append.1 hw with hw | hw
  ·exact hx.2 w hw
  ·rw [List.eq_of_mem_replicate hw];exact ⟨by omega,by omega⟩⟩ fun j hj=>by
  obtain ⟨v0,v1⟩:=wd_at (show 0 < q by omega) hvw j
  have hc:=wd_col (show 0 < q by omega) hG j
  have hy : Wd q (G.length + 1) (colL G j++[at0 v j]):=⟨by rw [List.length_append,hc.1];rfl,fun w hw=>by
   rcases List.mem_append.1 hw with hw | hw
   ·exact hc.2 w hw
   ·rw [List.mem_singleton.1 hw];exact ⟨v0,v1⟩⟩
  obtain ⟨d0,d1⟩:=O.fi.dlt ht hc
  obtain ⟨m0,m1⟩:=O.fi.ml _ _ n0 n1 v0 v1
  rw [show colL (G++v::G2) j = (colL G j++[at0 v j])++colL G2 j by simp [colL],O.dot_zeros hx hy (wd_col (by omega) h2 j),O.dot_snoc ht hc n0 n1 v0 v1,← he j,← O.ng_mul (by omega) (by omega) v0 v1,O.fi.mc 1 _ (by omega) (by omega) v0 v1,O.fi.m1 _ v0 v1]
  exact (O.ng _ v0 v1).2
 have h3 : at0 ((t++[N 1])++zW G2.length) G.length = N 1:=by
  rw [at0,List.getD_eq_getElem?_getD,List.getElem?_append_left (by rw [hx.1];omega),List.getElem?_append_right (by rw [ht.1];omega),ht.1,Nat.sub_self];rfl
 rw [h,at0_zW] at h3
 rw [← h3,O.fi.a0 1 (by omega) (by omega)] at hn
 omega
theorem FO.piv_all {n : Nat} {rows : List (List Int)} (hM : Mat q n rows) : (cnE A M N V n rows).2.length = n ↔ ∀ x,Wd q n x → Sol A M rows x → x = zW n:=by
 have hq:=O.q2
 obtain ⟨h1,h2⟩:=O.cn hM
 have hnd:=Red.nd h1
 constructor
 ·intro hl x hx hs
  have hs:=(h2 x hx).2 hs
  have hall : ∀ c,c < n → c ∈ (cnE A M N V n rows).2:=fun c hc=>nodup_bkN hnd (l':=List.range n) (fun y hy=>List.mem_range.2 (h1.ech.lt y hy)) (by rw [List.length_range];omega) c (List.mem_range.2 hc)
  refine wd_at_ext hx (O.wz n) fun c hc=>?_
  rw [at0_zW]
  obtain ⟨i1,i2⟩:=Red.at_idx h1 (hall c hc)
  have hil : (cnE A M N V n rows).2.idxOf c < (cnE A M N V n rows).1.length:=Nat.lt_of_lt_of_le i1 h1.ech.le
  have hr:=sol_row.1 hs _ hil
  have hrw:=h1.mat.row hil
  rw [O.dot_one hx hrw c fun e he=>?_] at hr
  ·rw [show at0 (row0 (cnE A M N V n rows).1 ((cnE A M N V n rows).2.idxOf c)) c = 1 from h1.ech.one _ _ i2] at hr
   obtain ⟨x0,x1⟩:=wd_at (show 0 < q by omega) hx c
   rwa [O.fi.m1 _ x0 x1] at hr
  ·obtain ⟨x0,x1⟩:=wd_at (show 0 < q by omega) hx e
   by_cases hen : e < n
   ·obtain ⟨j1,j2⟩:=Red.at_idx h1 (hall e hen)
    rw [show at0 (row0 (cnE A M N V n rows).1 ((cnE A M N V n rows).2.idxOf c)) e = 0 from h1.ech.zer _ _ j2 _ hil fun h=>he (by rw [← h] at j2;exact Option.some.inj (j2.symm.trans i2)),O.fi.m0 x0 x1]
   ·rw [wd_out hrw (by omega),O.fi.m0 x0 x1]
 ·intro h
  refine Classical.byContradiction fun hne=>?_
  have hle:=h1.piv_le
  obtain ⟨c,hc,hn⟩ : ∃ c,c < n ∧ c ∉ (cnE A M N V n rows).2:=by
   refine Classical.byContradiction fun hno=>hne ?_
   have h4:=nodup_len (List.nodup_range (n:=n)) (l':=(cnE A M N V n rows).2) fun c hc=>Classical.byContradiction fun hcn=>hno ⟨c,List.mem_range.1 hc,hcn⟩
   rw [List.length_range] at h4
   omega
  have hz:=h _ (O.null_wd h1 c) ((h2 _ (O.null_wd h1 c)).1 (O.null_sol h1 hc hn))
  have:=nullV_at (N:=N) (R:=(cnE A M N V n rows).1) (P:=(cnE A M N V n rows).2) (c:=c) hc
  rw [hz,at0_zW,if_pos rfl] at this
  omega
end
open Go Go.Fw
set_option maxRecDepth 100000
set_option linter.unusedVariables false
set_option linter.unusedSimpArgs false
set_option maxHeartbeats 0
abbrev fnz (v : List Int) : Int:=fxI (fun x=>!decide (x = 0)) v
def grL (A M : Int → Int → Int) (N V : Int → Int) (col : Int → List Int) (most : Nat) : List Int → List Nat → List (List Int) → List Int → List Int
 | [],_,_,out=>out
 | i::o,P,R,out=>if out.length = most then out else
  if fnz (rpF A M N P R (col i)) < 0 then grL A M N V col most o P R out
  else grL A M N V col most o (P++[(fnz (rpF A M N P R (col i))).toNat]) (R++[sclL M (V (at0 (rpF A M N P R (col i)) (fnz (rpF A M N P R (col i))).toNat)) (rpF A M N P R (col i))]) (out++[i])
theorem grL_le {A M : Int → Int → Int} {N V : Int → Int} {col : Int → List Int} {most : Nat} : ∀ {o : List Int} {P : List Nat} {R : List (List Int)} {out : List Int},(grL A M N V col most o P R out).length ≤ out.length + o.length
 | [],_,_,_=>Nat.le_refl _
 | i::o,P,R,out=>by
  rw [grL]
  split
  ·simp
  ·split
   ·exact Nat.le_trans grL_le (by rw [List.length_cons];omega)
   ·exact Nat.le_trans grL_le (by rw [List.length_append];simp only [List.length_cons,List.length_nil];omega)
theorem fnz_neg {q n : Nat} {v : List Int} (hv : Wd q n v) (h : fnz v < 0) : v = zW n:=by
 have h : fxI (fun x : Int=>!decide (x = 0)) v < 0:=h
 have h1:=fxI_any (p:=fun x : Int=>!decide (x = 0)) (l:=v)
 rw [decide_eq_false (by omega)] at h1
 have h1:=List.any_eq_false.1 h1.symm
 refine List.ext_getElem (by rw [hv.1,zW,List.length_replicate]) fun i hi h2=>?_
 have:=h1 v[i] (List.getElem_mem hi)
 rw [List.getElem_replicate]
 simpa using this
theorem fnz_pos {v : List Int} (h : ¬ fnz v < 0) : (fnz v).toNat < v.length ∧ at0 v (fnz v).toNat ≠ 0:=by
 have h : ¬ fxI (fun x : Int=>!decide (x = 0)) v < 0:=h
 have h1:=fxI_any (p:=fun x : Int=>!decide (x = 0)) (l:=v)
 rw [decide_eq_true (by omega)] at h1
 have e : fnz v = ((v.findIdx fun x=>!decide (x = 0) : Nat) : Int):=by rw [fnz,fxI,if_pos h1.symm]
 have hl : (v.findIdx fun x=>!decide (x = 0)) < v.length:=List.findIdx_lt_length.2 (List.any_eq_true.1 h1.symm)
 rw [e,Int.toNat_natCast]
 refine ⟨hl,?_⟩
 rw [at0,List.getD_eq_getElem?_getD,List.getElem?_eq_getElem hl]
 have:=List.findIdx_getElem (w:=hl)
 simpa using this
section
variable {q : Nat} {A M : Int → Int → Int} {N V : Int → Int} (O : FO q A M N V)
include O
theorem FO.bas_step {n : Nat} {P : List Nat} {R : List (List Int)} {v : List Int} (hb : BasL P R) (hR : Mat q n R) (hv : Wd q n v) (h : ¬ fnz (rpF A M N P R v) < 0) : Wd q n (rpF A M N P R v) ∧ BasL (P++[(fnz (rpF A M N P R v)).toNat]) (R++[sclL M (V (at0 (rpF A M N P R v) (fnz (rpF A M N P R v)).toNat)) (rpF A M N P R v)]) ∧
  Mat q n (R++[sclL M (V (at0 (rpF A M N P R v) (fnz (rpF A M N P R v)).toNat)) (rpF A M N P R v)]) ∧ (∀ u,Cmb q A M n R u → Cmb q A M n (R++[sclL M (V (at0 (rpF A M N P R v) (fnz (rpF A M N P R v)).toNat)) (rpF A M N P R v)]) u) ∧
  Cmb q A M n (R++[sclL M (V (at0 (rpF A M N P R v) (fnz (rpF A M N P R v)).toNat)) (rpF A M N P R v)]) v:=by
 have hq:=O.q2
 obtain ⟨k1,k2⟩:=fnz_pos h
 have hw:=O.rp_wd (P:=P) hR hv
 have hz:=O.rp_zero hb hR hv
 have ho:=fun {G : List (List Int)} (hG : Mat q n G) (hs : ∀ r ∈ R,r ∈ G) (hc : Cmb q A M n G (rpF A M N P R v))=>O.rp_out hG hs hv hc
 generalize rpF A M N P R v = w at *
 generalize (fnz w).toNat = k at *
 obtain ⟨w0,w1⟩:=wd_at (show 0 < q by omega) hw k
 obtain ⟨⟨i0,i1⟩,hi⟩:=O.iv _ w0 w1 k2
 have hs : ∀ j,at0 (sclL M (V (at0 w k)) w) j = M (V (at0 w k)) (at0 w j):=fun j=>O.scl_at i0 i1 w j
 have hsw : Wd q n (sclL M (V (at0 w k)) w):=O.scl_wd i0 i1 hw
 have hM : Mat q n (R++[sclL M (V (at0 w k)) w]):=fun r hr=>by
  rcases List.mem_append.1 hr with hr | hr
  ·exact hR r hr
  ·rw [List.mem_singleton.1 hr];exact hsw
 have hin : ∀ u,Cmb q A M n R u → Cmb q A M n (R++[sclL M (V (at0 w k)) w]) u:=fun u hu=>O.cmb_trans hM (fun r hr=>O.cmb_row hM (List.mem_append_left _ hr)) hu
 refine ⟨hw,BasL.snoc ?_ hb fun p hp=>?_,hM,hin,ho hM (fun r hr=>List.mem_append_left _ hr) ?_⟩
 ·rw [hs,O.fi.mc _ _ i0 i1 w0 w1,hi]
 ·rw [hs,hz p hp,O.fi.m0 i0 i1]
 ·have e : w = axp A M (at0 w k) (sclL M (V (at0 w k)) w) (zW n):=by
   refine wd_at_ext hw (O.fi.axw w0 w1 hsw (O.wz n)) fun j _=>?_
   obtain ⟨u0,u1⟩:=wd_at (show 0 < q by omega) hw j
   obtain ⟨m0,m1⟩:=O.fi.ml _ _ i0 i1 u0 u1
   obtain ⟨z0,z1⟩:=O.fi.ml _ _ w0 w1 m0 m1
   rw [O.axp_at w0 w1 hsw (O.wz n),at0_zW,hs,O.fi.ac 0 _ (Int.le_refl 0) (by omega) z0 z1,O.fi.a0 _ z0 z1,← O.fi.ma _ _ _ w0 w1 i0 i1 u0 u1,hi,O.fi.mc 1 _ (by omega) (by omega) u0 u1,O.fi.m1 _ u0 u1]
  exact (congrArg (Cmb q A M n (R++[sclL M (V (at0 w k)) w])) e).mpr (.add (List.mem_append_right _ (.head _)) w0 w1 .zero)
theorem FO.gr_ind {n : Nat} {col : Int → List Int} (hc : ∀ i,Wd q n (col i)) {most : Nat} : ∀ {o pre : List Int} {P : List Nat} {R : List (List Int)},most = pre.length + o.length → BasL P R → Mat q n R → Ind q A M n (pre.map col) → (∀ g ∈ pre.map col,Cmb q A M n R g) → (∀ u,Cmb q A M n R u → Cmb q A M n (pre.map col) u) →
  ((grL A M N V col most o P R pre).length = most ↔ Ind q A M n ((pre++o).map col))
 | [],pre,P,R,hm,_,_,hi,_,_=>by rw [grL,List.append_nil];exact ⟨fun _=>hi,fun _=>by simpa using hm.symm⟩
 | i::o,pre,P,R,hm,hb,hR,hi,hGR,hRG=>by
  have hG : Mat q n (pre.map col):=fun r hr=>by obtain ⟨j,_,rfl⟩:=List.mem_map.1 hr;exact hc j
  have hG2 : Mat q n (o.map col):=fun r hr=>by obtain ⟨j,_,rfl⟩:=List.mem_map.1 hr;exact hc j
  rw [List.length_cons] at hm
  rw [grL,if_neg (by omega)]
  split
  ·rename_i hk
   refine ⟨fun h=>?_,fun h=>?_⟩
   ·have:=grL_le (A:=A) (M:=M) (N:=N) (V:=V) (col:=col) (most:=most) (o:=o) (P:=P) (R:=R) (out:=pre)
    omega
   ·rw [List.map_append,List.map_cons] at h
    refine absurd h (O.ind_fail hG hG2 (hRG _ (O.rp_out hR (P:=P) (fun r hr=>hr) (hc i) ?_)))
    rw [fnz_neg (O.rp_wd (P:=P) hR (hc i)) hk]
    exact .zero
  ·rename_i hk
   obtain ⟨h1,h2,h3,h4,h5⟩:=O.bas_step hb hR (hc i) hk
   have h6:=O.ind_grow hG hR (hc i) hb hi hGR (fun h0=>by
    obtain ⟨k1,k2⟩:=fnz_pos hk
    rw [h0,at0_zW] at k2;exact k2 rfl)
   have hG3 : Mat q n (pre.map col++[col i]):=fun r hr=>by
    rcases List.mem_append.1 hr with hr | hr
    ·exact hG r hr
    ·rw [List.mem_singleton.1 hr];exact hc i
   have hR2 : Mat q n (R++[col i]):=fun r hr=>by
    rcases List.mem_append.1 hr with hr | hr
    ·exact hR r hr
    ·rw [List.mem_singleton.1 hr];exact hc i
   have hup : ∀ u,Cmb q A M n (pre.map col) u → Cmb q A M n (pre.map col++[col i]) u:=fun u hu=>O.cmb_trans hG3 (fun g hg=>O.cmb_row hG3 (List.mem_append_left _ hg)) hu
   have hcv : Cmb q A M n (pre.map col++[col i]) (rpF A M N P R (col i)):=by
    refine O.cmb_trans hG3 (fun r hr=>?_) (O.rp_in hR2 (P:=P) (R:=R) (fun r hr=>List.mem_append_left _ hr) (O.cmb_row hR2 (List.mem_append_right _ (.head _))))
    rcases List.mem_append.1 hr with hr | hr
    ·exact hup r (hRG r (O.cmb_row hR hr))
    ·rw [List.mem_singleton.1 hr];exact O.cmb_row hG3 (List.mem_append_right _ (.head _))
   obtain ⟨k1,k2⟩:=fnz_pos hk
   obtain ⟨w0,w1⟩:=wd_at (show 0 < q by have:=O.q2;omega) h1 (fnz (rpF A M N P R (col i))).toNat
   obtain ⟨⟨i0,i1⟩,_⟩:=O.iv _ w0 w1 k2
   have ih:=FO.gr_ind hc (most:=most) (o:=o) (pre:=pre++[i]) (P:=P++[(fnz (rpF A M N P R (col i))).toNat]) (R:=R++[sclL M (V (at0 (rpF A M N P R (col i)) (fnz (rpF A M N P R (col i))).toNat)) (rpF A M N P R (col i))]) (by rw [List.length_append,List.length_singleton];omega) h2 h3 (by rw [List.map_append];exact h6) (fun g hg=>by
    rw [List.map_append] at hg
    rcases List.mem_append.1 hg with hg | hg
    ·exact h4 g (hGR g hg)
    ·rw [List.mem_singleton.1 hg];exact h5) (fun u hu=>by
    rw [List.map_append]
    refine O.cmb_trans hG3 (fun r hr=>?_) hu
    rcases List.mem_append.1 hr with hr | hr
    ·exact hup r (hRG r (O.cmb_row hR hr))
    ·rw [List.mem_singleton.1 hr]
     exact O.cmb_scl hG3 i0 i1 hcv)
   rw [ih,List.append_assoc]
   rfl
end
open Go Go.Fw
set_option maxRecDepth 100000
set_option linter.unusedVariables false
set_option linter.unusedSimpArgs false
set_option maxHeartbeats 0
def exGo (f : List Int → List Int → List (List Int) → Option (List (List Int))) (s z : List Int) : List Int → List Int → List (List Int) → Option (List (List Int))
 | _,[],t=>some t
 | pre,i::r,t=>match f (s++[i]) (z++pre) t with
  | none=>none
  | some t'=>exGo f s z (pre++[i]) r t'
abbrev kidL (z set : List Int) : List Int:=set.filter fun i=>!decide (i ∈ z)
def exT (rt : List Int → List Int → Bool) : Nat → List Int → List Int → List (List Int) → Option (List (List Int))
 | _,_,_,[]=>none
 | 0,s,_,x::t=>if rt s x = true then some t else none
 | d + 1,s,z,x::t=>if rt s x = true then exGo (exT rt d) s z [] (kidL z x) t else none
def rgB (p m : Nat) (md : List Int) (N : Nat) (rows : List (List Int)) (k : Int) (s set : List Int) : Bool :=
 decide (stP N set) && !set.any (fun x=>decide (x ∈ s)) && decide ((cnP p m md set.length (rows.map fun r=>set.map fun j=>at0 r j.toNat)).2.length = set.length) && decide ((set.length : Int) = k)
section
variable {q : Nat} {A M : Int → Int → Int} {N V : Int → Int} (O : FO q A M N V)
omit O in
theorem col_keep {rows : List (List Int)} {set : List Int} {j : Nat} {r : List Int} (h : rows[j]? = some r) : colL (set.map fun i=>colL rows i.toNat) j = set.map fun i=>at0 r i.toNat:=by
 rw [colL,List.map_map]
 refine List.map_congr_left fun i _=>?_
 show at0 (colL rows i.toNat) j = _
 rw [at0,List.getD_eq_getElem?_getD,colL,List.getElem?_map,h];rfl
omit O in
theorem ind_keep {rows : List (List Int)} {set : List Int} : Ind q A M rows.length (set.map fun i=>colL rows i.toNat) ↔ ∀ x,Wd q set.length x → Sol A M (rows.map fun r=>set.map fun j=>at0 r j.toNat) x → x = zW set.length:=by
 rw [Ind,List.length_map]
 refine forall_congr' fun x=>forall_congr' fun hx=>imp_congr_left ⟨fun h r hr=>?_,fun h j hj=>?_⟩
 ·obtain ⟨u,hu,rfl⟩:=List.mem_map.1 hr
  obtain ⟨j,hj⟩:=List.getElem?_of_mem hu
  rw [← col_keep hj]
  exact h j (List.getElem?_eq_some_iff.1 hj).1
 ·rw [col_keep (List.getElem?_eq_getElem hj)]
  exact h _ (List.mem_map.2 ⟨_,List.getElem_mem hj,rfl⟩)
include O
theorem FO.gr_piv {c : Nat} {rows : List (List Int)} (hM : Mat q c rows) {set : List Int} : (grL A M N V (fun i=>colL rows i.toNat) set.length set [] [] []).length = set.length ↔ (cnE A M N V set.length (rows.map fun r=>set.map fun j=>at0 r j.toNat)).2.length = set.length:=by
 have hq:=O.q2
 have h:=O.gr_ind (n:=rows.length) (col:=fun i=>colL rows i.toNat) (fun i=>wd_col (by omega) hM i.toNat) (most:=set.length) (o:=set) (pre:=[]) (P:=[]) (R:=[]) (by simp) trivial (fun r hr=>by cases hr) (fun x hx _=>by rw [List.length_eq_zero_iff.1 hx.1];rfl) (fun g hg=>by cases hg) (fun u hu=>hu)
 rw [h,List.nil_append,ind_keep,O.piv_all]
 exact fun r hr=>by
  obtain ⟨u,hu,rfl⟩:=List.mem_map.1 hr
  refine ⟨List.length_map _,fun x hx=>?_⟩
  obtain ⟨j,_,rfl⟩:=List.mem_map.1 hx
  exact wd_at (by omega) (hM u hu) _
end
open Go Go.Fw
set_option maxRecDepth 100000
set_option linter.unusedVariables false
set_option linter.unusedSimpArgs false
set_option maxHeartbeats 0
theorem fok_fn {p m : Nat} {md : List Int} (K : Fok p m md) : FO (p ^ m) (liftI (fA p m)) (liftI (fM p (fpo m md))) (negI p m) (invI p m md):=fok_fo K
theorem st_len {n : Nat} {l : List Int} (h : stP n l) : l.length ≤ n:=by
 have h1 : (l.map Int.toNat).Nodup:=by
  rw [List.Nodup,List.pairwise_map]
  refine h.2.imp_of_mem fun {a b} ha hb hab e=>?_
  have:=(h.1 a ha).1;have:=(h.1 b hb).1
  omega
 have h2:=nodup_len h1 (l':=List.range n) fun x hx=>by
  obtain ⟨y,hy,rfl⟩:=List.mem_map.1 hx
  have:=h.1 y hy
  exact List.mem_range.2 (by omega)
 rwa [List.length_map,List.length_range] at h2
section
variable {p m : Nat} {md : List Int}
theorem S_field_GF__Sub {b ng cg ne ce nl cl : Nat} {pg pe pl : Option Addr} {x y : Int} (K : Fok p m md) (x0 : 0 ≤ x) (x1 : x < ((p ^ m : Nat) : Int)) (y0 : 0 ≤ y) (y1 : y < ((p ^ m : Nat) : Int)) :
  Ctr Tryz.prog 188 [.pointer (some ⟨b,0,none⟩),.int .i64 x,.int .i64 y] [] [gfC b p m (p ^ m) pg ng cg pe ne ce pl nl cl] (Rv (.int .i64 (liftI (fA p m) x (negI p m y))) []):=by
 refine Ctr_of_j' (F:=F_field_GF__Sub) rfl fun C=>?_
 have hq:=K.q
 have h2:=K.p2
 have h1:=K.m1
 obtain ⟨⟨n0,n1⟩,_⟩:=(fok_fn K).ng y y0 y1
 refine wk 99 (ct @S_field_GF__Neg (ct @S_field_GF__Add cz)) ?_
 exact ge
end
open Go Go.Fw
set_option maxRecDepth 100000
set_option linter.unusedVariables false
set_option linter.unusedSimpArgs false
set_option maxHeartbeats 0
theorem S_exclusion_basis__add_1 {x : Int} : Ctr Tryz.prog 189 [.int .i64 x] [] [] (Rv (.bool (!decide (x = 0))) []):=by
 refine Ctr_of_j' (F:=F_exclusion_basis__add_1) rfl fun C=>?_
 refine wk 5 cz ?_
 exact ge
abbrev basB (bb b : Nat) (rR rP : Row) (k : Nat) : Blk:=(some bb,195,[.pointer (some ⟨b,0,none⟩),.slice (ad rR.bo) k rR.cap,.slice (ad rP.bo) k rP.cap])
abbrev BaQ (bb b k : Nat) (t : Bool) (P : List Nat) (R : List (List Int)) : Value → List Fact → List Blk → Prop:=fun v Φ β=>∃ rR rP : Row,v = .bool t ∧ Φ = [rowF (encSl I64) rR k R,rowF I64 rP k (toI P)] ∧ β = [basB bb b rR rP k,(rR.bo,22,rR.cs),(rP.bo,3,rP.cs)]
theorem S_exclusion_basis__add {p m b ng cg ce cl bb n K : Nat} {pg pe pl : Option Addr} {md x : List Int} {R : List (List Int)} {P : List Nat} {rR rP r : Row} (KK : Fok p m md) (hR : Mat (p ^ m) n R) (hlen : R.length = P.length) (hK : P.length = K) (hPn : ∀ j ∈ P,j < n) (hn1 : 1 ≤ n) (hN : n ≤ 1000000) (hPl : K ≤ 1000000) (hx : Wd (p ^ m) n x) :
  Ctr Tryz.prog 182 [.pointer (some ⟨bb,0,none⟩),.slice (ad r.bo) n r.cap] [basB bb b rR rP K,(rR.bo,22,rR.cs),(rP.bo,3,rP.cs),(r.bo,3,r.cs)]
   [gfC b p m (p ^ m) pg ng cg pe (p ^ m - 1) ce pl (p ^ m) cl,slF I64 pe (p ^ m - 1) ce (exL p m md),slF I64 pl (p ^ m) cl (lgL p m md),rowF (encSl I64) rR K R,rowF I64 rP K (toI P),rowF I64 r n x]
   (fun v Φ β=>(fnz (rpF (liftI (fA p m)) (liftI (fM p (fpo m md))) (negI p m) P R x) < 0 → BaQ bb b K false P R v Φ β) ∧
    (¬ fnz (rpF (liftI (fA p m)) (liftI (fM p (fpo m md))) (negI p m) P R x) < 0 → BaQ bb b (K + 1) true (P++[(fnz (rpF (liftI (fA p m)) (liftI (fM p (fpo m md))) (negI p m) P R x)).toNat]) (R++[sclL (liftI (fM p (fpo m md))) (invI p m md (at0 (rpF (liftI (fA p m)) (liftI (fM p (fpo m md))) (negI p m) P R x) (fnz (rpF (liftI (fA p m)) (liftI (fM p (fpo m md))) (negI p m) P R x)).toNat)) (rpF (liftI (fA p m)) (liftI (fM p (fpo m md))) (negI p m) P R x)]) v Φ β)):=by
 refine Ctr_of_j' (F:=F_exclusion_basis__add) rfl fun C=>?_
 have O:=fok_fn KK
 have FF:=O.fi
 have hq:=KK.q
 have hq2:=O.q2
 subst hK
 have hxn:=hx.1
 have c_field_GF__Mul:=fun {b ng cg ce cl : Nat} {pg pe pl : Option Addr} {x y : Int}=>S_field_GF__Mul (b:=b) (ng:=ng) (cg:=cg) (ce:=ce) (cl:=cl) (pg:=pg) (pe:=pe) (pl:=pl) (x:=x) (y:=y) KK
 have c_field_GF__Sub:=fun {b ng cg ne ce nl cl : Nat} {pg pe pl : Option Addr} {x y : Int}=>S_field_GF__Sub (b:=b) (ng:=ng) (cg:=cg) (ne:=ne) (ce:=ce) (nl:=nl) (cl:=cl) (pg:=pg) (pe:=pe) (pl:=pl) (x:=x) (y:=y) KK
 have c_field_GF__Scale:=fun {b ng cg ce cl : Nat} {pg pe pl : Option Addr} {a : Int} {pu : Option Addr} {cu : Nat} {u : List Int} a0 a1 hu=>(S_field_GF__Scale (b:=b) (ng:=ng) (cg:=cg) (ce:=ce) (cl:=cl) (pg:=pg) (pe:=pe) (pl:=pl) (a:=a) (pu:=pu) (nu:=n) (cu:=cu) (u:=u) KK a0 a1 hu).pubR (by show n * 8 ≤ 140737488355328;omega)
 have c_field_GF__Inv : ∀ {b ng cg ce cl : Nat} {pg pe pl : Option Addr} {x : Int},0 < x → x < ((p ^ m : Nat) : Int) → Ctr Tryz.prog 167 [.pointer (some ⟨b,0,none⟩),.int .i64 x] [] [gfC b p m (p ^ m) pg ng cg pe (p ^ m - 1) ce pl (p ^ m) cl,slF I64 pe (p ^ m - 1) ce (exL p m md),slF I64 pl (p ^ m) cl (lgL p m md)] (Rv (.tuple #[.int .i64 (invI p m md x),.int .i64 0]) []):=fun {b ng cg ce cl : Nat} {pg pe pl : Option Addr} {x : Int}=>S_field_GF__Inv (b:=b) (ng:=ng) (cg:=cg) (ce:=ce) (cl:=cl) (pg:=pg) (pe:=pe) (pl:=pl) (x:=x) KK
 generalize invI p m md = V at *
 generalize liftI (fM p (fpo m md)) = M at *
 generalize liftI (fA p m) = A0 at *
 generalize negI p m = Ng at *
 refine wk 9 cz ?_
 refine j_rowB 5 rfl hn1 fun b9 cap9 cs9 hr=>?_
 subst hr
 refine j_loopG (X:=Nat × List Value) [0,1,4,16,17] [0,1,2,3,4,5] (fun x'=>[(18,.int .i64 (x'.1 : Int))]) (fun x'=>[basB bb b rR rP P.length,(rR.bo,22,rR.cs),(rP.bo,3,rP.cs),(some b9,3,x'.2)])
  (fun x'=>[rowF I64 ⟨some b9,cap9,x'.2⟩ n (rpF A0 M Ng (P.take x'.1) (R.take x'.1) x)]) (fun x'=>x'.1 ≤ P.length) (fun x'=>P.length - x'.1) (0,cs9) [5] rfl rfl rfl (Nat.zero_le _) (by repeat (first | exact Fr.sub_nil _ | refine Fr.sub_cons rfl ?_)) rfl rfl ?_
 rintro ⟨i,cs⟩ hi ih
 simp only [List.cons_append,List.nil_append] at hi ih ⊢
 have hL:=O.rp_wd (P:=P.take i) (R:=R.take i) (fun r hr=>hR r (List.mem_of_mem_take hr)) hx
 by_cases hil : i < P.length
 ·obtain ⟨pi,hpi⟩ : ∃ pi,P[i]? = some pi:=⟨_,List.getElem?_eq_getElem hil⟩
  obtain ⟨ri,at_r⟩ : ∃ ri,R[i]? = some ri:=⟨_,List.getElem?_eq_getElem (by omega)⟩
  have at_p : (toI P)[i]? = some (pi : Int):=toI_at hpi
  have hpn:=hPn pi (List.mem_of_getElem? hpi)
  have hri:=hR ri (List.mem_of_getElem? at_r)
  have hst : rpF A0 M Ng (P.take (i + 1)) (R.take (i + 1)) x = axp A0 M (Ng (at0 (rpF A0 M Ng (P.take i) (R.take i) x) pi)) ri (rpF A0 M Ng (P.take i) (R.take i) x):=by
   rw [List.take_add_one,List.take_add_one,hpi,at_r]
   exact rpF_snoc (by rw [List.length_take,List.length_take,hlen])
  have ih':=fun cs=>ih (i + 1,cs) (by dsimp only;omega) (by dsimp only;omega)
  dsimp only at ih'
  simp only [hst] at ih'
  generalize rpF A0 M Ng (P.take i) (R.take i) x = L at *
  have at_y : L[pi]? = some (at0 L pi):=by rw [at0,List.getD_eq_getElem?_getD,List.getElem?_eq_getElem (by rw [hL.1];exact hpn)];rfl
  obtain ⟨y0,y1⟩:=wd_at (by omega) hL pi
  generalize at0 L pi = y at *
  obtain ⟨⟨n0,n1⟩,_⟩:=O.ng y y0 y1
  by_cases hy : y = 0
  ·have e0 : axp A0 M (Ng y) ri L = L:=by rw [hy,O.n0];exact O.axp0 hri hL
   rw [e0] at ih'
   refine wk 6 cz ?_
   intro h1
   refine j_rowB 4 rfl (by omega) fun b1 cap1 cs1 hr1=>?_
   subst hr1
   dsimp only
   refine wk 1 cz ?_
   refine j_step rfl (x_ldR_sl 1 4 (i) rfl rfl rfl ld22 rfl (by omega) fun z1 hz1 pa1 ca1=>?_)
   obtain rfl : _ = z1:=Option.some.inj (at_r.symm.trans hz1)
   refine wk 4 cz ?_
   refine j_step rfl (x_bld 0 rfl rfl ld22 rfl ?_)
   refine wk 1 cz ?_
   refine j_rowB 6 rfl (by omega) fun b2 cap2 cs2 hr1=>?_
   subst hr1
   dsimp only
   refine wk 1 cz ?_
   refine j_step rfl (x_ldR_int 2 6 (i) rfl rfl rfl ld3 rfl (by assumption) fun hr1=>?_)
   refine wk 1 cz ?_
   refine j_step rfl (x_ldR_int 3 1 (pi) rfl rfl rfl ld3 rfl (by assumption) fun hr2=>?_)
   refine wk 8 cz ?_
   intro h2
   exact tw (ih' cs)
  ·obtain ⟨hax0,hax1⟩ : Wd (p ^ m) n (axp A0 M (Ng y) ri L):=FF.axw n0 n1 hri hL
   have hLl:=hL.1
   have hrl:=hri.1
   refine wk 6 cz ?_
   intro h1
   refine j_rowB 4 rfl (by omega) fun b1 cap1 cs1 hr1=>?_
   subst hr1
   dsimp only
   refine wk 1 cz ?_
   refine j_step rfl (x_ldR_sl 1 4 (i) rfl rfl rfl ld22 rfl (by omega) fun z1 hz1 pa1 ca1=>?_)
   obtain rfl : _ = z1:=Option.some.inj (at_r.symm.trans hz1)
   refine wk 4 cz ?_
   refine j_step rfl (x_bld 0 rfl rfl ld22 rfl ?_)
   refine wk 1 cz ?_
   refine j_rowB 6 rfl (by omega) fun b2 cap2 cs2 hr1=>?_
   subst hr1
   dsimp only
   refine wk 1 cz ?_
   refine j_step rfl (x_ldR_int 2 6 (i) rfl rfl rfl ld3 rfl (by assumption) fun hr1=>?_)
   refine wk 1 cz ?_
   refine j_step rfl (x_ldR_int 3 1 (pi) rfl rfl rfl ld3 rfl (by assumption) fun hr2=>?_)
   refine wk 10 cz ?_
   intro h2
   refine j_loopG (X:=Nat × List Value) [0,1,4,5,6,7,16,17,18,19,20,21,22,23,24,25,26,27,28,29,30,31,32,33,34,35,36] [0,1,2,3,4,5,6,7] (fun z=>[(37,.int .i64 (z.1 : Int))]) (fun z=>[basB bb b ⟨some b1,cap1,cs1⟩ ⟨some b2,cap2,cs2⟩ P.length,(some b1,22,cs1),(some b2,3,cs2),(some b9,3,z.2)]) (fun z=>[rowF I64 ⟨some b9,cap9,z.2⟩ n ((axp A0 M (Ng y) ri L).take z.1++L.drop z.1)]) (fun z=>z.1 ≤ n) (fun z=>n - z.1) (0,cs) [1] rfl rfl rfl (Nat.zero_le _) (by repeat (first | exact Fr.sub_nil _ | refine Fr.sub_cons rfl ?_)) rfl rfl ?_
   rintro ⟨j,cs⟩ hj ihj
   simp only [List.cons_append,List.nil_append] at hj ihj ⊢
   by_cases hjl : j < n
   ·obtain ⟨z,at_z⟩ : ∃ z,ri[j]? = some z:=⟨_,List.getElem?_eq_getElem (by omega)⟩
    obtain ⟨u,hu⟩ : ∃ u,L[j]? = some u:=⟨_,List.getElem?_eq_getElem (by omega)⟩
    obtain ⟨z0,z1⟩:=hri.2 z (List.mem_of_getElem? at_z)
    obtain ⟨u0,u1⟩:=hL.2 u (List.mem_of_getElem? hu)
    obtain ⟨m0,m1⟩:=FF.ml y z y0 y1 z0 z1
    have hT : (axp A0 M (Ng y) ri L)[j]? = some (A0 u (Ng (M y z))):=by rw [axp,List.getElem?_zipWith,hu,at_z,O.ng_mul y0 y1 z0 z1]
    have hLj:=(mixI_at hax0 hL.1 hjl).trans hu
    have hset:=mixI_set hax0 hL.1 hjl hT
    have hLl : ((axp A0 M (Ng y) ri L).take j++L.drop j).length = n:=by rw [List.length_append,List.length_take,List.length_drop];omega
    have ihj':=fun cs=>ihj (j + 1,cs) (by dsimp only;omega) (by dsimp only;omega)
    dsimp only at ihj'
    rw [← hset] at ihj'
    generalize (axp A0 M (Ng y) ri L).take j++L.drop j = L2 at *
    obtain ⟨⟨g0,g1⟩,_⟩:=O.ng _ m0 m1
    obtain ⟨a0,a1⟩:=FF.al u _ u0 u1 g0 g1
    refine wk 6 cz ?_
    intro h3
    refine j_step rfl (x_idx 1 (j) rfl rfl rfl sl22 rfl (by omega) fun z2 hz2 b3 o1=>?_)
    obtain rfl : _ = z2:=Option.some.inj (at_z.symm.trans hz2)
    refine j_step rfl (x_ld_int 0 rfl rfl ld3 fun ⟨r1,r2⟩=>?_)
    refine wk 2 cz ?_
    (apply j_drawK it mx 18;(· rfl);(· rfl))
    (apply lxk_run 4;(· rfl);(· simp))
    (apply lxk_eq;(· rfl);(· exact d_x fun _=>x_field rfl fd195_0 dk_eq))
    (apply lxk_eq;(· rfl);(· exact d_bld 0 rfl rfl ld76 rfl))
    (apply lxk_run 2;(· rfl);(· simp))
    (apply lxk_eq;(· rfl);(· exact d_x fun _=>x_idx_own (j) (j) rfl rfl sl22 rfl (by omega) (Nat.mul_one _) dk_eq))
    (apply lxk_eq;(· rfl);(· exact d_ldR_int 3 1 (j) rfl rfl rfl ld3 rfl (by assumption)))
    (apply lxk_run 2;(· rfl);(· simp))
    (apply lxk_eq;(· rfl);(· exact d_x fun _=>x_field rfl fd195_0 dk_eq))
    (apply lxk_eq;(· rfl);(· exact d_bld 0 rfl rfl ld76 rfl))
    (apply lxk_run 2;(· rfl);(· simp))
    (apply lxk_eq;(· rfl);(· exact d_x fun _=>x_call [4,5,6] rfl (c_field_GF__Mul (by omega) (by omega) (by omega) (by omega)) rfl (by rintro _ _ _ ⟨rfl,rfl,rfl⟩;exact dk_eq)))
    (apply lxk_eq;(· rfl);(· exact d_x fun _=>x_call [4] rfl (c_field_GF__Sub (by omega) (by omega) (by omega) (by omega)) rfl (by rintro _ _ _ ⟨rfl,rfl,rfl⟩;exact dk_eq)))
    refine lxk_end rfl ?_
    simp only [List.map_cons,List.map_nil,List.cons_append,List.nil_append]
    refine wk 1 cz ?_
    refine j_step rfl (x_stR (vs:=[Value.int IntKind.i64 (A0 u (Ng (M y z)))]) (z:=(A0 u (Ng (M y z)) : Int)) 3 1 (j) rfl rfl rfl rfl rfl ld3 (Nat.mul_one _).symm (by omega) (fun w A hG=>(rd_int (by first | (simp only [InR];omega) | (simp [InR];done)))) fun cs3=>?_)
    refine wk 3 cz ?_
    exact tw (ihj' cs3)
   ·obtain rfl : n = j:=by omega
    rw [List.take_of_length_le (by omega),List.drop_of_length_le (by omega),List.append_nil]
    refine wk 7 cz ?_
    intro h3
    exact tw (ih' cs)
 ·obtain rfl : i = P.length:=by omega
  rw [List.take_length,← hlen,List.take_length] at *
  generalize rpF A0 M Ng P R x = L at *
  have hLl:=hL.1
  refine j_pubR 3 0 rfl rfl (by show n * 8 ≤ 140737488355328;omega) ?_
  refine j_conj [] rfl ?_
  have c_slices_IndexFunc___int_int_ : ∀ {ps : Option Addr} {c : Nat},Ctr Tryz.prog 80 [.slice ps n c,.func (.func 189) #[] #[]] [] [slF I64 ps n c L,conjF []] (Rv (.int .i64 (fnz L)) []):=fun {ps : Option Addr} {c : Nat}=>S_slices_IndexFunc___int_int_ (f:=189) (caps:=[]) (g:=conjF []) (p:=fun x=>!decide (x = 0)) (ps:=ps) (n:=n) (c:=c) (l:=L) fun x _=>S_exclusion_basis__add_1.conj
  by_cases h : fnz L < 0
  ·refine wk 15 (ct @c_slices_IndexFunc___int_int_ cz) ?_
   intro h1 h2
   refine j_givK 3 [0,1,2] [6,7] rfl (.tmp rfl .nil) rfl rfl rfl ⟨fun _=>⟨rR,rP,rfl,rfl,rfl⟩,fun h1=>absurd h h1⟩
  ·obtain ⟨k1,k2⟩:=fnz_pos h
   obtain ⟨k,hk⟩:=Int.eq_ofNat_of_zero_le (Int.not_lt.1 h)
   simp only [hk,Int.toNat_natCast] at k1 k2 c_slices_IndexFunc___int_int_ ⊢
   obtain ⟨y0,y1⟩:=wd_at (by omega) hL k
   obtain ⟨⟨v0,v1⟩,hiv⟩:=O.iv _ y0 y1 k2
   have y2 : 0 < at0 L k:=by omega
   rw [show at0 L k = L.getD k default from rfl] at *
   have hu:=hL.2
   refine wk 16 (ct @c_slices_IndexFunc___int_int_ (ct @c_field_GF__Inv cz)) ?_
   intro h1 h2 b1 o1
   (refine j_selB [1,0,2] rfl rfl ?_;apply j_drawKB it mx 1 15;(· rfl);(· rfl);(· rfl))
   (apply lxk_run 3;(· rfl);(· simp))
   (apply lxk_eq;(· rfl);(· exact d_x fun _=>x_field rfl fd195_1 dk_eq))
   (apply lxk_eq;(· rfl);(· exact d_bld 0 rfl rfl ld25 rfl))
   (apply lxk_run 2;(· rfl);(· simp))
   (apply lxk_eq;(· rfl);(· exact d_x fun _=>x_field rfl fd195_0 dk_eq))
   (apply lxk_eq;(· rfl);(· exact d_bld 0 rfl rfl ld76 rfl))
   (apply lxk_run 2;(· rfl);(· simp))
   (apply lxk_sl;(· rfl);(· exact d_x fun _=>x_call [4,5,6,2] rfl (c_field_GF__Scale (by omega) (by omega) (by omega)) rfl (by rintro _ _ _ ⟨pa1,ca1,rfl,rfl,rfl⟩;exact (dk_sl 0 rfl)));intro pa1 ca1)
   (apply lxk_sl;(· rfl);(· exact d_x fun _=>x_lit sl25 zo25e rfl rfl rfl rfl (by decide) (by decide) rfl fun b2=>dk_all (E:=(encSl (I64))) [[Value.slice pa1 n ca1]] [sclL M (V (L.getD k default)) L] (fun w A hG=>(allrd_cons (rd_of_slF (hG _ (fact_mem (n:=0) rfl))) allrd_nil)) rfl rfl rfl (by first | decide | exact Nat.le_of_ble_eq_true rfl));intro pa2 ca2)
   (apply lxk_app (m:=1) 9 0;(· rfl);(· rfl);(· rfl);(· rfl);(· rfl);(· exact sl25);(· exact zo25e);(· rfl);(· (first | omega | (simp;done)));(· (first | omega | (simp only [List.length_cons,List.length_nil];omega)));(· exact by25e);(· (first | omega | (simp only [List.length_cons,List.length_nil];omega)));intro b2 cap1 cs1)
   (apply lxk_run 1;(· rfl);(· simp))
   refine lxk_end rfl ?_
   simp only [List.map_cons,List.map_nil,List.cons_append,List.nil_append]
   refine wk 8 cz ?_
   intro b3
   refine j_step rfl (x_appR (z:=(↑k : Int)) 3 0 11 rfl rfl rfl rfl rfl sl22 zo22e rfl (fun w A hG=>(rd_int (by first | (simp only [InR];omega) | (simp [InR];done)))) (by omega) _ by22e (by omega) fun r1=>?_)
   refine wk 6 cz ?_
   have eP : toI (P++[k]) = toI P++[(k : Int)]:=List.map_append
   refine j_givK 4 [3,2,0] [1,0] rfl (.tmp rfl .nil) rfl rfl rfl ⟨fun h1=>absurd h1 (by omega),fun _=>⟨⟨some b2,cap1,cs1⟩,r1,rfl,by rw [eP],rfl⟩⟩
abbrev prB (bp b p m N nm cm ns cs ny cy nt ct : Nat) (pm ps py pt : Option Addr) (co : Bool) (Mo w ap : Int) : Blk:=(some bp,157,[.pointer (some ⟨b,0,none⟩),.int .i64 p,.int .i64 m,.slice pm nm cm,.int .i64 N,.slice ps ns cs,.slice py ny cy,.bool co,.int .i64 Mo,.int .i64 w,.slice pt nt ct,.int .i64 ap])
section
variable {p m N b bp nm cm ns cs ny cy nt ct : Nat} {pm ps py pt : Option Addr} {co : Bool} {Mo w ap : Int} {md : List Int} {rows : List (List Int)}
theorem S_exclusion_proof__column {x : Nat} (K : Fok p m md) (hM : Mat (p ^ m) N rows) (hx : x < N) (hr : rows.length ≤ 1000000) :
  Ctr Tryz.prog 183 [.pointer (some ⟨bp,0,none⟩),.int .i64 x] [prB bp b p m N nm cm ns cs ny cy nt ct pm ps py pt co Mo w ap] [slF (encSl I64) ps ns cs rows]
   (fun v Φ β=>∃ r : Row,v = .slice (ad r.bo) rows.length r.cap ∧ Φ = [rowF I64 r rows.length (colL rows x)] ∧ β = [prB bp b p m N nm cm ns cs ny cy nt ct pm ps py pt co Mo w ap,(r.bo,3,r.cs)]):=by
 refine Ctr_of_j' (F:=F_exclusion_proof__column) rfl fun C=>?_
 refine j_len 0 rfl fun hn hb _=>?_
 subst hn
 have hq:=K.q
 have hq2:=(fok_fn K).q2
 have hcW:=wd_col (show 0 < p ^ m by omega) hM x
 have hTl : (colL rows x).length = rows.length:=List.length_map _
 have hTa : ∀ (k : Nat) (u : List Int),rows[k]? = some u → (colL rows x)[k]? = some (at0 u x):=fun k u h=>by rw [colL,List.getElem?_map,h];rfl
 have hTr : ∀ z ∈ colL rows x,InR .i64 z:=fun z hz=>by
  have:=hcW.2 z hz
  simp only [InR];omega
 refine wk 18 cz ?_
 intro b1
 rw [show natCells .i64 (List.replicate rows.length 0) = intCells .i64 ((colL rows x).take 0++List.replicate (rows.length - 0) 0) by simp [natCells,intCells]]
 refine j_loopG (X:=Nat) [1,4,5,19,20] [0] (fun k=>[(21,.int .i64 (k : Int))]) (fun k=>[(some b1,3,intCells .i64 ((colL rows x).take k++List.replicate (rows.length - k) 0)),prB bp b p m N nm cm rows.length cs ny cy nt ct pm ps py pt co Mo w ap]) (fun _=>[]) (fun k=>k ≤ rows.length) (fun k=>rows.length - k) 0 [] rfl rfl rfl (Nat.zero_le _) (by repeat (first | exact Fr.sub_nil _ | refine Fr.sub_cons rfl ?_)) rfl rfl ?_
 rintro k hk ihk
 simp only [List.cons_append,List.nil_append] at hk ihk ⊢
 by_cases h8 : k < rows.length
 ·obtain ⟨u,at_x⟩ : ∃ u,rows[k]? = some u:=⟨_,List.getElem?_eq_getElem h8⟩
  have hxl:=(hM u (List.mem_of_getElem? at_x)).1
  have hT:=hTa k u at_x
  have at_y : u[x]? = some (at0 u x):=by
   rw [at0,List.getD_eq_getElem?_getD,List.getElem?_eq_getElem (by omega)];rfl
  have ih':=ihk (k + 1) (by omega) (by omega)
  rw [← take_set hT h8] at ih'
  have hln : ((colL rows x).take k++List.replicate (rows.length - k) 0).length = rows.length:=by rw [List.length_append,List.length_take,List.length_replicate];omega
  generalize (colL rows x).take k++List.replicate (rows.length - k) 0 = L at *
  refine wk 12 cz ?_
  intro h1 b2 o1 hz1 pa1 ca1 b3 o2 hz2
  refine j_step rfl (x_ld_int 0 rfl rfl ld3 fun ⟨r1,r2⟩=>?_)
  refine wk 5 cz ?_
  exact tw (ih')
 ·obtain rfl : k = rows.length:=by omega
  rw [Nat.sub_self,List.replicate_zero,List.append_nil,List.take_of_length_le (by omega)]
  clear ihk
  refine wk 3 cz ?_
  refine j_rowInt 0 rfl hTl.symm hTr (by omega) ?_
  refine wk 4 cz ?_
  intro h1
  refine j_givK 2 [1,0] [0] rfl (.tmp rfl .nil) rfl rfl rfl ⟨⟨some b1,rows.length,intCells .i64 (colL rows x)⟩,rfl,rfl,rfl⟩
theorem S_ba_no {ng cg ce cl bb n k : Nat} {pg pe pl : Option Addr} {x : List Int} {R : List (List Int)} {P : List Nat} {rR rP r : Row} (K : Fok p m md) (hR : Mat (p ^ m) n R) (hlen : R.length = P.length) (hK : P.length = k) (hPn : ∀ j ∈ P,j < n) (hn1 : 1 ≤ n) (hN : n ≤ 1000000) (hPl : k ≤ 1000000) (hx : Wd (p ^ m) n x) (h : fnz (rpF (liftI (fA p m)) (liftI (fM p (fpo m md))) (negI p m) P R x) < 0) :
  Ctr Tryz.prog 182 [.pointer (some ⟨bb,0,none⟩),.slice (ad r.bo) n r.cap] [basB bb b rR rP k,(rR.bo,22,rR.cs),(rP.bo,3,rP.cs),(r.bo,3,r.cs)]
   [gfC b p m (p ^ m) pg ng cg pe (p ^ m - 1) ce pl (p ^ m) cl,slF I64 pe (p ^ m - 1) ce (exL p m md),slF I64 pl (p ^ m) cl (lgL p m md),rowF (encSl I64) rR k R,rowF I64 rP k (toI P),rowF I64 r n x] (BaQ bb b k false P R) :=
 (S_exclusion_basis__add K hR hlen hK hPn hn1 hN hPl hx).mono fun C w v Φ β' hQ hO hF=>⟨_,_,hQ.1 h,hO,hF⟩
theorem S_ba_yes {ng cg ce cl bb n k : Nat} {pg pe pl : Option Addr} {x : List Int} {R : List (List Int)} {P : List Nat} {rR rP r : Row} (K : Fok p m md) (hR : Mat (p ^ m) n R) (hlen : R.length = P.length) (hK : P.length = k) (hPn : ∀ j ∈ P,j < n) (hn1 : 1 ≤ n) (hN : n ≤ 1000000) (hPl : k ≤ 1000000) (hx : Wd (p ^ m) n x) {w : List Int} (hw : rpF (liftI (fA p m)) (liftI (fM p (fpo m md))) (negI p m) P R x = w) (h : ¬ fnz w < 0) :
  Ctr Tryz.prog 182 [.pointer (some ⟨bb,0,none⟩),.slice (ad r.bo) n r.cap] [basB bb b rR rP k,(rR.bo,22,rR.cs),(rP.bo,3,rP.cs),(r.bo,3,r.cs)]
   [gfC b p m (p ^ m) pg ng cg pe (p ^ m - 1) ce pl (p ^ m) cl,slF I64 pe (p ^ m - 1) ce (exL p m md),slF I64 pl (p ^ m) cl (lgL p m md),rowF (encSl I64) rR k R,rowF I64 rP k (toI P),rowF I64 r n x] (BaQ bb b (k + 1) true (P++[(fnz w).toNat]) (R++[sclL (liftI (fM p (fpo m md))) (invI p m md (at0 w (fnz w).toNat)) w])) :=
 (S_exclusion_basis__add K hR hlen hK hPn hn1 hN hPl hx).mono fun C w v Φ β' hQ hO hF=>⟨_,_,by subst hw;exact hQ.2 h,hO,hF⟩
abbrev grP (p m : Nat) (md : List Int) (rows : List (List Int)) (most : Nat) (o : List Int) (P : List Nat) (R : List (List Int)) (out : List Int) : List Int:=grL (liftI (fA p m)) (liftI (fM p (fpo m md))) (negI p m) (invI p m md) (fun i=>colL rows i.toNat) most o P R out
theorem S_exclusion_proof__greedy {ng cg ce cl most no co' : Nat} {pg pe pl po : Option Addr} {o : List Int} (K : Fok p m md) (hM : Mat (p ^ m) N rows) (hr1 : 1 ≤ rows.length) (hr : rows.length ≤ 1000000) (ho : ∀ x ∈ o,0 ≤ x ∧ x < (N : Int)) (hol : o.length ≤ 1000) (hmo : most ≤ 1000000) :
  Ctr Tryz.prog 171 [.pointer (some ⟨bp,0,none⟩),.slice po no co',.int .i64 most] [prB bp b p m N nm cm ns cs ny cy nt ct pm ps py pt co Mo w ap] [slF (encSl I64) ps ns cs rows,gfC b p m (p ^ m) pg ng cg pe (p ^ m - 1) ce pl (p ^ m) cl,slF I64 pe (p ^ m - 1) ce (exL p m md),slF I64 pl (p ^ m) cl (lgL p m md),slF I64 po no co' o]
   (fun v Φ β=>∃ r : Row,v = .slice (ad r.bo) (grP p m md rows most o [] [] []).length r.cap ∧ Φ = [rowF I64 r (grP p m md rows most o [] [] []).length (grP p m md rows most o [] [] [])] ∧ β = [prB bp b p m N nm cm ns cs ny cy nt ct pm ps py pt co Mo w ap,(r.bo,3,r.cs)]):=by
 refine Ctr_of_j' (F:=F_exclusion_proof__greedy) rfl fun C=>?_
 refine j_len 4 rfl fun hn hb _=>?_
 subst hn
 have O:=fok_fn K
 have hq:=K.q
 have hq2:=O.q2
 have c_exclusion_proof__column:=fun {x : Nat}=>S_exclusion_proof__column (p:=p) (m:=m) (N:=N) (b:=b) (bp:=bp) (nm:=nm) (cm:=cm) (ns:=ns) (cs:=cs) (ny:=ny) (cy:=cy) (nt:=nt) (ct:=ct) (pm:=pm) (ps:=ps) (py:=py) (pt:=pt) (co:=co) (Mo:=Mo) (w:=w) (ap:=ap) (rows:=rows) (x:=x) K hM
 refine wk 16 cz ?_
 intro b1
 refine j_row0 I64 3 ?_
 refine j_row0 I64 3 ?_
 refine j_row0 (encSl I64) 22 ?_
 refine j_loopG (X:=Nat × Row × Row × Row × List Nat × List (List Int) × List Int) [0,2,6,7,17,18] [0,1,2,3,4,5,6,7] (fun z=>[(19,.int .i64 (z.1 : Int)),(8,.slice (ad z.2.2.2.1.bo) z.2.2.2.2.2.2.length z.2.2.2.1.cap)])
  (fun z=>[(z.2.1.bo,22,z.2.1.cs),(z.2.2.1.bo,3,z.2.2.1.cs),(z.2.2.2.1.bo,3,z.2.2.2.1.cs),basB b1 b z.2.1 z.2.2.1 z.2.2.2.2.1.length,prB bp b p m N nm cm ns cs ny cy nt ct pm ps py pt co Mo w ap])
  (fun z=>[rowF (encSl I64) z.2.1 z.2.2.2.2.1.length z.2.2.2.2.2.1,rowF I64 z.2.2.1 z.2.2.2.2.1.length (toI z.2.2.2.2.1),rowF I64 z.2.2.2.1 z.2.2.2.2.2.2.length z.2.2.2.2.2.2])
  (fun z=>z.1 ≤ o.length ∧ Mat (p ^ m) rows.length z.2.2.2.2.2.1 ∧ z.2.2.2.2.2.1.length = z.2.2.2.2.1.length ∧ (∀ j ∈ z.2.2.2.2.1,j < rows.length) ∧ z.2.2.2.2.1.length ≤ z.1 ∧ z.2.2.2.2.2.2.length ≤ z.1 ∧ grP p m md rows most (o.drop z.1) z.2.2.2.2.1 z.2.2.2.2.2.1 z.2.2.2.2.2.2 = grP p m md rows most o [] [] []) (fun z=>o.length - z.1) (0,⟨none,0,[]⟩,⟨none,0,[]⟩,⟨none,0,[]⟩,[],[],[]) [0,1,2] rfl rfl rfl (by dsimp only;exact ⟨Nat.zero_le _,(show Mat (p ^ m) rows.length [] from fun r hr=>absurd hr List.not_mem_nil),rfl,(fun j hj=>absurd hj List.not_mem_nil),Nat.le_refl _,Nat.le_refl _,rfl⟩) (by repeat (first | exact Fr.sub_nil _ | refine Fr.sub_cons rfl ?_)) rfl rfl ?_
 rintro ⟨i,rR,rP,r,P,R,out⟩ ⟨hi,hR,hlen,hPn,hPi,hoi,hg⟩ ih
 simp only [List.cons_append,List.nil_append] at hi hR hlen hPn hPi hoi hg ih ⊢
 by_cases hil : i < o.length
 ·obtain ⟨x,at_x⟩ : ∃ x,o[i]? = some x:=⟨_,List.getElem?_eq_getElem hil⟩
  obtain ⟨x0,x1⟩:=ho x (List.mem_of_getElem? at_x)
  obtain ⟨x,rfl⟩:=Int.eq_ofNat_of_zero_le x0
  have hcW:=wd_col (show 0 < p ^ m by omega) hM x
  have e3 : o.drop i = (x : Int)::o.drop (i + 1):=by
   rw [List.drop_eq_getElem_cons hil];rw [List.getElem?_eq_getElem hil] at at_x;rw [Option.some.inj at_x]
  rw [e3] at hg
  by_cases hm : out.length = most
  ·rw [← hg,show grP p m md rows most ((x : Int)::o.drop (i + 1)) P R out = out by rw [grP,grL,if_pos hm]]
   refine wk 6 cz ?_
   intro h1 b2 o1 hz1
   refine j_step rfl (x_ld_int 0 rfl rfl ld3 fun ⟨r1,r2⟩=>?_)
   refine wk 10 cz ?_
   intro h2
   refine j_givK 5 [4,2] [3] rfl (.tmp rfl .nil) rfl rfl rfl ⟨r,rfl,rfl,rfl⟩
  ·rw [grP,grL,if_neg hm,Int.toNat_natCast] at hg
   have hrw:=O.rp_wd (P:=P) (R:=R) hR hcW
   obtain ⟨w0,hw0⟩ : ∃ w0,rpF (liftI (fA p m)) (liftI (fM p (fpo m md))) (negI p m) P R (colL rows x) = w0:=⟨_,rfl⟩
   rw [hw0] at hg hrw
   by_cases hf : fnz w0 < 0
   ·rw [if_pos hf] at hg
    have c_exclusion_basis__add:=fun {ng cg ce cl bb : Nat} {pg pe pl : Option Addr} {rR rP r : Row}=>S_ba_no (b:=b) (ng:=ng) (cg:=cg) (ce:=ce) (cl:=cl) (bb:=bb) (pg:=pg) (pe:=pe) (pl:=pl) (rR:=rR) (rP:=rP) (r:=r) K hR hlen rfl hPn hr1 hr (by omega) hcW (by rw [hw0];exact hf)
    have ih':=fun rR rP=>ih (i + 1,rR,rP,r,P,R,out) (by dsimp only;omega) (by dsimp only;exact ⟨by omega,hR,hlen,hPn,by omega,by omega,hg⟩)
    dsimp only at ih'
    refine wk 6 cz ?_
    intro h1 b2 o1 hz1
    refine j_step rfl (x_ld_int 0 rfl rfl ld3 fun ⟨r1,r2⟩=>?_)
    refine wk 9 cz ?_
    intro h2
    refine j_step rfl (x_callB 4 [7] rfl rfl (c_exclusion_proof__column (by omega) (by omega)) rfl ?_)
    rintro _ _ _ ⟨r3,rfl,rfl,rfl⟩
    simp only [List.cons_append,List.nil_append]
    refine j_selB [5,2,3,1,0,4] rfl rfl ?_
    refine j_step rfl (x_callN 4 [9,10,11,2,3,0] rfl rfl (c_exclusion_basis__add) rfl ?_)
    rintro _ _ _ ⟨rR1,rP1,rfl,rfl,rfl⟩
    simp only [List.cons_append,List.nil_append]
    refine wk 5 cz ?_
    refine j_selT 5 [1,2,4,0,3] rfl rfl ?_
    exact tw (ih' rR1 rP1)
   ·rw [if_neg hf] at hg
    have c_exclusion_basis__add:=fun {ng cg ce cl bb : Nat} {pg pe pl : Option Addr} {rR rP r : Row}=>S_ba_yes (b:=b) (ng:=ng) (cg:=cg) (ce:=ce) (cl:=cl) (bb:=bb) (pg:=pg) (pe:=pe) (pl:=pl) (rR:=rR) (rP:=rP) (r:=r) K hR hlen rfl hPn hr1 hr (by omega) hcW hw0 hf
    have hst:=fnz_pos hf
    have hvi:=O.iv _ (wd_at (by omega) hrw (fnz w0).toNat).1 (wd_at (by omega) hrw (fnz w0).toNat).2 hst.2
    have hR' : Mat (p ^ m) rows.length (R++[sclL (liftI (fM p (fpo m md))) (invI p m md (at0 w0 (fnz w0).toNat)) w0]):=fun u hu=>by
     rcases List.mem_append.1 hu with hu | hu
     ·exact hR u hu
     ·rw [List.mem_singleton.1 hu];exact O.scl_wd hvi.1.1 hvi.1.2 hrw
    have hPn' : ∀ j ∈ P++[(fnz w0).toNat],j < rows.length:=fun j hj=>by
     rcases List.mem_append.1 hj with hj | hj
     ·exact hPn j hj
     ·rw [List.mem_singleton.1 hj];have:=hrw.1;omega
    have ih':=fun rR rP r=>ih (i + 1,rR,rP,r,P++[(fnz w0).toNat],R++[sclL (liftI (fM p (fpo m md))) (invI p m md (at0 w0 (fnz w0).toNat)) w0],out++[(x : Int)]) (by dsimp only;omega) (by dsimp only;refine ⟨by omega,hR',by rw [List.length_append,List.length_append,hlen];rfl,hPn',by rw [List.length_append];exact Nat.add_le_add_right hPi 1,by rw [List.length_append];exact Nat.add_le_add_right hoi 1,hg⟩)
    dsimp only at ih'
    simp only [List.length_append,List.length_singleton] at ih'
    refine wk 6 cz ?_
    intro h1 b2 o1 hz1
    refine j_step rfl (x_ld_int 0 rfl rfl ld3 fun ⟨r1,r2⟩=>?_)
    refine wk 9 cz ?_
    intro h2
    refine j_step rfl (x_callB 4 [7] rfl rfl (c_exclusion_proof__column (by omega) (by omega)) rfl ?_)
    rintro _ _ _ ⟨r3,rfl,rfl,rfl⟩
    simp only [List.cons_append,List.nil_append]
    refine j_selB [5,2,3,1,0,4] rfl rfl ?_
    refine j_step rfl (x_callN 4 [9,10,11,2,3,0] rfl rfl (c_exclusion_basis__add) rfl ?_)
    rintro _ _ _ ⟨rR1,rP1,rfl,rfl,rfl⟩
    simp only [List.cons_append,List.nil_append]
    refine wk 5 cz ?_
    intro b3
    refine j_step rfl (x_appR (z:=(↑x : Int)) 5 0 6 rfl rfl rfl rfl rfl sl22 zo22e rfl (fun w A hG=>(rd_int (by first | (simp only [InR];omega) | (simp [InR];done)))) (by omega) _ by22e (by omega) fun r4=>?_)
    refine wk 4 cz ?_
    refine j_selT 6 [3,4,0,2,5] rfl rfl ?_
    exact tw (ih' rR1 rP1 r4)
 ·obtain rfl : i = o.length:=by omega
  rw [List.drop_length] at hg
  rw [← hg,show grP p m md rows most [] P R out = out from rfl]
  refine wk 7 cz ?_
  intro h1
  refine j_givK 5 [4,2] [2] rfl (.tmp rfl .nil) rfl rfl rfl ⟨r,rfl,rfl,rfl⟩
end
open Go Go.Fw
set_option maxRecDepth 100000
set_option linter.unusedVariables false
set_option linter.unusedSimpArgs false
set_option maxHeartbeats 0
section
variable {P : Program} {C : Cx} {σ : Fr} {β : List Blk} {Γ : List Fact} {ty : TypeId}
theorem x_fvB {K : Value → List Blk → List Fact → Prop} {f : FuncId} {x : Operand} {xs : List Operand} {ts : Array TypeId} {bnd args caps : List Value} (hv : ev σ x = some (.func (.func f) bnd.toArray caps.toArray)) (hx : evs σ xs = some args)
  (h : Jop P C (.call { callee:=.value (.func f),args:=((bnd++args++caps).map Operand.const).toArray,argTypes:=ts }) ty σ β Γ K) : Jop P C (.call { callee:=.value x,args:=xs.toArray,argTypes:=ts }) ty σ β Γ K:=by
 intro w hO hG ρ hρ
 have h1:=h w hO hG ρ hρ
 have hc : ρ (.func f) = .func (.func f) #[] #[]:=hρ _ _ rfl
 have hv' : ρ x = .func (.func f) bnd.toArray caps.toArray:=hρ _ _ hv
 have ha : xs.toArray.map ρ = args.toArray:=by rw [List.map_toArray,evs_eq hρ hx]
 have hb : ((bnd++args++caps).map Operand.const).toArray.map ρ = (bnd++args++caps).toArray:=by rw [List.map_toArray,evs_eq hρ (evs_const σ _)]
 simp only [execOp,bare,resolve,hb,hc,Deferred.ofValue,Sem.run_bind,Sem.run_pure,Result.andThen_ok,invoke,Array.append_empty,Array.empty_append] at h1
 simp only [execOp,bare,resolve,ha,hv',Deferred.ofValue,Sem.run_bind,Sem.run_pure,Result.andThen_ok,invoke]
 rw [List.append_toArray,List.append_toArray]
 exact h1
end
theorem cells_int {w : World} {A : Nat → Prop} {vss : List (List Value)} {l : List Int} (h : AllRd I64 vss l w A) : vss.flatten = intCells .i64 l:=by
 have e : vss = l.map fun x=>[Value.int .i64 x]:=List.ext_getElem? fun i=>by
  rw [List.getElem?_map]
  by_cases hi : i < l.length
  ·rw [List.getElem?_eq_getElem hi,List.getElem?_eq_getElem (by rw [h.1];exact hi)]
   exact congrArg some (h.2 i _ _ (List.getElem?_eq_getElem (by rw [h.1];exact hi)) (List.getElem?_eq_getElem hi)).1
  ·have hv:=h.1
   rw [List.getElem?_eq_none (show vss.length ≤ i by omega),List.getElem?_eq_none (show l.length ≤ i by omega)];rfl
 rw [e]
 clear e h
 induction l with
 | nil=>rfl
 | cons x l ih=>rw [List.map_cons,List.flatten_cons,ih];rfl
theorem S_slices_CloneR {r : Row} {n : Nat} {l : List Int} (hl : l.length ≤ 17592186044416) : Ctr Tryz.prog 162 [.slice (ad r.bo) n r.cap] [(r.bo,3,r.cs)] [rowF I64 r n l] (fun v Φ β=>∃ r' : Row,v = .slice (ad r'.bo) n r'.cap ∧ Φ = [rowF I64 r' n l,rowF I64 r n l] ∧ β = [(r'.bo,3,r'.cs),(r.bo,3,r.cs)]):=by
 refine Ctr_of_j' (F:=F_slices_Clone___int_int_) rfl fun C=>?_
 refine j_rowlen 0 rfl fun hn=>?_
 subst hn
 obtain ⟨bo,cap,cs⟩:=r
 cases bo with
 | none =>
  by_cases h0 : 0 < l.length
  ·exact j_rowB 0 rfl h0 fun b' cap' cs' hr=>by cases hr
  obtain rfl : l = []:=List.length_eq_zero_iff.1 (by omega)
  refine wk 4 cz ?_
  refine j_step rfl (x_eqnilN sl22 rfl rfl ?_)
  refine wk 5 cz ?_
  refine j_row0 I64 3 ?_
  refine j_givK 2 [0,1] [0,1] rfl (.tmp rfl .nil) rfl rfl rfl ⟨⟨none,0,[]⟩,rfl,rfl,rfl⟩
 | some b =>
  refine j_know (q:=cs.take (l.length * 1) = intCells .i64 l ∧ l.length ≤ 17592186044416) (fun w A hG=>by
   obtain ⟨h1,h2,vss,h3,h4⟩:=hG _ (fact_mem (n:=0) rfl)
   exact ⟨h4.trans (cells_int h3),hl⟩) fun ⟨hcs,hl2⟩=>?_
  refine j_nf [_,_] rfl ?_
  refine j_run it 1 rfl (by simp) ?_
  refine j_nf [_,_,_] rfl ?_
  refine j_run it 1 rfl (by simp) ?_
  refine j_step rfl (x_eqnilS sl22 rfl rfl ?_)
  refine j_nf [_,_] rfl ?_
  refine j_false rfl rfl ?_
  refine j_nf [_,_] rfl ?_
  refine j_step rfl (x_lit0 sl22 fun b1=>?_)
  refine j_run it 1 rfl (by simp) ?_
  (apply j_rowlit (E:=encInt IntKind.i64 8) (n:=0) (cs:=[]) [] [] 0 (fun w A hG=>allrd_nil);(· rfl);(· rfl);(· rfl);(· rfl);(· decide)) --ok
  refine j_step rfl (x_app 0 1 rfl rfl rfl rfl sl22 zo22e rfl (by first | exact GrOk.nil _ | assumption | exact .inr ⟨_,rfl,Nat.le_refl _,by omega,rfl⟩) hcs (by simp [intCells]) (fun u hu=>by
   rw [intCells] at hu
   obtain ⟨x,_,rfl⟩:=List.mem_map.1 hu
   rfl) (by omega) _ by22e (by omega) fun bo' cap' cs' hg' hc'=>?_)
  refine j_add (rowF I64 ⟨bo',cap',cs'⟩ (0 + l.length) l) (fun w A hG=>by
   obtain ⟨h1,h2,vss,h3,h4⟩:=hG _ (fact_mem (n:=1) rfl)
   exact ⟨Nat.zero_add _,hg',vss,h3,by rw [Nat.zero_add];rw [Nat.zero_add] at hc';exact (hc'.trans hcs.symm).trans h4⟩) ?_
  refine wk 2 cz ?_
  simp only [Nat.zero_add]
  refine j_givK 2 [0,1] [0,2] rfl (.tmp rfl .nil) rfl rfl rfl ⟨⟨bo',cap',cs'⟩,rfl,rfl,rfl⟩
section
variable {p m N b bp nm cm ns cs ny cy nt ct : Nat} {pm ps py pt : Option Addr} {co : Bool} {Mo w : Int} {md : List Int} {rows sets : List (List Int)}
def ChQ (B : Nat → Blk) (L : Nat) : Option (List (List Int)) → Value → List Fact → List Blk → Prop
 | some T=>fun v Φ β=>v = .int .i64 0 ∧ Φ = [] ∧ β = [B (L - T.length)]
 | none=>fun v Φ β=>∃ ap : Nat,v = .int .i64 13 ∧ Φ = [] ∧ β = [B ap]
theorem S_exclusion_proof__children0 {n1 c1 n2 c2 n3 c3 ap : Nat} {p1 p2 p3 : Option Addr} {s : List Int} {f : Value} (hs : (s.length : Int) = w) :
  Ctr Tryz.prog 151 [.pointer (some ⟨bp,0,none⟩),.slice p1 n1 c1,.slice p2 n2 c2,.slice p3 n3 c3,f] [prB bp b p m N nm cm ns cs ny cy nt ct pm ps py pt co Mo w ap] [slF I64 p1 n1 c1 s]
   (fun v Φ β=>v = .int .i64 0 ∧ Φ = [] ∧ β = [prB bp b p m N nm cm ns cs ny cy nt ct pm ps py pt co Mo w ap]):=by
 refine Ctr_of_j' (F:=F_exclusion_proof__children) rfl fun C=>?_
 refine j_len 0 rfl fun hn hb _=>?_
 subst hn
 refine wk 14 cz ?_
 intro h1
 refine j_givK 1 [0] [] rfl (.tmp rfl .nil) rfl rfl rfl ⟨rfl,rfl,rfl⟩
theorem kid_in {z : List Int} {x : Int} {l : List Int} (h : x ∈ z) : kidL z (x::l) = kidL z l:=by
 rw [kidL,List.filter_cons,decide_eq_true h];rfl
theorem kid_out {z : List Int} {x : Int} {l : List Int} (h : x ∉ z) : kidL z (x::l) = x::kidL z l:=by
 rw [kidL,List.filter_cons,decide_eq_false h];rfl
theorem exGo_sfx {f : List Int → List Int → List (List Int) → Option (List (List Int))} (hf : ∀ {s z T T'},f s z T = some T' → T' <:+ T) {s z : List Int} : ∀ {ks pre : List Int} {T T' : List (List Int)},exGo f s z pre ks T = some T' → T' <:+ T
 | [],pre,T,T',h=>by rw [exGo] at h;rw [Option.some.inj h];exact List.suffix_refl _
 | i::r,pre,T,T',h=>by
  rw [exGo] at h
  cases hE : f (s++[i]) (z++pre) T with
  | none=>rw [hE] at h;cases h
  | some T2=>rw [hE] at h;exact (exGo_sfx hf h).trans (hf hE)
theorem exT_sfx {rt : List Int → List Int → Bool} : ∀ {d : Nat} {s z : List Int} {T T' : List (List Int)},exT rt d s z T = some T' → T' <:+ T
 | 0,s,z,[],T',h=>by rw [exT] at h;cases h
 | d + 1,s,z,[],T',h=>by rw [exT] at h;cases h
 | 0,s,z,x::T,T',h=>by
  rw [exT] at h
  split at h
  ·rw [← Option.some.inj h];exact List.suffix_cons _ _
  ·cases h
 | d + 1,s,z,x::T,T',h=>by
  rw [exT] at h
  split at h
  ·exact (exGo_sfx (fun h=>exT_sfx h) h).trans (List.suffix_cons _ _)
  ·cases h
theorem kid_dist {z set : List Int} {i : Nat} {x : Int} (hst : set.Pairwise (· < ·)) (hx : set[i]? = some x) : x ∈ z++kidL z (set.take i) ↔ x ∈ z:=by
 refine ⟨fun h=>?_,fun h=>List.mem_append.2 (Or.inl h)⟩
 rcases List.mem_append.1 h with h | h
 ·exact h
 ·have h1:=(List.mem_filter.1 h).1
  obtain ⟨k,hk⟩:=List.getElem?_of_mem h1
  obtain ⟨k1,k2⟩:=List.getElem?_eq_some_iff.1 hk
  rw [List.length_take] at k1
  rw [List.getElem_take] at k2
  obtain ⟨i1,i2⟩:=List.getElem?_eq_some_iff.1 hx
  have:=List.pairwise_iff_getElem.1 hst k i (by omega) i1 (by omega)
  omega
theorem S_exclusion_proof__children {ng cg ce cl n1 c1 n2 c2 n3 c3 d : Nat} {pg pe pl p1 p2 p3 : Option Addr} {s z set : List Int} {T : List (List Int)} {rt : List Int → List Int → Bool} (hs : (s.length : Int) < w) (hst : stP N set) (hsl : s.length ≤ 1000) (hzl : z.length ≤ 100000) (hl : set.length ≤ 1000) (hT : T <:+ sets)
  (hf : ∀ {n1 c1 n2 c2 : Nat} {p1 p2 : Option Addr} {x : Int} {z' : List Int} {T : List (List Int)},z'.length ≤ z.length + 1000 → T <:+ sets → Ctr Tryz.prog 129 [.pointer (some ⟨bp,0,none⟩),.slice p1 n1 c1,.slice p2 n2 c2] [prB bp b p m N nm cm ns cs ny cy nt ct pm ps py pt co Mo w ((sets.length - T.length : Nat) : Int)] [slF (encSl I64) ps ns cs rows,gfC b p m (p ^ m) pg ng cg pe (p ^ m - 1) ce pl (p ^ m) cl,slF I64 pe (p ^ m - 1) ce (exL p m md),slF I64 pl (p ^ m) cl (lgL p m md),slF (encSl I64) pt nt ct sets,slF I64 p1 n1 c1 (s++[x]),slF I64 p2 n2 c2 z']
   (ChQ (fun ap=>prB bp b p m N nm cm ns cs ny cy nt ct pm ps py pt co Mo w (ap : Nat)) sets.length (exT rt d (s++[x]) z' T))) :
  Ctr Tryz.prog 151 [.pointer (some ⟨bp,0,none⟩),.slice p1 n1 c1,.slice p2 n2 c2,.slice p3 n3 c3,.func (.func 129) #[.pointer (some ⟨bp,0,none⟩)] #[]] [prB bp b p m N nm cm ns cs ny cy nt ct pm ps py pt co Mo w ((sets.length - T.length : Nat) : Int)] [slF (encSl I64) ps ns cs rows,gfC b p m (p ^ m) pg ng cg pe (p ^ m - 1) ce pl (p ^ m) cl,slF I64 pe (p ^ m - 1) ce (exL p m md),slF I64 pl (p ^ m) cl (lgL p m md),slF (encSl I64) pt nt ct sets,slF I64 p1 n1 c1 s,slF I64 p2 n2 c2 z,slF I64 p3 n3 c3 set]
   (ChQ (fun ap=>prB bp b p m N nm cm ns cs ny cy nt ct pm ps py pt co Mo w (ap : Nat)) sets.length (exGo (exT rt d) s z [] (kidL z set) T)):=by
 refine Ctr_of_j' (F:=F_exclusion_proof__children) rfl fun C=>?_
 refine j_len 5 rfl fun hn hb _=>?_
 subst hn
 refine j_len 6 rfl fun hn hb2 _=>?_
 subst hn
 refine j_len 7 rfl fun hn hb3 _=>?_
 subst hn
 obtain ⟨G,hG⟩ : ∃ G,exGo (exT rt d) s z [] (kidL z set) T = G:=⟨_,rfl⟩
 rw [hG]
 refine wk 13 cz ?_
 intro h1
 refine j_step rfl (x_call [6] rfl (S_slices_Clone___int_int_) rfl ?_)
 rintro _ _ _ ⟨r1,rfl,rfl,rfl⟩
 simp only [List.cons_append,List.nil_append]
 refine wk 6 cz ?_
 refine j_loopG (X:=Nat × Row × List Int × List (List Int)) [1,4,23,24] [0,1,2,3,4,5,6,7,8] (fun x=>[(25,.int .i64 (x.1 : Int)),(2,.slice (ad x.2.1.bo) x.2.2.1.length x.2.1.cap)])
  (fun x=>[(x.2.1.bo,3,x.2.1.cs),prB bp b p m N nm cm ns cs ny cy nt ct pm ps py pt co Mo w ((sets.length - x.2.2.2.length : Nat) : Int)]) (fun x=>[rowF I64 x.2.1 x.2.2.1.length x.2.2.1])
  (fun x=>x.1 ≤ set.length ∧ x.2.2.1 = z++kidL z (set.take x.1) ∧ exGo (exT rt d) s z (kidL z (set.take x.1)) (kidL z (set.drop x.1)) x.2.2.2 = G ∧ x.2.2.2 <:+ sets) (fun x=>set.length - x.1) (0,r1,z,T) [0] rfl rfl rfl ⟨Nat.zero_le _,(List.append_nil z).symm,hG,hT⟩ (by repeat (first | exact Fr.sub_nil _ | refine Fr.sub_cons rfl ?_)) rfl rfl ?_
 rintro ⟨i,r,y,T⟩ ⟨hi,hy,hg,hT⟩ ih
 simp only [List.cons_append,List.nil_append] at hi hy hg hT ih ⊢
 by_cases hil : i < set.length
 ·obtain ⟨x,at_x⟩ : ∃ x,set[i]? = some x:=⟨_,List.getElem?_eq_getElem hil⟩
  have e3 : set.drop i = x::set.drop (i + 1):=by
   rw [List.drop_eq_getElem_cons hil];rw [List.getElem?_eq_getElem hil] at at_x;rw [Option.some.inj at_x]
  have e4 : set.take (i + 1) = set.take i++[x]:=by rw [List.take_add_one,at_x];rfl
  have hkd:=kid_dist (z:=z) hst.2 at_x
  rw [← hy] at hkd
  have hyl : y.length ≤ z.length + 1000:=by
   have h1:=List.length_filter_le (fun i=>!decide (i ∈ z)) (set.take i)
   rw [hy,List.length_append]
   rw [List.length_take] at h1
   have : (kidL z (set.take i)).length ≤ min i set.length:=h1
   omega
  rw [e3] at hg
  by_cases hx : x ∈ z
  ·have c_slices_Contains___int_int_:=fun {r : Row}=>(S_slices_Contains___int_int_ (pl:=ad r.bo) (nl:=y.length) (cl:=r.cap) (l:=y) (x:=x) (decide_eq_true (hkd.2 hx))).lend (e:=3) (by show y.length * 8 ≤ 140737488355328;omega)
   rw [kid_in hx] at hg
   have ih':=ih (i + 1,r,y,T) (by dsimp only;omega) (by dsimp only;refine ⟨by omega,?_,?_,hT⟩ <;> rw [e4,kidL,List.filter_append,show ([x].filter fun i=>!decide (i ∈ z)) = [] from kid_in hx,List.append_nil] <;> assumption)
   refine wk 6 cz ?_
   intro h2 b1 o1 hz1
   refine j_step rfl (x_ld_int 0 rfl rfl ld3 fun ⟨r2,r3⟩=>?_)
   refine wk 3 cz ?_
   refine j_step rfl (x_callB 0 [1] rfl rfl (c_slices_Contains___int_int_) rfl ?_)
   rintro _ _ _ ⟨rfl,rfl,rfl⟩
   simp only [List.cons_append,List.nil_append]
   refine wk 5 cz ?_
   exact tw (ih')
  ·have c_slices_Contains___int_int_:=fun {r : Row}=>(S_slices_Contains___int_int_ (pl:=ad r.bo) (nl:=y.length) (cl:=r.cap) (l:=y) (x:=x) (decide_eq_false (mt hkd.1 hx))).lend (e:=3) (by show y.length * 8 ≤ 140737488355328;omega)
   rw [kid_out hx,exGo,← hy] at hg
   cases hE : exT rt d (s++[x]) y T with
   | none =>
    rw [hE] at hg
    subst hg
    have c_exclusion_proof__check:=fun {n1 c1 n2 c2 : Nat} {p1 p2 : Option Addr}=>hf (n1:=n1) (c1:=c1) (n2:=n2) (c2:=c2) (p1:=p1) (p2:=p2) (x:=x) (z':=y) (T:=T) hyl hT
    simp only [hE] at c_exclusion_proof__check
    simp only [ChQ] at c_exclusion_proof__check
    refine wk 6 cz ?_
    intro h2 b1 o1 hz1
    refine j_step rfl (x_ld_int 0 rfl rfl ld3 fun ⟨r2,r3⟩=>?_)
    refine wk 3 cz ?_
    refine j_step rfl (x_callB 0 [1] rfl rfl (c_slices_Contains___int_int_) rfl ?_)
    rintro _ _ _ ⟨rfl,rfl,rfl⟩
    simp only [List.cons_append,List.nil_append]
    refine wk 4 cz ?_
    refine j_step rfl (x_call [9] rfl (S_slices_Clone___int_int_) rfl ?_)
    rintro _ _ _ ⟨r4,rfl,rfl,rfl⟩
    simp only [List.cons_append,List.nil_append]
    refine wk 2 cz ?_
    intro b2
    refine j_step rfl (x_appR (z:=(x : Int)) 1 0 0 rfl rfl rfl rfl rfl sl22 zo22e rfl (fun w A hG=>(rd_int (by first | (simp only [InR];omega) | (simp [InR];done)))) (by omega) _ by22e (by omega) fun r5=>?_)
    refine wk 1 cz ?_
    have c_slices_Clone___int_int_:=fun {r : Row} {n : Nat}=>S_slices_CloneR (r:=r) (n:=n) (l:=y) (by omega)
    refine j_step rfl (x_callB 2 [2] rfl rfl (c_slices_Clone___int_int_) rfl ?_)
    rintro _ _ _ ⟨r'1,rfl,rfl,rfl⟩
    simp only [List.cons_append,List.nil_append] --ok
    refine j_pubR 0 0 rfl rfl (by show y.length * 8 ≤ 140737488355328;omega) ?_
    refine j_pubR 1 3 rfl rfl (by show (s.length + 1) * 8 ≤ 140737488355328;omega) ?_
    refine j_step rfl <| x_fvB rfl rfl (x_callB 2 [10,11,12,13,14,0,1] rfl rfl (c_exclusion_proof__check) rfl ?_)
    rintro _ _ _ ⟨ap1,rfl,rfl,rfl⟩
    simp only [List.cons_append,List.nil_append]
    refine wk 8 cz ?_
    intro h3
    refine j_givK 3 [0] [] rfl (.tmp rfl .nil) rfl rfl rfl ⟨ap1,rfl,rfl,rfl⟩
   | some T2 =>
    rw [hE] at hg
    have c_exclusion_proof__check:=fun {n1 c1 n2 c2 : Nat} {p1 p2 : Option Addr}=>hf (n1:=n1) (c1:=c1) (n2:=n2) (c2:=c2) (p1:=p1) (p2:=p2) (x:=x) (z':=y) (T:=T) hyl hT
    simp only [hE] at c_exclusion_proof__check
    simp only [ChQ] at c_exclusion_proof__check
    have ih':=fun r=>ih (i + 1,r,y++[x],T2) (by dsimp only;omega) (by dsimp only;refine ⟨by omega,?_,?_,(exT_sfx hE).trans hT⟩ <;> rw [e4,kidL,List.filter_append,show ([x].filter fun i=>!decide (i ∈ z)) = [x] from kid_out hx] <;> first | assumption | rw [hy,List.append_assoc])
    refine wk 6 cz ?_
    intro h2 b1 o1 hz1
    refine j_step rfl (x_ld_int 0 rfl rfl ld3 fun ⟨r2,r3⟩=>?_)
    refine wk 3 cz ?_
    refine j_step rfl (x_callB 0 [1] rfl rfl (c_slices_Contains___int_int_) rfl ?_)
    rintro _ _ _ ⟨rfl,rfl,rfl⟩
    simp only [List.cons_append,List.nil_append]
    refine wk 4 cz ?_
    refine j_step rfl (x_call [9] rfl (S_slices_Clone___int_int_) rfl ?_)
    rintro _ _ _ ⟨r4,rfl,rfl,rfl⟩
    simp only [List.cons_append,List.nil_append]
    refine wk 2 cz ?_
    intro b2
    refine j_step rfl (x_appR (z:=(x : Int)) 1 0 0 rfl rfl rfl rfl rfl sl22 zo22e rfl (fun w A hG=>(rd_int (by first | (simp only [InR];omega) | (simp [InR];done)))) (by omega) _ by22e (by omega) fun r5=>?_)
    refine wk 1 cz ?_
    have c_slices_Clone___int_int_:=fun {r : Row} {n : Nat}=>S_slices_CloneR (r:=r) (n:=n) (l:=y) (by omega)
    refine j_step rfl (x_callB 2 [2] rfl rfl (c_slices_Clone___int_int_) rfl ?_)
    rintro _ _ _ ⟨r'1,rfl,rfl,rfl⟩
    simp only [List.cons_append,List.nil_append] --ok
    refine j_pubR 0 0 rfl rfl (by show y.length * 8 ≤ 140737488355328;omega) ?_
    refine j_pubR 1 3 rfl rfl (by show (s.length + 1) * 8 ≤ 140737488355328;omega) ?_
    dsimp only at ih'
    simp only [List.length_append,List.length_singleton] at ih'
    refine j_step rfl <| x_fvB rfl rfl (x_callB 2 [10,11,12,13,14,0,1] rfl rfl (c_exclusion_proof__check) rfl ?_)
    rintro _ _ _ ⟨rfl,rfl,rfl⟩
    simp only [List.cons_append,List.nil_append]
    refine wk 8 cz ?_
    intro h3 b3
    refine j_step rfl (x_appR (z:=(x : Int)) 2 0 3 rfl rfl rfl rfl rfl sl22 zo22e rfl (fun w A hG=>(rd_int (by first | (simp only [InR];omega) | (simp [InR];done)))) (by omega) _ by22e (by omega) fun r6=>?_)
    refine wk 4 cz ?_
    refine j_selT 4 [0,2] rfl rfl ?_
    exact tw (ih' r6)
 ·obtain rfl : i = set.length:=by omega
  rw [List.drop_length] at hg
  obtain rfl : some T = G:=hg
  refine wk 7 cz ?_
  intro h2
  refine j_givK 2 [1] [] rfl (.tmp rfl .nil) rfl rfl rfl ⟨rfl,rfl,rfl⟩
end
open Go Go.Fw
set_option maxRecDepth 100000
set_option linter.unusedVariables false
set_option linter.unusedSimpArgs false
set_option maxHeartbeats 0
section
variable {p m N b bp nm cm ns cs ny cy nt ct : Nat} {pm ps py pt : Option Addr} {Mo w ap : Int} {md : List Int} {rows : List (List Int)}
theorem S_exclusion_proof__right {ng cg ce cl n1 c1 n2 c2 : Nat} {pg pe pl p1 p2 : Option Addr} {s set : List Int} (K : Fok p m md) (hM : Mat (p ^ m) N rows) (hr1 : 1 ≤ rows.length) (hr : rows.length ≤ 1000000) (hN : N ≤ 1000) :
  Ctr Tryz.prog 150 [.pointer (some ⟨bp,0,none⟩),.slice p1 n1 c1,.slice p2 n2 c2] [prB bp b p m N nm cm ns cs ny cy nt ct pm ps py pt false Mo w ap] [slF (encSl I64) ps ns cs rows,gfC b p m (p ^ m) pg ng cg pe (p ^ m - 1) ce pl (p ^ m) cl,slF I64 pe (p ^ m - 1) ce (exL p m md),slF I64 pl (p ^ m) cl (lgL p m md),slF I64 p1 n1 c1 s,slF I64 p2 n2 c2 set]
   (fun v Φ β=>v = .bool (rgB p m md N rows Mo s set) ∧ Φ = [] ∧ β = [prB bp b p m N nm cm ns cs ny cy nt ct pm ps py pt false Mo w ap]):=by
 refine Ctr_of_j' (F:=F_exclusion_proof__right) rfl fun C=>?_
 refine j_len 5 rfl fun hn hb _=>?_
 subst hn
 have hb' : set.length * 8 ≤ 140737488355328:=hb
 have O:=fok_fn K
 have hq:=K.q
 refine wk 7 cz ?_
 refine j_loopG (X:=Nat) [0,1,2,9,10] [0,1,2,3,4,5] (fun i=>[(11,.int .i64 (i : Int))]) (fun _=>[prB bp b p m N nm cm ns cs ny cy nt ct pm ps py pt false Mo w ap]) (fun _=>[]) (fun i=>i ≤ set.length ∧ (∀ j,j < i → stA N set j) ∧ ∀ x ∈ set.take i,x ∉ s) (fun i=>set.length - i) 0 [] rfl rfl rfl ⟨Nat.zero_le _,(fun j h=>absurd h (Nat.not_lt_zero j)),fun x h=>absurd h List.not_mem_nil⟩ (by repeat (first | exact Fr.sub_nil _ | refine Fr.sub_cons rfl ?_)) rfl rfl ?_
 rintro i ⟨hi,hno,hns⟩ ih
 simp only [List.cons_append,List.nil_append] at hi ih ⊢
 by_cases h9 : i < set.length
 ·obtain ⟨x,at_x⟩ : ∃ x,set[i]? = some x:=⟨_,List.getElem?_eq_getElem h9⟩
  have bad : ¬ stA N set i → rgB p m md N rows Mo s set = false:=fun h=>by
   rw [rgB,decide_eq_false (stP_no h9 h)];rfl
  have good : stA N set i → x ∉ s → (∀ j,j < i + 1 → stA N set j) ∧ ∀ z ∈ set.take (i + 1),z ∉ s:=fun h hx=>⟨fun j hj=>by
   rcases Nat.lt_succ_iff_lt_or_eq.1 hj with h1 | rfl
   ·exact hno j h1
   ·exact h,fun z hz=>by
    rw [List.take_add_one,at_x] at hz
    rcases List.mem_append.1 hz with hz | hz
    ·exact hns z hz
    ·rw [List.mem_singleton.1 hz];exact hx⟩
  by_cases a0 : x < 0
  ·rw [bad fun h=>by have:=(h x at_x).1;omega]
   refine j_nf [_,_,_,_,_] rfl ?_
   refine j_run it 1 rfl (by simp) ?_
   refine j_nf [_,_,_,_,_] rfl ?_
   refine j_if rfl rfl (fun h1=>?_) (fun h1=>by exfalso;omega)
   refine j_nf [_,_,_,_,_,_,_] rfl ?_
   refine j_run it 1 rfl (by simp) ?_
   refine j_step rfl (x_idx 5 (i) rfl rfl rfl sl22 rfl (by omega) fun z1 hz1 b1 o1=>?_)
   obtain rfl : _ = z1:=Option.some.inj (at_x.symm.trans hz1)
   refine j_step rfl (x_ld_int 0 rfl rfl ld3 fun ⟨r1,r2⟩=>?_)
   refine j_run it 2 rfl (by simp) ?_
   refine j_nf [_,_,_,_,_,_,_] rfl ?_
   refine j_run it 3 rfl (by simp) ?_
   refine j_split_dec (t:=18) rfl (fun h2=>?_) (fun h2=>by exfalso;omega)
   refine j_run it 12 rfl (by simp) ?_
   refine j_gskipU rfl rfl ?_
   refine j_gskipU rfl rfl ?_
   refine j_gskipU rfl rfl ?_
   refine j_gskipU rfl rfl ?_
   refine j_gskipU rfl rfl ?_
   refine j_gskipU rfl rfl ?_
   refine j_gskipU rfl rfl ?_
   refine j_run it 7 rfl (by simp) ?_
   refine j_nf [_,_,_,_,_,_] rfl ?_
   refine j_true rfl rfl ?_
   refine j_nf [_,_,_,_,_,_,_] rfl ?_
   refine j_run it 1 rfl (by simp) ?_
   refine j_nf [_,_,_,_,_,_] rfl ?_
   refine j_givK 1 [0] [] rfl (.tmp rfl .nil) rfl rfl rfl ⟨rfl,rfl,rfl⟩
  ·by_cases a1 : (N : Int) ≤ x
   ·rw [bad fun h=>by have:=(h x at_x).1;omega]
    refine j_nf [_,_,_,_,_] rfl ?_
    refine j_run it 1 rfl (by simp) ?_
    refine j_nf [_,_,_,_,_] rfl ?_
    refine j_if rfl rfl (fun h1=>?_) (fun h1=>by exfalso;omega)
    refine j_nf [_,_,_,_,_,_,_] rfl ?_
    refine j_run it 1 rfl (by simp) ?_
    refine j_step rfl (x_idx 5 (i) rfl rfl rfl sl22 rfl (by omega) fun z1 hz1 b1 o1=>?_)
    obtain rfl : _ = z1:=Option.some.inj (at_x.symm.trans hz1)
    refine j_step rfl (x_ld_int 0 rfl rfl ld3 fun ⟨r1,r2⟩=>?_)
    refine j_run it 2 rfl (by simp) ?_
    refine j_nf [_,_,_,_,_,_,_] rfl ?_
    refine j_run it 3 rfl (by simp) ?_
    refine j_split_dec (t:=18) rfl (fun h2=>by exfalso;omega) (fun h2=>?_)
    refine j_run it 3 rfl (by simp) ?_
    refine j_gstep rfl rfl (x_field rfl fd157_1 ?_)
    refine j_gstep rfl rfl (x_field rfl fd27_1 ?_)
    refine j_gstep rfl rfl (x_bld 0 rfl rfl ld3 rfl ?_)
    refine j_run it 3 rfl (by simp) ?_
    refine j_split_dec (t:=27) rfl (fun h3=>?_) (fun h3=>by exfalso;omega)
    refine j_run it 3 rfl (by simp) ?_
    refine j_gskipU rfl rfl ?_
    refine j_gskipU rfl rfl ?_
    refine j_gskipU rfl rfl ?_
    refine j_gskipU rfl rfl ?_
    refine j_gskipU rfl rfl ?_
    refine j_gskipU rfl rfl ?_
    refine j_gskipU rfl rfl ?_
    refine j_run it 7 rfl (by simp) ?_
    refine j_nf [_,_,_,_,_,_] rfl ?_
    refine j_true rfl rfl ?_
    refine j_nf [_,_,_,_,_,_,_] rfl ?_
    refine j_run it 1 rfl (by simp) ?_
    refine j_nf [_,_,_,_,_,_] rfl ?_
    refine j_givK 1 [0] [] rfl (.tmp rfl .nil) rfl rfl rfl ⟨rfl,rfl,rfl⟩
   ·have hin : ∀ h : x ∈ s,rgB p m md N rows Mo s set = false:=fun h=>by
     rw [rgB,List.any_eq_true.2 ⟨x,List.mem_of_getElem? at_x,decide_eq_true h⟩];simp
    rcases Nat.eq_zero_or_pos i with hi0 | hi0
    ·subst hi0
     by_cases a3 : x ∈ s
     ·rw [hin a3]
      have c_slices_Contains___int_int_:=fun {pl : Option Addr} {nl cl : Nat}=>S_slices_Contains___int_int_ (pl:=pl) (nl:=nl) (cl:=cl) (l:=s) (x:=x) (decide_eq_true a3)
      refine wk 6 cz ?_
      intro h1
      refine j_step rfl (x_idx 5 (0) rfl rfl rfl sl22 rfl (by omega) fun z1 hz1 b1 o1=>?_)
      obtain rfl : _ = z1:=Option.some.inj (at_x.symm.trans hz1)
      refine wk 15 cz ?_
      intro _ r1 r2 h2
      refine j_split_dec (t:=27) rfl (fun h3=>by exfalso;omega) (fun h3=>?_)
      refine wk 1 cz ?_
      refine j_gstep rfl rfl (x_call [5] rfl (c_slices_Contains___int_int_) rfl ?_)
      rintro _ _ _ ⟨rfl,rfl,rfl⟩
      simp only [List.cons_append,List.nil_append]
      refine wk 6 cz ?_
      refine j_givK 1 [0] [] rfl (.tmp rfl .nil) rfl rfl rfl ⟨rfl,rfl,rfl⟩
     ·have c_slices_Contains___int_int_:=fun {pl : Option Addr} {nl cl : Nat}=>S_slices_Contains___int_int_ (pl:=pl) (nl:=nl) (cl:=cl) (l:=s) (x:=x) (decide_eq_false a3)
      refine wk 6 cz ?_
      intro h1
      refine j_step rfl (x_idx 5 (0) rfl rfl rfl sl22 rfl (by omega) fun z1 hz1 b1 o1=>?_)
      obtain rfl : _ = z1:=Option.some.inj (at_x.symm.trans hz1)
      refine wk 15 cz ?_
      intro _ r1 r2 h2
      refine j_split_dec (t:=27) rfl (fun h3=>by exfalso;omega) (fun h3=>?_)
      refine wk 1 cz ?_
      refine j_gstep rfl rfl (x_call [5] rfl (c_slices_Contains___int_int_) rfl ?_)
      rintro _ _ _ ⟨rfl,rfl,rfl⟩
      simp only [List.cons_append,List.nil_append]
      refine wk 6 cz ?_
      exact tw (ih 1 (by omega) ⟨by omega,good (fun z hz=>by
       rw [at_x] at hz;obtain rfl:=Option.some.inj hz
       exact ⟨by omega,fun y h=>by omega⟩) a3⟩)
    ·obtain ⟨k,rfl⟩ : ∃ k,i = k + 1:=⟨i - 1,by omega⟩
     obtain ⟨y,at_y⟩ : ∃ y,set[k]? = some y:=⟨_,List.getElem?_eq_getElem (by omega)⟩
     by_cases a2 : x ≤ y
     ·rw [bad fun h=>by have:=(h x at_x).2 y (by omega) at_y;omega]
      refine j_nf [_,_,_,_,_] rfl ?_
      refine j_run it 1 rfl (by simp) ?_
      refine j_nf [_,_,_,_,_] rfl ?_
      refine j_if rfl rfl (fun h1=>?_) (fun h1=>by exfalso;omega)
      refine j_nf [_,_,_,_,_,_,_] rfl ?_
      refine j_run it 1 rfl (by simp) ?_
      refine j_step rfl (x_idx 5 (k + 1) rfl rfl rfl sl22 rfl (by omega) fun z1 hz1 b1 o1=>?_)
      obtain rfl : _ = z1:=Option.some.inj (at_x.symm.trans hz1)
      refine j_step rfl (x_ld_int 0 rfl rfl ld3 fun ⟨r1,r2⟩=>?_)
      refine j_run it 2 rfl (by simp) ?_
      refine j_nf [_,_,_,_,_,_,_] rfl ?_
      refine j_run it 3 rfl (by simp) ?_
      refine j_split_dec (t:=18) rfl (fun h2=>by exfalso;omega) (fun h2=>?_)
      refine j_run it 3 rfl (by simp) ?_
      refine j_gstep rfl rfl (x_field rfl fd157_1 ?_)
      refine j_gstep rfl rfl (x_field rfl fd27_1 ?_)
      refine j_gstep rfl rfl (x_bld 0 rfl rfl ld3 rfl ?_)
      refine j_run it 3 rfl (by simp) ?_
      refine j_split_dec (t:=27) rfl (fun h3=>by exfalso;omega) (fun h3=>?_)
      refine j_run it 3 rfl (by simp) ?_
      refine j_split_dec (t:=30) rfl (fun h4=>?_) (fun h4=>by exfalso;omega)
      refine j_run it 4 rfl ⟨⟨by omega,by omega⟩,trivial,trivial,trivial,trivial⟩ ?_
      refine j_gstep rfl rfl (x_idx 6 ((k + 1) - 1) rfl rfl rfl sl22 (by omega) (by omega) fun z1 hz2 b2 o2=>?_)
      obtain rfl : _ = z1:=Option.some.inj (at_y.symm.trans hz2)
      refine j_gstep rfl rfl (x_ld_int 0 rfl rfl ld3 fun ⟨r3,r4⟩=>?_)
      refine j_run it 4 rfl (by simp) ?_
      refine j_split_dec (t:=40) rfl (fun h5=>?_) (fun h5=>by exfalso;omega)
      refine j_run it 4 rfl (by simp) ?_
      refine j_nf [_,_,_,_,_,_] rfl ?_
      refine j_true rfl rfl ?_
      refine j_nf [_,_,_,_,_,_,_] rfl ?_
      refine j_run it 1 rfl (by simp) ?_
      refine j_nf [_,_,_,_,_,_] rfl ?_
      refine j_givK 1 [0] [] rfl (.tmp rfl .nil) rfl rfl rfl ⟨rfl,rfl,rfl⟩
     ·by_cases a3 : x ∈ s
      ·rw [hin a3]
       have c_slices_Contains___int_int_:=fun {pl : Option Addr} {nl cl : Nat}=>S_slices_Contains___int_int_ (pl:=pl) (nl:=nl) (cl:=cl) (l:=s) (x:=x) (decide_eq_true a3)
       refine j_nf [_,_,_,_,_] rfl ?_
       refine j_run it 1 rfl (by simp) ?_
       refine j_nf [_,_,_,_,_] rfl ?_
       refine j_if rfl rfl (fun h1=>?_) (fun h1=>by exfalso;omega)
       refine j_nf [_,_,_,_,_,_,_] rfl ?_
       refine j_run it 1 rfl (by simp) ?_
       refine j_step rfl (x_idx 5 (k + 1) rfl rfl rfl sl22 rfl (by omega) fun z1 hz1 b1 o1=>?_)
       obtain rfl : _ = z1:=Option.some.inj (at_x.symm.trans hz1)
       refine j_step rfl (x_ld_int 0 rfl rfl ld3 fun ⟨r1,r2⟩=>?_)
       refine j_run it 2 rfl (by simp) ?_
       refine j_nf [_,_,_,_,_,_,_] rfl ?_
       refine j_run it 3 rfl (by simp) ?_
       refine j_split_dec (t:=18) rfl (fun h2=>by exfalso;omega) (fun h2=>?_)
       refine j_run it 3 rfl (by simp) ?_
       refine j_gstep rfl rfl (x_field rfl fd157_1 ?_)
       refine j_gstep rfl rfl (x_field rfl fd27_1 ?_)
       refine j_gstep rfl rfl (x_bld 0 rfl rfl ld3 rfl ?_)
       refine j_run it 3 rfl (by simp) ?_
       refine j_split_dec (t:=27) rfl (fun h3=>by exfalso;omega) (fun h3=>?_)
       refine j_run it 3 rfl (by simp) ?_
       refine j_split_dec (t:=30) rfl (fun h4=>?_) (fun h4=>by exfalso;omega)
       refine j_run it 4 rfl ⟨⟨by omega,by omega⟩,trivial,trivial,trivial,trivial⟩ ?_
       refine j_gstep rfl rfl (x_idx 6 ((k + 1) - 1) rfl rfl rfl sl22 (by omega) (by omega) fun z1 hz2 b2 o2=>?_)
       obtain rfl : _ = z1:=Option.some.inj (at_y.symm.trans hz2)
       refine j_gstep rfl rfl (x_ld_int 0 rfl rfl ld3 fun ⟨r3,r4⟩=>?_)
       refine j_run it 4 rfl (by simp) ?_
       refine j_split_dec (t:=40) rfl (fun h5=>by exfalso;omega) (fun h5=>?_)
       refine j_run it 2 rfl (by simp) ?_
       refine j_gstep rfl rfl (x_call [6] rfl (c_slices_Contains___int_int_) rfl ?_)
       rintro _ _ _ ⟨rfl,rfl,rfl⟩
       simp only [List.cons_append,List.nil_append]
       refine j_run it 1 rfl (by simp) ?_
       refine j_nf [_,_,_,_,_,_] rfl ?_
       refine j_true rfl rfl ?_
       refine j_nf [_,_,_,_,_,_,_] rfl ?_
       refine j_run it 1 rfl (by simp) ?_
       refine j_nf [_,_,_,_,_,_] rfl ?_
       refine j_givK 1 [0] [] rfl (.tmp rfl .nil) rfl rfl rfl ⟨rfl,rfl,rfl⟩
      ·have c_slices_Contains___int_int_:=fun {pl : Option Addr} {nl cl : Nat}=>S_slices_Contains___int_int_ (pl:=pl) (nl:=nl) (cl:=cl) (l:=s) (x:=x) (decide_eq_false a3)
       refine j_nf [_,_,_,_,_] rfl ?_
       refine j_run it 1 rfl (by simp) ?_
       refine j_nf [_,_,_,_,_] rfl ?_
       refine j_if rfl rfl (fun h1=>?_) (fun h1=>by exfalso;omega)
       refine j_nf [_,_,_,_,_,_,_] rfl ?_
       refine j_run it 1 rfl (by simp) ?_
       refine j_step rfl (x_idx 5 (k + 1) rfl rfl rfl sl22 rfl (by omega) fun z1 hz1 b1 o1=>?_)
       obtain rfl : _ = z1:=Option.some.inj (at_x.symm.trans hz1)
       refine j_step rfl (x_ld_int 0 rfl rfl ld3 fun ⟨r1,r2⟩=>?_)
       refine j_run it 2 rfl (by simp) ?_
       refine j_nf [_,_,_,_,_,_,_] rfl ?_
       refine j_run it 3 rfl (by simp) ?_
       refine j_split_dec (t:=18) rfl (fun h2=>by exfalso;omega) (fun h2=>?_)
       refine j_run it 3 rfl (by simp) ?_
       refine j_gstep rfl rfl (x_field rfl fd157_1 ?_)
       refine j_gstep rfl rfl (x_field rfl fd27_1 ?_)
       refine j_gstep rfl rfl (x_bld 0 rfl rfl ld3 rfl ?_)
       refine j_run it 3 rfl (by simp) ?_
       refine j_split_dec (t:=27) rfl (fun h3=>by exfalso;omega) (fun h3=>?_)
       refine j_run it 3 rfl (by simp) ?_
       refine j_split_dec (t:=30) rfl (fun h4=>?_) (fun h4=>by exfalso;omega)
       refine j_run it 4 rfl ⟨⟨by omega,by omega⟩,trivial,trivial,trivial,trivial⟩ ?_
       refine j_gstep rfl rfl (x_idx 6 ((k + 1) - 1) rfl rfl rfl sl22 (by omega) (by omega) fun z1 hz2 b2 o2=>?_)
       obtain rfl : _ = z1:=Option.some.inj (at_y.symm.trans hz2)
       refine j_gstep rfl rfl (x_ld_int 0 rfl rfl ld3 fun ⟨r3,r4⟩=>?_)
       refine j_run it 4 rfl (by simp) ?_
       refine j_split_dec (t:=40) rfl (fun h5=>by exfalso;omega) (fun h5=>?_)
       refine j_run it 2 rfl (by simp) ?_
       refine j_gstep rfl rfl (x_call [6] rfl (c_slices_Contains___int_int_) rfl ?_)
       rintro _ _ _ ⟨rfl,rfl,rfl⟩
       simp only [List.cons_append,List.nil_append]
       refine j_run it 1 rfl (by simp) ?_
       refine j_nf [_,_,_,_,_,_] rfl ?_
       refine j_false rfl rfl ?_
       refine j_nf [_,_,_,_] rfl ?_
       refine j_run it 2 rfl ⟨trivial,⟨by omega,by omega⟩,trivial⟩ ?_
       refine j_nfn 1 [.lp [1,0,1,0,0],.blk 0,.c [1,1]] rfl ?_
       exact tw (ih (k + 2) (by omega) ⟨by omega,good (fun z hz=>by
        rw [at_x] at hz;obtain rfl:=Option.some.inj hz
        exact ⟨by omega,fun y' h hy=>by rw [show k + 1 - 1 = k by omega,at_y] at hy;obtain rfl:=Option.some.inj hy;omega⟩) a3⟩)
 ·obtain rfl : i = set.length:=by omega
  rw [List.take_length] at hns
  have hst : stP N set:=stP_iff.2 hno
  have e1 : decide (stP (N : Int) set) = true:=decide_eq_true hst
  have e2 : (set.any fun x=>decide (x ∈ s)) = false:=List.any_eq_false.2 fun x hx=>by rw [decide_eq_true_eq];exact hns x hx
  have hgr:=O.gr_piv (V:=invI p m md) hM (set:=set)
  have hln : set.length ≤ N:=by
   have h1 : (set.map Int.toNat).Nodup:=by
    rw [List.Nodup,List.pairwise_map]
    refine hst.2.imp_of_mem fun {a b} ha hb hab e=>?_
    have:=(hst.1 a ha).1;have:=(hst.1 b hb).1
    omega
   have h2:=nodup_len h1 (l':=List.range N) fun x hx=>by
    obtain ⟨y,hy,rfl⟩:=List.mem_map.1 hx
    have:=hst.1 y hy
    exact List.mem_range.2 (by omega)
   rwa [List.length_map,List.length_range] at h2
  have c_exclusion_proof__greedy:=fun {ng cg ce cl no co' : Nat} {pg pe pl po : Option Addr}=>S_exclusion_proof__greedy (p:=p) (m:=m) (N:=N) (b:=b) (bp:=bp) (nm:=nm) (cm:=cm) (ns:=ns) (cs:=cs) (ny:=ny) (cy:=cy) (nt:=nt) (ct:=ct) (pm:=pm) (ps:=ps) (py:=py) (pt:=pt) (co:=false) (Mo:=Mo) (w:=w) (ap:=ap) (ng:=ng) (cg:=cg) (ce:=ce) (cl:=cl) (most:=set.length) (no:=no) (co':=co') (pg:=pg) (pe:=pe) (pl:=pl) (po:=po) (o:=set) K hM hr1 hr hst.1 (by omega) (by omega)
  by_cases hg : (grP p m md rows set.length set [] [] []).length = set.length
  ·have e3 : rgB p m md N rows Mo s set = decide ((set.length : Int) = Mo):=by
    rw [rgB,e1,e2,decide_eq_true (hgr.1 hg)];rfl
   rw [e3]
   refine wk 7 cz ?_
   intro h1
   refine j_step rfl (x_callB 0 [0,1,2,3,5] rfl rfl (c_exclusion_proof__greedy) rfl ?_)
   rintro _ _ _ ⟨r1,rfl,rfl,rfl⟩
   simp only [List.cons_append,List.nil_append]
   refine wk 21 cz ?_
   intro h2
   refine j_givK 2 [0] [] rfl (.tmp rfl .nil) rfl rfl rfl ⟨rfl,rfl,rfl⟩
  ·have e3 : rgB p m md N rows Mo s set = false:=by
    rw [rgB,e1,e2,decide_eq_false (mt hgr.2 hg)];rfl
   rw [e3]
   refine wk 7 cz ?_
   intro h1
   refine j_step rfl (x_callB 0 [0,1,2,3,5] rfl rfl (c_exclusion_proof__greedy) rfl ?_)
   rintro _ _ _ ⟨r1,rfl,rfl,rfl⟩
   simp only [List.cons_append,List.nil_append]
   refine wk 9 cz ?_
   intro h2
   refine j_givK 2 [0] [] rfl (.tmp rfl .nil) rfl rfl rfl ⟨rfl,rfl,rfl⟩
end
open Go Go.Fw
set_option maxRecDepth 100000
set_option linter.unusedVariables false
set_option linter.unusedSimpArgs false
set_option maxHeartbeats 0
theorem rg_st {p m N : Nat} {md s set : List Int} {rows : List (List Int)} {k : Int} (h : rgB p m md N rows k s set = true) : stP N set:=by
 rw [rgB,Bool.and_eq_true,Bool.and_eq_true,Bool.and_eq_true] at h
 exact of_decide_eq_true h.1.1.1
theorem ext_nil {rt : List Int → List Int → Bool} {d : Nat} {s z : List Int} : exT rt d s z [] = none:=by
 cases d <;> rw [exT]
theorem ext_bad {rt : List Int → List Int → Bool} {d : Nat} {s z x : List Int} {T : List (List Int)} (h : rt s x = false) : exT rt d s z (x::T) = none:=by
 cases d <;> rw [exT,h] <;> rfl
theorem Ctr.weak {P : Program} {f : FuncId} {args : List Value} {β : List Blk} {Γ Γ' : List Fact} {Q : Value → List Fact → List Blk → Prop} (h : Ctr P f args β Γ Q) (hs : ∀ g ∈ Γ,g ∈ Γ') : Ctr P f args β Γ' Q:=⟨h.1,fun w A h1 h2 h3 h4=>h.2 w A h1 h2 h3 fun g hg=>h4 g (hs g hg)⟩
theorem sfx_at {x : List Int} {T sets : List (List Int)} (h : (x::T) <:+ sets) : T.length + 1 ≤ sets.length ∧ sets[sets.length - (T.length + 1)]? = some x:=by
 obtain ⟨l,rfl⟩:=h
 refine ⟨by rw [List.length_append,List.length_cons];omega,?_⟩
 rw [List.length_append,List.length_cons,List.getElem?_append_right (by omega),show l.length + (T.length + 1) - (T.length + 1) - l.length = 0 by omega]
 rfl
section
variable {p m N b bp nm cm ns cs ny cy nt ct : Nat} {pm ps py pt : Option Addr} {Mo w : Int} {md : List Int} {rows sets : List (List Int)}
theorem S_rightE {ng cg ce cl n1 c1 n2 c2 : Nat} {pg pe pl p1 p2 : Option Addr} {s set : List Int} {ap : Int} {res : Bool} (K : Fok p m md) (hM : Mat (p ^ m) N rows) (hr1 : 1 ≤ rows.length) (hr : rows.length ≤ 1000000) (hN : N ≤ 1000) (h : rgB p m md N rows Mo s set = res) :
  Ctr Tryz.prog 150 [.pointer (some ⟨bp,0,none⟩),.slice p1 n1 c1,.slice p2 n2 c2] [prB bp b p m N nm cm ns cs ny cy nt ct pm ps py pt false Mo w ap] [slF (encSl I64) ps ns cs rows,gfC b p m (p ^ m) pg ng cg pe (p ^ m - 1) ce pl (p ^ m) cl,slF I64 pe (p ^ m - 1) ce (exL p m md),slF I64 pl (p ^ m) cl (lgL p m md),slF I64 p1 n1 c1 s,slF I64 p2 n2 c2 set]
   (fun v Φ β=>v = .bool res ∧ Φ = [] ∧ β = [prB bp b p m N nm cm ns cs ny cy nt ct pm ps py pt false Mo w ap]):=h ▸ S_exclusion_proof__right K hM hr1 hr hN
theorem S_checkNil {n1 c1 n2 c2 : Nat} {p1 p2 : Option Addr} :
  Ctr Tryz.prog 129 [.pointer (some ⟨bp,0,none⟩),.slice p1 n1 c1,.slice p2 n2 c2] [prB bp b p m N nm cm ns cs ny cy nt ct pm ps py pt false Mo w ((sets.length - ([] : List (List Int)).length : Nat) : Int)] [slF (encSl I64) pt nt ct sets]
   (ChQ (fun ap=>prB bp b p m N nm cm ns cs ny cy nt ct pm ps py pt false Mo w (ap : Nat)) sets.length none):=by
 refine Ctr_of_j' (F:=F_exclusion_proof__check) rfl fun C=>?_
 refine j_len 0 rfl fun hn hb _=>?_
 subst hn
 have e0 : ([] : List (List Int)).length = 0:=rfl
 refine wk 9 cz ?_
 refine j_givK 1 [0] [] rfl (.tmp rfl .nil) rfl rfl rfl ⟨_,rfl,rfl,rfl⟩
theorem S_checkStep {ng cg ce cl n1 c1 n2 c2 : Nat} {pg pe pl p1 p2 : Option Addr} {s z x : List Int} {T : List (List Int)} {R : Option (List (List Int))} (K : Fok p m md) (hM : Mat (p ^ m) N rows) (hr1 : 1 ≤ rows.length) (hr : rows.length ≤ 1000000) (hN : N ≤ 1000) (hT : (x::T) <:+ sets)
  (hch : rgB p m md N rows Mo s x = true → ∀ {n1 c1 n2 c2 n3 c3 : Nat} {p1 p2 p3 : Option Addr},Ctr Tryz.prog 151 [.pointer (some ⟨bp,0,none⟩),.slice p1 n1 c1,.slice p2 n2 c2,.slice p3 n3 c3,.func (.func 129) #[.pointer (some ⟨bp,0,none⟩)] #[]] [prB bp b p m N nm cm ns cs ny cy nt ct pm ps py pt false Mo w ((sets.length - T.length : Nat) : Int)] [slF (encSl I64) ps ns cs rows,gfC b p m (p ^ m) pg ng cg pe (p ^ m - 1) ce pl (p ^ m) cl,slF I64 pe (p ^ m - 1) ce (exL p m md),slF I64 pl (p ^ m) cl (lgL p m md),slF (encSl I64) pt nt ct sets,slF I64 p1 n1 c1 s,slF I64 p2 n2 c2 z,slF I64 p3 n3 c3 x]
   (ChQ (fun ap=>prB bp b p m N nm cm ns cs ny cy nt ct pm ps py pt false Mo w (ap : Nat)) sets.length R)) :
  Ctr Tryz.prog 129 [.pointer (some ⟨bp,0,none⟩),.slice p1 n1 c1,.slice p2 n2 c2] [prB bp b p m N nm cm ns cs ny cy nt ct pm ps py pt false Mo w ((sets.length - (x::T).length : Nat) : Int)] [slF (encSl I64) ps ns cs rows,gfC b p m (p ^ m) pg ng cg pe (p ^ m - 1) ce pl (p ^ m) cl,slF I64 pe (p ^ m - 1) ce (exL p m md),slF I64 pl (p ^ m) cl (lgL p m md),slF (encSl I64) pt nt ct sets,slF I64 p1 n1 c1 s,slF I64 p2 n2 c2 z]
   (ChQ (fun ap=>prB bp b p m N nm cm ns cs ny cy nt ct pm ps py pt false Mo w (ap : Nat)) sets.length (if rgB p m md N rows Mo s x = true then R else none)):=by
 refine Ctr_of_j' (F:=F_exclusion_proof__check) rfl fun C=>?_
 refine j_len 4 rfl fun hn hb _=>?_
 subst hn
 have hb' : sets.length * 24 ≤ 140737488355328:=hb
 have e0 : (x::T).length = T.length + 1:=rfl
 obtain ⟨hk,at_x⟩:=sfx_at hT
 have hgx : sets.getD (sets.length - (T.length + 1)) default = x:=by rw [List.getD_eq_getElem?_getD,at_x];rfl
 have c_exclusion_proof__right:=fun {ng cg ce cl n1 c1 n2 c2 : Nat} {pg pe pl p1 p2 : Option Addr} {s set : List Int} {ap : Int} {res : Bool} (h : rgB p m md N rows Mo s set = res)=>S_rightE (p:=p) (m:=m) (N:=N) (b:=b) (bp:=bp) (nm:=nm) (cm:=cm) (ns:=ns) (cs:=cs) (ny:=ny) (cy:=cy) (nt:=sets.length) (ct:=ct) (pm:=pm) (ps:=ps) (py:=py) (pt:=pt) (Mo:=Mo) (w:=w) (ap:=ap) (rows:=rows) (ng:=ng) (cg:=cg) (ce:=ce) (cl:=cl) (n1:=n1) (c1:=c1) (n2:=n2) (c2:=c2) (pg:=pg) (pe:=pe) (pl:=pl) (p1:=p1) (p2:=p2) (s:=s) (set:=set) K hM hr1 hr hN h
 rw [e0]
 obtain ⟨k,hk2⟩ : ∃ k,sets.length - (T.length + 1) = k:=⟨_,rfl⟩
 rw [hk2] at at_x hgx ⊢
 cases hrt : rgB p m md N rows Mo s x with
 | false =>
  rw [← hgx] at hrt
  rw [if_neg (by simp)]
  refine wk 3 cz ?_
  (apply j_drawK it mx 23;(· rfl);(· rfl))
  (apply lxk_run 2;(· rfl);(· simp))
  (apply lxk_eq;(· rfl);(· exact d_x fun _=>x_field rfl fd157_7 dk_eq))
  (apply lxk_eq;(· rfl);(· exact d_bld 0 rfl rfl ld3 rfl))
  (apply lxk_run 2;(· rfl);(· simp))
  (apply lxk_eq;(· rfl);(· exact d_x fun _=>x_field rfl fd157_6 dk_eq))
  (apply lxk_eq;(· rfl);(· exact d_bld 0 rfl rfl ld25 rfl))
  (apply lxk_eq;(· rfl);(· exact d_x fun _=>x_len sl25 rfl dk_eq))
  (apply lxk_eq;(· rfl);(· exact d_x fun _=>x_false it rfl (by trivial) (by omega) dk_eq))
  (apply lxk_run 5;(· rfl);(· simp))
  (apply lxk_eq;(· rfl);(· exact d_x fun _=>x_field rfl fd157_6 dk_eq))
  (apply lxk_eq;(· rfl);(· exact d_bld 0 rfl rfl ld25 rfl))
  (apply lxk_run 2;(· rfl);(· simp))
  (apply lxk_eq;(· rfl);(· exact d_x fun _=>x_field rfl fd157_7 dk_eq))
  (apply lxk_eq;(· rfl);(· exact d_bld 0 rfl rfl ld3 rfl))
  (apply lxk_pt;(· rfl);(· exact d_x fun _=>x_idx 4 (k) rfl rfl rfl sl25 rfl (by omega) fun z1 hz1 b1 o1=>(dk_ptD default hz1 0 rfl));intro b1 o1)
  (apply lxk_sl;(· rfl);(· exact d_x fun _=>x_ld_sl 0 rfl rfl ld22 fun pa1 ca1=>(dk_sl 0 rfl));intro pa1 ca1)
  refine lxk_end rfl ?_
  simp only [List.map_cons,List.map_nil,List.cons_append,List.nil_append]
  refine j_gstep rfl rfl (x_callB 0 [2,3,4,5,7,0] rfl rfl (c_exclusion_proof__right (by omega)) rfl ?_)
  rintro _ _ _ ⟨rfl,rfl,rfl⟩
  simp only [List.cons_append,List.nil_append]
  refine wk 6 cz ?_
  refine j_givK 1 [0] [] rfl (.tmp rfl .nil) rfl rfl rfl ⟨_,rfl,rfl,rfl⟩
 | true =>
  have hch':=@hch hrt
  rw [if_pos rfl]
  rw [← hgx] at hrt hch'
  have hk3 : sets.length - T.length = k + 1:=by omega
  rw [hk3] at hch'
  clear hch
  cases R with
  | none =>
   simp only [ChQ] at hch' ⊢
   have c_exclusion_proof__children:=fun {n1 c1 n2 c2 n3 c3 : Nat} {p1 p2 p3 : Option Addr}=>hch' (n1:=n1) (c1:=c1) (n2:=n2) (c2:=c2) (n3:=n3) (c3:=c3) (p1:=p1) (p2:=p2) (p3:=p3)
   refine wk 3 cz ?_
   (apply j_drawK it mx 23;(· rfl);(· rfl))
   (apply lxk_run 2;(· rfl);(· simp))
   (apply lxk_eq;(· rfl);(· exact d_x fun _=>x_field rfl fd157_7 dk_eq))
   (apply lxk_eq;(· rfl);(· exact d_bld 0 rfl rfl ld3 rfl))
   (apply lxk_run 2;(· rfl);(· simp))
   (apply lxk_eq;(· rfl);(· exact d_x fun _=>x_field rfl fd157_6 dk_eq))
   (apply lxk_eq;(· rfl);(· exact d_bld 0 rfl rfl ld25 rfl))
   (apply lxk_eq;(· rfl);(· exact d_x fun _=>x_len sl25 rfl dk_eq))
   (apply lxk_eq;(· rfl);(· exact d_x fun _=>x_false it rfl (by trivial) (by omega) dk_eq))
   (apply lxk_run 5;(· rfl);(· simp))
   (apply lxk_eq;(· rfl);(· exact d_x fun _=>x_field rfl fd157_6 dk_eq))
   (apply lxk_eq;(· rfl);(· exact d_bld 0 rfl rfl ld25 rfl))
   (apply lxk_run 2;(· rfl);(· simp))
   (apply lxk_eq;(· rfl);(· exact d_x fun _=>x_field rfl fd157_7 dk_eq))
   (apply lxk_eq;(· rfl);(· exact d_bld 0 rfl rfl ld3 rfl))
   (apply lxk_pt;(· rfl);(· exact d_x fun _=>x_idx 4 (k) rfl rfl rfl sl25 rfl (by omega) fun z1 hz1 b1 o1=>(dk_ptD default hz1 0 rfl));intro b1 o1)
   (apply lxk_sl;(· rfl);(· exact d_x fun _=>x_ld_sl 0 rfl rfl ld22 fun pa1 ca1=>(dk_sl 0 rfl));intro pa1 ca1)
   refine lxk_end rfl ?_
   simp only [List.map_cons,List.map_nil,List.cons_append,List.nil_append]
   refine j_gstep rfl rfl (x_callB 0 [2,3,4,5,7,0] rfl rfl (c_exclusion_proof__right (by omega)) rfl ?_)
   rintro _ _ _ ⟨rfl,rfl,rfl⟩
   simp only [List.cons_append,List.nil_append]
   refine wk 11 cz ?_
   (apply j_drawK it mx 16;(· rfl);(· rfl))
   (apply lxk_run 5;(· rfl);(· simp))
   (apply lxk_eq;(· rfl);(· exact d_x fun _=>x_field rfl fd157_6 dk_eq))
   (apply lxk_eq;(· rfl);(· exact d_bld 0 rfl rfl ld25 rfl))
   (apply lxk_run 2;(· rfl);(· simp))
   (apply lxk_eq;(· rfl);(· exact d_x fun _=>x_field rfl fd157_7 dk_eq))
   (apply lxk_eq;(· rfl);(· exact d_bld 0 rfl rfl ld3 rfl))
   (apply lxk_eq (v:=Value.int IntKind.i64 (((((k) + 1) - 1 : Nat)) : Int));(· rfl);(· exact d_x fun _=>x_asN it _ rfl ⟨by omega,by omega⟩ (by omega) dk_eq))
   simp only [Nat.add_sub_cancel]
   (apply lxk_pt;(· rfl);(· exact d_x fun _=>x_idx 6 (k) rfl rfl rfl sl25 rfl (by omega) fun z1 hz1 b2 o2=>(dk_ptD default hz1 0 rfl));intro b2 o2)
   (apply lxk_sl;(· rfl);(· exact d_x fun _=>x_ld_sl 0 rfl rfl ld22 fun pa2 ca2=>(dk_sl 0 rfl));intro pa2 ca2)
   (apply lxk_run 2;(· rfl);(· simp))
   refine lxk_end rfl ?_
   simp only [List.map_cons,List.map_nil,List.cons_append,List.nil_append]
   refine j_step rfl (x_callB 0 [4,5,6,7,8,9,10,0] rfl rfl (c_exclusion_proof__children) rfl ?_)
   rintro _ _ _ ⟨ap1,rfl,rfl,rfl⟩
   simp only [List.cons_append,List.nil_append]
   refine wk 2 cz ?_
   refine j_givK 1 [0] [] rfl (.tmp rfl .nil) rfl rfl rfl ⟨_,rfl,rfl,rfl⟩
  | some T' =>
   simp only [ChQ] at hch' ⊢
   have c_exclusion_proof__children:=fun {n1 c1 n2 c2 n3 c3 : Nat} {p1 p2 p3 : Option Addr}=>hch' (n1:=n1) (c1:=c1) (n2:=n2) (c2:=c2) (n3:=n3) (c3:=c3) (p1:=p1) (p2:=p2) (p3:=p3)
   refine wk 3 cz ?_
   (apply j_drawK it mx 23;(· rfl);(· rfl))
   (apply lxk_run 2;(· rfl);(· simp))
   (apply lxk_eq;(· rfl);(· exact d_x fun _=>x_field rfl fd157_7 dk_eq))
   (apply lxk_eq;(· rfl);(· exact d_bld 0 rfl rfl ld3 rfl))
   (apply lxk_run 2;(· rfl);(· simp))
   (apply lxk_eq;(· rfl);(· exact d_x fun _=>x_field rfl fd157_6 dk_eq))
   (apply lxk_eq;(· rfl);(· exact d_bld 0 rfl rfl ld25 rfl))
   (apply lxk_eq;(· rfl);(· exact d_x fun _=>x_len sl25 rfl dk_eq))
   (apply lxk_eq;(· rfl);(· exact d_x fun _=>x_false it rfl (by trivial) (by omega) dk_eq))
   (apply lxk_run 5;(· rfl);(· simp))
   (apply lxk_eq;(· rfl);(· exact d_x fun _=>x_field rfl fd157_6 dk_eq))
   (apply lxk_eq;(· rfl);(· exact d_bld 0 rfl rfl ld25 rfl))
   (apply lxk_run 2;(· rfl);(· simp))
   (apply lxk_eq;(· rfl);(· exact d_x fun _=>x_field rfl fd157_7 dk_eq))
   (apply lxk_eq;(· rfl);(· exact d_bld 0 rfl rfl ld3 rfl))
   (apply lxk_pt;(· rfl);(· exact d_x fun _=>x_idx 4 (k) rfl rfl rfl sl25 rfl (by omega) fun z1 hz1 b1 o1=>(dk_ptD default hz1 0 rfl));intro b1 o1)
   (apply lxk_sl;(· rfl);(· exact d_x fun _=>x_ld_sl 0 rfl rfl ld22 fun pa1 ca1=>(dk_sl 0 rfl));intro pa1 ca1)
   refine lxk_end rfl ?_
   simp only [List.map_cons,List.map_nil,List.cons_append,List.nil_append]
   refine j_gstep rfl rfl (x_callB 0 [2,3,4,5,7,0] rfl rfl (c_exclusion_proof__right (by omega)) rfl ?_)
   rintro _ _ _ ⟨rfl,rfl,rfl⟩
   simp only [List.cons_append,List.nil_append]
   refine wk 11 cz ?_
   (apply j_drawK it mx 16;(· rfl);(· rfl))
   (apply lxk_run 5;(· rfl);(· simp))
   (apply lxk_eq;(· rfl);(· exact d_x fun _=>x_field rfl fd157_6 dk_eq))
   (apply lxk_eq;(· rfl);(· exact d_bld 0 rfl rfl ld25 rfl))
   (apply lxk_run 2;(· rfl);(· simp))
   (apply lxk_eq;(· rfl);(· exact d_x fun _=>x_field rfl fd157_7 dk_eq))
   (apply lxk_eq;(· rfl);(· exact d_bld 0 rfl rfl ld3 rfl))
   (apply lxk_eq (v:=Value.int IntKind.i64 (((((k) + 1) - 1 : Nat)) : Int));(· rfl);(· exact d_x fun _=>x_asN it _ rfl ⟨by omega,by omega⟩ (by omega) dk_eq))
   simp only [Nat.add_sub_cancel]
   (apply lxk_pt;(· rfl);(· exact d_x fun _=>x_idx 6 (k) rfl rfl rfl sl25 rfl (by omega) fun z1 hz1 b2 o2=>(dk_ptD default hz1 0 rfl));intro b2 o2)
   (apply lxk_sl;(· rfl);(· exact d_x fun _=>x_ld_sl 0 rfl rfl ld22 fun pa2 ca2=>(dk_sl 0 rfl));intro pa2 ca2)
   (apply lxk_run 2;(· rfl);(· simp))
   refine lxk_end rfl ?_
   simp only [List.map_cons,List.map_nil,List.cons_append,List.nil_append]
   refine j_step rfl (x_callB 0 [4,5,6,7,8,9,10,0] rfl rfl (c_exclusion_proof__children) rfl ?_)
   rintro _ _ _ ⟨rfl,rfl,rfl⟩
   simp only [List.cons_append,List.nil_append]
   refine wk 2 cz ?_
   refine j_givK 1 [0] [] rfl (.tmp rfl .nil) rfl rfl rfl ⟨rfl,rfl,rfl⟩
theorem S_exclusion_proof__check {ng cg ce cl : Nat} {pg pe pl : Option Addr} (K : Fok p m md) (hM : Mat (p ^ m) N rows) (hr1 : 1 ≤ rows.length) (hr : rows.length ≤ 1000000) (hN : N ≤ 1000) : ∀ (d : Nat) {n1 c1 n2 c2 : Nat} {p1 p2 : Option Addr} {s z : List Int} {T : List (List Int)},
  ((s.length + d : Nat) : Int) = w → s.length + d ≤ 1000 → z.length + 1000 * d ≤ 100000 → T <:+ sets →
  Ctr Tryz.prog 129 [.pointer (some ⟨bp,0,none⟩),.slice p1 n1 c1,.slice p2 n2 c2] [prB bp b p m N nm cm ns cs ny cy nt ct pm ps py pt false Mo w ((sets.length - T.length : Nat) : Int)] [slF (encSl I64) ps ns cs rows,gfC b p m (p ^ m) pg ng cg pe (p ^ m - 1) ce pl (p ^ m) cl,slF I64 pe (p ^ m - 1) ce (exL p m md),slF I64 pl (p ^ m) cl (lgL p m md),slF (encSl I64) pt nt ct sets,slF I64 p1 n1 c1 s,slF I64 p2 n2 c2 z]
   (ChQ (fun ap=>prB bp b p m N nm cm ns cs ny cy nt ct pm ps py pt false Mo w (ap : Nat)) sets.length (exT (rgB p m md N rows Mo) d s z T)):=by
 intro d
 induction d with
 | zero =>
  intro n1 c1 n2 c2 p1 p2 s z T hs hs2 hz hT
  cases T with
  | nil=>rw [ext_nil];exact Ctr.weak S_checkNil (by simp)
  | cons x T =>
   rw [exT]
   refine S_checkStep K hM hr1 hr hN hT fun hrt=>?_
   intro n1 c1 n2 c2 n3 c3 p1 p2 p3
   exact Ctr.weak (S_exclusion_proof__children0 (by omega)) (by simp)
 | succ d ih =>
  intro n1 c1 n2 c2 p1 p2 s z T hs hs2 hz hT
  cases T with
  | nil=>rw [ext_nil];exact Ctr.weak S_checkNil (by simp)
  | cons x T =>
   rw [exT]
   refine S_checkStep K hM hr1 hr hN hT fun hrt=>?_
   intro n1 c1 n2 c2 n3 c3 p1 p2 p3
   have hst:=rg_st hrt
   have hsl:=st_len hst
   refine S_exclusion_proof__children (by omega) hst (by omega) (by omega) (by omega) ((List.suffix_cons x T).trans hT) ?_
   intro n1 c1 n2 c2 p1 p2 y z' T hz' hT'
   exact ih (by rw [List.length_append,List.length_singleton];omega) (by rw [List.length_append,List.length_singleton];omega) (by omega) hT'
end
open Go Go.Fw
set_option maxRecDepth 100000
set_option linter.unusedVariables false
set_option linter.unusedSimpArgs false
set_option maxHeartbeats 0
def exB (p m : Nat) (md : List Int) (N : Nat) (rows : List (List Int)) (Mo : Int) (d : Nat) (sets : List (List Int)) : Bool:=decide (exT (rgB p m md N rows Mo) d [] [] sets = some [])
section
variable {p m N b bp nm cm ns cs ny cy nt ct : Nat} {pm ps py pt : Option Addr} {Mo : Int} {d : Nat} {md : List Int} {rows sets : List (List Int)}
theorem S_exclusion_proof__proves {ng cg ce cl nt' ct' : Nat} {pg pe pl pt' : Option Addr} {bo : Bool} (K : Fok p m md) (hM : Mat (p ^ m) N rows) (hr1 : 1 ≤ rows.length) (hr : rows.length ≤ 1000000) (hN : N ≤ 1000) (hd : d ≤ 64) (hbo : exB p m md N rows Mo d sets = bo) :
  Ctr Tryz.prog 92 [.pointer (some ⟨bp,0,none⟩),.agg #[.slice pt nt ct]] [prB bp b p m N nm cm ns cs ny cy nt' ct' pm ps py pt' false Mo d 0] [slF (encSl I64) ps ns cs rows,gfC b p m (p ^ m) pg ng cg pe (p ^ m - 1) ce pl (p ^ m) cl,slF I64 pe (p ^ m - 1) ce (exL p m md),slF I64 pl (p ^ m) cl (lgL p m md),slF (encSl I64) pt nt ct sets]
   (Rv (.int .i64 (if bo = true then 0 else 13)) []):=by
 refine Ctr_of_j' (F:=F_exclusion_proof__proves) rfl fun C=>?_
 refine j_len 4 rfl fun hn hb _=>?_
 subst hn
 refine j_add (slF I64 none 0 0 []) (fun w A _=>slF_nil _ w A none 0) ?_
 have e0 : ([] : List Int).length = 0:=rfl
 have h:=S_exclusion_proof__check (b:=b) (bp:=bp) (nm:=nm) (cm:=cm) (ns:=ns) (cs:=cs) (ny:=ny) (cy:=cy) (nt:=sets.length) (ct:=ct) (pm:=pm) (ps:=ps) (py:=py) (pt:=pt) (Mo:=Mo) (w:=d) (sets:=sets) (ng:=ng) (cg:=cg) (ce:=ce) (cl:=cl) (pg:=pg) (pe:=pe) (pl:=pl) K hM hr1 hr hN d (n1:=0) (c1:=0) (n2:=0) (c2:=0) (p1:=none) (p2:=none) (s:=[]) (z:=[]) (T:=sets) (by rw [e0,Nat.zero_add]) (by rw [e0];omega) (by rw [e0];omega) (List.suffix_refl _)
 rw [Nat.sub_self] at h
 cases hE : exT (rgB p m md N rows Mo) d [] [] sets with
 | none =>
  rw [hE] at h
  rw [exB,hE] at hbo
  simp only [reduceCtorEq,decide_false] at hbo
  subst hbo
  simp only [ChQ] at h
  have c_exclusion_proof__check:=h
  refine wk 12 cz ?_
  intro b1
  refine j_step rfl (x_callB 1 [1,2,3,4,5,0,0] rfl rfl (c_exclusion_proof__check) rfl ?_)
  rintro _ _ _ ⟨ap1,rfl,rfl,rfl⟩
  simp only [List.cons_append,List.nil_append]
  refine wk 8 cz ?_
  exact ge
 | some T =>
  rw [hE] at h
  rw [exB,hE] at hbo
  simp only [ChQ] at h
  have c_exclusion_proof__check:=h
  have hTl:=(exT_sfx hE).length_le
  cases T with
  | nil =>
   have e1 : ([] : List (List Int)).length = 0:=rfl
   simp only [decide_true] at hbo
   subst hbo
   rw [e1] at c_exclusion_proof__check
   refine wk 12 cz ?_
   intro b1
   refine j_step rfl (x_callB 1 [1,2,3,4,5,0,0] rfl rfl (c_exclusion_proof__check) rfl ?_)
   rintro _ _ _ ⟨rfl,rfl,rfl⟩
   simp only [List.cons_append,List.nil_append]
   refine wk 8 cz ?_
   exact ge
  | cons x T =>
   have e1 : (x::T).length = T.length + 1:=rfl
   simp only [Option.some.injEq,reduceCtorEq,decide_false] at hbo
   subst hbo
   rw [e1] at c_exclusion_proof__check hTl
   refine wk 12 cz ?_
   intro b1
   refine j_step rfl (x_callB 1 [1,2,3,4,5,0,0] rfl rfl (c_exclusion_proof__check) rfl ?_)
   rintro _ _ _ ⟨rfl,rfl,rfl⟩
   simp only [List.cons_append,List.nil_append]
   refine wk 8 cz ?_
   exact ge
theorem S_exclusion_open_ok {n c : Nat} {w : Int} (CC : Cok p m md N rows) (hw : InR .i64 w) : Ctr Tryz.prog 128 [.agg #[.int .i64 p,.int .i64 m,.slice pm nm cm,.int .i64 N,.slice ps n c],.int .i64 w] [] [slF I64 pm nm cm md,slF (encSl I64) ps n c rows]
   (fun v Φ β=>∃ (bp b : Nat) (pg : Option Addr) (cg : Nat) (pe : Option Addr) (ce : Nat) (pl : Option Addr) (cl : Nat),v = .tuple #[.pointer (some ⟨bp,0,none⟩),.int .i64 0] ∧ Φ = gfL p m md b pg cg pe ce pl cl ∧ β = [prB bp b p m N nm cm n c 0 0 0 0 pm ps none none false 0 w 0]):=by
 refine Ctr_of_j' (F:=F_exclusion_open) rfl fun C=>?_
 have hN : InR .i64 (N : Int):=by have:=CC.n64;simp only [InR];omega
 have c_code_Check:=fun {pm ps : Option Addr} {nm cm n c : Nat}=>S_code_Check (P:=(p : Int)) (M:=(m : Int)) (N:=(N : Int)) (pm:=pm) (ps:=ps) (nm:=nm) (cm:=cm) (n:=n) (c:=c) (md:=md) (rows:=rows) hN CC.ck
 have c_field_New:=fun {pm : Option Addr} {nm cm : Nat}=>S_field_New_ok (pm:=pm) (nm:=nm) (cm:=cm) CC.K
 refine wk 24 (ct @c_code_Check (ct @c_field_New cz)) ?_
 intro b1 h1 b2 pg1 cg1 pe1 ce1 pl1 cl1 b3
 refine j_givK 2 [0] [0,1,2,3] rfl (.tmp rfl (.tmp rfl .nil)) rfl rfl rfl ⟨_,_,_,_,_,_,_,_,rfl,rfl,rfl⟩
theorem S_exclusion_open_err {n c : Nat} {P M N w e : Int} (hN : InR .i64 N) (h : ckE P M md N rows = e) (he : e ≠ 0) : Ctr Tryz.prog 128 [.agg #[.int .i64 P,.int .i64 M,.slice pm nm cm,.int .i64 N,.slice ps n c],.int .i64 w] [] [slF I64 pm nm cm md,slF (encSl I64) ps n c rows]
   (Rv (.tuple #[.pointer none,.int .i64 e]) []):=by
 refine Ctr_of_j' (F:=F_exclusion_open) rfl fun C=>?_
 have hr:=ckE_rng P M md N rows
 have c_code_Check:=fun {pm ps : Option Addr} {nm cm n c : Nat}=>S_code_Check (P:=P) (M:=M) (N:=N) (pm:=pm) (ps:=ps) (nm:=nm) (cm:=cm) (n:=n) (c:=c) (md:=md) (rows:=rows) hN h
 refine wk 14 (ct @c_code_Check cz) ?_
 intro b1 h1
 exact ge
theorem S_exclusion_rank_ok {n c : Nat} (CC : Cok p m md N rows) (hM : 0 ≤ Mo) (hM2 : Mo ≤ rows.length) (hd : d ≤ N) : Ctr Tryz.prog 91 [.agg #[.int .i64 p,.int .i64 m,.slice pm nm cm,.int .i64 N,.slice ps n c],.int .i64 Mo,.int .i64 d] [] [slF I64 pm nm cm md,slF (encSl I64) ps n c rows]
   (fun v Φ β=>∃ (bp b : Nat) (pg : Option Addr) (cg : Nat) (pe : Option Addr) (ce : Nat) (pl : Option Addr) (cl : Nat),v = .tuple #[.pointer (some ⟨bp,0,none⟩),.int .i64 0] ∧ Φ = gfL p m md b pg cg pe ce pl cl ∧ β = [prB bp b p m N nm cm n c 0 0 0 0 pm ps none none false Mo d 0]):=by
 refine Ctr_of_j' (F:=F_exclusion_rank) rfl fun C=>?_
 refine j_len 1 rfl fun hn hb _=>?_
 subst hn
 have hn:=CC.n64
 have c_exclusion_open:=fun {pm ps : Option Addr} {nm cm n c : Nat}=>S_exclusion_open_ok (pm:=pm) (ps:=ps) (nm:=nm) (cm:=cm) (n:=n) (c:=c) (w:=d) CC (by simp only [InR];omega)
 refine wk 39 (ct @c_exclusion_open cz) ?_
 intro b1 bp1 b2 pg1 cg1 pe1 ce1 pl1 cl1 h1 h2 h3 h4 h5
 refine j_givK 2 [0] [0,1,2,3] rfl (.tmp rfl (.tmp rfl .nil)) rfl rfl rfl ⟨_,_,_,_,_,_,_,_,rfl,rfl,rfl⟩
theorem S_exclusion_rank_rng {n c : Nat} {w : Int} (CC : Cok p m md N rows) (hw : InR .i64 w) (h : Mo < 0 ∨ rows.length < Mo ∨ w < 0 ∨ N < w) : Ctr Tryz.prog 91 [.agg #[.int .i64 p,.int .i64 m,.slice pm nm cm,.int .i64 N,.slice ps n c],.int .i64 Mo,.int .i64 w] [] [slF I64 pm nm cm md,slF (encSl I64) ps n c rows]
   (Rv (.tuple #[.pointer none,.int .i64 6]) []):=by
 refine Ctr_of_j' (F:=F_exclusion_rank) rfl fun C=>?_
 refine j_len 1 rfl fun hn hb _=>?_
 subst hn
 have hn:=CC.n64
 have c_exclusion_open:=fun {pm ps : Option Addr} {nm cm n c : Nat}=>S_exclusion_open_ok (pm:=pm) (ps:=ps) (nm:=nm) (cm:=cm) (n:=n) (c:=c) (w:=w) CC hw
 by_cases h1 : Mo < 0
 ·refine wk 23 (ct @c_exclusion_open cz) ?_
  intro b1 bp1 b2 pg1 cg1 pe1 ce1 pl1 cl1 h2 h3
  exact ge
 ·by_cases h2 : rows.length < Mo
  ·refine wk 31 (ct @c_exclusion_open cz) ?_
   intro b1 bp1 b2 pg1 cg1 pe1 ce1 pl1 cl1 h3 h4 h5
   exact ge
  ·by_cases h3 : w < 0
   ·refine wk 36 (ct @c_exclusion_open cz) ?_
    intro b1 bp1 b2 pg1 cg1 pe1 ce1 pl1 cl1 h4 h5 h6 h7
    exact ge
   ·have h4 : N < w:=by omega
    refine wk 39 (ct @c_exclusion_open cz) ?_
    intro b1 bp1 b2 pg1 cg1 pe1 ce1 pl1 cl1 h5 h6 h7 h8 h9
    exact ge
theorem S_exclusion_rank_err {n c : Nat} {P M N w e : Int} (hN : InR .i64 N) (h : ckE P M md N rows = e) (he : e ≠ 0) : Ctr Tryz.prog 91 [.agg #[.int .i64 P,.int .i64 M,.slice pm nm cm,.int .i64 N,.slice ps n c],.int .i64 Mo,.int .i64 w] [] [slF I64 pm nm cm md,slF (encSl I64) ps n c rows]
   (Rv (.tuple #[.pointer none,.int .i64 e]) []):=by
 refine Ctr_of_j' (F:=F_exclusion_rank) rfl fun C=>?_
 have hr:=ckE_rng P M md N rows
 have c_exclusion_open:=fun {pm ps : Option Addr} {nm cm n c : Nat}=>S_exclusion_open_err (pm:=pm) (ps:=ps) (nm:=nm) (cm:=cm) (n:=n) (c:=c) (w:=w) hN h he
 refine wk 15 (ct @c_exclusion_open cz) ?_
 intro b1 h1
 exact ge
noncomputable def rkE (P M : Int) (md : List Int) (N : Int) (rows : List (List Int)) (Mo w : Int) (sets : List (List Int)) : Int :=
 if ckE P M md N rows ≠ 0 then ckE P M md N rows else if Mo < 0 ∨ rows.length < Mo ∨ w < 0 ∨ N < w then 6 else if exB P.toNat M.toNat md N.toNat rows Mo w.toNat sets = true then 0 else 13
theorem S_exclusion_CheckRank {n c : Nat} {P M N w e : Int} (hN : InR .i64 N) (hw : InR .i64 w) (hr1 : 1 ≤ rows.length) (h : rkE P M md N rows Mo w sets = e) : Ctr Tryz.prog 59 [.agg #[.int .i64 P,.int .i64 M,.slice pm nm cm,.int .i64 N,.slice ps n c],.int .i64 Mo,.int .i64 w,.agg #[.slice pt nt ct]] [] [slF I64 pm nm cm md,slF (encSl I64) ps n c rows,slF (encSl I64) pt nt ct sets]
   (Rv (.int .i64 e) []):=by
 refine Ctr_of_j' (F:=F_exclusion_CheckRank) rfl fun C=>?_
 refine j_len 1 rfl fun hn hb _=>?_
 subst hn
 have hr:=ckE_rng P M md N rows
 rw [rkE] at h
 by_cases hc : ckE P M md N rows = 0
 ·rw [if_neg (fun e=>e hc)] at h
  obtain ⟨p,m,N,rfl,rfl,rfl,CC⟩:=ck_of hc
  have h64:=CC.n64
  rw [Int.toNat_natCast,Int.toNat_natCast,Int.toNat_natCast] at h
  by_cases h1 : Mo < 0 ∨ rows.length < Mo ∨ w < 0 ∨ N < w
  ·rw [if_pos h1] at h
   subst h
   have c_exclusion_rank:=fun {pm ps : Option Addr} {nm cm n c : Nat}=>S_exclusion_rank_rng (pm:=pm) (ps:=ps) (nm:=nm) (cm:=cm) (n:=n) (c:=c) CC hw h1
   refine wk 7 cz ?_
   intro b1 b2
   refine j_step rfl (x_call [0,1] rfl (c_exclusion_rank) rfl ?_)
   rintro _ _ _ ⟨rfl,rfl,rfl⟩
   simp only [List.cons_append,List.nil_append]
   refine wk 8 cz ?_
   intro h2
   exact ge
  ·rw [if_neg h1] at h
   obtain ⟨d,rfl⟩:=Int.eq_ofNat_of_zero_le (show 0 ≤ w by omega)
   rw [Int.toNat_natCast] at h
   have c_exclusion_rank:=fun {pm ps : Option Addr} {nm cm n c : Nat}=>S_exclusion_rank_ok (pm:=pm) (ps:=ps) (nm:=nm) (cm:=cm) (n:=n) (c:=c) CC (show 0 ≤ Mo by omega) (by omega) (show d ≤ N by omega)
   have hl : rows.length ≤ 1000000:=by have:=CC.len;omega
   have c_exclusion_proof__proves:=fun {bp b nm cm ns cs ny cy nt ct ng cg ce cl nt' ct' : Nat} {pm ps py pt pg pe pl pt' : Option Addr}=>S_exclusion_proof__proves (p:=p) (m:=m) (N:=N) (b:=b) (bp:=bp) (nm:=nm) (cm:=cm) (ns:=ns) (cs:=cs) (ny:=ny) (cy:=cy) (nt:=nt) (ct:=ct) (pm:=pm) (ps:=ps) (py:=py) (pt:=pt) (Mo:=Mo) (d:=d) (sets:=sets) (ng:=ng) (cg:=cg) (ce:=ce) (cl:=cl) (pg:=pg) (pe:=pe) (pl:=pl) (nt':=nt') (ct':=ct') (pt':=pt') CC.K CC.mat hr1 hl (by omega) (by omega) rfl
   rw [h] at c_exclusion_proof__proves
   refine wk 7 cz ?_
   intro b1 b2
   refine j_step rfl (x_call [0,1] rfl (c_exclusion_rank) rfl ?_)
   rintro _ _ _ ⟨bp1,b3,pg1,cg1,pe1,ce1,pl1,cl1,rfl,rfl,rfl⟩
   simp only [List.cons_append,List.nil_append]
   refine wk 8 cz ?_
   intro h2
   refine j_step rfl (x_callB 0 [5,0,2,3,6] rfl rfl (c_exclusion_proof__proves) rfl ?_)
   rintro _ _ _ ⟨rfl,rfl,rfl⟩
   simp only [List.cons_append,List.nil_append]
   simp only [decide_true]
   refine wk 2 cz ?_
   exact ge
 ·rw [if_pos hc] at h
  subst h
  have c_exclusion_rank:=fun {pm ps : Option Addr} {nm cm n c : Nat}=>S_exclusion_rank_err (pm:=pm) (ps:=ps) (nm:=nm) (cm:=cm) (n:=n) (c:=c) (Mo:=Mo) (w:=w) hN rfl hc
  refine wk 7 cz ?_
  intro b1 b2
  refine j_step rfl (x_call [0,1] rfl (c_exclusion_rank) rfl ?_)
  rintro _ _ _ ⟨rfl,rfl,rfl⟩
  simp only [List.cons_append,List.nil_append]
  refine wk 8 cz ?_
  intro h1
  exact ge
theorem S_exclusion_weight {n c : Nat} {N : Nat} {P M dd r : Int} (hN : N ≤ 1000) (hd : InR .i64 dd) (h : (if dd < 1 ∨ N + 1 < dd then -1 else dd - 1) = r) : Ctr Tryz.prog 60 [.agg #[.int .i64 P,.int .i64 M,.slice pm nm cm,.int .i64 N,.slice ps n c],.int .i64 dd] [] [] (Rv (.int .i64 r) []):=by
 refine Ctr_of_j' (F:=F_exclusion_weight) rfl fun C=>?_
 simp only [InR] at hd
 by_cases h1 : dd < 1
 ·rw [if_pos (.inl h1)] at h
  subst h
  refine wk 14 cz ?_
  intro b1 h2
  exact ge
 ·by_cases h2 : N + 1 < dd
  ·rw [if_pos (.inr h2)] at h
   subst h
   refine wk 17 cz ?_
   intro b1 h3 h4
   exact ge
  ·rw [if_neg (by omega)] at h
   subst h
   refine wk 17 cz ?_
   intro b1 h3 h4
   exact ge
noncomputable def cdE (P M : Int) (md : List Int) (N : Int) (rows : List (List Int)) (dd : Int) (sets : List (List Int)) : Int :=
 if ckE P M md N rows ≠ 0 then ckE P M md N rows else if dd < 1 ∨ N + 1 < dd then 6 else if exB P.toNat M.toNat md N.toNat rows rows.length (dd - 1).toNat sets = true then 0 else 13
theorem S_exclusion_CheckDistance {n c : Nat} {p m N : Nat} {dd e : Int} (CC : Cok p m md N rows) (hd : InR .i64 dd) (hr1 : 1 ≤ rows.length) (h : cdE p m md N rows dd sets = e) : Ctr Tryz.prog 27 [.agg #[.int .i64 p,.int .i64 m,.slice pm nm cm,.int .i64 N,.slice ps n c],.int .i64 dd,.agg #[.slice pt nt ct]] [] [slF I64 pm nm cm md,slF (encSl I64) ps n c rows,slF (encSl I64) pt nt ct sets]
   (Rv (.int .i64 e) []):=by
 refine Ctr_of_j' (F:=F_exclusion_CheckDistance) rfl fun C=>?_
 refine j_len 1 rfl fun hn hb _=>?_
 subst hn
 have h64:=CC.n64
 have hln:=CC.len
 have hN : InR .i64 (N : Int):=by simp only [InR];omega
 rw [cdE,CC.ck,if_neg (by simp)] at h
 have c_exclusion_CheckRank:=fun {pm ps pt : Option Addr} {nm cm n c nt ct : Nat} {w e : Int} (hw : InR .i64 w) (h : rkE p m md N rows rows.length w sets = e)=>S_exclusion_CheckRank (P:=p) (M:=m) (pm:=pm) (ps:=ps) (nm:=nm) (cm:=cm) (n:=n) (c:=c) (nt:=nt) (ct:=ct) (pt:=pt) (md:=md) hN hw hr1 h
 by_cases h1 : dd < 1 ∨ N + 1 < dd
 ·rw [if_pos h1] at h
  subst h
  have c_exclusion_weight:=fun {pm ps : Option Addr} {nm cm n c : Nat} {P M : Int}=>S_exclusion_weight (P:=P) (M:=M) (pm:=pm) (ps:=ps) (nm:=nm) (cm:=cm) (n:=n) (c:=c) (N:=N) (by omega) hd (if_pos h1)
  have hk : rkE p m md N rows rows.length (-1) sets = 6:=by rw [rkE,CC.ck,if_neg (by simp),if_pos (by omega)]
  have hr : InR .i64 (-1):=by simp only [InR];omega
  refine wk 5 cz ?_
  intro b1 b2
  (apply j_drawK it mx 9;(· rfl);(· rfl))
  (apply lxk_eq;(· rfl);(· exact d_bld_all 1 rfl rfl ld27 rfl))
  (apply lxk_eq;(· rfl);(· exact d_x fun _=>x_field rfl fd27_2 dk_eq))
  (apply lxk_eq;(· rfl);(· exact d_bld 1 rfl rfl ld25 rfl))
  (apply lxk_eq;(· rfl);(· exact d_x fun _=>x_len sl25 rfl dk_eq))
  (apply lxk_eq;(· rfl);(· exact d_bld_all 1 rfl rfl ld27 rfl))
  (apply lxk_run 1;(· rfl);(· simp))
  (apply lxk_eq;(· rfl);(· exact d_x fun _=>x_call [] rfl (c_exclusion_weight) rfl (by rintro _ _ _ ⟨rfl,rfl,rfl⟩;exact dk_eq)))
  (apply lxk_eq;(· rfl);(· exact d_bld_all 0 rfl rfl ld29 rfl))
  (apply lxk_eq;(· rfl);(· exact d_x fun _=>x_call [0,1,2] rfl (c_exclusion_CheckRank (by omega) (by omega)) rfl (by rintro _ _ _ ⟨rfl,rfl,rfl⟩;exact dk_eq)))
  refine lxk_end rfl ?_
  simp only [List.map_cons,List.map_nil,List.cons_append,List.nil_append]
  refine wk 2 cz ?_
  exact ge
 ·rw [if_neg h1] at h
  have c_exclusion_weight:=fun {pm ps : Option Addr} {nm cm n c : Nat} {P M : Int}=>S_exclusion_weight (P:=P) (M:=M) (pm:=pm) (ps:=ps) (nm:=nm) (cm:=cm) (n:=n) (c:=c) (N:=N) (by omega) hd (if_neg h1)
  have hk : rkE p m md N rows rows.length (dd - 1) sets = e:=by rw [rkE,CC.ck,if_neg (by simp),if_neg (by omega)];exact h
  have hr : InR .i64 (dd - 1):=by simp only [InR];omega
  refine wk 5 cz ?_
  intro b1 b2
  (apply j_drawK it mx 9;(· rfl);(· rfl))
  (apply lxk_eq;(· rfl);(· exact d_bld_all 1 rfl rfl ld27 rfl))
  (apply lxk_eq;(· rfl);(· exact d_x fun _=>x_field rfl fd27_2 dk_eq))
  (apply lxk_eq;(· rfl);(· exact d_bld 1 rfl rfl ld25 rfl))
  (apply lxk_eq;(· rfl);(· exact d_x fun _=>x_len sl25 rfl dk_eq))
  (apply lxk_eq;(· rfl);(· exact d_bld_all 1 rfl rfl ld27 rfl))
  (apply lxk_run 1;(· rfl);(· simp))
  (apply lxk_eq;(· rfl);(· exact d_x fun _=>x_call [] rfl (c_exclusion_weight) rfl (by rintro _ _ _ ⟨rfl,rfl,rfl⟩;exact dk_eq)))
  (apply lxk_eq;(· rfl);(· exact d_bld_all 0 rfl rfl ld29 rfl))
  (apply lxk_eq;(· rfl);(· exact d_x fun _=>x_call [0,1,2] rfl (c_exclusion_CheckRank (by omega) (by omega)) rfl (by rintro _ _ _ ⟨rfl,rfl,rfl⟩;exact dk_eq)))
  refine lxk_end rfl ?_
  simp only [List.map_cons,List.map_nil,List.cons_append,List.nil_append]
  refine wk 2 cz ?_
  exact ge
end
set_option maxRecDepth 100000
set_option linter.unusedVariables false
set_option linter.unusedSimpArgs false
section
variable {q : Nat} {A M : Int → Int → Int} {N V : Int → Int} (O : FO q A M N V)
include O
end
open Go Go.Fw
set_option maxRecDepth 100000
set_option linter.unusedVariables false
set_option linter.unusedSimpArgs false
set_option maxHeartbeats 0
theorem dot_snoc {q : Nat} {A M : Int → Int → Int} (F : FI q A M) : ∀ {n : Nat} {u v : List Int} {x y : Int},Wd q n u → Wd q n v → 0 ≤ x → x < q → 0 ≤ y → y < q → dotL A M (u++[x]) (v++[y]) = A (dotL A M u v) (M x y)
 | 0,u,v,x,y,hu,hv,x0,x1,y0,y1=>by
  rw [List.length_eq_zero_iff.1 hu.1,List.length_eq_zero_iff.1 hv.1]
  obtain ⟨m0,m1⟩:=F.ml x y x0 x1 y0 y1
  show A (M x y) 0 = A 0 (M x y)
  exact F.ac _ _ m0 m1 (Int.le_refl 0) F.z
 | n + 1,[],_,_,_,h,_,_,_,_,_=>by have:=h.1;simp at this
 | n + 1,_::_,[],_,_,_,h,_,_,_,_=>by have:=h.1;simp at this
 | n + 1,a::u,b::v,x,y,hu,hv,x0,x1,y0,y1=>by
  obtain ⟨a0,a1⟩:=hu.2 a (.head _)
  obtain ⟨b0,b1⟩:=hv.2 b (.head _)
  have hu' : Wd q n u:=⟨by simpa using hu.1,fun z hz=>hu.2 z (.tail _ hz)⟩
  have hv' : Wd q n v:=⟨by simpa using hv.1,fun z hz=>hv.2 z (.tail _ hz)⟩
  obtain ⟨m0,m1⟩:=F.ml a b a0 a1 b0 b1
  obtain ⟨k0,k1⟩:=F.ml x y x0 x1 y0 y1
  obtain ⟨d0,d1⟩:=F.dlt hu' hv'
  show A (M a b) (dotL A M (u++[x]) (v++[y])) = A (A (M a b) (dotL A M u v)) (M x y)
  rw [dot_snoc F hu' hv' x0 x1 y0 y1,F.aa _ _ _ m0 m1 d0 d1 k0 k1]
abbrev piL (w hs : List Int) : List Int:=hs.map fun j=>at0 w j.toNat
theorem S_codewrightref09_Pick {q N nw cw nh ch : Nat} {pw ph : Option Addr} {w hs : List Int} (hq : q ≤ 256) (h0 : 0 < q) (hw : Wd q N w) (hN : N ≤ 1000000) (hl : hs.length ≤ 1000000) (hst : ∀ x ∈ hs,0 ≤ x ∧ x < (N : Int)) :
  Ctr Tryz.prog 85 [.slice pw nw cw,.slice ph nh ch] [] [slF I64 pw nw cw w,slF I64 ph nh ch hs] (fun v Φ β=>∃ (pb : Option Addr) (cb : Nat),v = .slice pb hs.length cb ∧ Φ = [slF I64 pb hs.length cb (piL w hs)] ∧ β = []):=by
 refine Ctr_of_j' (F:=F_codewrightref09_Pick) rfl fun C=>?_
 refine j_len 0 rfl fun hn hb _=>?_
 subst hn
 refine j_len 1 rfl fun hn hb2 _=>?_
 subst hn
 have hwl:=hw.1
 have hTl : (piL w hs).length = hs.length:=List.length_map _
 have hTr : ∀ z ∈ piL w hs,InR .i64 z:=fun z hz=>by
  obtain ⟨j,_,rfl⟩:=List.mem_map.1 hz
  have:=wd_at h0 hw j.toNat
  simp only [InR];omega
 refine wk 10 cz ?_
 intro b1
 rw [show natCells .i64 (List.replicate hs.length 0) = intCells .i64 ((piL w hs).take 0++List.replicate (hs.length - 0) 0) by simp [natCells,intCells]]
 refine j_loopG (X:=Nat) [0,1,4,5] [0,1] (fun k=>[(6,.int .i64 (k : Int))]) (fun k=>(some b1,3,intCells .i64 ((piL w hs).take k++List.replicate (hs.length - k) 0))::_) (fun _=>[]) (fun k=>k ≤ hs.length) (fun k=>hs.length - k) 0 [] rfl rfl rfl (Nat.zero_le _) (by repeat (first | exact Fr.sub_nil _ | refine Fr.sub_cons rfl ?_)) rfl rfl ?_
 rintro k hk ihk
 simp only [List.cons_append,List.nil_append] at hk ihk ⊢
 by_cases h8 : k < hs.length
 ·obtain ⟨x,at_x⟩ : ∃ x,hs[k]? = some x:=⟨_,List.getElem?_eq_getElem h8⟩
  obtain ⟨x0,x1⟩:=hst x (List.mem_of_getElem? at_x)
  have hT : (piL w hs)[k]? = some (at0 w x.toNat):=by rw [piL,List.getElem?_map,at_x];rfl
  obtain ⟨x,rfl⟩:=Int.eq_ofNat_of_zero_le x0
  rw [Int.toNat_natCast] at hT
  have at_y : w[x]? = some (at0 w x):=by
   rw [at0,List.getD_eq_getElem?_getD,List.getElem?_eq_getElem (by omega)];rfl
  have ih':=ihk (k + 1) (by omega) (by omega)
  rw [← take_set hT h8] at ih'
  have hln : ((piL w hs).take k++List.replicate (hs.length - k) 0).length = hs.length:=by rw [List.length_append,List.length_take,List.length_replicate];omega
  generalize (piL w hs).take k++List.replicate (hs.length - k) 0 = L at *
  refine wk 9 cz ?_
  intro h1 b2 o1 hz1
  refine j_step rfl (x_ld_int 0 rfl rfl ld3 fun ⟨r1,r2⟩=>?_)
  refine wk 1 cz ?_
  intro b3 o2 hz2
  refine j_step rfl (x_ld_int 0 rfl rfl ld3 fun ⟨r3,r4⟩=>?_)
  refine wk 5 cz ?_
  exact tw (ih')
 ·obtain rfl : k = hs.length:=by omega
  rw [Nat.sub_self,List.replicate_zero,List.append_nil,List.take_of_length_le (by omega)]
  clear ihk
  refine wk 9 cz ?_
  intro h1
  refine j_rowInt 0 rfl hTl.symm hTr (by omega) ?_
  refine j_pubR 0 0 rfl rfl (by show hs.length * 8 ≤ 140737488355328;omega) ?_
  simp only [List.eraseIdx_cons_zero,List.eraseIdx_cons_succ]
  refine j_giv [0] rfl rfl rfl ⟨_,_,rfl,rfl,rfl⟩
theorem S_codewrightref26_in {ps : Option Addr} {n c : Nat} {x : Int} {l : List Int} {res : Bool} (hr : decide (x ∈ l) = res) : Ctr Tryz.prog 175 [.slice ps n c,.int .i64 x] [] [slF I64 ps n c l] (Rv (.bool res) []):=by
 refine Ctr_of_j' (F:=F_codewrightref26_in) rfl fun C=>?_
 subst hr
 refine j_len 0 rfl fun hn hb _=>?_
 subst hn
 have hb' : l.length * 8 ≤ 140737488355328:=hb
 refine wk 5 cz ?_
 refine j_loopG (X:=Nat) [0,1] [0] (fun i=>[(5,.int .i64 (i : Int))]) (fun _=>[]) (fun _=>[]) (fun i=>i ≤ l.length ∧ ∀ y ∈ l.take i,x ≠ y) (fun i=>l.length - i) 0 [] rfl rfl rfl ⟨Nat.zero_le _,fun j h=>by simp at h⟩ (by repeat (first | exact Fr.sub_nil _ | refine Fr.sub_cons rfl ?_)) rfl rfl ?_
 rintro i ⟨hi,hno⟩ ih
 simp only [List.cons_append,List.nil_append] at hi ih ⊢
 by_cases h9 : i < l.length
 ·obtain ⟨y,at_y⟩ : ∃ y,l[i]? = some y:=⟨_,List.getElem?_eq_getElem h9⟩
  by_cases h8 : y = x
  ·subst h8
   rw [decide_eq_true (List.mem_of_getElem? at_y)]
   refine wk 9 cz ?_
   intro h1 b1 o1 hz1
   refine j_step rfl (x_ld_int 0 rfl rfl ld3 fun ⟨r1,r2⟩=>?_)
   refine wk 6 cz ?_
   intro h2
   exact ge
  ·refine wk 9 cz ?_
   intro h1 b1 o1 hz1
   refine j_step rfl (x_ld_int 0 rfl rfl ld3 fun ⟨r1,r2⟩=>?_)
   refine wk 6 cz ?_
   intro h2
   exact tw (ih (i + 1) (by omega) ⟨by omega,tk_all at_y hno fun e=>h8 e.symm⟩)
 ·rw [decide_eq_false fun hm=>hno x (by rwa [List.take_of_length_le (by omega)]) rfl]
  refine wk 9 cz ?_
  intro h1
  exact ge
theorem S_codewrightref10_Rising {ps : Option Addr} {nn c : Nat} {n : Int} {l : List Int} {res : Bool} (hr : decide (stP n l) = res) : Ctr Tryz.prog 174 [.slice ps nn c,.int .i64 n] [] [slF I64 ps nn c l] (Rv (.bool res) []):=by
 refine Ctr_of_j' (F:=F_codewrightref10_Rising) rfl fun C=>?_
 subst hr
 refine j_len 0 rfl fun hn hb _=>?_
 subst hn
 have hb' : l.length * 8 ≤ 140737488355328:=hb
 refine wk 5 cz ?_
 refine j_loopG (X:=Nat) [0,1] [0] (fun i=>[(5,.int .i64 (i : Int))]) (fun _=>[]) (fun _=>[]) (fun i=>i ≤ l.length ∧ ∀ j,j < i → stA n l j) (fun i=>l.length - i) 0 [] rfl rfl rfl ⟨Nat.zero_le _,fun j h=>by omega⟩ (by repeat (first | exact Fr.sub_nil _ | refine Fr.sub_cons rfl ?_)) rfl rfl ?_
 rintro i ⟨hi,hno⟩ ih
 simp only [List.cons_append,List.nil_append] at hi ih ⊢
 by_cases h9 : i < l.length
 ·obtain ⟨x,at_x⟩ : ∃ x,l[i]? = some x:=⟨_,List.getElem?_eq_getElem h9⟩
  have ex:=gd_at at_x
  have bad : ∀ P : Prop,¬ stA n l i → decide (stP n l) = false:=fun _ h=>decide_eq_false (stP_no h9 h)
  have good : stA n l i → ∀ j,j < i + 1 → stA n l j:=fun h j hj=>by
   rcases Nat.lt_succ_iff_lt_or_eq.1 hj with h1 | rfl
   ·exact hno j h1
   ·exact h
  by_cases a0 : x < 0
  ·rw [bad True fun h=>by have:=(h x at_x).1;omega]
   refine wk 13 cz ?_
   intro h1 b1 o1
   exact ge
  ·by_cases a1 : n ≤ x
   ·rw [bad True fun h=>by have:=(h x at_x).1;omega]
    refine wk 13 cz ?_
    intro h1 b1 o1 b2 o2
    exact ge
   ·rcases Nat.eq_zero_or_pos i with hi0 | hi0
    ·subst hi0
     refine wk 13 cz ?_
     intro h1 b1 o1 b2 o2
     exact tw (ih 1 (by omega) ⟨by omega,good fun z hz=>by
      rw [at_x] at hz;obtain rfl:=Option.some.inj hz
      exact ⟨by omega,fun y h=>by omega⟩⟩)
    ·obtain ⟨k,rfl⟩ : ∃ k,i = k + 1:=⟨i - 1,by omega⟩
     obtain ⟨y,at_y⟩ : ∃ y,l[k]? = some y:=⟨_,List.getElem?_eq_getElem (by omega)⟩
     have ey:=gd_at at_y
     have ey' : l.getD (k + 1 - 1) default = y:=ey
     by_cases a2 : x ≤ y
     ·rw [bad True fun h=>by have:=(h x at_x).2 y (by omega) at_y;omega]
      refine wk 13 cz ?_
      intro h1 b1 o1 b2 o2 b3 o3 b4 o4
      exact ge
     ·refine wk 13 cz ?_
      intro h1 b1 o1 b2 o2 b3 o3 b4 o4
      exact tw (ih (k + 2) (by omega) ⟨by omega,good fun z hz=>by
       rw [at_x] at hz;obtain rfl:=Option.some.inj hz
       exact ⟨by omega,fun z h hz=>by
        rw [show k + 1 - 1 = k by omega,at_y] at hz;obtain rfl:=Option.some.inj hz;omega⟩⟩)
 ·rw [decide_eq_true (stP_iff.2 fun j hj=>hno j (by omega))]
  refine wk 9 cz ?_
  intro h1
  exact ge
theorem S_codewrightref13_Keep {q N n c nh ch : Nat} {ps ph : Option Addr} {rows : List (List Int)} {hs : List Int} (hq : q ≤ 256) (h0 : 0 < q) (hM : Mat q N rows) (hN : N ≤ 1000000) (hl : hs.length ≤ 1000000) (hst : ∀ x ∈ hs,0 ≤ x ∧ x < (N : Int)) :
  Ctr Tryz.prog 187 [.slice ps n c,.slice ph nh ch] [] [slF (encSl I64) ps n c rows,slF I64 ph nh ch hs] (fun v Φ β=>∃ (pb : Option Addr) (cb : Nat),v = .slice pb rows.length cb ∧ Φ = [slF (encSl I64) pb rows.length cb (rows.map fun r=>piL r hs)] ∧ β = []):=by
 refine Ctr_of_j' (F:=F_codewrightref13_Keep) rfl fun C=>?_
 refine j_len 0 rfl fun hn hb _=>?_
 subst hn
 have hb' : rows.length * 24 ≤ 140737488355328:=hb
 refine wk 7 cz ?_
 refine j_row0 (encSl I64) 22 ?_
 refine j_loopG (X:=Nat × Row) [0,1,4] [0,1,2] (fun z=>[(6,.int .i64 (z.1 : Int)),(5,.slice (ad z.2.bo) z.1 z.2.cap)]) (fun z=>(z.2.bo,22,z.2.cs)::_) (fun z=>[rowF (encSl I64) z.2 z.1 ((rows.take z.1).map fun r=>piL r hs)]) (fun z=>z.1 ≤ rows.length) (fun z=>rows.length - z.1) (0,⟨none,0,[]⟩) [0] rfl rfl rfl (Nat.zero_le _) (by repeat (first | exact Fr.sub_nil _ | refine Fr.sub_cons rfl ?_)) rfl rfl ?_
 rintro ⟨k,r⟩ hk ih
 simp only [List.cons_append,List.nil_append] at hk ih ⊢
 by_cases h9 : k < rows.length
 ·obtain ⟨u,at_u⟩ : ∃ u,rows[k]? = some u:=⟨_,List.getElem?_eq_getElem h9⟩
  have hu:=hM u (List.mem_of_getElem? at_u)
  have c_codewrightref09_Pick:=fun {nw cw nh ch : Nat} {pw ph : Option Addr}=>S_codewrightref09_Pick (nw:=nw) (cw:=cw) (nh:=nh) (ch:=ch) (pw:=pw) (ph:=ph) hq h0 hu hN hl hst
  have ih':=fun r=>ih (k + 1,r) (by dsimp only;omega) (by dsimp only;omega)
  dsimp only at ih'
  rw [List.take_add_one,at_u,Option.toList_some,List.map_append,List.map_cons,List.map_nil] at ih'
  refine wk 13 (ct @c_codewrightref09_Pick cz) ?_
  intro h1 b1 o1 hz1 pa1 ca1 pb1 cb1 b2
  refine j_step rfl (x_appR (z:=piL u hs) 1 0 3 rfl rfl rfl rfl rfl sl25 zo25e rfl (fun w A hG=>(rd_of_slF (hG _ (fact_mem (n:=0) rfl)))) (by omega) _ by25e (by omega) fun r1=>?_)
  refine wk 4 cz ?_
  refine j_toM [true,false] [0,5,6,7] (by exact fra rfl) rfl rfl (ih' r1)
 ·obtain rfl : k = rows.length:=by omega
  rw [List.take_length]
  refine wk 9 cz ?_
  intro h1
  refine j_pubR 0 0 rfl rfl (by show rows.length * 24 ≤ 140737488355328;omega) ?_
  simp only [List.eraseIdx_cons_zero,List.eraseIdx_cons_succ]
  refine j_giv [0] rfl rfl rfl ⟨_,_,rfl,rfl,rfl⟩
theorem S_codewrightref25_Of {p m N n c nm cm nh ch : Nat} {pm ps ph : Option Addr} {md hs : List Int} {rows : List (List Int)} (K : Fok p m md) (hM : Mat (p ^ m) N rows) (hr : rows.length ≤ 1000000) (hN : N ≤ 1000000) (hl : hs.length ≤ 1000000) (hst : ∀ x ∈ hs,0 ≤ x ∧ x < (N : Int)) :
  Ctr Tryz.prog 176 [.agg #[.int .i64 p,.int .i64 m,.slice pm nm cm],.slice ps n c,.slice ph nh ch] [] [slF I64 pm nm cm md,slF (encSl I64) ps n c rows,slF I64 ph nh ch hs] (Rv (.int .i64 ((cnP p m md hs.length (rows.map fun r=>piL r hs)).2.length : Nat)) []):=by
 refine Ctr_of_j' (F:=F_codewrightref25_Of) rfl fun C=>?_
 refine j_len 2 rfl fun hn hb _=>?_
 subst hn
 have hq:=K.q
 have hq2:=(fok_fn K).q2
 have c_codewrightref13_Keep:=fun {n c nh ch : Nat} {ps ph : Option Addr}=>S_codewrightref13_Keep (n:=n) (c:=c) (nh:=nh) (ch:=ch) (ps:=ps) (ph:=ph) hq (show 0 < p ^ m by omega) hM hN hl hst
 have c_codewrightref09_Canon:=fun {nm cm c : Nat} {pm ps : Option Addr}=>S_codewrightref09_Canon (nm:=nm) (cm:=cm) (c:=c) (pm:=pm) (ps:=ps) (n:=rows.length) (N:=hs.length) (rows:=rows.map fun r=>piL r hs) K hr hl (List.length_map _) (fun r hr=>by
  obtain ⟨u,hu,rfl⟩:=List.mem_map.1 hr
  refine ⟨List.length_map _,fun x hx=>?_⟩
  obtain ⟨j,_,rfl⟩:=List.mem_map.1 hx
  exact wd_at (by omega) (hM u hu) _)
 refine wk 4 cz ?_
 intro b1
 (apply j_drawK it mx 11;(· rfl);(· rfl))
 (apply lxk_eq;(· rfl);(· exact d_bld_all 0 rfl rfl ld24 rfl))
 (apply lxk_run 2;(· rfl);(· simp))
 (apply lxk_sl;(· rfl);(· exact d_x fun _=>x_call [1,2] rfl (c_codewrightref13_Keep) rfl (by rintro _ _ _ ⟨pb1,cb1,rfl,rfl,rfl⟩;exact (dk_sl 0 rfl)));intro pa1 ca1)
 (apply lxk_run 1;(· rfl);(· simp))
 (apply lxk_eq;(· rfl);(· exact d_x fun _=>x_len sl22 rfl dk_eq))
 (apply lxk_fa (val:=(fun g=>Value.tuple #[Value.slice (g 0).fst (cnP p m md hs.length (List.map (fun r=>piL r hs) rows)).snd.length (g 2).snd.fst,Value.slice (g 1).fst (cnP p m md hs.length (List.map (fun r=>piL r hs) rows)).snd.length (g 3).snd.fst])) (f:=(fun g=>[slF (encSl I64) (g 0).fst (cnP p m md hs.length (List.map (fun r=>piL r hs) rows)).snd.length (g 2).snd.fst (cnP p m md hs.length (List.map (fun r=>piL r hs) rows)).fst,slF I64 (g 1).fst (cnP p m md hs.length (List.map (fun r=>piL r hs) rows)).snd.length (g 3).snd.fst (toI (cnP p m md hs.length (List.map (fun r=>piL r hs) rows)).snd)]));(· rfl);(· exact d_x fun _=>x_call [1,0] rfl (c_codewrightref09_Canon) rfl (by rintro _ _ _ ⟨pbg0,ppg1,cbg2,cpg3,rfl,rfl,rfl⟩;exact fun _ _ _ hG=>⟨(fun | 0=>(pbg0,0,0,[]) | 1=>(ppg1,0,0,[]) | 2=>(none,cbg2,0,[]) | 3=>(none,cpg3,0,[]) | _=>default),rfl,fun g hg=>drop_own (hG _ (List.mem_append_left _ hg))⟩));intro g1;dsimp only [List.map_cons,List.map_nil])
 (apply lxk_pv [16] (fun vs=>vs.getD 0 undef) (v:=Value.tuple #[Value.slice (g1 0).fst (cnP p m md hs.length (List.map (fun r=>piL r hs) rows)).snd.length (g1 2).snd.fst,Value.slice (g1 1).fst (cnP p m md hs.length (List.map (fun r=>piL r hs) rows)).snd.length (g1 3).snd.fst]);(· rfl);(· rfl);(· rfl);(· rfl);(· exact d_x fun _=>x_pv it rfl (by trivial) dk_eq))
 (apply lxk_pv [9] (fun vs=>match vs.getD 0 undef with | .tuple a=>a.getD 0 undef | _=>undef) (v:=Value.slice (g1 0).fst (cnP p m md hs.length (List.map (fun r=>piL r hs) rows)).snd.length (g1 2).snd.fst);(· rfl);(· rfl);(· rfl);(· rfl);(· exact d_x fun _=>x_pv it rfl (by trivial) dk_eq))
 (apply lxk_pv [9] (fun vs=>match vs.getD 0 undef with | .tuple a=>a.getD 1 undef | _=>undef) (v:=Value.slice (g1 1).fst (cnP p m md hs.length (List.map (fun r=>piL r hs) rows)).snd.length (g1 3).snd.fst);(· rfl);(· rfl);(· rfl);(· rfl);(· exact d_x fun _=>x_pv it rfl (by trivial) dk_eq))
 (apply lxk_pv [17] (fun vs=>vs.getD 0 undef) (v:=Value.slice (g1 0).fst (cnP p m md hs.length (List.map (fun r=>piL r hs) rows)).snd.length (g1 2).snd.fst);(· rfl);(· rfl);(· rfl);(· rfl);(· exact d_x fun _=>x_pv it rfl (by trivial) dk_eq))
 refine lxk_end rfl ?_
 simp only [List.map_cons,List.map_nil,List.cons_append,List.nil_append]
 refine wk 6 cz ?_
 exact ge
theorem S_codewrightref26_with {ps px : Option Addr} {n c k d : Nat} {l x : List Int} (hl : (l++x).length ≤ 1000000) : Ctr Tryz.prog 158 [.slice ps n c,.slice px k d] [] [slF I64 ps n c l,slF I64 px k d x] (RwI (l++x).length (l++x)):=by
 refine Ctr_of_j' (F:=F_codewrightref26_with) rfl fun C=>?_
 rw [List.length_append] at hl
 refine j_len 0 rfl fun hn hb _=>?_
 subst hn
 refine j_len 1 rfl fun hn hb _=>?_
 subst hn
 refine wk 5 cz ?_
 intro b1
 (apply j_rowlit (E:=encInt IntKind.i64 8) (n:=0) (cs:=[]) [] [] 0 (fun w A hG=>allrd_nil);(· rfl);(· rfl);(· rfl);(· rfl);(· decide))
 refine j_step rfl (x_appS 0 0 1 rfl rfl rfl rfl rfl sl22 zo22e rfl (by omega) _ by22e (by omega) fun r1=>?_)
 refine wk 1 cz ?_
 refine j_step rfl (x_appS 0 0 3 rfl rfl rfl rfl rfl sl22 zo22e rfl (by omega) _ by22e (by omega) fun r2=>?_)
 refine wk 2 cz ?_
 simp only [List.nil_append,Nat.zero_add]
 refine j_givK 1 [0] [0] rfl (.tmp rfl .nil) rfl rfl rfl ⟨r2,by rw [List.length_append];rfl,by rw [List.length_append],rfl⟩
section
variable {p m N n c nm cm ny cy k : Nat} {pm ps py : Option Addr} {Mo w : Int} {md : List Int} {rows : List (List Int)}
theorem S_codewrightref26_claim__right {n1 c1 n2 c2 : Nat} {p1 p2 : Option Addr} {s set : List Int} {res : Bool} (K : Fok p m md) (hM : Mat (p ^ m) N rows) (hr : rows.length ≤ 1000000) (hN : N ≤ 1000) (h : rgB p m md N rows Mo s set = res) :
  Ctr Tryz.prog 156 [.agg #[.int .i64 p,.int .i64 m,.slice pm nm cm,.int .i64 N,.slice ps n c,.int .i64 Mo,.int .i64 w,.slice py ny cy,.bool false],.slice p1 n1 c1,.slice p2 n2 c2] [] [slF I64 pm nm cm md,slF (encSl I64) ps n c rows,slF I64 p1 n1 c1 s,slF I64 p2 n2 c2 set] (Rv (.bool res) []):=by
 refine Ctr_of_j' (F:=F_codewrightref26_claim__right) rfl fun C=>?_
 refine j_len 3 rfl fun hn hb _=>?_
 subst hn
 have hb' : set.length * 8 ≤ 140737488355328:=hb
 rw [rgB] at h
 cases hst : decide (stP (N : Int) set) with
 | false =>
  rw [hst] at h
  simp only [Bool.false_and] at h
  subst h
  refine wk 15 (ct @S_codewrightref10_Rising cz) ?_
  intro b1
  exact ge
 | true =>
 have hst':=of_decide_eq_true hst
 rw [hst,Bool.true_and] at h
 have hl:=st_len hst'
 refine wk 15 (ct @S_codewrightref10_Rising cz) ?_
 intro b1
 refine j_loopG (X:=Nat) [1,2,3] [0,1,2,3] (fun i=>[(7,.int .i64 (i : Int))]) (fun _=>_) (fun _=>[]) (fun i=>i ≤ set.length ∧ ∀ x ∈ set.take i,x ∉ s) (fun i=>set.length - i) 0 [] rfl rfl rfl ⟨Nat.zero_le _,fun x h=>absurd h List.not_mem_nil⟩ (by repeat (first | exact Fr.sub_nil _ | refine Fr.sub_cons rfl ?_)) rfl rfl ?_
 rintro i ⟨hi,hno⟩ ih
 simp only [List.cons_append,List.nil_append] at hi ih ⊢
 by_cases h9 : i < set.length
 ·obtain ⟨x,at_x⟩ : ∃ x,set[i]? = some x:=⟨_,List.getElem?_eq_getElem h9⟩
  by_cases a3 : x ∈ s
  ·have hin:=decide_eq_true a3
   rw [List.any_eq_true.2 ⟨x,List.mem_of_getElem? at_x,hin⟩] at h
   simp only [Bool.not_true,Bool.false_and] at h
   subst h
   refine wk 8 cz ?_
   intro h1
   refine j_step rfl (x_idx 3 (i) rfl rfl rfl sl22 rfl (by omega) fun z1 hz1 b2 o1=>?_)
   obtain rfl : _ = z1:=Option.some.inj (at_x.symm.trans hz1)
   refine j_step rfl (x_ld_int 0 rfl rfl ld3 fun ⟨r1,r2⟩=>?_)
   refine wk 6 (ct @S_codewrightref26_in cz) ?_
   exact ge
  ·have hin:=decide_eq_false a3
   refine wk 8 cz ?_
   intro h1
   refine j_step rfl (x_idx 3 (i) rfl rfl rfl sl22 rfl (by omega) fun z1 hz1 b2 o1=>?_)
   obtain rfl : _ = z1:=Option.some.inj (at_x.symm.trans hz1)
   refine j_step rfl (x_ld_int 0 rfl rfl ld3 fun ⟨r1,r2⟩=>?_)
   refine wk 6 (ct @S_codewrightref26_in cz) ?_
   exact tw (ih (i + 1) (by omega) ⟨by omega,tk_all at_x hno a3⟩)
 ·obtain rfl : i = set.length:=by omega
  rw [List.take_length] at hno
  rw [show (set.any fun x=>decide (x ∈ s)) = false from List.any_eq_false.2 fun x hx=>by rw [decide_eq_true_eq];exact hno x hx] at h
  simp only [Bool.not_false,Bool.true_and] at h
  have c_codewrightref25_Of:=fun {n c nm cm nh ch : Nat} {pm ps ph : Option Addr}=>S_codewrightref25_Of (n:=n) (c:=c) (nm:=nm) (cm:=cm) (nh:=nh) (ch:=ch) (pm:=pm) (ps:=ps) (ph:=ph) K hM hr (by omega) (show set.length ≤ 1000000 by omega) hst'.1
  by_cases hg : (cnP p m md set.length (rows.map fun r=>piL r set)).2.length = set.length
  ·rw [decide_eq_true hg,Bool.true_and] at h
   subst h
   refine wk 33 (ct @c_codewrightref25_Of cz) ?_
   intro h1 h2
   exact ge
  ·rw [decide_eq_false hg,Bool.false_and] at h
   subst h
   refine wk 23 (ct @c_codewrightref25_Of cz) ?_
   intro h1 h2
   exact ge
theorem S_codewrightref26_claim__kids {n1 c1 n2 c2 n3 c3 : Nat} {p1 p2 p3 : Option Addr} {s z set L : List Int} (hl : set.length ≤ 1000000) (h : (if (s.length : Int) < w then kidL z set else []) = L) :
  Ctr Tryz.prog 157 [.agg #[.int .i64 p,.int .i64 m,.slice pm nm cm,.int .i64 N,.slice ps n c,.int .i64 Mo,.int .i64 w,.slice py ny cy,.bool false],.slice p1 n1 c1,.slice p2 n2 c2,.slice p3 n3 c3] [] [slF I64 p1 n1 c1 s,slF I64 p2 n2 c2 z,slF I64 p3 n3 c3 set] (RwI L.length L):=by
 refine Ctr_of_j' (F:=F_codewrightref26_claim__kids) rfl fun C=>?_
 refine j_len 0 rfl fun hn hb _=>?_
 subst hn
 refine j_len 2 rfl fun hn hb2 _=>?_
 subst hn
 refine wk 8 cz ?_
 intro b1
 refine j_row0 I64 3 ?_
 refine j_loopG (X:=Nat × Row × List Int) [1,2,3,4,8] [0,1,2,3] (fun x=>[(10,.int .i64 (x.1 : Int)),(9,.slice (ad x.2.1.bo) x.2.2.length x.2.1.cap)])
  (fun x=>(x.2.1.bo,3,x.2.1.cs)::_) (fun x=>[rowF I64 x.2.1 x.2.2.length x.2.2])
  (fun x=>x.1 ≤ set.length ∧ x.2.2.length ≤ x.1 ∧ x.2.2++(if (s.length : Int) < w then kidL z (set.drop x.1) else []) = L) (fun x=>set.length - x.1) (0,⟨none,0,[]⟩,[]) [0] rfl rfl rfl ⟨Nat.zero_le _,Nat.le_refl _,h⟩ (by repeat (first | exact Fr.sub_nil _ | refine Fr.sub_cons rfl ?_)) rfl rfl ?_
 rintro ⟨i,r,y⟩ ⟨hi,hy,hg⟩ ih
 simp only [List.cons_append,List.nil_append] at hi hy hg ih ⊢
 by_cases hil : i < set.length
 ·by_cases hw : (s.length : Int) < w
  ·obtain ⟨x,at_x⟩ : ∃ x,set[i]? = some x:=⟨_,List.getElem?_eq_getElem hil⟩
   have e3 : set.drop i = x::set.drop (i + 1):=by
    rw [List.drop_eq_getElem_cons hil];rw [List.getElem?_eq_getElem hil] at at_x;rw [Option.some.inj at_x]
   rw [e3] at hg
   by_cases hx : x ∈ z
   ·have hin:=decide_eq_true hx
    rw [kid_in hx] at hg
    have ih':=ih (i + 1,r,y) (by dsimp only;omega) (by dsimp only;exact ⟨by omega,by omega,hg⟩)
    refine wk 16 cz ?_
    intro h1 h2 b2 o1 hz1
    refine j_step rfl (x_ld_int 0 rfl rfl ld3 fun ⟨r1,r2⟩=>?_)
    refine wk 7 (ct @S_codewrightref26_in cz) ?_
    exact tw (ih')
   ·have hin:=decide_eq_false hx
    rw [kid_out hx,if_pos hw] at hg
    have ih':=fun r=>ih (i + 1,r,y++[x]) (by dsimp only;omega) (by dsimp only;refine ⟨by omega,by rw [List.length_append,List.length_singleton];omega,?_⟩;rw [if_pos hw,List.append_assoc];exact hg)
    dsimp only at ih'
    simp only [List.length_append,List.length_singleton] at ih'
    refine wk 16 cz ?_
    intro h1 h2 b2 o1 hz1
    refine j_step rfl (x_ld_int 0 rfl rfl ld3 fun ⟨r1,r2⟩=>?_)
    refine wk 7 (ct @S_codewrightref26_in cz) ?_
    intro b3 o2 hz2
    refine j_step rfl (x_ld_int 0 rfl rfl ld3 fun ⟨r3,r4⟩=>?_)
    refine wk 1 cz ?_
    intro b4
    refine j_step rfl (x_appR (z:=(x : Int)) 1 0 2 rfl rfl rfl rfl rfl sl22 zo22e rfl (fun w A hG=>(rd_int (by first | (simp only [InR];omega) | (simp [InR];done)))) (by omega) _ by22e (by omega) fun r5=>?_)
    refine wk 4 cz ?_
    refine j_toM [true,false,true] [0,4,5,6,7] (by exact fra rfl) rfl rfl (ih' r5)
  ·rw [if_neg hw,List.append_nil] at hg
   subst hg
   refine wk 16 cz ?_
   intro h1 h2
   refine j_givK 2 [0] [0] rfl (.tmp rfl .nil) rfl rfl rfl ⟨r,rfl,rfl,rfl⟩
 ·obtain rfl : i = set.length:=by omega
  rw [List.drop_length,show kidL z [] = [] from rfl,ite_self,List.append_nil] at hg
  subst hg
  refine wk 12 cz ?_
  intro h1
  refine j_givK 2 [0] [0] rfl (.tmp rfl .nil) rfl rfl rfl ⟨r,rfl,rfl,rfl⟩
end
open Go Go.Fw
set_option maxRecDepth 100000
set_option linter.unusedVariables false
set_option linter.unusedSimpArgs false
set_option maxHeartbeats 0
abbrev ReB (b : Bool) (t : List (List Int)) : Value → List Fact → List Blk → Prop:=fun v Φ β=>∃ (pa : Option Addr) (k ca : Nat),v = .tuple #[.slice pa k ca,.bool b] ∧ Φ = [slF (encSl I64) pa k ca t] ∧ β = []
abbrev ReO (o : Option (List (List Int))) : Value → List Fact → List Blk → Prop:=ReB o.isSome (o.getD [])
theorem ext_go {rt : List Int → List Int → Bool} {d : Nat} {s z x : List Int} {T : List (List Int)} (h : rt s x = true) : exT rt d s z (x::T) = exGo (exT rt (d - 1)) s z [] (if 0 < d then kidL z x else []) T:=by
 cases d with
 | zero=>rw [exT,if_pos h];rfl
 | succ d=>rw [exT,if_pos h,if_pos (Nat.succ_pos d)];rfl
section
variable {p m N : Nat} {Mo w : Int} {md : List Int} {rows : List (List Int)}
theorem S_codewrightref26_claim__follow (K : Fok p m md) (hM : Mat (p ^ m) N rows) (hr : rows.length ≤ 1000000) (hN : N ≤ 1000) : ∀ (d : Nat) {n c nm cm ny cy n1 c1 n2 c2 nt ct : Nat} {pm ps py p1 p2 pt : Option Addr} {s z : List Int} {T : List (List Int)},
  ((s.length + d : Nat) : Int) = w → s.length + d ≤ 1000 → z.length + 1000 * d ≤ 100000 →
  Ctr Tryz.prog 133 [.agg #[.int .i64 p,.int .i64 m,.slice pm nm cm,.int .i64 N,.slice ps n c,.int .i64 Mo,.int .i64 w,.slice py ny cy,.bool false],.slice p1 n1 c1,.slice p2 n2 c2,.slice pt nt ct] []
   [slF I64 pm nm cm md,slF (encSl I64) ps n c rows,slF I64 p1 n1 c1 s,slF I64 p2 n2 c2 z,slF (encSl I64) pt nt ct T] (ReO (exT (rgB p m md N rows Mo) d s z T)):=by
 intro d
 induction d using Nat.strongRecOn with
 | ind d ihd =>
 intro n c nm cm ny cy n1 c1 n2 c2 nt ct pm ps py p1 p2 pt s z T hs hs2 hz
 refine Ctr_of_j' (F:=F_codewrightref26_claim__follow) rfl fun C=>?_
 refine j_len 3 rfl fun hn hb2 _=>?_
 subst hn
 refine j_len 4 rfl fun hn hb _=>?_
 subst hn
 refine j_add (slF (encSl I64) none 0 0 []) (fun w A _=>slF_nil _ w A none 0) ?_
 cases T with
 | nil =>
  have e0 : ([] : List (List Int)).length = 0:=rfl
  rw [ext_nil]
  refine wk 10 cz ?_
  intro b1
  refine j_giv [0] rfl rfl rfl ⟨_,_,_,rfl,rfl,rfl⟩
 | cons x T =>
  have e0 : (x::T).length = T.length + 1:=rfl
  have at_x : (x::T)[0]? = some x:=rfl
  have c_codewrightref26_claim__right:=fun {n c nm cm ny cy n1 c1 n2 c2 : Nat} {pm ps py p1 p2 : Option Addr} {s set : List Int} {res : Bool} (h : rgB p m md N rows Mo s set = res)=>S_codewrightref26_claim__right (n:=n) (c:=c) (nm:=nm) (cm:=cm) (ny:=ny) (cy:=cy) (n1:=n1) (c1:=c1) (n2:=n2) (c2:=c2) (pm:=pm) (ps:=ps) (py:=py) (p1:=p1) (p2:=p2) (w:=w) K hM hr hN h
  cases hrt : rgB p m md N rows Mo s x with
  | false =>
   rw [ext_bad hrt]
   refine wk 4 cz ?_
   intro b1
   (apply j_drawK it mx 12;(· rfl);(· rfl))
   (apply lxk_run 1;(· rfl);(· simp))
   (apply lxk_eq;(· rfl);(· exact d_x fun _=>x_len sl25 rfl dk_eq))
   (apply lxk_eq;(· rfl);(· exact d_x fun _=>x_false it rfl (by trivial) (by omega) dk_eq))
   (apply lxk_run 1;(· rfl);(· simp))
   (apply lxk_eq;(· rfl);(· exact d_bld_all 0 rfl rfl ld130 rfl))
   (apply lxk_run 2;(· rfl);(· simp))
   (apply lxk_pt;(· rfl);(· exact d_x fun _=>x_idx 5 0 rfl rfl rfl sl25 (by omega) (by omega) fun z1 hz1 b2 o1=>(dk_ptD default hz1 0 rfl));intro b2 o1)
   (apply lxk_sl;(· rfl);(· exact d_x fun _=>x_ld_sl 0 rfl rfl ld22 fun pa1 ca1=>(dk_sl 0 rfl));intro pa1 ca1)
   (apply lxk_eq;(· rfl);(· exact d_x fun _=>x_call [3,4,5,0] rfl (c_codewrightref26_claim__right (by assumption)) rfl (by rintro _ _ _ ⟨rfl,rfl,rfl⟩;exact dk_eq)))
   (apply lxk_run 2;(· rfl);(· simp))
   refine lxk_end rfl ?_
   simp only [List.map_cons,List.map_nil,List.cons_append,List.nil_append]
   refine wk 5 cz ?_
   refine j_giv [2] rfl rfl rfl ⟨_,_,_,rfl,rfl,rfl⟩
  | true =>
   rw [ext_go hrt]
   have hlx:=st_len (rg_st hrt)
   have hkl : (kidL z x).length ≤ x.length:=List.length_filter_le _ _
   obtain ⟨L,hL⟩ : ∃ L,(if 0 < d then kidL z x else []) = L:=⟨_,rfl⟩
   rw [hL]
   have hL2 : (if (s.length : Int) < w then kidL z x else []) = L:=by
    rw [← hL]
    by_cases h0 : 0 < d
    ·rw [if_pos h0,if_pos (by omega)]
    ·rw [if_neg h0,if_neg (by omega)]
   have hd0 : 0 < d ∨ L.length = 0:=by
    by_cases h0 : 0 < d
    ·exact .inl h0
    ·rw [if_neg h0] at hL;subst hL;exact .inr rfl
   have hLx : ∀ y ∈ L,y ∈ x:=fun y hy=>by
    by_cases h0 : 0 < d
    ·rw [if_pos h0] at hL;rw [← hL] at hy;exact (List.mem_filter.1 hy).1
    ·rw [if_neg h0] at hL;rw [← hL] at hy;cases hy
   have hLl : L.length ≤ 1000:=by
    by_cases h0 : 0 < d
    ·rw [if_pos h0] at hL;rw [← hL];omega
    ·rcases hd0 with h | h <;> omega
   have c_codewrightref26_claim__kids:=fun {n c nm cm ny cy n1 c1 n2 c2 n3 c3 : Nat} {pm ps py p1 p2 p3 : Option Addr}=>(S_codewrightref26_claim__kids (p:=p) (m:=m) (N:=N) (Mo:=Mo) (n:=n) (c:=c) (nm:=nm) (cm:=cm) (ny:=ny) (cy:=cy) (n1:=n1) (c1:=c1) (n2:=n2) (c2:=c2) (n3:=n3) (c3:=c3) (pm:=pm) (ps:=ps) (py:=py) (p1:=p1) (p2:=p2) (p3:=p3) (w:=w) (s:=s) (z:=z) (set:=(x::T).getD 0 default) (L:=L) (show x.length ≤ 1000000 by omega) hL2).pubR (by show _ * 8 ≤ 140737488355328;omega)
   obtain ⟨G,hG⟩ : ∃ G,exGo (exT (rgB p m md N rows Mo) (d - 1)) s z [] L T = G:=⟨_,rfl⟩
   rw [hG]
   refine wk 4 cz ?_
   intro b1
   (apply j_drawK it mx 12;(· rfl);(· rfl))
   (apply lxk_run 1;(· rfl);(· simp))
   (apply lxk_eq;(· rfl);(· exact d_x fun _=>x_len sl25 rfl dk_eq))
   (apply lxk_eq;(· rfl);(· exact d_x fun _=>x_false it rfl (by trivial) (by omega) dk_eq))
   (apply lxk_run 1;(· rfl);(· simp))
   (apply lxk_eq;(· rfl);(· exact d_bld_all 0 rfl rfl ld130 rfl))
   (apply lxk_run 2;(· rfl);(· simp))
   (apply lxk_pt;(· rfl);(· exact d_x fun _=>x_idx 5 0 rfl rfl rfl sl25 (by omega) (by omega) fun z1 hz1 b2 o1=>(dk_ptD default hz1 0 rfl));intro b2 o1)
   (apply lxk_sl;(· rfl);(· exact d_x fun _=>x_ld_sl 0 rfl rfl ld22 fun pa1 ca1=>(dk_sl 0 rfl));intro pa1 ca1)
   (apply lxk_eq;(· rfl);(· exact d_x fun _=>x_call [3,4,5,0] rfl (c_codewrightref26_claim__right (by assumption)) rfl (by rintro _ _ _ ⟨rfl,rfl,rfl⟩;exact dk_eq)))
   (apply lxk_run 2;(· rfl);(· simp))
   refine lxk_end rfl ?_
   simp only [List.map_cons,List.map_nil,List.cons_append,List.nil_append]
   refine wk 3 cz ?_
   (apply j_drawK it mx 7;(· rfl);(· rfl))
   (apply lxk_eq;(· rfl);(· exact d_bld_all 0 rfl rfl ld130 rfl))
   (apply lxk_run 3;(· rfl);(· simp))
   (apply lxk_pt;(· rfl);(· exact d_x fun _=>x_idx 7 0 rfl rfl rfl sl25 (by omega) (by omega) fun z1 hz1 b3 o2=>(dk_ptD default hz1 0 rfl));intro b3 o2)
   (apply lxk_sl;(· rfl);(· exact d_x fun _=>x_ld_sl 0 rfl rfl ld22 fun pa2 ca2=>(dk_sl 0 rfl));intro pa2 ca2)
   (apply lxk_sl;(· rfl);(· exact d_x fun _=>x_call [7,8,0] rfl (c_codewrightref26_claim__kids) rfl (by rintro _ _ _ ⟨pa3,ca3,rfl,rfl,rfl⟩;exact (dk_sl 0 rfl)));intro pa3 ca3)
   refine lxk_end rfl ?_
   simp only [List.map_cons,List.map_nil,List.cons_append,List.nil_append]
   refine wk 3 cz ?_
   refine j_step rfl (x_slice_l 10 1 rfl rfl rfl sl25 (by omega) (by omega) fun pa4=>?_)
   refine wk 6 cz ?_
   refine j_loopG (X:=Nat × Option Addr × Nat × Nat × List (List Int) × Bool) [1,2,4,8,9,10] [0,1,2,3,4,5,6,7,8,9,10,11] (fun v=>[(13,.int .i64 (v.1 : Int)),(11,.slice v.2.1 v.2.2.1 v.2.2.2.1),(12,.bool v.2.2.2.2.2)]) (fun _=>_) (fun v=>[slF (encSl I64) v.2.1 v.2.2.1 v.2.2.2.1 v.2.2.2.2.1])
    (fun v=>v.1 ≤ L.length ∧ (v.2.2.2.2.2 = true → exGo (exT (rgB p m md N rows Mo) (d - 1)) s z (L.take v.1) (L.drop v.1) v.2.2.2.2.1 = G) ∧ (v.2.2.2.2.2 = false → G = none ∧ v.2.2.2.2.1 = [])) (fun v=>L.length - v.1) (0,pa4,(x::T).length - 1,ct - 1,T,true) [0] rfl rfl rfl ⟨Nat.zero_le _,fun _=>hG,fun h=>Bool.noConfusion h⟩ (by repeat (first | exact Fr.sub_nil _ | refine Fr.sub_cons rfl ?_)) rfl rfl ?_
   rintro ⟨i,pu,ku,cu,tr,ok⟩ ⟨hi,hg,hg2⟩ ih
   simp only [List.cons_append,List.nil_append] at hi hg hg2 ih ⊢
   cases ok with
   | false =>
    obtain ⟨rfl,rfl⟩:=hg2 rfl
    clear hg hg2 ih
    by_cases hil : i < L.length
    ·refine wk 12 cz ?_
     intro h1
     refine j_giv [0] rfl rfl rfl ⟨_,_,_,rfl,rfl,rfl⟩
    ·refine wk 12 cz ?_
     intro h1
     refine j_giv [0] rfl rfl rfl ⟨_,_,_,rfl,rfl,rfl⟩
   | true =>
   have hg:=hg rfl
   clear hg2
   by_cases hil : i < L.length
   ·have hd1 : 0 < d:=by omega
    have e3 : L.drop i = L.getD i default::L.drop (i + 1):=by
     rw [List.drop_eq_getElem_cons hil,List.getD_eq_getElem?_getD,List.getElem?_eq_getElem hil];rfl
    have e4 : L.take (i + 1) = L.take i++[L.getD i default]:=by rw [List.take_add_one,List.getD_eq_getElem?_getD,List.getElem?_eq_getElem hil];rfl
    have e1 : (s++[L.getD i default]).length = s.length + 1:=by simp
    have e2 : (z++L.take i).length = z.length + i:=by rw [List.length_append,List.length_take];omega
    have hz3 : z.length ≤ 200000:=by omega
    have hy : 0 ≤ L.getD i default ∧ L.getD i default < (N : Int):=by
     have h1 : L.getD i default ∈ L:=by rw [List.getD_eq_getElem?_getD,List.getElem?_eq_getElem hil];exact List.getElem_mem hil
     exact (rg_st hrt).1 _ (hLx _ h1)
    obtain ⟨hy0,hy1⟩:=hy
    have c_codewrightref26_with:=fun {ps px : Option Addr} {n c k d : Nat} {l x : List Int} (hl : (l++x).length ≤ 1000000)=>(S_codewrightref26_with (ps:=ps) (px:=px) (n:=n) (c:=c) (k:=k) (d:=d) hl).pubR (by show _ * 8 ≤ 140737488355328;omega)
    rw [e3,exGo] at hg
    have c_codewrightref26_claim__follow:=fun {n c nm cm ny cy n1 c1 n2 c2 nt ct : Nat} {pm ps py p1 p2 pt : Option Addr}=>ihd (d - 1) (by omega) (n:=n) (c:=c) (nm:=nm) (cm:=cm) (ny:=ny) (cy:=cy) (n1:=n1) (c1:=c1) (n2:=n2) (c2:=c2) (nt:=nt) (ct:=ct) (pm:=pm) (ps:=ps) (py:=py) (p1:=p1) (p2:=p2) (pt:=pt) (s:=s++[L.getD i default]) (z:=z++L.take i) (T:=tr) (by omega) (by omega) (by omega)
    cases ho : exT (rgB p m md N rows Mo) (d - 1) (s++[L.getD i default]) (z++L.take i) tr with
    | none =>
     rw [ho] at hg
     have hh : ReO (exT (rgB p m md N rows Mo) (d - 1) (s++[L.getD i default]) (z++L.take i) tr) = ReB false []:=by rw [ho];rfl
     rw [hh] at c_codewrightref26_claim__follow
     refine wk 10 cz ?_
     intro h1
     (apply j_drawK it mx 19;(· rfl);(· rfl))
     (apply lxk_eq;(· rfl);(· exact d_bld_all 0 rfl rfl ld130 rfl))
     (apply lxk_run 3;(· rfl);(· simp))
     (apply lxk_pt;(· rfl);(· exact d_x fun _=>x_idx 2 (i) rfl rfl rfl sl22 rfl (by omega) fun z1 hz1 b4 o3=>(dk_ptD default hz1 0 rfl));intro b4 o3)
     (apply lxk_eq;(· rfl);(· exact d_x fun _=>x_ld_int 0 rfl rfl ld3 fun ⟨r1,r2⟩=>dk_eq))
     (apply lxk_sl;(· rfl);(· exact d_x fun _=>x_lit sl22 zo22e rfl rfl rfl rfl (by decide) (by decide) rfl fun b5=>dk_all (E:=I64) [[Value.int IntKind.i64 (L.getD i default)]] [L.getD i default] (fun w A hG=>(allrd_cons ⟨rfl,by first | assumption | (simp only [InR];omega)⟩ allrd_nil)) rfl rfl rfl (by first | decide | exact Nat.le_of_ble_eq_true rfl));intro pa5 ca4)
     (apply lxk_sl;(· rfl);(· exact d_x fun _=>x_call [12,0] rfl (c_codewrightref26_with (by omega)) rfl (by rintro _ _ _ ⟨pa6,ca5,rfl,rfl,rfl⟩;exact (dk_sl 0 rfl)));intro pa6 ca5)
     (apply lxk_run 3;(· rfl);(· simp))
     (apply lxk_sl;(· rfl);(· exact d_x fun _=>x_slice_h 2 (i) rfl rfl rfl sl22 (by omega) (by omega) (dk_sl 0 rfl));intro pa7 ca6)
     (apply lxk_sl;(· rfl);(· exact d_x fun _=>x_call [15,0] rfl (c_codewrightref26_with (by omega)) rfl (by rintro _ _ _ ⟨pa8,ca7,rfl,rfl,rfl⟩;exact (dk_sl 0 rfl)));intro pa8 ca7)
     (apply lxk_run 1;(· rfl);(· simp))
     (apply lxk_fa (val:=(fun g=>Value.tuple #[Value.slice (g 0).fst (g 1).snd.fst (g 2).snd.fst,Value.bool false])) (f:=(fun g=>[slF (encSl I64) (g 0).fst (g 1).snd.fst (g 2).snd.fst []]));(· rfl);(· exact d_x fun _=>x_call [13,14,2,0,5] rfl (c_codewrightref26_claim__follow) rfl (by rintro _ _ _ ⟨pag0,kg1,cag2,rfl,rfl,rfl⟩;exact fun _ _ _ hG=>⟨(fun | 0=>(pag0,0,0,[]) | 1=>(none,kg1,0,[]) | 2=>(none,cag2,0,[]) | _=>default),rfl,fun g hg=>drop_own (hG _ (List.mem_append_left _ hg))⟩));intro g1;dsimp only [List.map_cons,List.map_nil])
     (apply lxk_pv [59] (fun vs=>vs.getD 0 undef) (v:=Value.tuple #[Value.slice (g1 0).fst (g1 1).snd.fst (g1 2).snd.fst,Value.bool false]);(· rfl);(· rfl);(· rfl);(· rfl);(· exact d_x fun _=>x_pv it rfl (by trivial) dk_eq))
     (apply lxk_pv [44] (fun vs=>match vs.getD 0 undef with | .tuple a=>a.getD 0 undef | _=>undef) (v:=Value.slice (g1 0).fst (g1 1).snd.fst (g1 2).snd.fst);(· rfl);(· rfl);(· rfl);(· rfl);(· exact d_x fun _=>x_pv it rfl (by trivial) dk_eq))
     (apply lxk_eq;(· rfl);(· exact d_x fun _=>x_pv it rfl (by trivial) dk_eq))
     (apply lxk_pv [60] (fun vs=>vs.getD 0 undef) (v:=Value.slice (g1 0).fst (g1 1).snd.fst (g1 2).snd.fst);(· rfl);(· rfl);(· rfl);(· rfl);(· exact d_x fun _=>x_pv it rfl (by trivial) dk_eq))
     refine lxk_end rfl ?_
     simp only [List.map_cons,List.map_nil,List.cons_append,List.nil_append]
     refine wk 4 cz ?_
     exact tw (ih (i + 1,(g1 0).1,(g1 1).2.1,(g1 2).2.1,[],false) (by dsimp only;omega) ⟨by dsimp only;omega,fun h=>Bool.noConfusion h,fun _=>⟨hg.symm,rfl⟩⟩)
    | some t' =>
     rw [ho] at hg
     have hh : ReO (exT (rgB p m md N rows Mo) (d - 1) (s++[L.getD i default]) (z++L.take i) tr) = ReB true t':=by rw [ho];rfl
     rw [hh] at c_codewrightref26_claim__follow
     refine wk 10 cz ?_
     intro h1
     (apply j_drawK it mx 19;(· rfl);(· rfl))
     (apply lxk_eq;(· rfl);(· exact d_bld_all 0 rfl rfl ld130 rfl))
     (apply lxk_run 3;(· rfl);(· simp))
     (apply lxk_pt;(· rfl);(· exact d_x fun _=>x_idx 2 (i) rfl rfl rfl sl22 rfl (by omega) fun z1 hz1 b4 o3=>(dk_ptD default hz1 0 rfl));intro b4 o3)
     (apply lxk_eq;(· rfl);(· exact d_x fun _=>x_ld_int 0 rfl rfl ld3 fun ⟨r1,r2⟩=>dk_eq))
     (apply lxk_sl;(· rfl);(· exact d_x fun _=>x_lit sl22 zo22e rfl rfl rfl rfl (by decide) (by decide) rfl fun b5=>dk_all (E:=I64) [[Value.int IntKind.i64 (L.getD i default)]] [L.getD i default] (fun w A hG=>(allrd_cons ⟨rfl,by first | assumption | (simp only [InR];omega)⟩ allrd_nil)) rfl rfl rfl (by first | decide | exact Nat.le_of_ble_eq_true rfl));intro pa5 ca4)
     (apply lxk_sl;(· rfl);(· exact d_x fun _=>x_call [12,0] rfl (c_codewrightref26_with (by omega)) rfl (by rintro _ _ _ ⟨pa6,ca5,rfl,rfl,rfl⟩;exact (dk_sl 0 rfl)));intro pa6 ca5)
     (apply lxk_run 3;(· rfl);(· simp))
     (apply lxk_sl;(· rfl);(· exact d_x fun _=>x_slice_h 2 (i) rfl rfl rfl sl22 (by omega) (by omega) (dk_sl 0 rfl));intro pa7 ca6)
     (apply lxk_sl;(· rfl);(· exact d_x fun _=>x_call [15,0] rfl (c_codewrightref26_with (by omega)) rfl (by rintro _ _ _ ⟨pa8,ca7,rfl,rfl,rfl⟩;exact (dk_sl 0 rfl)));intro pa8 ca7)
     (apply lxk_run 1;(· rfl);(· simp))
     (apply lxk_fa (val:=(fun g=>Value.tuple #[Value.slice (g 0).fst (g 1).snd.fst (g 2).snd.fst,Value.bool true])) (f:=(fun g=>[slF (encSl I64) (g 0).fst (g 1).snd.fst (g 2).snd.fst t']));(· rfl);(· exact d_x fun _=>x_call [13,14,2,0,5] rfl (c_codewrightref26_claim__follow) rfl (by rintro _ _ _ ⟨pag0,kg1,cag2,rfl,rfl,rfl⟩;exact fun _ _ _ hG=>⟨(fun | 0=>(pag0,0,0,[]) | 1=>(none,kg1,0,[]) | 2=>(none,cag2,0,[]) | _=>default),rfl,fun g hg=>drop_own (hG _ (List.mem_append_left _ hg))⟩));intro g1;dsimp only [List.map_cons,List.map_nil])
     (apply lxk_pv [59] (fun vs=>vs.getD 0 undef) (v:=Value.tuple #[Value.slice (g1 0).fst (g1 1).snd.fst (g1 2).snd.fst,Value.bool true]);(· rfl);(· rfl);(· rfl);(· rfl);(· exact d_x fun _=>x_pv it rfl (by trivial) dk_eq))
     (apply lxk_pv [44] (fun vs=>match vs.getD 0 undef with | .tuple a=>a.getD 0 undef | _=>undef) (v:=Value.slice (g1 0).fst (g1 1).snd.fst (g1 2).snd.fst);(· rfl);(· rfl);(· rfl);(· rfl);(· exact d_x fun _=>x_pv it rfl (by trivial) dk_eq))
     (apply lxk_eq;(· rfl);(· exact d_x fun _=>x_pv it rfl (by trivial) dk_eq))
     (apply lxk_pv [60] (fun vs=>vs.getD 0 undef) (v:=Value.slice (g1 0).fst (g1 1).snd.fst (g1 2).snd.fst);(· rfl);(· rfl);(· rfl);(· rfl);(· exact d_x fun _=>x_pv it rfl (by trivial) dk_eq))
     refine lxk_end rfl ?_
     simp only [List.map_cons,List.map_nil,List.cons_append,List.nil_append]
     refine wk 4 cz ?_
     exact tw (ih (i + 1,(g1 0).1,(g1 1).2.1,(g1 2).2.1,t',true) (by dsimp only;omega) ⟨by dsimp only;omega,fun _=>by dsimp only;rw [e4];exact hg,fun h=>Bool.noConfusion h⟩)
   ·obtain rfl : i = L.length:=by omega
    rw [List.take_length,List.drop_length,exGo] at hg
    subst hg
    refine wk 12 cz ?_
    intro h1
    refine j_giv [0] rfl rfl rfl ⟨_,_,_,rfl,rfl,rfl⟩
end
section
variable {p m N n c nm cm nt ct ny cy : Nat} {pm ps pt py : Option Addr} {Mo : Int} {d : Nat} {md : List Int} {rows sets : List (List Int)}
abbrev ReL (b : Bool) (t : List (List Int)) : Value → List Fact → List Blk → Prop:=fun v Φ β=>∃ (pa : Option Addr) (ca : Nat),v = .tuple #[.slice pa t.length ca,.bool b] ∧ Φ = [slF (encSl I64) pa t.length ca t] ∧ β = []
theorem reL {b : Bool} {t : List (List Int)} (C : Cx) (w : World) (v : Value) (Φ : List Fact) (β' : List Blk) (hQ : ReB b t v Φ β') (hO : Own C w β') (hf : ∀ g ∈ Φ,g.holds w (ok C w β')) : ∃ Φ2 β2,ReL b t v Φ2 β2 ∧ Own C w β2 ∧ ∀ g ∈ Φ2,g.holds w (ok C w β2):=by
 obtain ⟨pa,k,ca,rfl,rfl,rfl⟩:=hQ
 have:=(hf _ (.head _)).1
 subst this
 exact ⟨_,_,⟨pa,ca,rfl,rfl,rfl⟩,hO,hf⟩
theorem S_codewrightref26_claim__proves {bo : Bool} (K : Fok p m md) (hM : Mat (p ^ m) N rows) (hr : rows.length ≤ 1000000) (hN : N ≤ 1000) (hd : d ≤ 64) (hbo : decide (exT (rgB p m md N rows Mo) d [] [] sets = some []) = bo) :
  Ctr Tryz.prog 100 [.agg #[.int .i64 p,.int .i64 m,.slice pm nm cm,.int .i64 N,.slice ps n c,.int .i64 Mo,.int .i64 d,.slice py ny cy,.bool false],.agg #[.slice pt nt ct]] [] [slF I64 pm nm cm md,slF (encSl I64) ps n c rows,slF (encSl I64) pt nt ct sets]
   (Rv (.int .i64 (if bo = true then 0 else 13)) []):=by
 refine Ctr_of_j' (F:=F_codewrightref26_claim__proves) rfl fun C=>?_
 refine j_add (slF I64 none 0 0 []) (fun w A _=>slF_nil _ w A none 0) ?_
 have e0 : ([] : List Int).length = 0:=rfl
 have h:=fun {n c nm cm ny cy nt ct : Nat} {pm ps py pt : Option Addr}=>S_codewrightref26_claim__follow (p:=p) (m:=m) (N:=N) (Mo:=Mo) (w:=d) (rows:=rows) K hM hr hN d (n:=n) (c:=c) (nm:=nm) (cm:=cm) (ny:=ny) (cy:=cy) (n1:=0) (c1:=0) (n2:=0) (c2:=0) (nt:=nt) (ct:=ct) (pm:=pm) (ps:=ps) (py:=py) (p1:=none) (p2:=none) (pt:=pt) (s:=[]) (z:=[]) (T:=sets) (by rw [e0,Nat.zero_add]) (by rw [e0];omega) (by rw [e0];omega)
 cases hE : exT (rgB p m md N rows Mo) d [] [] sets with
 | none =>
  have hh : ReO (exT (rgB p m md N rows Mo) d [] [] sets) = ReB false []:=by rw [hE];rfl
  rw [hh] at h
  rw [hE] at hbo
  simp only [reduceCtorEq,decide_false] at hbo
  subst hbo
  have c_codewrightref26_claim__follow:=@h
  refine wk 8 cz ?_
  intro b1 b2
  refine j_step rfl (x_call [1,2,0,0,3] rfl (c_codewrightref26_claim__follow) rfl ?_)
  rintro _ _ _ ⟨pa1,k1,ca1,rfl,rfl,rfl⟩
  simp only [List.cons_append,List.nil_append]
  refine wk 8 cz ?_
  exact ge
 | some T =>
  have hh : ReO (exT (rgB p m md N rows Mo) d [] [] sets) = ReB true T:=by rw [hE];rfl
  rw [hh] at h
  rw [hE] at hbo
  have c_codewrightref26_claim__follow:=fun {n c nm cm ny cy nt ct : Nat} {pm ps py pt : Option Addr}=>(h (n:=n) (c:=c) (nm:=nm) (cm:=cm) (ny:=ny) (cy:=cy) (nt:=nt) (ct:=ct) (pm:=pm) (ps:=ps) (py:=py) (pt:=pt)).mono reL
  cases T with
  | nil =>
   have e1 : ([] : List (List Int)).length = 0:=rfl
   simp only [decide_true] at hbo
   subst hbo
   refine wk 8 cz ?_
   intro b1 b2
   refine j_step rfl (x_call [1,2,0,0,3] rfl (c_codewrightref26_claim__follow) rfl ?_)
   rintro _ _ _ ⟨pa1,ca1,rfl,rfl,rfl⟩
   simp only [List.cons_append,List.nil_append]
   refine wk 10 cz ?_
   intro h1
   exact ge
  | cons x T =>
   have e1 : (x::T).length = T.length + 1:=rfl
   simp only [Option.some.injEq,reduceCtorEq,decide_false] at hbo
   subst hbo
   refine wk 8 cz ?_
   intro b1 b2
   refine j_step rfl (x_call [1,2,0,0,3] rfl (c_codewrightref26_claim__follow) rfl ?_)
   rintro _ _ _ ⟨pa1,ca1,rfl,rfl,rfl⟩
   simp only [List.cons_append,List.nil_append]
   refine wk 10 cz ?_
   intro h1
   exact ge
theorem S_codewrightref26_rank (CC : Cok p m md N rows) (hM : 0 ≤ Mo) (hM2 : Mo ≤ rows.length) (hd : d ≤ N) : Ctr Tryz.prog 99 [.agg #[.int .i64 p,.int .i64 m,.slice pm nm cm,.int .i64 N,.slice ps n c],.int .i64 Mo,.int .i64 d] [] [slF I64 pm nm cm md,slF (encSl I64) ps n c rows] (Rv (.int .i64 0) []):=by
 refine Ctr_of_j' (F:=F_codewrightref26_rank) rfl fun C=>?_
 refine j_len 1 rfl fun hn hb _=>?_
 subst hn
 have h64:=CC.n64
 have c_codewrightref12_Check:=fun {pm ps : Option Addr} {nm cm n c : Nat}=>S_codewrightref12_Check (P:=p) (M:=m) (N:=N) (pm:=pm) (ps:=ps) (nm:=nm) (cm:=cm) (n:=n) (c:=c) (md:=md) (rows:=rows) (by simp only [InR];omega) CC.ck
 refine wk 25 (ct @c_codewrightref12_Check cz) ?_
 intro b1 h1 h2 h3
 refine j_gstep rfl rfl (x_field rfl fd27_1 ?_)
 refine j_gstep rfl rfl (x_bld 0 rfl rfl ld3 rfl ?_)
 refine j_run it 3 rfl (by simp) ?_
 refine wk 5 cz ?_
 intro h4
 exact ge
theorem S_codewrightref26_CheckRank {e : Int} (CC : Cok p m md N rows) (hM : 0 ≤ Mo) (hM2 : Mo ≤ rows.length) (hd : d ≤ N) (h : (if exB p m md N rows Mo d sets = true then 0 else 13) = e) : Ctr Tryz.prog 64 [.agg #[.int .i64 p,.int .i64 m,.slice pm nm cm,.int .i64 N,.slice ps n c],.int .i64 Mo,.int .i64 d,.agg #[.slice pt nt ct]] [] [slF I64 pm nm cm md,slF (encSl I64) ps n c rows,slF (encSl I64) pt nt ct sets] (Rv (.int .i64 e) []):=by
 refine Ctr_of_j' (F:=F_codewrightref26_CheckRank) rfl fun C=>?_
 have h64:=CC.n64
 have hln:=CC.len
 have c_codewrightref26_rank:=fun {n c nm cm : Nat} {pm ps : Option Addr}=>S_codewrightref26_rank (n:=n) (c:=c) (nm:=nm) (cm:=cm) (pm:=pm) (ps:=ps) CC hM hM2 hd
 have c_codewrightref26_claim__proves:=fun {n c nm cm nt ct ny cy : Nat} {pm ps pt py : Option Addr}=>S_codewrightref26_claim__proves (n:=n) (c:=c) (nm:=nm) (cm:=cm) (nt:=nt) (ct:=ct) (ny:=ny) (cy:=cy) (pm:=pm) (ps:=ps) (pt:=pt) (py:=py) (Mo:=Mo) (d:=d) (sets:=sets) CC.K CC.mat (by omega) (by omega) (by omega) rfl
 rw [show (decide (exT (rgB p m md N rows Mo) d [] [] sets = some [])) = exB p m md N rows Mo d sets from rfl,h] at c_codewrightref26_claim__proves
 refine wk 7 cz ?_
 intro b1 b2
 refine j_step rfl (x_call [0,1] rfl (c_codewrightref26_rank) rfl ?_)
 rintro _ _ _ ⟨rfl,rfl,rfl⟩
 simp only [List.cons_append,List.nil_append]
 refine wk 10 cz ?_
 intro h1
 refine j_step rfl (x_call [0,1,2] rfl (c_codewrightref26_claim__proves) rfl ?_)
 rintro _ _ _ ⟨rfl,rfl,rfl⟩
 simp only [List.cons_append,List.nil_append]
 simp only [decide_true]
 refine wk 2 cz ?_
 exact ge
theorem S_codewrightref26_CheckDistance {P M N dd e : Int} (hN : InR .i64 N) (hd : InR .i64 dd) (h : cdE P M md N rows dd sets = e) : Ctr Tryz.prog 31 [.agg #[.int .i64 P,.int .i64 M,.slice pm nm cm,.int .i64 N,.slice ps n c],.int .i64 dd,.agg #[.slice pt nt ct]] [] [slF I64 pm nm cm md,slF (encSl I64) ps n c rows,slF (encSl I64) pt nt ct sets]
   (Rv (.int .i64 e) []):=by
 refine Ctr_of_j' (F:=F_codewrightref26_CheckDistance) rfl fun C=>?_
 refine j_len 1 rfl fun hn hb _=>?_
 subst hn
 have hr:=ckE_rng P M md N rows
 have c_codewrightref12_Check:=fun {pm ps : Option Addr} {nm cm n c : Nat}=>S_codewrightref12_Check (P:=P) (M:=M) (N:=N) (pm:=pm) (ps:=ps) (nm:=nm) (cm:=cm) (n:=n) (c:=c) (md:=md) (rows:=rows) hN rfl
 rw [cdE] at h
 by_cases hc : ckE P M md N rows = 0
 ·rw [if_neg (fun e=>e hc)] at h
  rw [hc] at c_codewrightref12_Check
  obtain ⟨p,m,N,rfl,rfl,rfl,CC⟩:=ck_of hc
  have h64:=CC.n64
  have hln:=CC.len
  rw [Int.toNat_natCast,Int.toNat_natCast,Int.toNat_natCast] at h
  by_cases h1 : dd < 1
  ·rw [if_pos (.inl h1)] at h
   subst h
   refine wk 6 cz ?_
   intro b1 b2
   refine j_step rfl (x_call [0,1] rfl (c_codewrightref12_Check) rfl ?_)
   rintro _ _ _ ⟨rfl,rfl,rfl⟩
   simp only [List.cons_append,List.nil_append]
   refine wk 16 cz ?_
   intro h2 h3
   exact ge
  ·by_cases h2 : N + 1 < dd
   ·rw [if_pos (.inr h2)] at h
    subst h
    refine wk 6 cz ?_
    intro b1 b2
    refine j_step rfl (x_call [0,1] rfl (c_codewrightref12_Check) rfl ?_)
    rintro _ _ _ ⟨rfl,rfl,rfl⟩
    simp only [List.cons_append,List.nil_append]
    refine wk 19 cz ?_
    intro h3 h4 h5
    exact ge
   ·rw [if_neg (by omega)] at h
    have c_codewrightref26_CheckRank:=fun {n c nm cm nt ct : Nat} {pm ps pt : Option Addr}=>S_codewrightref26_CheckRank (n:=n) (c:=c) (nm:=nm) (cm:=cm) (nt:=nt) (ct:=ct) (pm:=pm) (ps:=ps) (pt:=pt) (sets:=sets) (Mo:=rows.length) (d:=(dd - 1).toNat) CC (by omega) (by omega) (by omega) h
    rw [show (((dd - 1).toNat : Nat) : Int) = dd - 1 by omega] at c_codewrightref26_CheckRank
    refine wk 6 cz ?_
    intro b1 b2
    refine j_step rfl (x_call [0,1] rfl (c_codewrightref12_Check) rfl ?_)
    rintro _ _ _ ⟨rfl,rfl,rfl⟩
    simp only [List.cons_append,List.nil_append]
    refine wk 23 cz ?_
    intro h3 h4 h5
    refine j_step rfl (x_call [0,1,2] rfl (c_codewrightref26_CheckRank) rfl ?_)
    rintro _ _ _ ⟨rfl,rfl,rfl⟩
    simp only [List.cons_append,List.nil_append]
    simp only [decide_true]
    refine wk 2 cz ?_
    exact ge
 ·rw [if_pos hc] at h
  subst h
  refine wk 6 cz ?_
  intro b1 b2
  refine j_step rfl (x_call [0,1] rfl (c_codewrightref12_Check) rfl ?_)
  rintro _ _ _ ⟨rfl,rfl,rfl⟩
  simp only [List.cons_append,List.nil_append]
  refine wk 8 cz ?_
  intro h1
  exact ge
end
open Go Go.Fw
set_option maxRecDepth 100000
set_option linter.unusedVariables false
set_option linter.unusedSimpArgs false
set_option maxHeartbeats 0
theorem binom_lt3 : ∀ (n k : Nat),3 ≤ n → binom n k + 1 ≤ 2 ^ (n - 1)
 | 0,_,h=>by omega
 | 1,_,h=>by omega
 | 2,_,h=>by omega
 | 3,k,_=>by
  rcases k with _ | _ | _ | _ | k
  ·decide
  ·decide
  ·decide
  ·decide
  ·rw [binom_gt 3 _ (by omega)];decide
 | n + 4,0,_=>by
  rw [binom_zero]
  have : 2 ^ 1 ≤ 2 ^ (n + 4 - 1):=Nat.pow_le_pow_right (by omega) (by omega)
  omega
 | n + 4,k + 1,_=>by
  have h1:=binom_lt3 (n + 3) k (by omega)
  have h2:=binom_lt3 (n + 3) (k + 1) (by omega)
  rw [binom_succ,show n + 4 - 1 = (n + 3 - 1) + 1 by omega,Nat.pow_succ]
  omega
theorem binom_64 {n k : Nat} (h : n ≤ 64) : binom n k ≤ 9223372036854775807:=by
 by_cases h3 : 3 ≤ n
 ·have h1:=binom_lt3 n k h3
  have h2 : 2 ^ (n - 1) ≤ 2 ^ 63:=Nat.pow_le_pow_right (by omega) (by omega)
  have h4 : (2 : Nat) ^ 63 = 9223372036854775808:=by decide
  omega
 ·have : binom n k ≤ 2:=by
   rcases n with _ | _ | _ | n
   ·rcases k with _ | k
    ·decide
    ·rw [binom_gt 0 _ (by omega)];omega
   ·rcases k with _ | _ | k
    ·decide
    ·decide
    ·rw [binom_gt 1 _ (by omega)];omega
   ·rcases k with _ | _ | _ | k
    ·decide
    ·decide
    ·decide
    ·rw [binom_gt 2 _ (by omega)];omega
   ·omega
  omega
def rwN (n : Nat) (f : Nat → Nat) : List Nat:=(List.range (n + 1)).map f
theorem rwN_len {n : Nat} {f : Nat → Nat} : (rwN n f).length = n + 1:=by simp [rwN]
theorem rwN_get {n j : Nat} {f : Nat → Nat} (h : j ≤ n) : (rwN n f)[j]? = some (f j):=by rw [rwN,List.getElem?_map,List.getElem?_range (by omega)];rfl
theorem rwN_ext {n : Nat} {f g : Nat → Nat} (h : ∀ t,t ≤ n → f t = g t) : rwN n f = rwN n g:=List.map_congr_left fun t ht=>h t (by have:=List.mem_range.1 ht;omega)
theorem rwN_set {n j v : Nat} {f : Nat → Nat} : (rwN n f).set j v = rwN n fun t=>if t = j then v else f t:=by
 refine List.ext_getElem (by rw [List.length_set,rwN_len,rwN_len]) fun i h1 h2=>?_
 rw [List.getElem_set]
 simp only [rwN,List.getElem_map,List.getElem_range]
 by_cases e : j = i
 ·rw [if_pos e,if_pos e.symm]
 ·rw [if_neg e,if_neg fun h=>e h.symm]
abbrev pasF (i j t : Nat) : Nat:=if j < t then binom i t else binom (i - 1) t
theorem pas_start {n i : Nat} : rwN n (pasF i i) = rwN n (binom (i - 1)):=rwN_ext fun t _=>by
 rw [pasF]
 split
 ·rename_i h;rw [binom_gt i t h,binom_gt (i - 1) t (by omega)]
 ·rfl
theorem pas_end {n i : Nat} : rwN n (pasF i 0) = rwN n (binom i):=rwN_ext fun t _=>by
 rw [pasF]
 split
 ·rfl
 ·rename_i h
  obtain rfl : t = 0:=by omega
  rw [binom_zero,binom_zero]
theorem pas_step {n i j : Nat} (h1 : 1 ≤ j) (h2 : j ≤ i) : (rwN n (pasF i j)).set j (binom (i - 1) j + binom (i - 1) (j - 1)) = rwN n (pasF i (j - 1)):=by
 rw [rwN_set]
 refine rwN_ext fun t _=>?_
 obtain ⟨i,rfl⟩ : ∃ i',i = i' + 1:=⟨i - 1,by omega⟩
 obtain ⟨j,rfl⟩ : ∃ j',j = j' + 1:=⟨j - 1,by omega⟩
 rw [pasF,pasF,Nat.add_sub_cancel,Nat.add_sub_cancel]
 by_cases e : t = j + 1
 ·rw [if_pos e,if_pos (by omega),e,binom_succ,Nat.add_comm]
 ·rw [if_neg e]
  by_cases h : j + 1 < t
  ·rw [if_pos h,if_pos (by omega)]
  ·rw [if_neg h,if_neg (by omega)]
theorem S_word_choose {n k : Nat} (hn : n ≤ 64) : Ctr Tryz.prog 61 [.int .i64 n,.int .i64 k] [] [] (Rv (.int .i64 (binom n k : Nat)) []):=by
 refine Ctr_of_j' (F:=F_word_choose) rfl fun C=>?_
 by_cases hk : n < k
 ·rw [binom_gt n k hk]
  refine wk 9 cz ?_
  intro h1
  exact ge
 ·refine wk 13 cz ?_
  intro h1 b1
  refine j_step rfl (x_bst_nat 0 1 rfl rfl rfl ld3 ?_ ?_ ?_) --ok
  ·rfl
  ·rw [List.length_replicate];omega
  rw [show (List.replicate (n + 1) 0).set 0 1 = rwN n (binom 0) by
   rw [show List.replicate (n + 1) 0 = rwN n (fun _=>0) by simp [rwN,List.map_const'],rwN_set]
   exact rwN_ext fun t _=>by cases t <;> rfl]
  simp only [setB,List.set_cons_zero]
  refine wk 3 cz ?_
  refine j_loopG (X:=Nat) [0,1,4,5] [] (fun i=>[(6,.int .i64 (i : Int))]) (fun i=>[(some b1,3,natCells .i64 (rwN n (binom (i - 1))))]) (fun _=>[]) (fun i=>1 ≤ i ∧ i ≤ n + 1) (fun i=>n + 1 - i) 1 [] rfl rfl rfl ⟨Nat.le_refl _,by omega⟩ (by repeat (first | exact Fr.sub_nil _ | refine Fr.sub_cons rfl ?_)) rfl rfl ?_
  rintro i ⟨hi1,hi⟩ ih
  simp only [List.cons_append,List.nil_append] at hi1 hi ih ⊢
  by_cases hin : i ≤ n
  ·have ih':=ih (i + 1) (by omega) ⟨by omega,by omega⟩
   rw [Nat.add_sub_cancel,← pas_end] at ih'
   rw [← pas_start (i:=i)]
   clear ih
   refine wk 7 cz ?_
   intro h2
   refine j_loopG (X:=Nat) [0,1,4,5,6,20,21,22,25] [] (fun j=>[(7,.int .i64 (j : Int))]) (fun j=>[(some b1,3,natCells .i64 (rwN n (pasF i j)))]) (fun _=>[]) (fun j=>j ≤ i) (fun j=>j) i [] rfl rfl rfl (Nat.le_refl _) (by repeat (first | exact Fr.sub_nil _ | refine Fr.sub_cons rfl ?_)) rfl rfl ?_
   rintro j hj ihj
   simp only [List.cons_append,List.nil_append] at hj ihj ⊢
   by_cases hj0 : 1 ≤ j
   ·have ihj':=ihj (j - 1) (by omega) (by omega)
    rw [← pas_step hj0 hj] at ihj'
    have g1 : (rwN n (pasF i j))[j]? = some (binom (i - 1) j):=by rw [rwN_get (by omega)];exact congrArg some (if_neg (by omega))
    have g2 : (rwN n (pasF i j))[j - 1]? = some (binom (i - 1) (j - 1)):=by rw [rwN_get (by omega)];exact congrArg some (if_neg (by omega))
    have hL : (rwN n (pasF i j)).length = n + 1:=rwN_len
    have hs:=binom_64 (n:=i) (k:=j) (by omega)
    rw [show binom i j = binom (i - 1) j + binom (i - 1) (j - 1) by
     obtain ⟨i,rfl⟩ : ∃ i',i = i' + 1:=⟨i - 1,by omega⟩
     obtain ⟨j,rfl⟩ : ∃ j',j = j' + 1:=⟨j - 1,by omega⟩
     rw [binom_succ,Nat.add_comm];rfl] at hs
    generalize rwN n (pasF i j) = L at *
    generalize binom (i - 1) j = u at *
    generalize binom (i - 1) (j - 1) = v at *
    clear ihj ih'
    refine wk 11 cz ?_
    intro h3
    simp only [setB,List.set_cons_zero]
    exact tw (ihj')
   ·obtain rfl : j = 0:=by omega
    clear ihj
    refine wk 7 cz ?_
    intro h3
    exact tw (ih')
  ·obtain rfl : i = n + 1:=by omega
   have at_k : (rwN n (binom n))[k]? = some (binom n k):=rwN_get (by omega)
   have hL : (rwN n (binom n)).length = n + 1:=rwN_len
   rw [Nat.add_sub_cancel]
   clear ih
   refine wk 7 cz ?_
   intro h2
   refine j_step rfl (x_bld_nat 0 rfl rfl ld3 (by first | omega | (simp;omega)) fun z1 hz1=>?_)
   obtain rfl : _ = z1:=Option.some.inj (at_k.symm.trans hz1)
   refine wk 2 cz ?_
   exact ge
theorem S_word_Binomial {n k : Nat} (hn : n ≤ 64) : Ctr Tryz.prog 28 [.int .i64 n,.int .i64 k] [] [] (Rv (.tuple #[.int .i64 (binom n k : Nat),.int .i64 0]) []):=by
 refine Ctr_of_j' (F:=F_word_Binomial) rfl fun C=>?_
 have c_word_choose:=S_word_choose (n:=n) (k:=k) hn
 have hb:=binom_64 (n:=n) (k:=k) hn
 refine wk 11 (ct @c_word_choose cz) ?_
 intro h1
 exact ge
theorem S_codewrightref11_Binomial {n k : Nat} (hn : n ≤ 64) : Ctr Tryz.prog 65 [.int .i64 n,.int .i64 k] [] [] (Rv (.tuple #[.int .i64 (binom n k : Nat),.int .i64 0]) []):=by
 refine Ctr_of_j' (F:=F_codewrightref11_Binomial) rfl fun C=>?_
 by_cases hk : n < k
 ·rw [binom_gt n k hk]
  refine wk 13 cz ?_
  intro h1 h2
  exact ge
 ·refine wk 17 cz ?_
  intro h1 h2 b1
  refine j_step rfl (x_bst_nat 0 1 rfl rfl rfl ld3 ?_ ?_ ?_) --ok
  ·rfl
  ·rw [List.length_replicate];omega
  rw [show (List.replicate (n + 1) 0).set 0 1 = rwN n (binom 0) by
   rw [show List.replicate (n + 1) 0 = rwN n (fun _=>0) by simp [rwN,List.map_const'],rwN_set]
   exact rwN_ext fun t _=>by cases t <;> rfl]
  simp only [setB,List.set_cons_zero]
  refine wk 3 cz ?_
  refine j_loopG (X:=Nat) [0,1,4,5,6] [] (fun i=>[(7,.int .i64 (i : Int))]) (fun i=>[(some b1,3,natCells .i64 (rwN n (binom (i - 1))))]) (fun _=>[]) (fun i=>1 ≤ i ∧ i ≤ n + 1) (fun i=>n + 1 - i) 1 [] rfl rfl rfl ⟨Nat.le_refl _,by omega⟩ (by repeat (first | exact Fr.sub_nil _ | refine Fr.sub_cons rfl ?_)) rfl rfl ?_
  rintro i ⟨hi1,hi⟩ ih
  simp only [List.cons_append,List.nil_append] at hi1 hi ih ⊢
  by_cases hin : i ≤ n
  ·have ih':=ih (i + 1) (by omega) ⟨by omega,by omega⟩
   rw [Nat.add_sub_cancel,← pas_end] at ih'
   rw [← pas_start (i:=i)]
   clear ih
   refine wk 7 cz ?_
   intro h3
   refine j_loopG (X:=Nat) [0,1,4,5,6,7,27,28,29,32] [] (fun j=>[(8,.int .i64 (j : Int))]) (fun j=>[(some b1,3,natCells .i64 (rwN n (pasF i j)))]) (fun _=>[]) (fun j=>j ≤ i) (fun j=>j) i [] rfl rfl rfl (Nat.le_refl _) (by repeat (first | exact Fr.sub_nil _ | refine Fr.sub_cons rfl ?_)) rfl rfl ?_
   rintro j hj ihj
   simp only [List.cons_append,List.nil_append] at hj ihj ⊢
   by_cases hj0 : 1 ≤ j
   ·have ihj':=ihj (j - 1) (by omega) (by omega)
    rw [← pas_step hj0 hj] at ihj'
    have g1 : (rwN n (pasF i j))[j]? = some (binom (i - 1) j):=by rw [rwN_get (by omega)];exact congrArg some (if_neg (by omega))
    have g2 : (rwN n (pasF i j))[j - 1]? = some (binom (i - 1) (j - 1)):=by rw [rwN_get (by omega)];exact congrArg some (if_neg (by omega))
    have hL : (rwN n (pasF i j)).length = n + 1:=rwN_len
    have hs:=binom_64 (n:=i) (k:=j) (by omega)
    rw [show binom i j = binom (i - 1) j + binom (i - 1) (j - 1) by
     obtain ⟨i,rfl⟩ : ∃ i',i = i' + 1:=⟨i - 1,by omega⟩
     obtain ⟨j,rfl⟩ : ∃ j',j = j' + 1:=⟨j - 1,by omega⟩
     rw [binom_succ,Nat.add_comm];rfl] at hs
    generalize rwN n (pasF i j) = L at *
    generalize binom (i - 1) j = u at *
    generalize binom (i - 1) (j - 1) = v at *
    clear ihj ih'
    refine wk 11 cz ?_
    intro h4
    simp only [setB,List.set_cons_zero]
    exact tw (ihj')
   ·obtain rfl : j = 0:=by omega
    clear ihj
    refine wk 7 cz ?_
    intro h4
    exact tw (ih')
  ·obtain rfl : i = n + 1:=by omega
   have at_k : (rwN n (binom n))[k]? = some (binom n k):=rwN_get (by omega)
   have hL : (rwN n (binom n)).length = n + 1:=rwN_len
   rw [Nat.add_sub_cancel]
   clear ih
   refine wk 7 cz ?_
   intro h3
   refine j_step rfl (x_bld_nat 0 rfl rfl ld3 (by first | omega | (simp;omega)) fun z1 hz1=>?_)
   obtain rfl : _ = z1:=Option.some.inj (at_k.symm.trans hz1)
   refine wk 2 cz ?_
   exact ge
def sumI : List Int → Int
 | []=>0
 | x::l=>x + sumI l
theorem sumI_app : ∀ {l k : List Int},sumI (l++k) = sumI l + sumI k
 | [],k=>by rw [List.nil_append,sumI,Int.zero_add]
 | x::l,k=>by rw [List.cons_append,sumI,sumI,sumI_app];omega
theorem sumI_snoc {l : List Int} {i : Nat} {x : Int} (h : l[i]? = some x) : sumI (l.take (i + 1)) = sumI (l.take i) + x:=by
 rw [List.take_add_one,h,Option.toList_some,sumI_app];simp [sumI]
theorem sumI_nn : ∀ {l : List Int},(∀ x ∈ l,0 ≤ x) → 0 ≤ sumI l
 | [],_=>Int.le_refl 0
 | x::l,h=>by rw [sumI];have:=h x (.head _);have:=sumI_nn (l:=l) fun y hy=>h y (.tail _ hy);omega
theorem sumI_take {l : List Int} (h : ∀ x ∈ l,0 ≤ x) (i : Nat) : 0 ≤ sumI (l.take i) ∧ sumI (l.take i) ≤ sumI l:=by
 have h1:=sumI_nn (l:=l.take i) fun x hx=>h x (List.mem_of_mem_take hx)
 have h2:=sumI_nn (l:=l.drop i) fun x hx=>h x (List.mem_of_mem_drop hx)
 have h3:=sumI_app (l:=l.take i) (k:=l.drop i)
 rw [List.take_append_drop] at h3
 omega
def minL : Int → List Int → Int
 | m,[]=>m
 | m,x::l=>minL (if x < m then x else m) l
theorem minL_lt {c : Int} : ∀ {m : Int} {l : List Int},minL m l < c ↔ m < c ∨ ∃ x ∈ l,x < c
 | m,[]=>by simp [minL]
 | m,x::l=>by
  rw [minL,minL_lt]
  constructor
  ·rintro (h | ⟨y,hy,h⟩)
   ·split at h
    ·exact .inr ⟨x,.head _,h⟩
    ·exact .inl h
   ·exact .inr ⟨y,.tail _ hy,h⟩
  ·rintro (h | ⟨y,hy,h⟩)
   ·left;split <;> omega
   ·rcases List.mem_cons.1 hy with rfl | hy
    ·left;split <;> omega
    ·exact .inr ⟨y,hy,h⟩
def setN (n : Nat) : Nat → Nat
 | 0=>0
 | k + 1=>min (setN n k + min (binom n k) 65537) 65537
def cumN (n : Nat) : Nat → Nat
 | 0=>0
 | k + 1=>cumN n k + binom n k
theorem setN_cum {n : Nat} : ∀ {k : Nat},setN n k = min (cumN n k) 65537
 | 0=>by rw [setN,cumN];omega
 | k + 1=>by rw [setN,cumN,setN_cum];omega
theorem cumN_le {n : Nat} : ∀ {k d : Nat},cumN n k ≤ cumN n (k + d)
 | _,0=>Nat.le_refl _
 | k,d + 1=>by rw [← Nat.add_assoc,cumN];have:=cumN_le (n:=n) (k:=k) (d:=d);omega
section
variable {n t cl k c : Nat} {pl : Option Addr} {l : List Int} {x : Int}
theorem S_slices_Min___int_int_ (hr : ∀ y ∈ x::l,InR .i64 y) : Ctr Tryz.prog 29 [.slice pl k c] [] [slF I64 pl k c (x::l)] (Rv (.int .i64 (minL x l)) []):=by
 refine Ctr_of_j' (F:=F_slices_Min___int_int_) rfl fun C=>?_
 refine j_len 0 rfl fun hn hb _=>?_
 subst hn
 have hb' : (x::l).length * 8 ≤ 140737488355328:=hb
 have hl : (x::l).length = l.length + 1:=rfl
 have at_x : (x::l)[0]? = some x:=rfl
 refine wk 11 cz ?_
 intro h1 b1 o1 hz1
 refine j_step rfl (x_ld_int 0 rfl rfl ld3 fun ⟨r1,r2⟩=>?_)
 refine wk 4 cz ?_
 refine j_loopG (X:=Nat × Int) [0,2] [0,1] (fun y=>[(4,.int .i64 (y.1 : Int)),(3,.int .i64 y.2)]) (fun _=>[]) (fun _=>[]) (fun y=>1 ≤ y.1 ∧ y.1 ≤ (x::l).length ∧ InR .i64 y.2 ∧ minL x l = minL y.2 ((x::l).drop y.1)) (fun y=>(x::l).length - y.1) (1,x) [] rfl rfl rfl ⟨Nat.le_refl _,by dsimp only;omega,hr x (.head _),rfl⟩ (by repeat (first | exact Fr.sub_nil _ | refine Fr.sub_cons rfl ?_)) rfl rfl ?_
 rintro ⟨i,m⟩ ⟨hi1,hi,hm,hg⟩ ih
 simp only [List.cons_append,List.nil_append] at hi1 hi hm hg ih ⊢
 by_cases hil : i < (x::l).length
 ·obtain ⟨y,at_y⟩ : ∃ y,(x::l)[i]? = some y:=⟨_,List.getElem?_eq_getElem hil⟩
  have hy:=hr y (List.mem_of_getElem? at_y)
  have e : (x::l).drop i = y::(x::l).drop (i + 1):=by
   rw [List.drop_eq_getElem_cons hil];rw [List.getElem?_eq_getElem hil] at at_y;rw [Option.some.inj at_y]
  rw [e,minL] at hg
  have ih':=ih (i + 1,if y < m then y else m) (by dsimp only;omega) ⟨by dsimp only;omega,by dsimp only;omega,by dsimp only;split <;> assumption,hg⟩
  dsimp only at ih'
  clear ih
  refine wk 9 cz ?_
  intro h2 b2 o2 hz2
  refine j_step rfl (x_ld_int 0 rfl rfl ld3 fun ⟨r3,r4⟩=>?_)
  refine j_step rfl (x_min rfl rfl ?_)
  refine wk 4 cz ?_
  exact tw (ih')
 ·obtain rfl : i = (x::l).length:=by omega
  rw [List.drop_length,minL] at hg
  rw [hg]
  clear ih
  refine wk 9 cz ?_
  intro h2
  exact ge
theorem S_codewrightref54_sets (hn : n ≤ 64) (ht : t ≤ n) : Ctr Tryz.prog 32 [.int .i64 n,.int .i64 t] [] [] (Rv (.int .i64 (setN n (t + 1) : Nat)) []):=by
 refine Ctr_of_j' (F:=F_codewrightref54_sets) rfl fun C=>?_
 refine wk 7 cz ?_
 refine j_loopG (X:=Nat) [0,1,4] [] (fun k=>[(6,.int .i64 (k : Int)),(5,.int .i64 (setN n k : Nat))]) (fun _=>[]) (fun _=>[]) (fun k=>k ≤ t + 1) (fun k=>t + 1 - k) 0 [] rfl rfl rfl (Nat.zero_le _) (by repeat (first | exact Fr.sub_nil _ | refine Fr.sub_cons rfl ?_)) rfl rfl ?_
 rintro k hk ih
 simp only [List.cons_append,List.nil_append] at hk ih ⊢
 have hs : setN n k ≤ 65537:=by cases k <;> rw [setN] <;> omega
 by_cases hkt : k ≤ t
 ·have ih':=ih (k + 1) (by omega) (by omega)
  have hb:=binom_64 (n:=n) (k:=k) hn
  have c_codewrightref11_Binomial:=S_codewrightref11_Binomial (n:=n) (k:=k) hn
  rw [setN] at ih'
  generalize setN n k = s at *
  generalize binom n k = b at *
  clear ih
  refine wk 15 (ct @c_codewrightref11_Binomial cz) ?_
  intro h1 h2
  refine j_step rfl (x_min rfl rfl ?_)
  refine wk 3 cz ?_
  refine j_step rfl (x_min rfl rfl ?_)
  refine wk 4 cz ?_
  rw [show (if (65537 : Int) < ↑s + (if (65537 : Int) < ↑b then 65537 else ↑b) then 65537 else ↑s + (if (65537 : Int) < ↑b then 65537 else ↑b)) = ((min (s + min b 65537) 65537 : Nat) : Int) by (repeat' split) <;> omega]
  exact tw (ih')
 ·obtain rfl : k = t + 1:=by omega
  clear ih
  refine wk 12 cz ?_
  intro h1
  exact ge
end
open Go Go.Fw
set_option maxRecDepth 100000
set_option linter.unusedVariables false
set_option linter.unusedSimpArgs false
set_option maxHeartbeats 0
theorem j_rangeI {P : Program} {F : Fun P} {C : Cx} {S : List It} {σ : Fr} {β : List Blk} {Γ : List Fact} {R : Value → World → Prop} {pa : Option Addr} {m ca : Nat} {l : List Int} (n : Nat) (hn : nth Γ n = some (slF I64 pa m ca l)) (h : (∀ x ∈ l,InR .i64 x) → J F C S σ β Γ R) : J F C S σ β Γ R :=
 j_know (fun w A hG x hx=>by
  obtain ⟨_,_,_,hs⟩:=hG _ (fact_mem hn)
  rcases hs with rfl | ⟨b,o,_,_,hel⟩
  ·cases hx
  ·obtain ⟨i,hi⟩:=List.getElem?_of_mem hx
   obtain ⟨vs,_,_,h2⟩:=hel i x hi
   exact h2) h
noncomputable def cfE (P M : Int) (md : List Int) (N : Int) (rows : List (List Int)) (dd : Int) (sets : List (List Int)) (racks : List Int) (W : Int) : Int :=
 if ckE P M md N rows ≠ 0 then ckE P M md N rows else if rows.length = 0 then 9 else if cdE P M md N rows dd sets ≠ 0 then cdE P M md N rows dd sets
 else if 65536 < cumN N.toNat (((dd - 1) / 2).toNat + 1) then 8 else if W < 1 ∨ 16 < W ∨ racks.length < 1 ∨ 64 < racks.length ∨ (∃ x ∈ racks,x < 1) then 6
 else if 256 < sumI racks then 8 else if sumI racks < N then 10 else 0
theorem cdE_rng {P M N dd : Int} {md : List Int} {rows sets : List (List Int)} : 0 ≤ cdE P M md N rows dd sets ∧ cdE P M md N rows dd sets ≤ 13:=by
 have:=ckE_rng P M md N rows
 rw [cdE]
 split
 ·omega
 ·split
  ·omega
  ·split <;> omega
theorem cd_ok {p m N : Nat} {dd : Int} {md : List Int} {rows sets : List (List Int)} (CC : Cok p m md N rows) (h : cdE p m md N rows dd sets = 0) : 1 ≤ dd ∧ dd ≤ N + 1:=by
 rw [cdE,CC.ck,if_neg (by simp)] at h
 split at h
 ·cases h
 ·omega
section
variable {P M N dd W e : Int} {n c nm cm nt ct nr cr : Nat} {pm ps pt pr : Option Addr} {md racks : List Int} {rows sets : List (List Int)}
theorem S_codewrightref54_Hosts (h0 : ∀ x ∈ racks,0 ≤ x) (hs : sumI racks ≤ 1000000) : Ctr Tryz.prog 33 [.agg #[.int .i64 P,.int .i64 M,.slice pm nm cm,.int .i64 N,.slice ps n c,.int .i64 dd,.slice pt nt ct,.slice pr nr cr,.int .i64 W]] [] [slF I64 pr nr cr racks] (Rv (.int .i64 (sumI racks)) []):=by
 refine Ctr_of_j' (F:=F_codewrightref54_Hosts) rfl fun C=>?_
 refine j_len 0 rfl fun hn hb _=>?_
 subst hn
 have hb' : racks.length * 8 ≤ 140737488355328:=hb
 refine wk 8 cz ?_
 intro b1
 refine j_loopG (X:=Nat) [1,2] [0] (fun i=>[(4,.int .i64 (i : Int)),(3,.int .i64 (sumI (racks.take i)))]) (fun _=>_) (fun _=>[]) (fun i=>i ≤ racks.length) (fun i=>racks.length - i) 0 [] rfl rfl rfl (Nat.zero_le _) (by repeat (first | exact Fr.sub_nil _ | refine Fr.sub_cons rfl ?_)) rfl rfl ?_
 rintro i hi ih
 simp only [List.cons_append,List.nil_append] at hi ih ⊢
 have hst:=sumI_take h0 i
 by_cases h9 : i < racks.length
 ·obtain ⟨x,at_x⟩ : ∃ x,racks[i]? = some x:=⟨_,List.getElem?_eq_getElem h9⟩
  have hx:=h0 x (List.mem_of_getElem? at_x)
  have hst2:=sumI_take h0 (i + 1)
  rw [sumI_snoc at_x] at hst2
  have ih':=ih (i + 1) (by omega) (by omega)
  rw [sumI_snoc at_x] at ih'
  refine wk 14 cz ?_
  intro h1 b2 o1 hz1
  refine j_step rfl (x_ld_int 0 rfl rfl ld3 fun ⟨r1,r2⟩=>?_)
  refine wk 4 cz ?_
  exact tw (ih')
 ·obtain rfl : i = racks.length:=by omega
  rw [List.take_length]
  clear ih
  refine wk 11 cz ?_
  intro h1
  exact ge
theorem S_store_CheckConfig (hN : InR .i64 N) (hd : InR .i64 dd) (h : cfE P M md N rows dd sets racks W = e) : Ctr Tryz.prog 10 [.agg #[.int .i64 P,.int .i64 M,.slice pm nm cm,.int .i64 N,.slice ps n c,.int .i64 dd,.slice pt nt ct,.slice pr nr cr,.int .i64 W]] [] [slF I64 pm nm cm md,slF (encSl I64) ps n c rows,slF (encSl I64) pt nt ct sets,slF I64 pr nr cr racks] (Rv (.int .i64 e) []):=by
 refine Ctr_of_j' (F:=F_store_CheckConfig) rfl fun C=>?_
 refine j_len 1 rfl fun hn hb _=>?_
 subst hn
 refine j_len 3 rfl fun hn hb2 _=>?_
 subst hn
 have hb2' : racks.length * 8 ≤ 140737488355328:=hb2
 refine j_rangeI 3 rfl fun hrr=>?_
 have c_code_Check:=fun {pm ps : Option Addr} {nm cm n c : Nat}=>S_code_Check (P:=P) (M:=M) (pm:=pm) (ps:=ps) (nm:=nm) (cm:=cm) (n:=n) (c:=c) (md:=md) (rows:=rows) hN rfl
 have hr:=ckE_rng P M md N rows
 rw [cfE] at h
 by_cases hc : ckE P M md N rows = 0
 ·rw [if_neg (fun e=>e hc)] at h
  rw [hc] at c_code_Check
  obtain ⟨p,m,N,rfl,rfl,rfl,CC⟩:=ck_of hc
  have h64:=CC.n64
  by_cases h0 : rows.length = 0
  ·rw [if_pos h0] at h
   subst h
   refine wk 6 cz ?_
   intro b1
   refine j_step rfl (x_call [0,1] rfl (c_code_Check) rfl ?_)
   rintro _ _ _ ⟨rfl,rfl,rfl⟩
   simp only [List.cons_append,List.nil_append]
   refine wk 16 cz ?_
   intro h1 h2
   exact ge
  ·rw [if_neg h0] at h
   have hcr:=cdE_rng (P:=p) (M:=m) (N:=N) (dd:=dd) (md:=md) (rows:=rows) (sets:=sets)
   have c_exclusion_CheckDistance:=fun {pm ps pt : Option Addr} {nm cm n c nt ct : Nat}=>S_exclusion_CheckDistance (pm:=pm) (ps:=ps) (pt:=pt) (nm:=nm) (cm:=cm) (n:=n) (c:=c) (nt:=nt) (ct:=ct) (sets:=sets) (e:=cdE p m md N rows dd sets) CC hd (by omega) rfl
   by_cases h1 : cdE p m md N rows dd sets = 0
   ·rw [if_neg (fun e=>e h1),Int.toNat_natCast] at h
    rw [h1] at c_exclusion_CheckDistance
    obtain ⟨d1,d2⟩:=cd_ok CC h1
    obtain ⟨D,hD⟩:=Int.eq_ofNat_of_zero_le (show 0 ≤ (dd - 1) / 2 by omega)
    rw [hD,Int.toNat_natCast] at h
    have hDN : D ≤ N:=by omega
    refine wk 6 cz ?_
    intro b1
    refine j_step rfl (x_call [0,1] rfl (c_code_Check) rfl ?_)
    rintro _ _ _ ⟨rfl,rfl,rfl⟩
    simp only [List.cons_append,List.nil_append]
    refine wk 20 cz ?_
    intro h2 h3
    refine j_step rfl (x_call [0,1,2] rfl (c_exclusion_CheckDistance) rfl ?_)
    rintro _ _ _ ⟨rfl,rfl,rfl⟩
    simp only [List.cons_append,List.nil_append]
    simp only [decide_true]
    refine wk 10 cz ?_
    intro h4
    refine j_loopG (X:=Nat) [1] [0,1,2,3] (fun k=>[(6,.int .i64 (k : Int)),(5,.int .i64 (cumN N k : Nat))]) (fun _=>_) (fun _=>[]) (fun k=>k ≤ D + 1 ∧ cumN N k ≤ 65536) (fun k=>D + 1 - k) 0 [] rfl rfl rfl ⟨Nat.zero_le _,by rw [cumN];omega⟩ (by repeat (first | exact Fr.sub_nil _ | refine Fr.sub_cons rfl ?_)) rfl rfl ?_
    rintro k ⟨hk,hcm⟩ ih
    simp only [List.cons_append,List.nil_append] at hk hcm ih ⊢
    by_cases hkD : k ≤ D
    ·have hb:=binom_64 (n:=N) (k:=k) h64
     have c_word_Binomial:=S_word_Binomial (n:=N) (k:=k) h64
     have hle:=cumN_le (n:=N) (k:=k + 1) (d:=D - k)
     rw [show k + 1 + (D - k) = D + 1 by omega] at hle
     by_cases h8 : 65536 < cumN N (k + 1)
     ·rw [if_pos (by omega)] at h
      subst h
      rw [cumN] at h8
      generalize cumN N k = s at *
      generalize binom N k = b at *
      clear ih
      refine wk 12 cz ?_
      intro h5
      refine j_step rfl (x_call [] rfl (c_word_Binomial) rfl ?_)
      rintro _ _ _ ⟨rfl,rfl,rfl⟩
      simp only [List.cons_append,List.nil_append]
      refine wk 8 cz ?_
      intro h6
      exact ge
     ·have ih':=ih (k + 1) (by omega) ⟨by omega,by omega⟩
      rw [cumN] at ih' h8
      generalize cumN N k = s at *
      generalize binom N k = b at *
      clear ih
      refine wk 12 cz ?_
      intro h5
      refine j_step rfl (x_call [] rfl (c_word_Binomial) rfl ?_)
      rintro _ _ _ ⟨rfl,rfl,rfl⟩
      simp only [List.cons_append,List.nil_append]
      refine wk 10 cz ?_
      intro h6
      exact tw (ih')
    ·obtain rfl : k = D + 1:=by omega
     clear ih
     rw [if_neg (by omega)] at h
     generalize cumN N (D + 1) = s at *
     by_cases w1 : W < 1
     ·rw [if_pos (.inl w1)] at h
      subst h
      refine wk 19 cz ?_
      intro h5 h6
      exact ge
     by_cases w2 : 16 < W
     ·rw [if_pos (.inr (.inl w2))] at h
      subst h
      refine wk 25 cz ?_
      intro h5 h6 h7
      exact ge
     by_cases w3 : racks.length < 1
     ·rw [if_pos (.inr (.inr (.inl w3)))] at h
      subst h
      refine wk 32 cz ?_
      intro h5 h6 h7 h8
      exact ge
     by_cases w4 : 64 < racks.length
     ·rw [if_pos (.inr (.inr (.inr (.inl w4))))] at h
      subst h
      refine wk 39 cz ?_
      intro h5 h6 h7 h8 h9
      exact ge
     obtain ⟨x,l,rfl⟩ : ∃ x l,racks = x::l:=by
      cases racks with
      | nil=>exact absurd (Nat.lt_succ_self 0) w3
      | cons x l=>exact ⟨x,l,rfl⟩
     have c_slices_Min___int_int_:=fun {pl : Option Addr} {k c : Nat}=>S_slices_Min___int_int_ (pl:=pl) (k:=k) (c:=c) hrr
     by_cases w5 : ∃ y ∈ x::l,y < 1
     ·rw [if_pos (.inr (.inr (.inr (.inr w5))))] at h
      subst h
      have hmin : minL x l < 1:=minL_lt.2 (by
       obtain ⟨y,hy,h⟩:=w5
       rcases List.mem_cons.1 hy with rfl | hy
       ·exact .inl h
       ·exact .inr ⟨y,hy,h⟩)
      refine wk 33 cz ?_
      intro h5 h6 h7 h8 h9
      refine j_gstep rfl rfl (x_call [3] rfl (c_slices_Min___int_int_) rfl ?_)
      rintro _ _ _ ⟨rfl,rfl,rfl⟩
      simp only [List.cons_append,List.nil_append]
      refine wk 6 cz ?_
      intro h10
      exact ge
     ·have hmin : ¬ minL x l < 1:=fun hm=>w5 (by
       rcases minL_lt.1 hm with h | ⟨y,hy,h⟩
       ·exact ⟨x,.head _,h⟩
       ·exact ⟨y,.tail _ hy,h⟩)
      rw [if_neg (by rintro (h | h | h | h | h) <;> first | omega | exact w5 h)] at h
      have hp : ∀ y ∈ x::l,0 ≤ y:=fun y hy=>by have : ¬ y < 1:=fun h=>w5 ⟨y,hy,h⟩;omega
      refine wk 33 cz ?_
      intro h5 h6 h7 h8 h9
      refine j_gstep rfl rfl (x_call [3] rfl (c_slices_Min___int_int_) rfl ?_)
      rintro _ _ _ ⟨rfl,rfl,rfl⟩
      simp only [List.cons_append,List.nil_append]
      refine wk 11 cz ?_
      intro h10
      refine j_loopG (X:=Nat) [1,83,84] [0,1,2,3] (fun i=>[(85,.int .i64 (i : Int)),(9,.int .i64 (sumI ((x::l).take i)))]) (fun _=>_) (fun _=>[]) (fun i=>i ≤ (x::l).length ∧ sumI ((x::l).take i) ≤ 256) (fun i=>(x::l).length - i) 0 [] rfl rfl rfl ⟨Nat.zero_le _,by rw [List.take_zero,sumI];omega⟩ (by repeat (first | exact Fr.sub_nil _ | refine Fr.sub_cons rfl ?_)) rfl rfl ?_
      rintro i ⟨hi,hs⟩ ih
      simp only [List.cons_append,List.nil_append] at hi hs ih ⊢
      have hst:=sumI_take hp i
      by_cases h9 : i < (x::l).length
      ·obtain ⟨y,at_y⟩ : ∃ y,(x::l)[i]? = some y:=⟨_,List.getElem?_eq_getElem h9⟩
       have hy:=hp y (List.mem_of_getElem? at_y)
       have hst2:=sumI_take hp (i + 1)
       by_cases h8 : 256 < sumI ((x::l).take (i + 1))
       ·rw [if_pos (by omega)] at h
        subst h
        rw [sumI_snoc at_y] at h8
        clear ih
        generalize sumI ((x::l).take i) = s2 at *
        refine wk 6 cz ?_
        intro h11 b2 o1 hz1
        refine j_step rfl (x_ld_int 0 rfl rfl ld3 fun ⟨r1,r2⟩=>?_)
        refine wk 8 cz ?_
        intro h12
        exact ge
       ·have ih':=ih (i + 1) (by omega) ⟨by omega,by omega⟩
        rw [sumI_snoc at_y] at ih' h8
        clear ih
        generalize sumI ((x::l).take i) = s2 at *
        refine wk 6 cz ?_
        intro h11 b2 o1 hz1
        refine j_step rfl (x_ld_int 0 rfl rfl ld3 fun ⟨r1,r2⟩=>?_)
        refine wk 10 cz ?_
        intro h12
        exact tw (ih')
      ·obtain rfl : i = (x::l).length:=by omega
       clear ih
       rw [List.take_length] at hs hst ⊢
       rw [if_neg (by omega)] at h
       generalize sumI (x::l) = s2 at *
       by_cases h7 : s2 < N
       ·rw [if_pos h7] at h
        subst h
        refine wk 15 cz ?_
        intro h11 h12
        exact ge
       ·rw [if_neg h7] at h
        subst h
        refine wk 15 cz ?_
        intro h11 h12
        exact ge
   ·rw [if_pos h1] at h
    subst h
    refine wk 6 cz ?_
    intro b1
    refine j_step rfl (x_call [0,1] rfl (c_code_Check) rfl ?_)
    rintro _ _ _ ⟨rfl,rfl,rfl⟩
    simp only [List.cons_append,List.nil_append]
    refine wk 20 cz ?_
    intro h2 h3
    refine j_step rfl (x_call [0,1,2] rfl (c_exclusion_CheckDistance) rfl ?_)
    rintro _ _ _ ⟨rfl,rfl,rfl⟩
    simp only [List.cons_append,List.nil_append]
    simp only [decide_true]
    refine wk 8 cz ?_
    intro h4
    exact ge
 ·rw [if_pos hc] at h
  subst h
  refine wk 6 cz ?_
  intro b1
  refine j_step rfl (x_call [0,1] rfl (c_code_Check) rfl ?_)
  rintro _ _ _ ⟨rfl,rfl,rfl⟩
  simp only [List.cons_append,List.nil_append]
  refine wk 8 cz ?_
  intro h1
  exact ge
theorem S_codewrightref54_CheckConfig (hN : InR .i64 N) (hd : InR .i64 dd) (h : cfE P M md N rows dd sets racks W = e) : Ctr Tryz.prog 11 [.agg #[.int .i64 P,.int .i64 M,.slice pm nm cm,.int .i64 N,.slice ps n c,.int .i64 dd,.slice pt nt ct,.slice pr nr cr,.int .i64 W]] [] [slF I64 pm nm cm md,slF (encSl I64) ps n c rows,slF (encSl I64) pt nt ct sets,slF I64 pr nr cr racks] (Rv (.int .i64 e) []):=by
 refine Ctr_of_j' (F:=F_codewrightref54_CheckConfig) rfl fun C=>?_
 refine j_len 1 rfl fun hn hb _=>?_
 subst hn
 refine j_len 3 rfl fun hn hb2 _=>?_
 subst hn
 have hb2' : racks.length * 8 ≤ 140737488355328:=hb2
 have c_codewrightref12_Check:=fun {pm ps : Option Addr} {nm cm n c : Nat}=>S_codewrightref12_Check (P:=P) (M:=M) (pm:=pm) (ps:=ps) (nm:=nm) (cm:=cm) (n:=n) (c:=c) (md:=md) (rows:=rows) hN rfl
 have hr:=ckE_rng P M md N rows
 rw [cfE] at h
 by_cases hc : ckE P M md N rows = 0
 ·rw [if_neg (fun e=>e hc)] at h
  rw [hc] at c_codewrightref12_Check
  obtain ⟨p,m,N,rfl,rfl,rfl,CC⟩:=ck_of hc
  have h64:=CC.n64
  by_cases h0 : rows.length = 0
  ·rw [if_pos h0] at h
   subst h
   refine wk 6 cz ?_
   intro b1
   refine j_step rfl (x_call [0,1] rfl (c_codewrightref12_Check) rfl ?_)
   rintro _ _ _ ⟨rfl,rfl,rfl⟩
   simp only [List.cons_append,List.nil_append]
   refine wk 16 cz ?_
   intro h1 h2
   exact ge
  ·rw [if_neg h0] at h
   have hcr:=cdE_rng (P:=p) (M:=m) (N:=N) (dd:=dd) (md:=md) (rows:=rows) (sets:=sets)
   have c_codewrightref26_CheckDistance:=fun {pm ps pt : Option Addr} {nm cm n c nt ct : Nat}=>S_codewrightref26_CheckDistance (pm:=pm) (ps:=ps) (pt:=pt) (nm:=nm) (cm:=cm) (n:=n) (c:=c) (nt:=nt) (ct:=ct) (sets:=sets) (e:=cdE p m md N rows dd sets) hN hd rfl
   by_cases h1 : cdE p m md N rows dd sets = 0
   ·rw [if_neg (fun e=>e h1),Int.toNat_natCast] at h
    rw [h1] at c_codewrightref26_CheckDistance
    obtain ⟨d1,d2⟩:=cd_ok CC h1
    obtain ⟨D,hD⟩:=Int.eq_ofNat_of_zero_le (show 0 ≤ (dd - 1) / 2 by omega)
    rw [hD,Int.toNat_natCast] at h
    have hDN : D ≤ N:=by omega
    have c_codewrightref54_sets:=S_codewrightref54_sets (n:=N) (t:=D) h64 hDN
    rw [← hD,setN_cum] at c_codewrightref54_sets
    generalize cumN N (D + 1) = s at *
    by_cases h8 : 65536 < s
    ·rw [if_pos h8] at h
     subst h
     refine wk 6 cz ?_
     intro b1
     refine j_step rfl (x_call [0,1] rfl (c_codewrightref12_Check) rfl ?_)
     rintro _ _ _ ⟨rfl,rfl,rfl⟩
     simp only [List.cons_append,List.nil_append]
     refine wk 20 cz ?_
     intro h2 h3
     refine j_step rfl (x_call [0,1,2] rfl (c_codewrightref26_CheckDistance) rfl ?_)
     rintro _ _ _ ⟨rfl,rfl,rfl⟩
     simp only [List.cons_append,List.nil_append]
     simp only [decide_true]
     refine wk 12 cz ?_
     intro h4
     refine j_step rfl (x_call [] rfl (c_codewrightref54_sets) rfl ?_)
     rintro _ _ _ ⟨rfl,rfl,rfl⟩
     simp only [List.cons_append,List.nil_append]
     simp only [decide_true]
     refine wk 6 cz ?_
     intro h5
     exact ge
    ·rw [if_neg h8] at h
     by_cases w1 : W < 1
     ·rw [if_pos (.inl w1)] at h
      subst h
      refine wk 6 cz ?_
      intro b1
      refine j_step rfl (x_call [0,1] rfl (c_codewrightref12_Check) rfl ?_)
      rintro _ _ _ ⟨rfl,rfl,rfl⟩
      simp only [List.cons_append,List.nil_append]
      refine wk 20 cz ?_
      intro h2 h3
      refine j_step rfl (x_call [0,1,2] rfl (c_codewrightref26_CheckDistance) rfl ?_)
      rintro _ _ _ ⟨rfl,rfl,rfl⟩
      simp only [List.cons_append,List.nil_append]
      simp only [decide_true]
      refine wk 12 cz ?_
      intro h4
      refine j_step rfl (x_call [] rfl (c_codewrightref54_sets) rfl ?_)
      rintro _ _ _ ⟨rfl,rfl,rfl⟩
      simp only [List.cons_append,List.nil_append]
      simp only [decide_true]
      refine wk 15 cz ?_
      intro h5 h6
      exact ge
     by_cases w2 : 16 < W
     ·rw [if_pos (.inr (.inl w2))] at h
      subst h
      refine wk 6 cz ?_
      intro b1
      refine j_step rfl (x_call [0,1] rfl (c_codewrightref12_Check) rfl ?_)
      rintro _ _ _ ⟨rfl,rfl,rfl⟩
      simp only [List.cons_append,List.nil_append]
      refine wk 20 cz ?_
      intro h2 h3
      refine j_step rfl (x_call [0,1,2] rfl (c_codewrightref26_CheckDistance) rfl ?_)
      rintro _ _ _ ⟨rfl,rfl,rfl⟩
      simp only [List.cons_append,List.nil_append]
      simp only [decide_true]
      refine wk 12 cz ?_
      intro h4
      refine j_step rfl (x_call [] rfl (c_codewrightref54_sets) rfl ?_)
      rintro _ _ _ ⟨rfl,rfl,rfl⟩
      simp only [List.cons_append,List.nil_append]
      simp only [decide_true]
      refine wk 21 cz ?_
      intro h5 h6 h7
      exact ge
     by_cases w3 : racks.length < 1
     ·rw [if_pos (.inr (.inr (.inl w3)))] at h
      subst h
      refine wk 6 cz ?_
      intro b1
      refine j_step rfl (x_call [0,1] rfl (c_codewrightref12_Check) rfl ?_)
      rintro _ _ _ ⟨rfl,rfl,rfl⟩
      simp only [List.cons_append,List.nil_append]
      refine wk 20 cz ?_
      intro h2 h3
      refine j_step rfl (x_call [0,1,2] rfl (c_codewrightref26_CheckDistance) rfl ?_)
      rintro _ _ _ ⟨rfl,rfl,rfl⟩
      simp only [List.cons_append,List.nil_append]
      simp only [decide_true]
      refine wk 12 cz ?_
      intro h4
      refine j_step rfl (x_call [] rfl (c_codewrightref54_sets) rfl ?_)
      rintro _ _ _ ⟨rfl,rfl,rfl⟩
      simp only [List.cons_append,List.nil_append]
      simp only [decide_true]
      refine wk 28 cz ?_
      intro h5 h6 h7 h9
      exact ge
     by_cases w4 : 64 < racks.length
     ·rw [if_pos (.inr (.inr (.inr (.inl w4))))] at h
      subst h
      refine wk 6 cz ?_
      intro b1
      refine j_step rfl (x_call [0,1] rfl (c_codewrightref12_Check) rfl ?_)
      rintro _ _ _ ⟨rfl,rfl,rfl⟩
      simp only [List.cons_append,List.nil_append]
      refine wk 20 cz ?_
      intro h2 h3
      refine j_step rfl (x_call [0,1,2] rfl (c_codewrightref26_CheckDistance) rfl ?_)
      rintro _ _ _ ⟨rfl,rfl,rfl⟩
      simp only [List.cons_append,List.nil_append]
      simp only [decide_true]
      refine wk 12 cz ?_
      intro h4
      refine j_step rfl (x_call [] rfl (c_codewrightref54_sets) rfl ?_)
      rintro _ _ _ ⟨rfl,rfl,rfl⟩
      simp only [List.cons_append,List.nil_append]
      simp only [decide_true]
      refine wk 31 cz ?_
      intro h5 h6 h7 h9 h10
      exact ge
     refine wk 6 cz ?_
     intro b1
     refine j_step rfl (x_call [0,1] rfl (c_codewrightref12_Check) rfl ?_)
     rintro _ _ _ ⟨rfl,rfl,rfl⟩
     simp only [List.cons_append,List.nil_append]
     refine wk 20 cz ?_
     intro h2 h3
     refine j_step rfl (x_call [0,1,2] rfl (c_codewrightref26_CheckDistance) rfl ?_)
     rintro _ _ _ ⟨rfl,rfl,rfl⟩
     simp only [List.cons_append,List.nil_append]
     simp only [decide_true]
     refine wk 12 cz ?_
     intro h4
     refine j_step rfl (x_call [] rfl (c_codewrightref54_sets) rfl ?_)
     rintro _ _ _ ⟨rfl,rfl,rfl⟩
     simp only [List.cons_append,List.nil_append]
     simp only [decide_true]
     refine wk 31 cz ?_
     intro h5 h6 h7 h9 h10
     refine j_loopG (X:=Nat) [1] [0,1,2,3] (fun i=>[(4,.int .i64 (i : Int))]) (fun _=>_) (fun _=>[]) (fun i=>i ≤ racks.length ∧ ∀ x ∈ racks.take i,¬ x < 1) (fun i=>racks.length - i) 0 [] rfl rfl rfl ⟨Nat.zero_le _,fun x h=>absurd h List.not_mem_nil⟩ (by repeat (first | exact Fr.sub_nil _ | refine Fr.sub_cons rfl ?_)) rfl rfl ?_
     rintro i ⟨hi,hs⟩ ih
     simp only [List.cons_append,List.nil_append] at hi ih ⊢
     by_cases h9 : i < racks.length
     ·obtain ⟨y,at_y⟩ : ∃ y,racks[i]? = some y:=⟨_,List.getElem?_eq_getElem h9⟩
      by_cases hy : y < 1
      ·rw [if_pos (.inr (.inr (.inr (.inr ⟨y,List.mem_of_getElem? at_y,hy⟩))))] at h
       subst h
       clear ih
       refine wk 13 cz ?_
       intro h11 b2 o1 hz1
       refine j_step rfl (x_ld_int 0 rfl rfl ld3 fun ⟨r1,r2⟩=>?_)
       refine wk 6 cz ?_
       intro h12
       exact ge
      ·refine wk 13 cz ?_
       intro h11 b2 o1 hz1
       refine j_step rfl (x_ld_int 0 rfl rfl ld3 fun ⟨r1,r2⟩=>?_)
       refine wk 6 cz ?_
       intro h12
       exact tw (ih (i + 1) (by omega) ⟨by omega,tk_all at_y hs hy⟩)
     ·obtain rfl : i = racks.length:=by omega
      rw [List.take_length] at hs
      rw [if_neg (by rintro (h | h | h | h | ⟨y,hy,h⟩) <;> first | omega | exact hs y hy h)] at h
      clear ih
      have hp : ∀ y ∈ racks,0 ≤ y:=fun y hy=>by have:=hs y hy;omega
      refine wk 13 cz ?_
      intro h11
      refine j_loopG (X:=Nat) [1] [0,1,2,3] (fun i=>[(6,.int .i64 (i : Int)),(5,.int .i64 (256 - sumI (racks.take i)))]) (fun _=>_) (fun _=>[]) (fun i=>i ≤ racks.length ∧ sumI (racks.take i) ≤ 256) (fun i=>racks.length - i) 0 [] rfl rfl rfl ⟨Nat.zero_le _,by rw [List.take_zero,sumI];omega⟩ (by repeat (first | exact Fr.sub_nil _ | refine Fr.sub_cons rfl ?_)) rfl rfl ?_
      rintro i ⟨hi,hs⟩ ih
      simp only [List.cons_append,List.nil_append] at hi hs ih ⊢
      have hst:=sumI_take hp i
      by_cases h9 : i < racks.length
      ·obtain ⟨y,at_y⟩ : ∃ y,racks[i]? = some y:=⟨_,List.getElem?_eq_getElem h9⟩
       have hy:=hp y (List.mem_of_getElem? at_y)
       have hst2:=sumI_take hp (i + 1)
       by_cases h8 : 256 < sumI (racks.take (i + 1))
       ·rw [if_pos (by omega)] at h
        subst h
        rw [sumI_snoc at_y] at h8
        clear ih
        generalize sumI (racks.take i) = s2 at *
        refine wk 13 cz ?_
        intro h12 b2 o1 hz1
        refine j_step rfl (x_ld_int 0 rfl rfl ld3 fun ⟨r1,r2⟩=>?_)
        refine wk 6 cz ?_
        intro h13
        exact ge
       ·have ih':=ih (i + 1) (by omega) ⟨by omega,by omega⟩
        rw [sumI_snoc at_y] at ih' h8
        rw [show (256 - (sumI (racks.take i) + y) : Int) = 256 - sumI (racks.take i) - y by omega] at ih'
        clear ih
        generalize sumI (racks.take i) = s2 at *
        refine wk 13 cz ?_
        intro h12 b2 o1 hz1
        refine j_step rfl (x_ld_int 0 rfl rfl ld3 fun ⟨r1,r2⟩=>?_)
        refine wk 9 cz ?_
        intro h13 b3 o2 hz2
        refine j_step rfl (x_ld_int 0 rfl rfl ld3 fun ⟨r3,r4⟩=>?_)
        refine wk 4 cz ?_
        exact tw (ih')
      ·obtain rfl : i = racks.length:=by omega
       clear ih
       rw [List.take_length] at hs hst ⊢
       rw [if_neg (by omega)] at h
       have c_codewrightref54_Hosts:=fun {P M N dd W : Int} {n c nm cm nt ct nr cr : Nat} {pm ps pt pr : Option Addr}=>S_codewrightref54_Hosts (P:=P) (M:=M) (N:=N) (dd:=dd) (W:=W) (n:=n) (c:=c) (nm:=nm) (cm:=cm) (nt:=nt) (ct:=ct) (nr:=nr) (cr:=cr) (pm:=pm) (ps:=ps) (pt:=pt) (pr:=pr) hp (by omega)
       generalize sumI racks = s2 at *
       by_cases h7 : s2 < N
       ·rw [if_pos h7] at h
        subst h
        refine wk 9 cz ?_
        intro h12
        (apply j_drawK it mx 6;(· rfl);(· rfl))
        (apply lxk_eq;(· rfl);(· exact d_bld_all 0 rfl rfl ld31 rfl))
        (apply lxk_eq;(· rfl);(· exact d_x fun _=>x_call [3] rfl (c_codewrightref54_Hosts) rfl (by rintro _ _ _ ⟨rfl,rfl,rfl⟩;exact dk_eq)))
        (apply lxk_eq;(· rfl);(· exact d_x fun _=>x_field rfl fd31_0 dk_eq))
        (apply lxk_eq;(· rfl);(· exact d_x fun _=>x_field rfl fd27_1 dk_eq))
        (apply lxk_eq;(· rfl);(· exact d_bld 0 rfl rfl ld3 rfl))
        (apply lxk_run 1;(· rfl);(· simp))
        refine lxk_end rfl ?_
        simp only [List.map_cons,List.map_nil,List.cons_append,List.nil_append]
        refine wk 5 cz ?_
        intro h13
        exact ge
       ·rw [if_neg h7] at h
        subst h
        refine wk 9 cz ?_
        intro h12
        (apply j_drawK it mx 6;(· rfl);(· rfl))
        (apply lxk_eq;(· rfl);(· exact d_bld_all 0 rfl rfl ld31 rfl))
        (apply lxk_eq;(· rfl);(· exact d_x fun _=>x_call [3] rfl (c_codewrightref54_Hosts) rfl (by rintro _ _ _ ⟨rfl,rfl,rfl⟩;exact dk_eq)))
        (apply lxk_eq;(· rfl);(· exact d_x fun _=>x_field rfl fd31_0 dk_eq))
        (apply lxk_eq;(· rfl);(· exact d_x fun _=>x_field rfl fd27_1 dk_eq))
        (apply lxk_eq;(· rfl);(· exact d_bld 0 rfl rfl ld3 rfl))
        (apply lxk_run 1;(· rfl);(· simp))
        refine lxk_end rfl ?_
        simp only [List.map_cons,List.map_nil,List.cons_append,List.nil_append]
        refine wk 5 cz ?_
        intro h13
        exact ge
   ·rw [if_pos h1] at h
    subst h
    refine wk 6 cz ?_
    intro b1
    refine j_step rfl (x_call [0,1] rfl (c_codewrightref12_Check) rfl ?_)
    rintro _ _ _ ⟨rfl,rfl,rfl⟩
    simp only [List.cons_append,List.nil_append]
    refine wk 20 cz ?_
    intro h2 h3
    refine j_step rfl (x_call [0,1,2] rfl (c_codewrightref26_CheckDistance) rfl ?_)
    rintro _ _ _ ⟨rfl,rfl,rfl⟩
    simp only [List.cons_append,List.nil_append]
    simp only [decide_true]
    refine wk 8 cz ?_
    intro h4
    exact ge
 ·rw [if_pos hc] at h
  subst h
  refine wk 6 cz ?_
  intro b1
  refine j_step rfl (x_call [0,1] rfl (c_codewrightref12_Check) rfl ?_)
  rintro _ _ _ ⟨rfl,rfl,rfl⟩
  simp only [List.cons_append,List.nil_append]
  refine wk 8 cz ?_
  intro h1
  exact ge
end
open Go Go.Fw
set_option maxRecDepth 100000
set_option linter.unusedVariables false
set_option linter.unusedSimpArgs false
set_option maxHeartbeats 0
theorem S_codewrightlaw54_alive : Ctr Tryz.prog 9 [] [] [] (Rv (.bool true) []):=by
 refine Ctr_of_j' (F:=F_codewrightlaw54_alive) rfl fun C=>?_
 refine j_add (slF I64 none 0 0 []) (fun w A _=>slF_nil _ w A none 0) ?_
 refine j_add (slF (encSl I64) none 0 0 []) (fun w A _=>slF_nil _ w A none 0) ?_
 have h0 : cfE 0 0 [] 0 [] 0 [] [] 0 = 1:=by
  have hc : ckE 0 0 [] 0 [] = 1:=by
   rw [ckE,if_pos]
   intro h
   obtain ⟨p,m,hp,hm,K⟩:=chk_ok h
   have:=K.p2
   omega
  rw [cfE,hc,if_pos (by omega)]
 have c_store_CheckConfig:=fun {n c nm cm nt ct nr cr : Nat} {pm ps pt pr : Option Addr}=>S_store_CheckConfig (n:=n) (c:=c) (nm:=nm) (cm:=cm) (nt:=nt) (ct:=ct) (nr:=nr) (cr:=cr) (pm:=pm) (ps:=ps) (pt:=pt) (pr:=pr) (by simp only [InR];omega) (by simp only [InR];omega) h0
 refine wk 7 (ct @c_store_CheckConfig cz) ?_
 exact ge
section
variable {P M N dd W : Int} {n c nm cm nt ct nr cr : Nat} {pm ps pt pr : Option Addr} {md racks : List Int} {rows sets : List (List Int)}
theorem cfE_rng : 0 ≤ cfE P M md N rows dd sets racks W ∧ cfE P M md N rows dd sets racks W ≤ 13:=by
 have h1:=ckE_rng P M md N rows
 have h2:=cdE_rng (P:=P) (M:=M) (N:=N) (dd:=dd) (md:=md) (rows:=rows) (sets:=sets)
 rw [cfE]
 (repeat' split) <;> omega
theorem S_codewrightlaw54_StoreConfigs (hN : InR .i64 N) (hd : InR .i64 dd) : Ctr Tryz.prog 3 [.agg #[.int .i64 P,.int .i64 M,.slice pm nm cm,.int .i64 N,.slice ps n c,.int .i64 dd,.slice pt nt ct,.slice pr nr cr,.int .i64 W]] [] [slF I64 pm nm cm md,slF (encSl I64) ps n c rows,slF (encSl I64) pt nt ct sets,slF I64 pr nr cr racks] (Rv (.bool true) []):=by
 refine Ctr_of_j' (F:=F_codewrightlaw54_StoreConfigs) rfl fun C=>?_
 refine j_len 2 rfl fun hn hb _=>?_
 subst hn
 have hcr:=cfE_rng (P:=P) (M:=M) (N:=N) (dd:=dd) (md:=md) (rows:=rows) (sets:=sets) (racks:=racks) (W:=W)
 have c_codewrightlaw54_alive:=S_codewrightlaw54_alive
 have c_store_CheckConfig:=fun {n c nm cm nt ct nr cr : Nat} {pm ps pt pr : Option Addr}=>S_store_CheckConfig (P:=P) (M:=M) (N:=N) (dd:=dd) (md:=md) (rows:=rows) (sets:=sets) (racks:=racks) (W:=W) (n:=n) (c:=c) (nm:=nm) (cm:=cm) (nt:=nt) (ct:=ct) (nr:=nr) (cr:=cr) (pm:=pm) (ps:=ps) (pt:=pt) (pr:=pr) hN hd rfl
 have c_codewrightref54_CheckConfig:=fun {n c nm cm nt ct nr cr : Nat} {pm ps pt pr : Option Addr}=>S_codewrightref54_CheckConfig (P:=P) (M:=M) (N:=N) (dd:=dd) (md:=md) (rows:=rows) (sets:=sets) (racks:=racks) (W:=W) (n:=n) (c:=c) (nm:=nm) (cm:=cm) (nt:=nt) (ct:=ct) (nr:=nr) (cr:=cr) (pm:=pm) (ps:=ps) (pt:=pt) (pr:=pr) hN hd rfl
 by_cases h1 : (300 : Int) < sets.length
 ·refine wk 12 cz ?_
  intro b1 h2
  refine j_step rfl (x_call [] rfl (c_codewrightlaw54_alive) rfl ?_)
  rintro _ _ _ ⟨rfl,rfl,rfl⟩
  simp only [List.cons_append,List.nil_append]
  refine wk 2 cz ?_
  exact ge
 ·refine wk 12 cz ?_
  intro b1 h2
  (apply j_drawK it mx 8;(· rfl);(· rfl))
  (apply lxk_eq;(· rfl);(· exact d_bld_all 0 rfl rfl ld31 rfl))
  (apply lxk_eq;(· rfl);(· exact d_x fun _=>x_call [0,1,2,3] rfl (c_store_CheckConfig) rfl (by rintro _ _ _ ⟨rfl,rfl,rfl⟩;exact dk_eq)))
  (apply lxk_eq;(· rfl);(· exact d_bld_all 0 rfl rfl ld31 rfl))
  (apply lxk_eq;(· rfl);(· exact d_x fun _=>x_call [0,1,2,3] rfl (c_codewrightref54_CheckConfig) rfl (by rintro _ _ _ ⟨rfl,rfl,rfl⟩;exact dk_eq)))
  (apply lxk_eq;(· rfl);(· exact d_x fun _=>x_true it rfl (by trivial) (by omega) dk_eq))
  (apply lxk_run 1;(· rfl);(· simp))
  (apply lxk_eq;(· rfl);(· exact d_x fun _=>x_call [] rfl (c_codewrightlaw54_alive) rfl (by rintro _ _ _ ⟨rfl,rfl,rfl⟩;exact dk_eq)))
  simp only [vq_rt']
  (apply lxk_run 1;(· rfl);(· simp))
  refine lxk_end rfl ?_
  simp only [List.map_cons,List.map_nil,List.cons_append,List.nil_append]
  refine wk 2 cz ?_
  exact ge
end
end Go.Proofs.YteadncphjconmaaGreat
