/-
Residues of polynomials by a prime and a monic polynomial: where a product of two others is 0, the polynomial has a divisor. Numbers as lists of digits; the field of residues on numbers: its laws. A field on integers; sums over it; words, their products, and the sums over all words. The reduction of a row of coefficients from its top, step by step; the document's test for divisors. Words that rows generate; the words that are orthogonal to them; sums over both. Weights of words against the kernel: the identity of MacWilliams, and the moments of Pless. Linear programs over the fractions: weak duality, the lemma of Farkas, rays, complementary slackness. Sums of products of two rows of fractions: bounds, steps; what is feasible, as a test. Lists of words: their first error; how their distances are counted. Contracts of nat.short. Ranges of the layer delsarte; the document's Range and Words; distances of words. The document's fields: orders, primes, digits, values. Columns of Krawtchouk numbers as rows of fractions; certificates as they are handed in. Contracts of the document's numbers: Trim, Of, limb, Same, Zero. Contracts of nat.Trim, nat.Of. Contracts of nat.plus and nat.Add. Contracts of nat.times and nat.Mul. The document's product. Contracts of nat.digit. Contracts of bits.Len32 and nat.Bits. Contracts of nat.Pow, for small bases and exponents. The document's sum. The document's binomial coefficient. The document's power. The document's power. Contracts of macwilliams.shape, the document's Shape, and the law's long. Contracts of nat.Binomial. Contracts of macwilliams.Power and Moment. Contracts of macwilliams.Moment. The document's test for divisors of polynomials. The document's fields: irreducible polynomials, Check, elements, their digits and sums. The document's fields: elements, their digits, sums and products. The document's fields: products. The document's fields: sums of products; rows of elements.
-/
import Derived.Test.YtlelanmgijhjfaaLinear2
set_option linter.unusedVariables false
set_option linter.unusedSimpArgs false
namespace Go.Proofs.Ytlelanmgijhjfaa
set_option maxRecDepth 100000
set_option linter.unusedVariables false
set_option linter.unusedSimpArgs false
def Prm (p : Nat) : Prop:=2 ≤ p ∧ ∀ d,2 ≤ d → d < p → ¬ d ∣ p
theorem bez : ∀ (a b : Nat),∃ x y : Int,(Nat.gcd a b : Int) = a * x + b * y:=by
 intro a
 induction a using Nat.strongRecOn with
 | _ a ih =>
  intro b
  by_cases h : a = 0
  ·subst h;exact ⟨0,1,by simp⟩
  ·obtain ⟨x,y,e⟩:=ih (b % a) (Nat.mod_lt _ (by omega)) a
   refine ⟨y - (b / a : Nat) * x,x,?_⟩
   rw [Nat.gcd_rec,e]
   have h2 : (b : Int) = a * (b / a : Nat) + (b % a : Nat):=by
    have:=Nat.div_add_mod b a
    omega
   have h3 : ((b % a : Nat) : Int) = b - a * (b / a : Nat):=by omega
   rw [h3]
   grind
theorem prm_gcd {p c : Nat} (hp : Prm p) (h : ¬ p ∣ c) : Nat.gcd c p = 1:=by
 have h1 : Nat.gcd c p ∣ p:=Nat.gcd_dvd_right c p
 have h0 : 0 < Nat.gcd c p:=Nat.gcd_pos_of_pos_right c (by have:=hp.1;omega)
 have h2:=Nat.le_of_dvd (by have:=hp.1;omega) h1
 refine Classical.byContradiction fun hne=>?_
 by_cases e : Nat.gcd c p = p
 ·exact h (by rw [← e];exact Nat.gcd_dvd_left c p)
 ·exact hp.2 _ (by omega) (by omega) h1
theorem prm_inv {p : Nat} (hp : Prm p) {c : Int} (h : ¬ (p : Int) ∣ c) : ∃ c' : Int,(p : Int) ∣ c * c' - 1:=by
 have h1 : ¬ p ∣ c.natAbs:=fun e=>h (Int.ofNat_dvd_left.2 e)
 obtain ⟨x,y,e⟩:=bez c.natAbs p
 rw [prm_gcd hp h1] at e
 rcases Int.natAbs_eq c with hc | hc
 ·refine ⟨x,⟨-y,?_⟩⟩
  rw [← hc] at e
  have : c * x = 1 - p * y:=by omega
  rw [this];grind
 ·refine ⟨-x,⟨-y,?_⟩⟩
  have h2 : ((c.natAbs : Nat) : Int) = -c:=by omega
  rw [h2] at e
  have : c * -x = 1 - p * y:=by grind
  rw [this];grind
def cg (p : Nat) (u : Vz) : Prop:=∀ j,(p : Int) ∣ u j
theorem cg_zero (p : Nat) : cg p (fun _=>0):=fun _=>Int.dvd_zero _
theorem cg_lin {p : Nat} {Y : Vz → Vz} (h : Lin Y) {u : Vz} (hu : cg p u) : cg p (Y u):=by
 have e : u = fun j=>(p : Int) * (u j / p):=by funext j;exact (Int.mul_ediv_cancel' (hu j)).symm
 rw [e,h.mul]
 exact fun j=>⟨_,rfl⟩
theorem cg_add {p : Nat} {u v : Vz} (hu : cg p u) (hv : cg p v) : cg p (fun j=>u j + v j):=fun j=>Int.dvd_add (hu j) (hv j)
theorem cg_mul {p : Nat} (a : Int) {u : Vz} (hu : cg p u) : cg p (fun j=>a * u j):=fun j=>Int.dvd_mul_of_dvd_right (hu j)
theorem cg_coef {p : Nat} {Y : Vz → Vz} (h : Lin Y) (w : Vz) : ∀ {F : List Int},(∀ x ∈ F,(p : Int) ∣ x) → cg p (evL Y F w)
 | [],_=>cg_zero p
 | a::F,hF=>cg_add (fun j=>Int.dvd_mul_of_dvd_left (hF a (.head _))) (cg_lin h (cg_coef h w fun x hx=>hF x (.tail _ hx)))
theorem cg_cancel {p : Nat} {u v : Vz} (h : cg p (fun j=>u j + v j)) (hv : cg p v) : cg p u:=fun j=>by
 have:=Int.dvd_sub (h j) (hv j)
 rwa [show u j + v j - v j = u j by omega] at this
theorem trim_last {p : Nat} : ∀ (n : Nat) (r : List Int),r.length = n → (∃ x ∈ r,¬ (p : Int) ∣ x) → ∃ r1 : List Int,1 ≤ r1.length ∧ r1.length ≤ r.length ∧ ¬ (p : Int) ∣ r1.getLastD 0 ∧ ∀ (Y : Vz → Vz) (w : Vz),Lin Y → cg p (evL Y r w) → cg p (evL Y r1 w)
 | 0,r,h,⟨x,hx,_⟩=>by rw [List.length_eq_zero_iff.1 h] at hx;cases hx
 | n + 1,r,h,⟨x,hx,hn⟩=>by
  by_cases hl : (p : Int) ∣ r.getLastD 0
  ·have hs:=last_snoc (l:=r) (by omega)
   have hx' : x ∈ r.dropLast:=by
    rw [hs] at hx
    rcases List.mem_append.1 hx with h1 | h1
    ·exact h1
    ·rw [List.mem_singleton.1 h1] at hn;exact absurd hl hn
   obtain ⟨r1,a1,a2,a3,a4⟩:=trim_last n r.dropLast (by rw [List.length_dropLast];omega) ⟨x,hx',hn⟩
   refine ⟨r1,a1,by rw [List.length_dropLast] at a2;omega,a3,fun Y w hY hc=>a4 Y w hY ?_⟩
   rw [hs,evL_snoc hY] at hc
   exact cg_cancel hc fun j=>Int.dvd_mul_of_dvd_left hl
  ·exact ⟨r,by omega,Nat.le_refl _,hl,fun _ _ _ h=>h⟩
theorem evL_map {Y : Vz → Vz} (h : Lin Y) (c : Int) (w : Vz) : ∀ F : List Int,evL Y (F.map (c * ·)) w = fun j=>c * evL Y F w j
 | []=>by funext j;simp [evL]
 | a::F=>by
  funext j
  show c * a * w j + Y (evL Y (F.map (c * ·)) w) j = c * (a * w j + Y (evL Y F w) j)
  rw [evL_map h c w F,h.mul]
  grind
def splits (p : Nat) (f : List Int) : Prop:=∃ g s : List Int,1 ≤ g.length ∧ 1 ≤ s.length ∧ g.length + s.length = f.length ∧ cg p (evL (Xg g) (f++[1]) oneV) ∧ cg p (evL (Xg s) (f++[1]) oneV)
theorem split_of {p : Nat} (hp : Prm p) {f : List Int} (hf : 1 ≤ f.length) {b : Vz} (hb : ∀ j,f.length ≤ j → b j = 0) (hb0 : ¬ cg p b) :
  ∀ (n : Nat) (F : List Int),F.length = n → 1 ≤ n → n ≤ f.length → ¬ (p : Int) ∣ F.getLastD 0 → cg p (evL (Xg f) F b) → splits p f:=by
 intro n
 induction n using Nat.strongRecOn with
 | _ n ih =>
  intro F hn h1 h2 hl hc
  have hX:=Xg_lin f
  have hs:=last_snoc (l:=F) (by omega)
  obtain ⟨c',hc'⟩:=prm_inv hp hl
  generalize hF0 : F.dropLast = F0 at hs
  have hF0l : F0.length + 1 = n:=by rw [← hF0,List.length_dropLast];omega
  generalize hcc : F.getLastD 0 = c at *
  -- made monic
  have hm : cg p (evL (Xg f) (F0.map (c' * ·)++[1]) b):=by
   rw [hs,evL_snoc hX] at hc
   have h3:=cg_mul c' hc
   rw [evL_snoc hX,evL_map hX,List.length_map]
   refine fun j=>?_
   have e : c' * evL (Xg f) F0 b j + 1 * itY (Xg f) F0.length b j = c' * (evL (Xg f) F0 b j + c * itY (Xg f) F0.length b j) - (c * c' - 1) * itY (Xg f) F0.length b j:=by grind
   show (p : Int) ∣ c' * evL (Xg f) F0 b j + 1 * itY (Xg f) F0.length b j
   rw [e]
   exact Int.dvd_sub (h3 j) (Int.dvd_mul_of_dvd_left hc')
  generalize hg : F0.map (c' * ·) = g at hm
  have hgl : g.length = F0.length:=by rw [← hg,List.length_map]
  by_cases hg0 : g.length = 0
  ·exfalso
   rw [List.length_eq_zero_iff.1 hg0] at hm
   refine hb0 fun j=>?_
   have:=hm j
   have e : evL (Xg f) ([]++[1]) b j = b j:=by
    show 1 * b j + Xg f (fun _=>0) j = b j
    rw [hX.zero];simp
   rwa [e] at this
  -- division
  let d:=g.length
  let A:=(f++[1]).take (f.length + 1 - d)
  let r0:=(f++[1]).drop (f.length + 1 - d)
  have hA : A.length = f.length + 1 - d:=by simp only [A,List.length_take,List.length_append,List.length_singleton];omega
  have hr0 : r0.length = d:=by simp only [r0,List.length_drop,List.length_append,List.length_singleton];omega
  have hAr : f++[1] = A++r0:=(List.take_append_drop _ _).symm
  have hlast : r0.getLastD 0 = 1:=by
   have h3 : r0 = (f.drop (f.length + 1 - d))++[1]:=by
    simp only [r0]
    rw [List.drop_append_of_le_length (by omega)]
   rw [h3];simp
  obtain ⟨q1,q2⟩:=divL_len (g:=g) (F:=A) (r0:=r0) (by omega) hr0
  have ev:=fun {Y : Vz → Vz} (hY : Lin Y) (w : Vz)=>divL_ev hY (g:=g) (by omega) w (F:=A) (r0:=r0) hr0
  have qt:=divL_top g (F:=A) (r0:=r0) (by omega)
  rw [hlast] at qt
  rw [← hAr] at ev
  generalize (divL g A r0).1 = s' at *
  generalize (divL g A r0).2 = r at *
  have hr : cg p (evL (Xg f) r b):=by
   have h3:=ev hX b
   rw [self_zero hf hb] at h3
   have h4 : cg p (evL (Xg f) s' (evL (Xg f) (g++[1]) b)):=cg_lin (evL_lin hX s') hm
   refine fun j=>?_
   have h5:=congrFun h3 j
   have e : evL (Xg f) r b j = -(evL (Xg f) s' (evL (Xg f) (g++[1]) b) j):=by
    have h5 : (0 : Int) = evL (Xg f) s' (evL (Xg f) (g++[1]) b) j + evL (Xg f) r b j:=h5
    omega
   rw [e];exact (Int.dvd_neg).2 (h4 j)
  by_cases hz : ∃ x ∈ r,¬ (p : Int) ∣ x
  ·obtain ⟨r1,a1,a2,a3,a4⟩:=trim_last r.length r rfl hz
   exact ih r1.length (by omega) r1 rfl a1 (by omega) a3 (a4 _ _ hX hr)
  ·have hz : ∀ x ∈ r,(p : Int) ∣ x:=fun x hx=>Classical.byContradiction fun h=>hz ⟨x,hx,h⟩
   have hss:=last_snoc (l:=s') (by omega)
   rw [qt] at hss
   have q3 : s'.dropLast.length = s'.length - 1:=List.length_dropLast
   generalize s'.dropLast = s at *
   refine ⟨g,s,by omega,by omega,by omega,?_,?_⟩
   ·rw [ev (Xg_lin g) oneV,self_one (by omega),(evL_lin (Xg_lin g) s').zero]
    exact cg_add (cg_zero p) (cg_coef (Xg_lin g) oneV hz)
   ·have hY:=Xg_lin s
    rw [ev hY oneV]
    refine cg_add ?_ (cg_coef hY oneV hz)
    rw [evL_comm hY,hss,self_one (by omega),(evL_lin hY _).zero]
    exact cg_zero p
theorem no_zero {p : Nat} (hp : Prm p) {f : List Int} (hf : 1 ≤ f.length) (hs : ¬ splits p f) {a : List Int} (ha : a.length ≤ f.length) {b : Vz} (hb : ∀ j,f.length ≤ j → b j = 0) (h : cg p (evL (Xg f) a b)) :
  (∀ x ∈ a,(p : Int) ∣ x) ∨ cg p b:=by
 by_cases hb0 : cg p b
 ·exact .inr hb0
 ·refine .inl fun x hx=>Classical.byContradiction fun hn=>?_
  obtain ⟨r1,a1,a2,a3,a4⟩:=trim_last a.length a rfl ⟨x,hx,hn⟩
  exact hs (split_of hp hf hb hb0 r1.length r1 rfl a1 (by omega) a3 (a4 _ _ (Xg_lin f) h))
def dig (p : Nat) : Nat → Nat → List Nat
 | 0,_=>[]
 | n + 1,x=>x % p::dig p n (x / p)
def valP (p : Nat) : List Nat → Nat
 | []=>0
 | d::l=>d + p * valP p l
theorem dig_len (p : Nat) : ∀ (n x : Nat),(dig p n x).length = n
 | 0,_=>rfl
 | n + 1,x=>by rw [dig,List.length_cons,dig_len p n]
theorem dig_lt {p : Nat} (hp : 0 < p) : ∀ {n x : Nat},∀ d ∈ dig p n x,d < p
 | 0,_,d,h=>by cases h
 | n + 1,x,d,h=>by
  rcases List.mem_cons.1 h with rfl | h
  ·exact Nat.mod_lt _ hp
  ·exact dig_lt hp d h
theorem valP_dig {p : Nat} (hp : 0 < p) : ∀ {n x : Nat},x < p ^ n → valP p (dig p n x) = x
 | 0, x, h => by have : x = 0 := by simpa using h
                 rw [this]; rfl
 | n + 1,x,h=>by
  rw [dig,valP,valP_dig hp (by rw [Nat.div_lt_iff_lt_mul hp];rwa [Nat.pow_succ] at h)]
  exact Nat.mod_add_div x p
theorem dig_valP {p : Nat} (hp : 0 < p) : ∀ {l : List Nat},(∀ d ∈ l,d < p) → dig p l.length (valP p l) = l
 | [],_=>rfl
 | d::l,h=>by
  have hd:=h d (.head _)
  rw [List.length_cons,dig,valP,Nat.add_mul_mod_self_left,Nat.mod_eq_of_lt hd,Nat.add_mul_div_left _ _ hp,Nat.div_eq_of_lt hd,Nat.zero_add,dig_valP hp fun e he=>h e (.tail _ he)]
theorem valP_lt {p : Nat} (hp : 0 < p) : ∀ {l : List Nat},(∀ d ∈ l,d < p) → valP p l < p ^ l.length
 | [],_=>by simp [valP]
 | d::l,h=>by
  have hd:=h d (.head _)
  have ih:=valP_lt hp (l:=l) fun e he=>h e (.tail _ he)
  rw [valP,List.length_cons,Nat.pow_succ]
  have h2 : p * (valP p l + 1) ≤ p * p ^ l.length:=Nat.mul_le_mul_left p ih
  rw [Nat.mul_add,Nat.mul_one] at h2
  rw [Nat.mul_comm (p ^ l.length)]
  omega
theorem dig_zero (p : Nat) : ∀ n,dig p n 0 = List.replicate n 0
 | 0=>rfl
 | n + 1=>by rw [dig,Nat.zero_mod,Nat.zero_div,dig_zero p n];rfl
def toI (l : List Nat) : List Int:=l.map fun x : Nat=>(x : Int)
def rep (p m x : Nat) : Vz:=vec (toI (dig p m x))
def un (p m : Nat) (v : Vz) : Nat:=valP p ((List.range m).map fun j=>(v j % p).toNat)
theorem rep_out {p m x j : Nat} (h : m ≤ j) : rep p m x j = 0:=vec_out (by rw [toI,List.length_map,dig_len];exact h)
theorem rep_at {p m x j : Nat} (h : j < m) : rep p m x j = (((dig p m x).getD j 0 : Nat) : Int):=by
 rw [rep,vec,toI,List.getD_eq_getElem?_getD,List.getElem?_map,List.getD_eq_getElem?_getD]
 rw [List.getElem?_eq_getElem (by rw [dig_len];exact h)];rfl
theorem un_digs {p m : Nat} (hp : 0 < p) (v : Vz) : ∀ d ∈ (List.range m).map fun j=>(v j % p).toNat,d < p:=fun d hd=>by
 obtain ⟨j,_,rfl⟩:=List.mem_map.1 hd
 have h1:=Int.emod_lt_of_pos (v j) (show (0 : Int) < p by omega)
 have h2:=Int.emod_nonneg (v j) (show (p : Int) ≠ 0 by omega)
 omega
theorem un_lt {p m : Nat} (hp : 0 < p) (v : Vz) : un p m v < p ^ m:=by
 have:=valP_lt hp (un_digs (m:=m) hp v)
 rwa [List.length_map,List.length_range] at this
theorem rep_un {p m j : Nat} (hp : 0 < p) (v : Vz) (h : j < m) : rep p m (un p m v) j = v j % p:=by
 have e:=dig_valP hp (un_digs (m:=m) hp v)
 rw [List.length_map,List.length_range] at e
 rw [rep_at h,un,e,List.getD_eq_getElem?_getD,List.getElem?_map,List.getElem?_range h]
 show (((v j % p).toNat : Nat) : Int) = _
 have h2:=Int.emod_nonneg (v j) (show (p : Int) ≠ 0 by omega)
 omega
theorem un_congr {p m : Nat} {u v : Vz} (h : ∀ j,j < m → (p : Int) ∣ u j - v j) : un p m u = un p m v:=by
 rw [un,un]
 congr 1
 refine List.map_congr_left fun j hj=>?_
 rw [(Int.emod_eq_emod_iff_emod_sub_eq_zero).2 (Int.emod_eq_zero_of_dvd (h j (List.mem_range.1 hj)))]
theorem un_rep {p m x : Nat} (hp : 0 < p) (h : x < p ^ m) : un p m (rep p m x) = x:=by
 have e : (List.range m).map (fun j=>(rep p m x j % p).toNat) = dig p m x:=by
  refine List.ext_getElem? fun j=>?_
  rw [List.getElem?_map]
  by_cases hj : j < m
  ·rw [List.getElem?_range hj]
   show some ((rep p m x j % p).toNat) = _
   rw [rep_at hj]
   have hl : j < (dig p m x).length:=by rw [dig_len];exact hj
   rw [List.getElem?_eq_getElem hl,List.getD_eq_getElem?_getD,List.getElem?_eq_getElem hl]
   have hd:=dig_lt hp _ (List.getElem_mem hl)
   congr 1
   simp only [Option.getD_some]
   rw [Int.emod_eq_of_lt (by omega) (by omega)]
   omega
  ·rw [List.getElem?_eq_none (by simpa using hj),List.getElem?_eq_none (by rw [dig_len];omega)];rfl
 rw [un,e,valP_dig hp h]
theorem rep_un_dvd {p m : Nat} (hp : 0 < p) (v : Vz) {j : Nat} (h : j < m) : (p : Int) ∣ rep p m (un p m v) j - v j:=by
 rw [rep_un hp v h]
 have:=Int.emod_add_mul_ediv (v j) p
 exact ⟨-(v j / p),by rw [Int.mul_neg];omega⟩
theorem rep_inj {p m x y : Nat} (hp : 0 < p) (hx : x < p ^ m) (hy : y < p ^ m) (h : ∀ j,j < m → (p : Int) ∣ rep p m x j - rep p m y j) : x = y:=by
 rw [← un_rep hp hx,← un_rep hp hy];exact un_congr h
theorem rep_zero (p m : Nat) (j : Nat) : rep p m 0 j = 0:=by
 by_cases h : j < m
 ·rw [rep_at h,dig_zero,List.getD_eq_getElem?_getD,List.getElem?_replicate,if_pos h];rfl
 ·exact rep_out (by omega)
structure Fld (q : Nat) (A M : Nat → Nat → Nat) : Prop where
 q2 : 2 ≤ q
 al : ∀ x y,x < q → y < q → A x y < q
 ac : ∀ x y,x < q → y < q → A x y = A y x
 aa : ∀ x y z,x < q → y < q → z < q → A (A x y) z = A x (A y z)
 a0 : ∀ x,x < q → A x 0 = x
 an : ∀ x,x < q → ∃ y,y < q ∧ A x y = 0
 ml : ∀ x y,x < q → y < q → M x y < q
 mc : ∀ x y,x < q → y < q → M x y = M y x
 ma : ∀ x y z,x < q → y < q → z < q → M (M x y) z = M x (M y z)
 md : ∀ x y z,x < q → y < q → z < q → M x (A y z) = A (M x y) (M x z)
 m1 : ∀ x,x < q → M x 1 = x
 nz : ∀ x y,x < q → y < q → M x y = 0 → x = 0 ∨ y = 0
def fA (p m x y : Nat) : Nat:=un p m fun j=>rep p m x j + rep p m y j
def mulV (f : List Int) (u v : Vz) : Vz:=evL (Xg f) ((List.range f.length).map u) v
def fM (p : Nat) (f : List Int) (x y : Nat) : Nat:=un p f.length (mulV f (rep p f.length x) (rep p f.length y))
theorem mulV_lin (f : List Int) (u : Vz) : Lin (mulV f u):=evL_lin (Xg_lin f) _
theorem mulV_comm {f : List Int} {u v : Vz} (hu : ∀ j,f.length ≤ j → u j = 0) (hv : ∀ j,f.length ≤ j → v j = 0) : mulV f u v = mulV f v u:=by
 rw [mulV,mulV]
 conv=>lhs;rw [← vec_list (g:=f) hv]
 conv=>rhs;rw [← vec_list (g:=f) hu]
 exact evL_comm (Xg_lin f) _ _ _
theorem Xg_out {g : List Int} {v : Vz} {j : Nat} (h : g.length ≤ j) : Xg g v j = 0:=if_neg (by omega)
theorem evL_out {g : List Int} : ∀ {F : List Int} {v : Vz},(∀ j,g.length ≤ j → v j = 0) → ∀ j,g.length ≤ j → evL (Xg g) F v j = 0
 | [],_,_,_,_=>rfl
 | a::F,v,hv,j,hj=>by
  show a * v j + Xg g (evL (Xg g) F v) j = 0
  rw [hv j hj,Xg_out hj];simp
theorem mulV_out {f : List Int} {u v : Vz} (hv : ∀ j,f.length ≤ j → v j = 0) : ∀ j,f.length ≤ j → mulV f u v j = 0:=evL_out hv
theorem mulV_cg {p : Nat} {f : List Int} (u : Vz) {v w : Vz} (h : cg p fun j=>v j - w j) : cg p fun j=>mulV f u v j - mulV f u w j:=by
 have e : (fun j=>mulV f u v j - mulV f u w j) = mulV f u (fun j=>v j - w j):=by
  have:=mulV_lin f u 1 (-1) v w
  have e1 : (fun j=>1 * v j + -1 * w j) = fun j=>v j - w j:=by funext j;omega
  rw [e1] at this
  rw [this];funext j;omega
 rw [e]
 exact cg_lin (mulV_lin f u) h
theorem sub_cg {p m : Nat} {u v : Vz} (hu : ∀ j,m ≤ j → u j = 0) (hv : ∀ j,m ≤ j → v j = 0) (h : ∀ j,j < m → (p : Int) ∣ u j - v j) : cg p fun j=>u j - v j:=fun j=>by
 by_cases hj : j < m
 ·exact h j hj
 ·show (p : Int) ∣ u j - v j
  rw [hu j (by omega),hv j (by omega)];exact Int.dvd_zero _
theorem dvd_eq {a b c : Int} (h : a ∣ b) (e : b = c) : a ∣ c:=e ▸ h
theorem add_out {m : Nat} {u v : Vz} (hu : ∀ j,m ≤ j → u j = 0) (hv : ∀ j,m ≤ j → v j = 0) : ∀ j,m ≤ j → (fun j=>u j + v j) j = 0:=fun j hj=>by
 show u j + v j = 0
 rw [hu j hj,hv j hj];rfl
theorem rp (p m x : Nat) : ∀ j,m ≤ j → rep p m x j = 0:=fun _ h=>rep_out h
theorem rep_un_cg {p m : Nat} (hp : 0 < p) {v : Vz} (hv : ∀ j,m ≤ j → v j = 0) : cg p fun j=>rep p m (un p m v) j - v j:=sub_cg (rp p m _) hv fun _ h=>rep_un_dvd hp v h
theorem rep_one {p m : Nat} (hp : 2 ≤ p) (hm : 1 ≤ m) : rep p m 1 = oneV:=by
 obtain ⟨k,rfl⟩ : ∃ k,m = k + 1:=⟨m - 1,by omega⟩
 funext j
 by_cases hj : j < k + 1
 ·rw [rep_at hj,dig,Nat.mod_eq_of_lt (by omega),Nat.div_eq_of_lt (by omega),dig_zero]
  cases j with
  | zero=>rfl
  | succ j=>rw [List.getD_cons_succ,List.getD_eq_getElem?_getD,List.getElem?_replicate,if_pos (by omega)];rfl
 ·rw [rep_out (by omega),oneV,if_neg (by omega)]
theorem fld_of {p : Nat} (hp : Prm p) {f : List Int} (hf : 1 ≤ f.length) (hs : ¬ splits p f) : Fld (p ^ f.length) (fA p f.length) (fM p f):=by
 have hp0 : 0 < p:=by have:=hp.1;omega
 generalize hm : f.length = m at *
 have hq : 1 < p ^ m:=Nat.one_lt_pow (by omega) hp.1
 have uc : ∀ {u v : Vz},(cg p fun j=>u j - v j) → un p m u = un p m v:=fun h=>un_congr fun j _=>h j
 have mo : ∀ {u v : Vz},(∀ j,m ≤ j → v j = 0) → ∀ j,m ≤ j → mulV f u v j = 0:=fun hv=>by rw [← hm] at hv ⊢;exact mulV_out hv
 have mcm : ∀ {u v : Vz},(∀ j,m ≤ j → u j = 0) → (∀ j,m ≤ j → v j = 0) → mulV f u v = mulV f v u:=fun hu hv=>by rw [← hm] at hu hv;exact mulV_comm hu hv
 have fMe : ∀ x y,fM p f x y = un p m (mulV f (rep p m x) (rep p m y)):=fun x y=>by rw [fM,hm]
 have mass : ∀ {u v w : Vz},(∀ j,m ≤ j → u j = 0) → (∀ j,m ≤ j → v j = 0) → (∀ j,m ≤ j → w j = 0) → mulV f (mulV f u v) w = mulV f u (mulV f v w):=fun {u v w} hu hv hw=>by
  rw [mcm (mo hv) hw,mcm hv hw]
  exact evL_comm (Xg_lin f) _ _ _
 refine ⟨by omega,fun x y _ _=>un_lt hp0 _,fun x y _ _=>?_,fun x y z _ _ _=>?_,fun x hx=>?_,fun x hx=>?_,fun x y _ _=>by rw [fMe];exact un_lt hp0 _,fun x y _ _=>?_,fun x y z _ _ _=>?_,fun x y z _ _ _=>?_,fun x hx=>?_,fun x y hx hy h=>?_⟩
 ·exact congrArg (un p m) (funext fun j=>Int.add_comm _ _)
 ·refine un_congr fun j hj=>?_
  have h1:=rep_un_dvd hp0 (fun j=>rep p m x j + rep p m y j) hj
  have h2:=rep_un_dvd hp0 (fun j=>rep p m y j + rep p m z j) hj
  have:=Int.dvd_sub h1 h2
  rw [fA,fA]
  exact dvd_eq this (by omega)
 ·rw [fA,show (fun j=>rep p m x j + rep p m 0 j) = rep p m x from funext fun j=>by rw [rep_zero];omega]
  exact un_rep hp0 hx
 ·refine ⟨un p m fun j=>-rep p m x j,un_lt hp0 _,?_⟩
  rw [fA]
  have : un p m (fun j=>rep p m x j + rep p m (un p m fun j=>-rep p m x j) j) = un p m (rep p m 0):=un_congr fun j hj=>by
   have h1:=rep_un_dvd hp0 (fun j=>-rep p m x j) hj
   rw [rep_zero]
   exact dvd_eq h1 (by omega)
  rw [this,un_rep hp0 (by omega)]
 ·rw [fMe,fMe,mcm (rp p m x) (rp p m y)]
 ·rw [fMe,fMe,fMe,fMe]
  have e1 : un p m (mulV f (rep p m (un p m (mulV f (rep p m x) (rep p m y)))) (rep p m z)) = un p m (mulV f (mulV f (rep p m x) (rep p m y)) (rep p m z)):=by
   rw [mcm (rp p m _) (rp p m z),mcm (mo (rp p m y)) (rp p m z)]
   exact uc (mulV_cg _ (rep_un_cg hp0 (mo (rp p m y))))
  have e2 : un p m (mulV f (rep p m x) (rep p m (un p m (mulV f (rep p m y) (rep p m z))))) = un p m (mulV f (rep p m x) (mulV f (rep p m y) (rep p m z))):=uc (mulV_cg _ (rep_un_cg hp0 (mo (rp p m z))))
  rw [e1,e2,mass (rp p m x) (rp p m y) (rp p m z)]
 ·rw [fMe,fMe,fMe,fA,fA]
  have e1 : un p m (mulV f (rep p m x) (rep p m (un p m fun j=>rep p m y j + rep p m z j))) = un p m (mulV f (rep p m x) (fun j=>rep p m y j + rep p m z j)):=uc (mulV_cg _ (rep_un_cg hp0 (add_out (rp p m y) (rp p m z))))
  rw [e1,(mulV_lin f _).add]
  refine un_congr fun j hj=>?_
  have h1:=rep_un_dvd hp0 (mulV f (rep p m x) (rep p m y)) hj
  have h2:=rep_un_dvd hp0 (mulV f (rep p m x) (rep p m z)) hj
  have h3:=Int.dvd_add h1 h2
  exact dvd_eq (Int.dvd_neg.2 h3) (by omega)
 ·rw [fMe,rep_one hp.1 hf,mulV,vec_list (g:=f) (fun j hj=>rp p m x j (by omega)),un_rep hp0 hx]
 ·rw [fMe] at h
  have hc : cg p (mulV f (rep p m x) (rep p m y)):=fun j=>by
   by_cases hj : j < m
   ·have h1:=rep_un_dvd hp0 (mulV f (rep p m x) (rep p m y)) hj
    rw [h,rep_zero] at h1
    have:=Int.dvd_neg.2 h1
    rwa [show -(0 - mulV f (rep p m x) (rep p m y) j) = mulV f (rep p m x) (rep p m y) j by omega] at this
   ·rw [mo (rp p m y) j (by omega)];exact Int.dvd_zero _
  rcases no_zero hp (by omega) hs (by simp) (fun j hj=>rp p m y j (by omega)) hc with h1 | h1
  ·refine .inl (rep_inj hp0 hx (by omega) fun j hj=>?_)
   rw [rep_zero,Int.sub_zero]
   exact h1 _ (List.mem_map.2 ⟨j,List.mem_range.2 (by omega),rfl⟩)
  ·refine .inr (rep_inj hp0 hy (by omega) fun j hj=>?_)
   rw [rep_zero,Int.sub_zero]
   exact h1 j
structure FI (q : Nat) (A M : Int → Int → Int) : Prop where
 q2 : 2 ≤ q
 al : ∀ x y : Int,0 ≤ x → x < q → 0 ≤ y → y < q → 0 ≤ A x y ∧ A x y < q
 ac : ∀ x y : Int,0 ≤ x → x < q → 0 ≤ y → y < q → A x y = A y x
 aa : ∀ x y z : Int,0 ≤ x → x < q → 0 ≤ y → y < q → 0 ≤ z → z < q → A (A x y) z = A x (A y z)
 a0 : ∀ x : Int,0 ≤ x → x < q → A x 0 = x
 an : ∀ x : Int,0 ≤ x → x < q → ∃ y : Int,(0 ≤ y ∧ y < q) ∧ A x y = 0
 ml : ∀ x y : Int,0 ≤ x → x < q → 0 ≤ y → y < q → 0 ≤ M x y ∧ M x y < q
 mc : ∀ x y : Int,0 ≤ x → x < q → 0 ≤ y → y < q → M x y = M y x
 ma : ∀ x y z : Int,0 ≤ x → x < q → 0 ≤ y → y < q → 0 ≤ z → z < q → M (M x y) z = M x (M y z)
 md : ∀ x y z : Int,0 ≤ x → x < q → 0 ≤ y → y < q → 0 ≤ z → z < q → M x (A y z) = A (M x y) (M x z)
 m1 : ∀ x : Int,0 ≤ x → x < q → M x 1 = x
 nz : ∀ x y : Int,0 ≤ x → x < q → 0 ≤ y → y < q → M x y = 0 → x = 0 ∨ y = 0
def liftI (f : Nat → Nat → Nat) (x y : Int) : Int:=((f x.toNat y.toNat : Nat) : Int)
theorem fi_of {q : Nat} {A M : Nat → Nat → Nat} (h : Fld q A M) : FI q (liftI A) (liftI M) where
 q2:=h.q2
 al:=fun x y a b c d=>by have:=h.al x.toNat y.toNat (by omega) (by omega);simp only [liftI];omega
 ac:=fun x y a b c d=>by simp only [liftI];rw [h.ac x.toNat y.toNat (by omega) (by omega)]
 aa:=fun x y z a b c d e f=>by simp only [liftI,Int.toNat_natCast];rw [h.aa x.toNat y.toNat z.toNat (by omega) (by omega) (by omega)]
 a0:=fun x a b=>by have:=h.a0 x.toNat (by omega);simp only [liftI];rw [show (0 : Int).toNat = 0 from rfl,this];omega
 an:=fun x a b=>by
  obtain ⟨y,hy,e⟩:=h.an x.toNat (by omega)
  refine ⟨y,⟨by omega,by omega⟩,?_⟩
  simp only [liftI,Int.toNat_natCast];rw [e];rfl
 ml:=fun x y a b c d=>by have:=h.ml x.toNat y.toNat (by omega) (by omega);simp only [liftI];omega
 mc:=fun x y a b c d=>by simp only [liftI];rw [h.mc x.toNat y.toNat (by omega) (by omega)]
 ma:=fun x y z a b c d e f=>by simp only [liftI,Int.toNat_natCast];rw [h.ma x.toNat y.toNat z.toNat (by omega) (by omega) (by omega)]
 md:=fun x y z a b c d e f=>by simp only [liftI,Int.toNat_natCast];rw [h.md x.toNat y.toNat z.toNat (by omega) (by omega) (by omega)]
 m1:=fun x a b=>by have:=h.m1 x.toNat (by omega);simp only [liftI];rw [show (1 : Int).toNat = 1 from rfl,this];omega
 nz:=fun x y a b c d e=>by
  simp only [liftI] at e
  rcases h.nz x.toNat y.toNat (by omega) (by omega) (by omega) with h1 | h1
  ·exact .inl (by omega)
  ·exact .inr (by omega)
theorem sm_le {n : Nat} {f g : Nat → Int} (h : ∀ i,i < n → f i ≤ g i) : sm n f ≤ sm n g:=by
 induction n with
 | zero=>exact Int.le_refl _
 | succ n ih =>
  have h1:=ih fun i hi=>h i (by omega)
  have h2:=h n (by omega)
  rw [sm,sm];omega
theorem inj_count {q : Nat} {φ : Nat → Nat} (hi : ∀ x y,x < q → y < q → φ x = φ y → x = y) (y : Nat) : ∀ n,n ≤ q → sm n (fun x=>if φ x = y then 1 else 0) ≤ 1
 | 0,_=>by rw [sm];decide
 | n + 1,hn=>by
  rw [sm]
  by_cases h : φ n = y
  ·rw [if_pos h]
   have : sm n (fun x=>if φ x = y then (1 : Int) else 0) = 0:=by
    refine (sm_congr (g:=fun _=>0) fun x hx=>if_neg fun e=>?_).trans (sm_zero n)
    have:=hi x n (by omega) (by omega) (e.trans h.symm)
    omega
   rw [this];decide
  ·rw [if_neg h]
   have:=inj_count hi y n (by omega)
   omega
theorem inj_all {q : Nat} {φ : Nat → Nat} (hm : ∀ x,x < q → φ x < q) (hi : ∀ x y,x < q → y < q → φ x = φ y → x = y) {y : Nat} (hy : y < q) : sm q (fun x=>if φ x = y then 1 else 0) = 1:=by
 have h1:=inj_count hi y q (Nat.le_refl q)
 have h0 : ∀ z,0 ≤ sm q (fun x=>if φ x = z then (1 : Int) else 0):=fun z=>sm_nonneg fun i _=>by split <;> decide
 have tot : sm q (fun z=>sm q (fun x=>if φ x = z then (1 : Int) else 0)) = q:=by
  rw [sm_swap,sm_congr (g:=fun _=>(1 : Int)) fun x hx=>sm_pick (hm x hx) (fun _=>1),sm_const];omega
 have split : sm q (fun z=>sm q (fun x=>if φ x = z then (1 : Int) else 0)) ≤ sm q (fun z=>(1 : Int) - if y = z then 1 - sm q (fun x=>if φ x = y then (1 : Int) else 0) else 0):=by
  refine sm_le fun z hz=>?_
  by_cases e : y = z
  ·subst e;rw [if_pos rfl];omega
  ·rw [if_neg e]
   have:=inj_count hi z q (Nat.le_refl q)
   omega
 rw [tot,sm_sub,sm_const,sm_pick hy (fun _=>1 - sm q (fun x=>if φ x = y then (1 : Int) else 0))] at split
 omega
theorem inj_sum {q : Nat} {φ : Nat → Nat} (hm : ∀ x,x < q → φ x < q) (hi : ∀ x y,x < q → y < q → φ x = φ y → x = y) (g : Nat → Int) : sm q (fun x=>g (φ x)) = sm q g:=by
 have e1 : sm q (fun x=>g (φ x)) = sm q (fun x=>sm q (fun z=>if φ x = z then g z else 0)):=sm_congr fun x hx=>(sm_pick (hm x hx) g).symm
 rw [e1,sm_swap]
 refine sm_congr fun z hz=>?_
 rw [sm_congr (g:=fun x=>g z * if φ x = z then 1 else 0) fun x _=>by split <;> simp,sm_mul,inj_all hm hi hz,Int.mul_one]
section
variable {q : Nat} {A M : Int → Int → Int} (F : FI q A M)
include F
theorem FI.z : (0 : Int) < q:=by have:=F.q2;omega
theorem FI.m0 {x : Int} (h0 : 0 ≤ x) (h1 : x < q) : M x 0 = 0:=by
 have hz:=F.z
 have h:=F.md x 0 0 h0 h1 (Int.le_refl 0) hz (Int.le_refl 0) hz
 rw [F.a0 0 (Int.le_refl 0) hz] at h
 obtain ⟨b0,b1⟩:=F.ml x 0 h0 h1 (Int.le_refl 0) hz
 obtain ⟨y,⟨y0,y1⟩,e⟩:=F.an (M x 0) b0 b1
 have h2 : A (A (M x 0) (M x 0)) y = A (M x 0) y:=by rw [← h]
 rw [F.aa _ _ _ b0 b1 b0 b1 y0 y1,e,F.a0 _ b0 b1] at h2
 exact h2
theorem FI.cancel {x y z : Int} (x0 : 0 ≤ x) (x1 : x < q) (y0 : 0 ≤ y) (y1 : y < q) (z0 : 0 ≤ z) (z1 : z < q) (h : A x y = A x z) : y = z:=by
 obtain ⟨w,⟨w0,w1⟩,e⟩:=F.an x x0 x1
 have e2 : A w x = 0:=by rw [F.ac w x w0 w1 x0 x1];exact e
 have h2 : A w (A x y) = A w (A x z):=by rw [h]
 rw [← F.aa _ _ _ w0 w1 x0 x1 y0 y1,← F.aa _ _ _ w0 w1 x0 x1 z0 z1,e2,F.ac 0 y (by omega) (by omega) y0 y1,F.ac 0 z (by omega) (by omega) z0 z1,F.a0 y y0 y1,F.a0 z z0 z1] at h2
 exact h2
theorem FI.mcancel {s x y : Int} (s0 : 0 ≤ s) (s1 : s < q) (hs : s ≠ 0) (x0 : 0 ≤ x) (x1 : x < q) (y0 : 0 ≤ y) (y1 : y < q) (h : M s x = M s y) : x = y:=by
 obtain ⟨w,⟨w0,w1⟩,e⟩:=F.an y y0 y1
 obtain ⟨a0,a1⟩:=F.al x w x0 x1 w0 w1
 have h2 : M s (A x w) = 0:=by
  rw [F.md s x w s0 s1 x0 x1 w0 w1,h,← F.md s y w s0 s1 y0 y1 w0 w1,e,F.m0 s0 s1]
 rcases F.nz s _ s0 s1 a0 a1 h2 with h3 | h3
 ·exact absurd h3 hs
 ·have e2 : A w x = A w y:=by rw [F.ac w x w0 w1 x0 x1,h3,F.ac w y w0 w1 y0 y1,e]
  exact F.cancel w0 w1 x0 x1 y0 y1 e2
end
def Wd (q n : Nat) (u : List Int) : Prop:=u.length = n ∧ ∀ x ∈ u,0 ≤ x ∧ x < q
def axp (A M : Int → Int → Int) (a : Int) (r u : List Int) : List Int:=List.zipWith (fun x y=>A x (M a y)) u r
section
variable {q : Nat} {A M : Int → Int → Int} (F : FI q A M)
include F
theorem FI.swap4 {a b c d : Int} (a0 : 0 ≤ a) (a1 : a < q) (b0 : 0 ≤ b) (b1 : b < q) (c0 : 0 ≤ c) (c1 : c < q) (d0 : 0 ≤ d) (d1 : d < q) : A (A a b) (A c d) = A (A a c) (A b d):=by
 obtain ⟨e0,e1⟩:=F.al c d c0 c1 d0 d1
 obtain ⟨f0,f1⟩:=F.al b d b0 b1 d0 d1
 rw [F.aa a b _ a0 a1 b0 b1 e0 e1,← F.aa b c d b0 b1 c0 c1 d0 d1,F.ac b c b0 b1 c0 c1,F.aa c b d c0 c1 b0 b1 d0 d1,← F.aa a c _ a0 a1 c0 c1 f0 f1]
theorem FI.axw {n : Nat} {a : Int} (a0 : 0 ≤ a) (a1 : a < q) {r u : List Int} (hr : Wd q n r) (hu : Wd q n u) : Wd q n (axp A M a r u):=by
 refine ⟨by rw [axp,List.length_zipWith,hr.1,hu.1];omega,fun x hx=>?_⟩
 obtain ⟨i,hi⟩:=List.getElem?_of_mem hx
 rw [axp,List.getElem?_zipWith] at hi
 cases h1 : u[i]? with
 | none=>rw [h1] at hi;simp at hi
 | some y =>
  cases h2 : r[i]? with
  | none=>rw [h1,h2] at hi;simp at hi
  | some z =>
   rw [h1,h2] at hi
   simp at hi
   subst hi
   obtain ⟨y0,y1⟩:=hu.2 y (List.mem_of_getElem? h1)
   obtain ⟨z0,z1⟩:=hr.2 z (List.mem_of_getElem? h2)
   obtain ⟨m0,m1⟩:=F.ml a z a0 a1 z0 z1
   exact F.al _ _ y0 y1 m0 m1
end
set_option maxRecDepth 100000
set_option linter.unusedVariables false
set_option linter.unusedSimpArgs false
theorem itY_add (Y : Vz → Vz) (w : Vz) : ∀ a b : Nat,itY Y (a + b) w = itY Y a (itY Y b w)
 | 0,b=>by rw [Nat.zero_add];rfl
 | a + 1,b=>by rw [show a + 1 + b = (a + b) + 1 by omega];show Y (itY Y (a + b) w) = Y (itY Y a (itY Y b w));rw [itY_add Y w a b]
theorem itY_lin {Y : Vz → Vz} (h : Lin Y) : ∀ k,Lin (itY Y k)
 | 0=>fun _ _ _ _=>rfl
 | k + 1=>fun a b u v=>by
  show Y (itY Y k fun j=>a * u j + b * v j) = fun j=>a * Y (itY Y k u) j + b * Y (itY Y k v) j
  rw [itY_lin h k a b u v,h]
theorem evL_set {Y : Vz → Vz} (h : Lin Y) (w : Vz) (v : Int) : ∀ (r : List Int) (k : Nat),k < r.length → evL Y (r.set k v) w = fun j=>evL Y r w j + (v - r.getD k 0) * itY Y k w j
 | [],k,hk=>by simp at hk
 | a::r,0,_=>by
  funext j
  show v * w j + Y (evL Y r w) j = a * w j + Y (evL Y r w) j + (v - a) * w j
  grind
 | a::r,k + 1,hk=>by
  have ih:=evL_set h w v r k (by simpa using hk)
  funext j
  show a * w j + Y (evL Y (r.set k v) w) j = a * w j + Y (evL Y r w) j + (v - r.getD k 0) * Y (itY Y k w) j
  have e : (fun j=>evL Y r w j + (v - r.getD k 0) * itY Y k w j) = fun j=>1 * evL Y r w j + (v - r.getD k 0) * itY Y k w j:=by funext j;rw [Int.one_mul]
  rw [ih,e,h]
  grind
theorem evL_it {Y : Vz → Vz} (h : Lin Y) (w : Vz) (k : Nat) : ∀ g : List Int,itY Y k (evL Y g w) = fun j=>evL Y g (itY Y k w) j:=fun g=>by
 induction k with
 | zero=>rfl
 | succ k ih =>
  show Y (itY Y k (evL Y g w)) = _
  rw [ih]
  show Y (evL Y g (itY Y k w)) = fun j=>evL Y g (Y (itY Y k w)) j
  rw [evL_Y h]
def stepR (p : Nat) (e : Int) (g : List Int) (k : Nat) : Nat → List Int → List Int
 | 0,r=>r
 | n + 1,r=>(stepR p e g k n r).set (k + n) (((stepR p e g k n r).getD (k + n) 0 + e * g.getD n 0) % p)
theorem stepR_len (p : Nat) (e : Int) (g : List Int) (k : Nat) (r : List Int) : ∀ n,(stepR p e g k n r).length = r.length
 | 0=>rfl
 | n + 1=>by rw [stepR,List.length_set,stepR_len p e g k r n]
theorem stepR_out (p : Nat) (e : Int) (g : List Int) (k : Nat) (r : List Int) {i : Nat} : ∀ n,k + n ≤ i → (stepR p e g k n r).getD i 0 = r.getD i 0
 | 0,_=>rfl
 | n + 1,h=>by
  rw [stepR,List.getD_eq_getElem?_getD,List.getElem?_set,if_neg (by omega),← List.getD_eq_getElem?_getD,stepR_out p e g k r n (by omega)]
theorem stepR_rng {p : Nat} (hp : 0 < p) (e : Int) (g : List Int) (k : Nat) {r : List Int} (hr : ∀ x ∈ r,0 ≤ x ∧ x < p) : ∀ n,∀ x ∈ stepR p e g k n r,0 ≤ x ∧ x < p
 | 0=>hr
 | n + 1=>fun x hx=>by
  rw [stepR] at hx
  rcases List.mem_or_eq_of_mem_set hx with h | rfl
  ·exact stepR_rng hp e g k hr n x h
  ·exact ⟨Int.emod_nonneg _ (by omega),Int.emod_lt_of_pos _ (by omega)⟩
theorem stepR_ev {p : Nat} {Y : Vz → Vz} (h : Lin Y) (w : Vz) (e : Int) (g : List Int) (k : Nat) {r : List Int} : ∀ n,n ≤ g.length → k + n ≤ r.length →
  cg p fun j=>evL Y (stepR p e g k n r) w j - (evL Y r w j + e * evL Y (g.take n) (itY Y k w) j)
 | 0,_,_=>fun j=>by
  show (p : Int) ∣ evL Y r w j - (evL Y r w j + e * 0)
  exact ⟨0,by omega⟩
 | n + 1,hn,hk=>fun j=>by
  have ih : (p : Int) ∣ evL Y (stepR p e g k n r) w j - (evL Y r w j + e * evL Y (g.take n) (itY Y k w) j):=stepR_ev (p:=p) h w e g k (r:=r) n (by omega) (by omega) j
  have hl : k + n < (stepR p e g k n r).length:=by rw [stepR_len];omega
  have e1:=congrFun (evL_set h w (((stepR p e g k n r).getD (k + n) 0 + e * g.getD n 0) % p) (stepR p e g k n r) (k + n) hl) j
  have e2 : evL Y (g.take (n + 1)) (itY Y k w) j = evL Y (g.take n) (itY Y k w) j + g.getD n 0 * itY Y (k + n) w j:=by
   rw [List.take_succ_eq_append_getElem (by omega),evL_snoc h]
   show _ + _ * itY Y (g.take n).length (itY Y k w) j = _
   rw [List.length_take,Nat.min_eq_left (by omega),← itY_add,Nat.add_comm n k,List.getD_eq_getElem?_getD,List.getElem?_eq_getElem (by omega)];rfl
  show (p : Int) ∣ evL Y ((stepR p e g k n r).set (k + n) _) w j - _
  rw [e1,e2]
  generalize (stepR p e g k n r).getD (k + n) 0 = x at *
  generalize g.getD n 0 = y at *
  generalize itY Y (k + n) w j = z at *
  generalize evL Y (stepR p e g k n r) w j = u at *
  generalize evL Y (g.take n) (itY Y k w) j = v at *
  have hm:=Int.emod_add_mul_ediv (x + e * y) p
  generalize (x + e * y) / (p : Int) = t at *
  have e3 : u + ((x + e * y) % p - x) * z - (evL Y r w j + e * (v + y * z)) = (u - (evL Y r w j + e * v)) + p * (-t * z):=by
   have : (x + e * y) % p = x + e * y - p * t:=by omega
   rw [this];grind
  rw [e3]
  exact Int.dvd_add ih ⟨_,rfl⟩
theorem top_it {g : List Int} (h : 1 ≤ g.length) (k : Nat) : itY (Xg g) (k + g.length) oneV = fun j=>-evL (Xg g) g (itY (Xg g) k oneV) j:=by
 have hY:=Xg_lin g
 rw [itY_add,it_top h,← ev_one (Nat.le_refl g.length)]
 have : (fun j=>-evL (Xg g) g oneV j) = fun j=>(-1) * evL (Xg g) g oneV j:=by funext j;omega
 rw [this,(itY_lin hY k).mul,evL_it hY]
 funext j
 show -1 * evL (Xg g) g (itY (Xg g) k oneV) j = -evL (Xg g) g (itY (Xg g) k oneV) j
 omega
theorem take_snoc {r : List Int} {i : Nat} (h : i < r.length) : r.take (i + 1) = r.take i++[r.getD i 0]:=by
 rw [List.take_succ_eq_append_getElem h,List.getD_eq_getElem?_getD,List.getElem?_eq_getElem h];rfl
theorem stepR_take (p : Nat) (e : Int) (g : List Int) (k : Nat) {r : List Int} {i : Nat} : ∀ n,k + n ≤ i → (stepR p e g k n r).take i = stepR p e g k n (r.take i)
 | 0,_=>rfl
 | n + 1,h=>by
  rw [stepR,stepR,List.take_set,stepR_take p e g k n (by omega)]
  congr 3
  rw [← stepR_take p e g k n (by omega),List.getD_eq_getElem?_getD,List.getD_eq_getElem?_getD,List.getElem?_take,if_pos (by omega)]
theorem red_step {p : Nat} {g r : List Int} {i : Nat} (hg : 1 ≤ g.length) (hi : g.length ≤ i) (hr : i < r.length) :
  cg p fun j=>evL (Xg g) ((stepR p (p - r.getD i 0) g (i - g.length) g.length r).take i) oneV j - evL (Xg g) (r.take (i + 1)) oneV j:=by
 have hY:=Xg_lin g
 rw [stepR_take _ _ _ _ _ (by omega)]
 have h1:=stepR_ev (p:=p) hY oneV (p - r.getD i 0) g (i - g.length) (r:=r.take i) g.length (Nat.le_refl _) (by rw [List.length_take];omega)
 have ht:=top_it hg (i - g.length)
 rw [Nat.sub_add_cancel hi] at ht
 have h2 : evL (Xg g) (r.take (i + 1)) oneV = fun j=>evL (Xg g) (r.take i) oneV j - r.getD i 0 * evL (Xg g) g (itY (Xg g) (i - g.length) oneV) j:=by
  rw [take_snoc hr,evL_snoc hY,List.length_take,Nat.min_eq_left (by omega),ht]
  funext j;grind
 rw [h2]
 rw [List.take_length] at h1
 intro j
 have h3 : (p : Int) ∣ _ - (_ + (p - r.getD i 0) * evL (Xg g) g (itY (Xg g) (i - g.length) oneV) j):=h1 j
 have h4:=Int.dvd_add h3 (⟨evL (Xg g) g (itY (Xg g) (i - g.length) oneV) j,rfl⟩ : (p : Int) ∣ p * evL (Xg g) g (itY (Xg g) (i - g.length) oneV) j)
 refine dvd_eq h4 ?_
 show _ = _ - (_ - r.getD i 0 * _)
 grind
def mulR (p m : Nat) (a b : List Int) : Nat → List Int
 | 0=>List.replicate (2 * m - 1) 0
 | i + 1=>stepR p (a.getD i 0) b i m (mulR p m a b i)
theorem mulR_len (p m : Nat) (a b : List Int) : ∀ i,(mulR p m a b i).length = 2 * m - 1
 | 0=>by simp [mulR]
 | i + 1=>by rw [mulR,stepR_len,mulR_len p m a b i]
theorem mulR_rng {p : Nat} (hp : 0 < p) (m : Nat) (a b : List Int) : ∀ i,∀ x ∈ mulR p m a b i,0 ≤ x ∧ x < p
 | 0=>fun x hx=>by rw [(List.mem_replicate.1 hx).2];omega
 | i + 1=>stepR_rng hp _ _ _ (mulR_rng hp m a b i) m
theorem evL_zeros {Y : Vz → Vz} (h : Lin Y) (w : Vz) : ∀ n,evL Y (List.replicate n 0) w = fun _=>0
 | 0=>rfl
 | n + 1=>by
  funext j
  show 0 * w j + Y (evL Y (List.replicate n 0) w) j = 0
  rw [evL_zeros h w n,h.zero];simp
theorem mulR_ev {p m : Nat} {g a b : List Int} (hb : b.length = m) (ha : a.length = m) : ∀ i,i ≤ m → cg p fun j=>evL (Xg g) (mulR p m a b i) oneV j - evL (Xg g) (a.take i) (evL (Xg g) b oneV) j
 | 0,_=>fun j=>by
  rw [mulR,evL_zeros (Xg_lin g)]
  exact ⟨0,by simp [evL]⟩
 | i + 1,hi=>fun j=>by
  have hY:=Xg_lin g
  have ih : (p : Int) ∣ evL (Xg g) (mulR p m a b i) oneV j - evL (Xg g) (a.take i) (evL (Xg g) b oneV) j:=mulR_ev hb ha i (by omega) j
  have h1 : (p : Int) ∣ evL (Xg g) (stepR p (a.getD i 0) b i m (mulR p m a b i)) oneV j - (evL (Xg g) (mulR p m a b i) oneV j + a.getD i 0 * evL (Xg g) (b.take m) (itY (Xg g) i oneV) j):=stepR_ev (p:=p) hY oneV (a.getD i 0) b i (r:=mulR p m a b i) m (by omega) (by rw [mulR_len];omega) j
  have h2:=Int.dvd_add h1 ih
  rw [← hb,List.take_length,hb] at h2
  refine dvd_eq h2 ?_
  show _ = evL (Xg g) (stepR p (a.getD i 0) b i m (mulR p m a b i)) oneV j - evL (Xg g) (a.take (i + 1)) (evL (Xg g) b oneV) j
  rw [take_snoc (by omega),evL_snoc hY,List.length_take,Nat.min_eq_left (by omega)]
  have h3:=congrFun (evL_it hY oneV i b) j
  show _ = _ - (_ + a.getD i 0 * itY (Xg g) i (evL (Xg g) b oneV) j)
  rw [h3]
  omega
def redL (p : Nat) (g r : List Int) : Nat → List Int
 | 0=>r
 | n + 1=>stepR p (p - (redL p g r n).getD (r.length - 1 - n) 0) g (r.length - 1 - n - g.length) g.length (redL p g r n)
theorem redL_len (p : Nat) (g r : List Int) : ∀ n,(redL p g r n).length = r.length
 | 0=>rfl
 | n + 1=>by rw [redL,stepR_len,redL_len p g r n]
theorem redL_rng {p : Nat} (hp : 0 < p) (g : List Int) {r : List Int} (hr : ∀ x ∈ r,0 ≤ x ∧ x < p) : ∀ n,∀ x ∈ redL p g r n,0 ≤ x ∧ x < p
 | 0=>hr
 | n + 1=>stepR_rng hp _ _ _ (redL_rng hp g hr n) _
theorem redL_ev {p : Nat} {g r : List Int} (hg : 1 ≤ g.length) : ∀ n,n + g.length ≤ r.length → cg p fun j=>evL (Xg g) ((redL p g r n).take (r.length - n)) oneV j - evL (Xg g) r oneV j
 | 0,_=>fun j=>by
  rw [redL,Nat.sub_zero,List.take_length]
  exact ⟨0,by show evL (Xg g) r oneV j - evL (Xg g) r oneV j = _;omega⟩
 | n + 1,hn=>fun j=>by
  have ih : (p : Int) ∣ evL (Xg g) ((redL p g r n).take (r.length - n)) oneV j - evL (Xg g) r oneV j:=redL_ev hg n (by omega) j
  have h1 : (p : Int) ∣ evL (Xg g) ((stepR p (p - (redL p g r n).getD (r.length - 1 - n) 0) g (r.length - 1 - n - g.length) g.length (redL p g r n)).take (r.length - 1 - n)) oneV j - evL (Xg g) ((redL p g r n).take (r.length - 1 - n + 1)) oneV j:=red_step (p:=p) hg (r:=redL p g r n) (i:=r.length - 1 - n) (by omega) (by rw [redL_len];omega) j
  rw [show r.length - 1 - n + 1 = r.length - n by omega] at h1
  refine dvd_eq (Int.dvd_add h1 ih) ?_
  show _ = evL (Xg g) ((redL p g r (n + 1)).take (r.length - (n + 1))) oneV j - _
  rw [show r.length - (n + 1) = r.length - 1 - n by omega,redL]
  omega
theorem toI_len (l : List Nat) : (toI l).length = l.length:=List.length_map _
theorem mul_digs {p : Nat} (hp : 0 < p) {f : List Int} (hf : 1 ≤ f.length) (x y : Nat) :
  (redL p f (mulR p f.length (toI (dig p f.length x)) (toI (dig p f.length y)) f.length) (f.length - 1)).take f.length = toI ((List.range f.length).map fun j=>(mulV f (rep p f.length x) (rep p f.length y) j % p).toNat):=by
 generalize hm : f.length = m at *
 have la : (toI (dig p m x)).length = m:=by rw [toI_len,dig_len]
 have lb : (toI (dig p m y)).length = m:=by rw [toI_len,dig_len]
 have l1:=mulR_len p m (toI (dig p m x)) (toI (dig p m y)) m
 have r1:=mulR_rng hp m (toI (dig p m x)) (toI (dig p m y)) m
 have c1:=mulR_ev (p:=p) (g:=f) lb la m (Nat.le_refl m)
 rw [List.take_of_length_le (Nat.le_of_eq la)] at c1
 generalize mulR p m (toI (dig p m x)) (toI (dig p m y)) m = r at *
 have c2:=redL_ev (p:=p) (g:=f) (r:=r) (by omega) (m - 1) (by omega)
 have r2:=redL_rng hp f r1 (m - 1)
 have l2:=redL_len p f r (m - 1)
 rw [l1,show 2 * m - 1 - (m - 1) = m by omega] at c2
 generalize redL p f r (m - 1) = s at *
 have lt : (s.take m).length = m:=by rw [List.length_take];omega
 have key : ∀ j,j < m → (p : Int) ∣ (s.take m).getD j 0 - mulV f (rep p m x) (rep p m y) j:=fun j hj=>by
  have h3 : evL (Xg f) (s.take m) oneV = vec (s.take m):=ev_one (by omega)
  have h4 : evL (Xg f) (toI (dig p m y)) oneV = vec (toI (dig p m y)):=ev_one (by omega)
  have h5 : (List.range f.length).map (rep p m x) = toI (dig p m x):=by
   refine List.ext_getElem? fun i=>?_
   rw [List.getElem?_map,hm]
   by_cases hi : i < m
   ·rw [List.getElem?_range hi,List.getElem?_eq_getElem (by omega)]
    show some (vec (toI (dig p m x)) i) = _
    rw [vec,List.getD_eq_getElem?_getD,List.getElem?_eq_getElem (by omega)];rfl
   ·rw [List.getElem?_eq_none (by simpa using hi),List.getElem?_eq_none (by omega)];rfl
  have a1 : (p : Int) ∣ evL (Xg f) r oneV j - evL (Xg f) (toI (dig p m x)) (evL (Xg f) (toI (dig p m y)) oneV) j:=c1 j
  have a2 : (p : Int) ∣ evL (Xg f) (s.take m) oneV j - evL (Xg f) r oneV j:=c2 j
  have a3:=Int.dvd_add a2 a1
  rw [h3,h4] at a3
  refine dvd_eq a3 ?_
  rw [mulV,h5]
  show _ = vec (s.take m) j - evL (Xg f) (toI (dig p m x)) (vec (toI (dig p m y))) j
  omega
 refine List.ext_getElem? fun j=>?_
 rw [toI,List.getElem?_map,List.getElem?_map]
 by_cases hj : j < m
 ·rw [List.getElem?_range hj,List.getElem?_eq_getElem (by omega)]
  have h6:=key j hj
  rw [List.getD_eq_getElem?_getD,List.getElem?_eq_getElem (by omega)] at h6
  obtain ⟨b0,b1⟩:=r2 _ (List.mem_of_mem_take (List.getElem_mem (l:=s.take m) (n:=j) (by omega)))
  have h7:=(Int.emod_eq_emod_iff_emod_sub_eq_zero).2 (Int.emod_eq_zero_of_dvd h6)
  simp only [Option.getD_some] at h7
  rw [Int.emod_eq_of_lt b0 b1] at h7
  have h8:=Int.emod_nonneg (mulV f (rep p m x) (rep p m y) j) (show (p : Int) ≠ 0 by omega)
  simp only [Option.map_some,Option.some.injEq]
  omega
 ·rw [List.getElem?_eq_none (by omega),List.getElem?_eq_none (by simpa using hj)];rfl
theorem cg_div {p : Nat} {g h : List Int} (hl : g.length = h.length) (hgh : ∀ j,(p : Int) ∣ g.getD j 0 - h.getD j 0) {w : Vz} : ∀ F : List Int,cg p fun j=>evL (Xg g) F w j - evL (Xg h) F w j
 | []=>fun j=>⟨0,by simp [evL]⟩
 | a::F=>fun j=>by
  have ih:=cg_div hl hgh (w:=w) F
  show (p : Int) ∣ (a * w j + Xg g (evL (Xg g) F w) j) - (a * w j + Xg h (evL (Xg h) F w) j)
  have e1 : (fun j=>evL (Xg g) F w j - evL (Xg h) F w j) = fun j=>1 * evL (Xg g) F w j + (-1) * evL (Xg h) F w j:=by funext j;omega
  have h1:=cg_lin (Xg_lin g) ih
  rw [e1,Xg_lin g] at h1
  have h2 : (p : Int) ∣ 1 * Xg g (evL (Xg g) F w) j + (-1) * Xg g (evL (Xg h) F w) j:=h1 j
  have h3 : (p : Int) ∣ Xg g (evL (Xg h) F w) j - Xg h (evL (Xg h) F w) j:=by
   simp only [Xg,hl]
   by_cases hj : j < h.length
   ·rw [if_pos hj,if_pos hj]
    refine dvd_eq (Int.dvd_mul_of_dvd_left (c:=-evL (Xg h) F w (h.length - 1)) (hgh j)) ?_
    grind
   ·rw [if_neg hj,if_neg hj];exact ⟨0,by omega⟩
  exact dvd_eq (Int.dvd_add h2 h3) (by omega)
def irrP (p : Nat) (md : List Nat) : Prop:=∀ d,1 ≤ d → 2 * d ≤ md.length → ∀ v,v < p ^ d → ¬ cg p (evL (Xg (toI (dig p d v))) (toI md++[1]) oneV)
theorem irr_splits {p : Nat} (hp : 0 < p) {md : List Nat} (h : irrP p md) : ¬ splits p (toI md):=by
 rintro ⟨g,s,h1,h2,h3,h4,h5⟩
 rw [toI_len] at h3
 have key : ∀ g : List Int,1 ≤ g.length → 2 * g.length ≤ md.length → ¬ cg p (evL (Xg g) (toI md++[1]) oneV):=fun g h1 h2 hc=>by
  let l : List Nat:=g.map fun x=>(x % (p : Int)).toNat
  have hl : ∀ d ∈ l,d < p:=fun d hd=>by
   obtain ⟨x,_,rfl⟩:=List.mem_map.1 hd
   have:=Int.emod_lt_of_pos x (show (0 : Int) < p by omega)
   omega
  have ll : l.length = g.length:=List.length_map _
  have hv:=valP_lt hp hl
  have e:=dig_valP hp hl
  rw [ll] at hv e
  refine h g.length h1 h2 (valP p l) hv ?_
  rw [e]
  have h6 : ∀ j,(p : Int) ∣ (toI l).getD j 0 - g.getD j 0:=fun j=>by
   rw [toI,List.getD_eq_getElem?_getD,List.getD_eq_getElem?_getD,List.getElem?_map,List.getElem?_map]
   cases hg : g[j]? with
   | none=>exact ⟨0,by simp⟩
   | some x =>
    simp only [Option.map_some,Option.getD_some]
    have h7:=Int.emod_nonneg x (show (p : Int) ≠ 0 by omega)
    have h8:=Int.emod_add_mul_ediv x p
    exact ⟨-(x / p),by rw [Int.mul_neg];omega⟩
  have h9:=cg_div (by rw [toI_len];exact ll) h6 (w:=oneV) (toI md++[1])
  intro j
  have h10 : (p : Int) ∣ evL (Xg (toI l)) (toI md++[1]) oneV j - evL (Xg g) (toI md++[1]) oneV j:=h9 j
  exact dvd_eq (Int.dvd_add h10 (hc j)) (by omega)
 by_cases hle : 2 * g.length ≤ md.length
 ·exact key g h1 hle h4
 ·exact key s h2 (by omega) h5
def lsum : List (List Int) → (List Int → Int) → Int
 | [],_=>0
 | u::L,g=>g u + lsum L g
theorem lsum_app (g : List Int → Int) : ∀ (L K : List (List Int)),lsum (L++K) g = lsum L g + lsum K g
 | [],K=>by simp [lsum]
 | u::L,K=>by rw [List.cons_append,lsum,lsum,lsum_app g L K];omega
theorem lsum_map (f : List Int → List Int) (g : List Int → Int) : ∀ L : List (List Int),lsum (L.map f) g = lsum L (fun u=>g (f u))
 | []=>rfl
 | u::L=>by rw [List.map_cons,lsum,lsum,lsum_map f g L]
theorem lsum_congr {f g : List Int → Int} : ∀ {L : List (List Int)},(∀ u ∈ L,f u = g u) → lsum L f = lsum L g
 | [],_=>rfl
 | u::L,h=>by rw [lsum,lsum,h u (.head _),lsum_congr fun v hv=>h v (.tail _ hv)]
theorem lsum_flat (F : Nat → List (List Int)) (g : List Int → Int) : ∀ n,lsum ((List.range n).flatMap F) g = sm n (fun a=>lsum (F a) g)
 | 0=>rfl
 | n + 1=>by rw [List.range_succ,List.flatMap_append,lsum_app,lsum_flat F g n,sm];simp
abbrev zW (n : Nat) : List Int:=List.replicate n 0
def extL (q : Nat) (A M : Int → Int → Int) (L : List (List Int)) (r : List Int) : List (List Int):=(List.range q).flatMap fun a : Nat=>L.map fun u=>axp A M a r u
def spanS (q most : Nat) (A M : Int → Int → Int) : List (List Int) → List (List Int) → Option (List (List Int))
 | [],L=>some L
 | r::rs,L=>if r ∈ L then spanS q most A M rs L else if most / q < L.length then none else spanS q most A M rs (extL q A M L r)
theorem zW_wd {q n : Nat} (hq : 2 ≤ q) : Wd q n (zW n):=⟨by simp,fun x hx=>by rw [(List.mem_replicate.1 hx).2];omega⟩
section
variable {q : Nat} {A M : Int → Int → Int} (F : FI q A M)
include F
theorem FI.ax0 : ∀ {n : Nat} {r u : List Int},Wd q n r → Wd q n u → axp A M 0 r u = u
 | 0,r,u,hr,hu=>by
  have e1:=List.length_eq_zero_iff.1 hr.1
  have e2:=List.length_eq_zero_iff.1 hu.1
  subst e1;subst e2;rfl
 | n + 1,[],_,h,_=>by have:=h.1;simp at this
 | n + 1,_::_,[],_,h=>by have:=h.1;simp at this
 | n + 1,y::r,x::u,hr,hu=>by
  obtain ⟨x0,x1⟩:=hu.2 x (.head _)
  obtain ⟨y0,y1⟩:=hr.2 y (.head _)
  show A x (M 0 y)::axp A M 0 r u = x::u
  rw [F.mc 0 y (Int.le_refl 0) F.z y0 y1,F.m0 y0 y1,F.a0 x x0 x1,FI.ax0 (n:=n) (r:=r) (u:=u) ⟨by simpa using hr.1,fun z hz=>hr.2 z (.tail _ hz)⟩ ⟨by simpa using hu.1,fun z hz=>hu.2 z (.tail _ hz)⟩]
omit F in
theorem ext_mem {L : List (List Int)} {r u : List Int} (h : u ∈ extL q A M L r) : ∃ (a : Nat) (v : List Int),a < q ∧ v ∈ L ∧ u = axp A M a r v:=by
 rw [extL,List.mem_flatMap] at h
 obtain ⟨a,ha,h⟩:=h
 obtain ⟨v,hv,e⟩:=List.mem_map.1 h
 exact ⟨a,v,List.mem_range.1 ha,hv,e.symm⟩
omit F in
theorem ext_len (L : List (List Int)) (r : List Int) : (extL q A M L r).length = q * L.length:=by
 have key : ∀ n,((List.range n).flatMap fun a : Nat=>L.map fun u=>axp A M a r u).length = n * L.length:=by
  intro n
  induction n with
  | zero=>simp
  | succ n ih=>rw [List.range_succ,List.flatMap_append,List.length_append,ih];simp [Nat.add_mul]
 exact key q
end
set_option maxRecDepth 100000
set_option linter.unusedVariables false
set_option linter.unusedSimpArgs false
def wt : List Int → Nat
 | []=>0
 | x::u=>(if x = 0 then 0 else 1) + wt u
theorem wt_le : ∀ u : List Int,wt u ≤ u.length
 | []=>Nat.le_refl 0
 | x::u=>by have:=wt_le u;rw [wt,List.length_cons];split <;> omega
theorem dist_zW : ∀ (n : Nat) (u : List Int),u.length = n → dist u (zW n) = wt u
 | 0,u,h=>by rw [List.length_eq_zero_iff.1 h];rfl
 | n + 1,[],h=>by simp at h
 | n + 1,x::u,h=>by
  show (if x = 0 then 0 else 1) + dist u (zW n) = (if x = 0 then 0 else 1) + wt u
  rw [dist_zW n u (by simpa using h)]
def cntW (L : List (List Int)) (j : Nat) : Int:=lsum L (fun u=>if wt u = j then 1 else 0)
section
variable {q : Nat} {A M : Int → Int → Int} (F : FI q A M)
include F
end
set_option maxRecDepth 100000
set_option linter.unusedVariables false
set_option linter.unusedSimpArgs false
def dot : List Rat → List Rat → Rat
 | a::l,b::m=>a * b + dot l m
 | _,_=>0
def rows (A : List (List Rat)) (x : List Rat) : List Rat:=A.map fun r=>dot r x
theorem getD_at {α : Type} [Inhabited α] {l : List α} {i : Nat} (h : i < l.length) : l[i]? = some (l.getD i default):=by
 rw [List.getD,List.getElem?_eq_getElem h];rfl
def okW (q : Int) (w : List Int) : Bool:=w.all fun x=>decide (0 ≤ x ∧ x < q)
def scanW (q : Int) (n : Nat) : List (List Int) → Int
 | []=>0
 | w::l=>if w.length ≠ n then 3 else if okW q w then scanW q n l else 2
theorem scan_step {q : Int} {n : Nat} : ∀ {W : List (List Int)} {k : Nat} {z : List Int},W[k]? = some z → scanW q n (W.take k) = 0 → z.length = n → okW q z = true → scanW q n (W.take (k + 1)) = 0:=by
 intro W
 induction W with
 | nil=>intro k z h;simp at h
 | cons w W ih =>
  intro k z hz h hl ho
  cases k with
  | zero =>
   simp at hz;subst hz
   rw [List.take_succ_cons,List.take_zero,scanW,if_neg (not_not_intro hl),if_pos ho];rfl
  | succ k =>
   rw [List.take_succ_cons,scanW] at h ⊢
   by_cases h1 : w.length = n
   ·rw [if_neg (not_not_intro h1)] at h ⊢
    by_cases h2 : okW q w = true
    ·rw [if_pos h2] at h ⊢;exact ih (by simpa using hz) h hl ho
    ·rw [if_neg h2] at h;cases h
   ·rw [if_pos h1] at h;cases h
theorem scan_stop {q : Int} {n : Nat} : ∀ {W : List (List Int)} {k : Nat} {z : List Int},W[k]? = some z → scanW q n (W.take k) = 0 → scanW q n W = scanW q n (W.drop k):=by
 intro W
 induction W with
 | nil=>intro k z h;simp at h
 | cons w W ih =>
  intro k z hz h
  cases k with
  | zero=>rfl
  | succ k =>
   rw [List.take_succ_cons,scanW] at h
   rw [List.drop_succ_cons,scanW]
   by_cases h1 : w.length = n
   ·rw [if_neg (not_not_intro h1)] at h ⊢
    by_cases h2 : okW q w = true
    ·rw [if_pos h2] at h ⊢;exact ih (by simpa using hz) h
    ·rw [if_neg h2] at h;cases h
   ·rw [if_pos h1] at h;cases h
theorem drop_cons {α : Type} {W : List α} {k : Nat} {z : α} (hz : W[k]? = some z) : W.drop k = z::W.drop (k + 1):=by
 obtain ⟨h,rfl⟩:=List.getElem?_eq_some_iff.1 hz
 exact List.drop_eq_getElem_cons h
theorem scan_shape {q : Int} {n : Nat} {W : List (List Int)} {k : Nat} {z : List Int} (hz : W[k]? = some z) (h : scanW q n (W.take k) = 0) (hl : z.length ≠ n) : scanW q n W = 3:=by
 rw [scan_stop hz h,drop_cons hz,scanW,if_pos hl]
theorem scan_elem {q : Int} {n : Nat} {W : List (List Int)} {k : Nat} {z : List Int} (hz : W[k]? = some z) (h : scanW q n (W.take k) = 0) (hl : z.length = n) (ho : okW q z = false) : scanW q n W = 2:=by
 rw [scan_stop hz h,drop_cons hz,scanW,if_neg (not_not_intro hl),if_neg (by rw [ho];decide)]
theorem okW_step {q : Int} {w : List Int} {k : Nat} {z : Int} (hz : w[k]? = some z) (h : okW q (w.take k) = true) (ho : 0 ≤ z ∧ z < q) : okW q (w.take (k + 1)) = true:=by
 rw [okW,List.take_add_one,hz,List.all_append]
 have h1 : (w.take k).all (fun x=>decide (0 ≤ x ∧ x < q)) = true:=h
 rw [h1]
 simp [ho.1,ho.2]
theorem okW_stop {q : Int} {w : List Int} {k : Nat} {z : Int} (hz : w[k]? = some z) (ho : ¬ (0 ≤ z ∧ z < q)) : okW q w = false:=by
 rw [okW,List.all_eq_false];exact ⟨z,List.mem_of_getElem? hz,by simpa using ho⟩
def wordsE (q : Int) (W : List (List Int)) : Int:=if q < 2 ∨ 256 < q then 6 else if W.length = 0 then 11 else if (W.getD 0 default).length < 1 ∨ 64 < (W.getD 0 default).length then 4 else scanW q (W.getD 0 default).length W
theorem scan_all {q : Int} {n : Nat} : ∀ {W : List (List Int)},scanW q n W = 0 → ∀ w ∈ W,w.length = n ∧ ∀ x ∈ w,0 ≤ x ∧ x < q:=by
 intro W
 induction W with
 | nil=>intro _ w hw;cases hw
 | cons w W ih =>
  intro h z hz
  rw [scanW] at h
  by_cases h1 : w.length = n
  ·rw [if_neg (not_not_intro h1)] at h
   by_cases h2 : okW q w = true
   ·rw [if_pos h2] at h
    rcases List.mem_cons.1 hz with rfl | hz
    ·refine ⟨h1,fun x hx=>?_⟩
     have:=List.all_eq_true.1 h2 x hx
     simpa using this
    ·exact ih h z hz
   ·rw [if_neg h2] at h;cases h
  ·rw [if_pos h1] at h;cases h
def wAt (W : List (List Int)) (i : Nat) : List Int:=W.getD i default
def cntN (W : List (List Int)) : Nat → Nat → Nat → Nat
 | i,0,d=>match i with
  | 0=>0
  | i + 1=>cntN W i W.length d
 | i,j + 1,d=>cntN W i j d + (if dist (wAt W i) (wAt W j) = d then 1 else 0)
termination_by i j=>(i,j)
theorem cntN_zero (W : List (List Int)) (d : Nat) : cntN W 0 0 d = 0:=by rw [cntN]
theorem cntN_next (W : List (List Int)) (i d : Nat) : cntN W (i + 1) 0 d = cntN W i W.length d:=by rw [cntN]
theorem cntN_step (W : List (List Int)) (i j d : Nat) : cntN W i (j + 1) d = cntN W i j d + (if dist (wAt W i) (wAt W j) = d then 1 else 0):=by rw [cntN]
theorem cntN_sum (W : List (List Int)) (d : Nat) : ∀ (i j : Nat),(cntN W i j d : Int) = sm i (fun a=>sm W.length (fun b=>if dist (wAt W a) (wAt W b) = d then 1 else 0)) + sm j (fun b=>if dist (wAt W i) (wAt W b) = d then 1 else 0):=by
 have step : ∀ i,(cntN W i 0 d : Int) = sm i (fun a=>sm W.length (fun b=>if dist (wAt W a) (wAt W b) = d then 1 else 0)) → ∀ j,(cntN W i j d : Int) = sm i (fun a=>sm W.length (fun b=>if dist (wAt W a) (wAt W b) = d then 1 else 0)) + sm j (fun b=>if dist (wAt W i) (wAt W b) = d then 1 else 0):=by
  intro i h j
  induction j with
  | zero=>rw [h,sm,Int.add_zero]
  | succ j ih =>
   rw [cntN_step,sm]
   push_cast
   rw [ih]
   by_cases e : dist (wAt W i) (wAt W j) = d
   ·simp only [if_pos e];omega
   ·simp only [if_neg e];omega
 have base : ∀ i,(cntN W i 0 d : Int) = sm i (fun a=>sm W.length (fun b=>if dist (wAt W a) (wAt W b) = d then 1 else 0)):=by
  intro i
  induction i with
  | zero=>rw [cntN_zero];rfl
  | succ i ih=>rw [cntN_next,step i ih,sm]
 exact fun i j=>step i (base i) j
theorem cntN_all (W : List (List Int)) (d : Nat) : (cntN W W.length 0 d : Int) = cntD W.length (wAt W) d:=by
 rw [cntN_sum,sm,Int.add_zero];rfl
theorem cntN_le (W : List (List Int)) (d : Nat) : ∀ i j,cntN W i j d ≤ i * W.length + j:=by
 have step : ∀ i,cntN W i 0 d ≤ i * W.length → ∀ j,cntN W i j d ≤ i * W.length + j:=by
  intro i h j
  induction j with
  | zero=>exact h
  | succ j ih=>rw [cntN_step];split <;> omega
 have base : ∀ i,cntN W i 0 d ≤ i * W.length:=by
  intro i
  induction i with
  | zero=>rw [cntN_zero];exact Nat.zero_le _
  | succ i ih=>rw [cntN_next,Nat.succ_mul];exact step i ih _
 exact fun i j=>step i (base i) j
theorem cntN_set (W : List (List Int)) {m i j : Nat} (h : dist (wAt W i) (wAt W j) < m) : ((List.range m).map (cntN W i j)).set (dist (wAt W i) (wAt W j)) (cntN W i j (dist (wAt W i) (wAt W j)) + 1) = (List.range m).map (cntN W i (j + 1)):=by
 refine List.ext_getElem? fun k=>?_
 rw [List.getElem?_set]
 by_cases e : dist (wAt W i) (wAt W j) = k
 ·subst e
  rw [if_pos rfl,if_pos (by simpa using h),List.getElem?_map,List.getElem?_range h]
  show _ = some _
  rw [cntN_step,if_pos rfl]
 ·rw [if_neg e,List.getElem?_map,List.getElem?_map]
  by_cases hk : k < m
  ·rw [List.getElem?_range hk]
   show some _ = some _
   rw [cntN_step,if_neg e,Nat.add_zero]
  ·rw [List.getElem?_eq_none (by simp;omega)];rfl
def distP (u v : List Int) : Nat → Nat
 | 0=>0
 | k + 1=>distP u v k + (if u.getD k default = v.getD k default then 0 else 1)
theorem distP_le (u v : List Int) : ∀ k,distP u v k ≤ k
 | 0=>Nat.le_refl 0
 | k + 1=>by have:=distP_le u v k;rw [distP];split <;> omega
theorem distP_cons (x y : Int) (u v : List Int) : ∀ k,distP (x::u) (y::v) (k + 1) = (if x = y then 0 else 1) + distP u v k:=by
 intro k
 induction k with
 | zero=>simp [distP]
 | succ k ih =>
  rw [distP,ih,distP]
  simp only [List.getD_cons_succ]
  omega
theorem distP_all : ∀ (u v : List Int),u.length = v.length → distP u v u.length = dist u v:=by
 intro u
 induction u with
 | nil=>intro v _;rfl
 | cons x u ih =>
  intro v h
  cases v with
  | nil=>simp at h
  | cons y v =>
   rw [List.length_cons,distP_cons,dist,ih v (by simpa using h)]
open Go Go.Fw
theorem S_nat_short {pa : Option Addr} {n ca : Nat} {l : List Nat} : Ctr Try.prog 80 [.slice pa n ca] [] [slF U32 pa n ca l]
  (fun v Φ β=>v = .slice pa (trim l).length (trim l).length ∧ Φ = [slF U32 pa (trim l).length (trim l).length (trim l)] ∧ β = []):=by
 refine Ctr_of_j' (F:=F_nat_short) rfl fun C=>?_
 refine j_len 0 rfl fun hn hb hc=>?_
 subst hn
 have hb' : l.length * 4 ≤ 140737488355328:=hb
 refine j_nf [_,_] rfl (j_run it 1 rfl (by simp) ?_)
 refine j_nf [_,_] rfl (j_run it 1 rfl (by simp) ?_)
 refine j_step rfl (x_len sl29 rfl ?_)
 refine j_run it 1 rfl (by simp) ?_
 refine j_nf [_,_,_] rfl ?_
 refine j_loopN (X:=Nat) (fun k=>[(0,.slice pa l.length ca),(3,.int .i64 k)]) (fun _=>[]) (fun _=>[slF U32 pa l.length ca l]) (fun k=>k ≤ l.length ∧ trim (l.take k) = trim l) (fun k=>k) l.length [0] rfl ⟨Nat.le_refl _,by rw [List.take_length]⟩ (by repeat (first | exact Fr.sub_nil _ | refine Fr.sub_cons rfl ?_)) rfl rfl ?_
 intro k ⟨hk,ht⟩ ih
 -- the end,once
 have done : trim (l.take k) = l.take k → J F_nat_short C [.c [1,1,1]] [(0,.slice pa l.length ca),(3,.int .i64 k)] [] [slF U32 pa l.length ca l]
   (Gives C fun v Φ β=>v = .slice pa (trim l).length (trim l).length ∧ Φ = [slF U32 pa (trim l).length (trim l).length (trim l)] ∧ β = []):=by
  intro he
  have e : trim l = l.take k:=by rw [← ht,he]
  have e2 : (trim l).length = k:=by rw [e,List.length_take];omega
  refine j_nf [_,_] rfl (j_run it 3 rfl (by simp) ?_)
  refine j_step rfl (x_slice_hm 0 (k) (k) rfl rfl rfl rfl sl29 (by omega) (by omega) (by omega) (by omega) (by omega) ?_)
  refine j_run it 1 rfl (by simp) ?_
  refine j_nf [_] rfl ?_
  refine j_gives [0] rfl rfl rfl ⟨?_,?_,rfl⟩
  ·rw [e2];rfl
  ·rw [e2,e]
 refine j_nf [_,_,_,_,_,_] rfl (j_run it 3 rfl (by simp) ?_)
 refine j_split_dec (t:=8) rfl (fun h1=>?_) (fun h1=>?_)
 ·refine j_run it 3 rfl ⟨⟨by omega,by omega⟩,trivial,trivial,trivial⟩ ?_
  refine j_gstep rfl rfl (x_idx 0 ((k) - 1) rfl rfl rfl sl29 (by omega) (by omega) fun z1 hz1 b1 o1=>?_)
  refine j_gstep rfl rfl (x_ld_nat 0 rfl rfl ld76 fun ⟨r1,r2⟩=>?_)
  refine j_run it 2 rfl (by simp) ?_
  refine j_nf [_,_,_,_,_] rfl (j_if rfl rfl (fun h2=>?_) (fun h2=>?_))
  ·have hz : z1 = 0:=by omega
   subst hz
   refine j_nf [_,_,_,_,_] rfl (j_run it 3 rfl ⟨trivial,⟨by omega,by omega⟩,trivial,trivial⟩ ?_)
   refine j_nfn 2 [.lp [1,1,0,0,0],.blk 0,.c [1,1,1]] rfl ?_
   refine j_to [1] (by exact fcc rfl (fii rfl (by omega) (fzz _))) rfl rfl (ih (k - 1) (by omega) ⟨by omega,by rw [← trim_take_zero hz1];rw [show k - 1 + 1 = k by omega];exact ht⟩)
  ·refine j_nfn 1 [.c [1,1,1]] rfl ?_
   refine j_to [1] (by exact fra rfl) rfl rfl (done (by have:=trim_take_ne hz1 (by omega);rwa [show k - 1 + 1 = k by omega] at this))
 ·refine j_run it 7 rfl (by simp) ?_
  refine j_nf [_,_,_,_,_] rfl ?_
  refine j_false rfl rfl ?_
  refine j_nfn 1 [.c [1,1,1]] rfl ?_
  refine j_to [0] (by exact fra rfl) rfl rfl (done (by rw [show k = 0 by omega];rfl))
set_option maxHeartbeats 4000000
def rangeP (q n d : Int) : Prop:=2 ≤ q ∧ q ≤ 256 ∧ 1 ≤ n ∧ n ≤ 64 ∧ 1 ≤ d ∧ d ≤ n
instance (q n d : Int) : Decidable (rangeP q n d):=by unfold rangeP;infer_instance
theorem S_codewrightref24_Distance {pa pb : Option Addr} {n m ca cb : Nat} {u v : List Int} (hnm : n = m) : Ctr Try.prog 23 [.slice pa n ca,.slice pb m cb] [] [slF I64 pa n ca u,slF I64 pb m cb v] (Rv (.int .i64 ((dist u v : Nat) : Int)) []):=by
 refine Ctr_of_j' (F:=F_codewrightref24_Distance) rfl fun C=>?_
 refine j_len 0 rfl fun hn hb _=>?_
 refine j_len 1 rfl fun hm _ _=>?_
 have hb' : u.length * 8 ≤ 140737488355328:=hb
 subst hn
 refine j_nf [_,_] rfl ?_
 refine j_run it 1 rfl (by simp) ?_
 refine j_nf [_,_] rfl ?_
 refine j_run it 1 rfl (by simp) ?_
 refine j_nf [_,_,_] rfl ?_
 refine j_run it 1 rfl (by simp) ?_
 refine j_nf [_,_,_] rfl ?_
 refine j_loopG (X:=Nat) [0,1,4] [0,1] (fun k=>[(6,.int .i64 k),(5,.int .i64 ((distP u v k : Nat) : Int))]) (fun _=>[]) (fun _=>[]) (fun k=>k ≤ u.length) (fun k=>u.length - k) 0 [] rfl rfl rfl (Nat.zero_le _) (by repeat (first | exact Fr.sub_nil _ | refine Fr.sub_cons rfl ?_)) rfl rfl ?_
 intro k hk ih
 simp only [List.cons_append,List.nil_append] at ih ⊢
 have hd:=distP_le u v k
 by_cases hkl : k < u.length
 ·have hkm : k < v.length:=by omega
  by_cases he : u.getD k default = v.getD k default
  ·have e : distP u v (k + 1) = distP u v k:=by rw [distP,if_pos he];rfl
   refine j_nf [_,_,_,_,_,_] rfl ?_
   refine j_run it 2 rfl (by simp) ?_
   refine j_step rfl (x_len sl22 rfl ?_)
   refine j_run it 1 rfl (by simp) ?_
   refine j_nf [_,_,_,_,_] rfl ?_
   refine j_if rfl rfl (fun h1=>?_) (fun h1=>by exfalso;omega)
   refine j_nf [_,_,_,_,_,_,_] rfl ?_
   (apply j_drawK it mx 9;(· rfl);(· rfl))
   (apply lxk_run 2;(· rfl);(· simp))
   (apply lxk_pt;(· rfl);(· exact d_x fun _=>x_idx 0 (k) rfl rfl rfl sl22 rfl (by omega) fun z1 hz1 b1 o1=>(dk_ptD default hz1 0 rfl));intro b1 o1)
   (apply lxk_eq;(· rfl);(· exact d_x fun _=>x_ld_int 0 rfl rfl ld3 fun ⟨r1,r2⟩=>dk_eq))
   (apply lxk_run 2;(· rfl);(· simp))
   (apply lxk_pt;(· rfl);(· exact d_x fun _=>x_idx 1 (k) rfl rfl rfl sl22 rfl (by omega) fun z1 hz1 b2 o2=>(dk_ptD default hz1 0 rfl));intro b2 o2)
   (apply lxk_eq;(· rfl);(· exact d_x fun _=>x_ld_int 0 rfl rfl ld3 fun ⟨r1,r2⟩=>dk_eq))
   (apply lxk_run 1;(· rfl);(· simp))
   refine lxk_end rfl ?_
   simp only [List.map_cons,List.map_nil,List.cons_append,List.nil_append]
   refine j_nf [_,_,_,_,_,_] rfl ?_
   refine j_ifn rfl rfl (fun h2=>by exfalso;omega) (fun h2=>?_)
   refine j_nf [_,_,_,_] rfl ?_
   refine j_run it 3 rfl ⟨trivial,⟨by omega,by omega⟩,trivial,trivial⟩ ?_
   refine j_nfn 1 [.lp (pL 116),.blk 0,.c [1,1,1]] rfl ?_
   have ih':=ih (k + 1) (by omega) (by omega)
   rw [e] at ih'
   refine j_to [2,3] (by exact fra rfl) rfl rfl (ih')
  ·have e : distP u v (k + 1) = distP u v k + 1:=by rw [distP,if_neg he]
   refine j_nf [_,_,_,_,_,_] rfl ?_
   refine j_run it 2 rfl (by simp) ?_
   refine j_step rfl (x_len sl22 rfl ?_)
   refine j_run it 1 rfl (by simp) ?_
   refine j_nf [_,_,_,_,_] rfl ?_
   refine j_if rfl rfl (fun h1=>?_) (fun h1=>by exfalso;omega)
   refine j_nf [_,_,_,_,_,_,_] rfl ?_
   (apply j_drawK it mx 9;(· rfl);(· rfl))
   (apply lxk_run 2;(· rfl);(· simp))
   (apply lxk_pt;(· rfl);(· exact d_x fun _=>x_idx 0 (k) rfl rfl rfl sl22 rfl (by omega) fun z1 hz1 b1 o1=>(dk_ptD default hz1 0 rfl));intro b1 o1)
   (apply lxk_eq;(· rfl);(· exact d_x fun _=>x_ld_int 0 rfl rfl ld3 fun ⟨r1,r2⟩=>dk_eq))
   (apply lxk_run 2;(· rfl);(· simp))
   (apply lxk_pt;(· rfl);(· exact d_x fun _=>x_idx 1 (k) rfl rfl rfl sl22 rfl (by omega) fun z1 hz1 b2 o2=>(dk_ptD default hz1 0 rfl));intro b2 o2)
   (apply lxk_eq;(· rfl);(· exact d_x fun _=>x_ld_int 0 rfl rfl ld3 fun ⟨r1,r2⟩=>dk_eq))
   (apply lxk_run 1;(· rfl);(· simp))
   refine lxk_end rfl ?_
   simp only [List.map_cons,List.map_nil,List.cons_append,List.nil_append]
   refine j_nf [_,_,_,_,_,_] rfl ?_
   refine j_ifn rfl rfl (fun h2=>?_) (fun h2=>by exfalso;omega)
   refine j_nf [_,_,_,_,_,_] rfl ?_
   refine j_run it 3 rfl ⟨trivial,⟨by omega,by omega⟩,trivial,trivial⟩ ?_
   refine j_nf [_,_,_,_] rfl ?_
   refine j_run it 3 rfl ⟨trivial,⟨by omega,by omega⟩,trivial,trivial⟩ ?_
   refine j_nfn 1 [.lp (pL 116),.blk 0,.c [1,1,1]] rfl ?_
   have ih':=ih (k + 1) (by omega) (by omega)
   rw [e] at ih'
   refine j_to [2,3] (by exact fra rfl) rfl rfl (ih')
 ·obtain rfl : u.length = k:=by omega
  rw [← distP_all u v (by omega)]
  refine j_nf [_,_,_,_,_,_] rfl ?_
  refine j_run it 2 rfl (by simp) ?_
  refine j_step rfl (x_len sl22 rfl ?_)
  refine j_run it 1 rfl (by simp) ?_
  refine j_nf [_,_,_,_,_] rfl ?_
  refine j_if rfl rfl (fun h1=>by exfalso;omega) (fun h1=>?_)
  refine j_nf [_,_] rfl ?_
  refine j_run it 2 rfl (by simp) ?_
  refine j_nf [_] rfl ?_
  refine j_giv [] rfl rfl rfl ⟨rfl,rfl,rfl⟩
def ordP (P M : Int) : Prop:=2 ≤ P ∧ 1 ≤ M ∧ M ≤ 8 ∧ P.toNat ^ M.toNat ≤ 256
instance (P M : Int) : Decidable (ordP P M):=by unfold ordP;infer_instance
def ordI (P M : Int) : Int:=if ordP P M then ((P.toNat ^ M.toNat : Nat) : Int) else 0
theorem S_codewrightref04_Order {P M : Int} {pm : Option Addr} {n c : Nat} {res : Int} (hres : ordI P M = res) : Ctr Try.prog 15 [.agg #[.int .i64 P,.int .i64 M,.slice pm n c]] [] [] (Rv (.int .i64 res) []):=by
 refine Ctr_of_j' (F:=F_codewrightref04_Order) rfl fun C=>?_
 have no : ¬ ordP P M → res = 0:=fun h=>by rw [← hres,ordI,if_neg h]
 by_cases h1 : P < 2
 ·rw [no (by unfold ordP;omega)]
  refine j_nf [_,_] rfl (j_step rfl (x_box_agg rfl fun b1=>?_))
  refine j_run it 1 rfl (by simp) ?_
  refine j_nf [_,_,_] rfl (j_step rfl (x_field rfl fd24_0 ?_))
  refine j_step rfl (x_bld 0 rfl rfl ld3 rfl ?_)
  refine j_run it 2 rfl (by simp) ?_
  refine j_split_dec (t:=8) rfl (fun h2=>?_) (fun h2=>by exfalso;omega)
  refine j_run it 9 rfl (by simp) ?_
  refine j_nf [_,_] rfl ?_
  refine j_true rfl rfl ?_
  refine j_nf [_,_,_] rfl (j_run it 1 rfl (by simp) ?_)
  refine j_nf [_,_] rfl ?_
  refine j_giv [] rfl rfl rfl ⟨rfl,rfl,rfl⟩
 by_cases h2 : M < 1
 ·rw [no (by unfold ordP;omega)]
  refine j_nf [_,_] rfl (j_step rfl (x_box_agg rfl fun b1=>?_))
  refine j_run it 1 rfl (by simp) ?_
  refine j_nf [_,_,_] rfl (j_step rfl (x_field rfl fd24_0 ?_))
  refine j_step rfl (x_bld 0 rfl rfl ld3 rfl ?_)
  refine j_run it 2 rfl (by simp) ?_
  refine j_split_dec (t:=8) rfl (fun h3=>by exfalso;omega) (fun h3=>?_)
  refine j_gstep rfl rfl (x_field rfl fd24_1 ?_)
  refine j_gstep rfl rfl (x_bld 0 rfl rfl ld3 rfl ?_)
  refine j_run it 3 rfl (by simp) ?_
  refine j_split_dec (t:=13) rfl (fun h4=>?_) (fun h4=>by exfalso;omega)
  refine j_run it 4 rfl (by simp) ?_
  refine j_nf [_,_] rfl ?_
  refine j_true rfl rfl ?_
  refine j_nf [_,_,_] rfl (j_run it 1 rfl (by simp) ?_)
  refine j_nf [_,_] rfl ?_
  refine j_giv [] rfl rfl rfl ⟨rfl,rfl,rfl⟩
 by_cases h3 : 8 < M
 ·rw [no (by unfold ordP;omega)]
  refine j_nf [_,_] rfl (j_step rfl (x_box_agg rfl fun b1=>?_))
  refine j_run it 1 rfl (by simp) ?_
  refine j_nf [_,_,_] rfl (j_step rfl (x_field rfl fd24_0 ?_))
  refine j_step rfl (x_bld 0 rfl rfl ld3 rfl ?_)
  refine j_run it 2 rfl (by simp) ?_
  refine j_split_dec (t:=8) rfl (fun h4=>by exfalso;omega) (fun h4=>?_)
  refine j_gstep rfl rfl (x_field rfl fd24_1 ?_)
  refine j_gstep rfl rfl (x_bld 0 rfl rfl ld3 rfl ?_)
  refine j_run it 3 rfl (by simp) ?_
  refine j_split_dec (t:=13) rfl (fun h5=>by exfalso;omega) (fun h5=>?_)
  refine j_gstep rfl rfl (x_field rfl fd24_1 ?_)
  refine j_gstep rfl rfl (x_bld 0 rfl rfl ld3 rfl ?_)
  refine j_run it 2 rfl (by simp) ?_
  refine j_nf [_,_] rfl (j_if rfl rfl (fun h6=>?_) (fun h6=>by exfalso;omega))
  refine j_nf [_,_,_] rfl (j_run it 1 rfl (by simp) ?_)
  refine j_nf [_,_] rfl ?_
  refine j_giv [] rfl rfl rfl ⟨rfl,rfl,rfl⟩
 obtain ⟨p,rfl⟩ : ∃ p : Nat,P = p:=⟨P.toNat,by omega⟩
 obtain ⟨m,rfl⟩ : ∃ m : Nat,M = m:=⟨M.toNat,by omega⟩
 refine j_nf [_,_] rfl (j_step rfl (x_box_agg rfl fun b1=>?_))
 refine j_run it 1 rfl (by simp) ?_
 refine j_nf [_,_,_] rfl (j_step rfl (x_field rfl fd24_0 ?_))
 refine j_step rfl (x_bld 0 rfl rfl ld3 rfl ?_)
 refine j_run it 2 rfl (by simp) ?_
 refine j_split_dec (t:=8) rfl (fun h4=>by exfalso;omega) (fun h4=>?_)
 refine j_gstep rfl rfl (x_field rfl fd24_1 ?_)
 refine j_gstep rfl rfl (x_bld 0 rfl rfl ld3 rfl ?_)
 refine j_run it 3 rfl (by simp) ?_
 refine j_split_dec (t:=13) rfl (fun h5=>by exfalso;omega) (fun h5=>?_)
 refine j_gstep rfl rfl (x_field rfl fd24_1 ?_)
 refine j_gstep rfl rfl (x_bld 0 rfl rfl ld3 rfl ?_)
 refine j_run it 2 rfl (by simp) ?_
 refine j_nf [_,_] rfl (j_if rfl rfl (fun h6=>by exfalso;omega) (fun h6=>?_))
 refine j_nf [_,_] rfl (j_run it 1 rfl (by simp) ?_)
 refine j_nf [_,_,_] rfl (j_run it 1 rfl (by simp) ?_)
 refine j_nf [_,_,_] rfl ?_
 refine j_loopG (X:=Nat) [1] [] (fun i=>[(4,.int .i64 (i : Int)),(3,.int .i64 ((p ^ i : Nat) : Int))]) (fun _=>[(some b1,24,[.int .i64 (p : Int),.int .i64 (m : Int),.slice pm n c])]) (fun _=>[]) (fun i=>i ≤ m ∧ p ^ i ≤ 256) (fun i=>m - i) 0 [] rfl rfl rfl ⟨Nat.zero_le _,by simp⟩ (by repeat (first | exact Fr.sub_nil _ | refine Fr.sub_cons rfl ?_)) rfl rfl ?_
 rintro i ⟨hi,hq⟩ ih
 simp only [List.cons_append,List.nil_append] at hi hq ih ⊢
 by_cases hil : i < m
 ·have hp0 : 0 < p:=by omega
  have hdiv : (256 : Int) / (p : Int) = ((256 / p : Nat) : Int):=(Int.natCast_ediv 256 p).symm
  by_cases hb : p ^ (i + 1) ≤ 256
  ·have hle : p ^ i ≤ 256 / p:=by rw [Nat.le_div_iff_mul_le hp0];rwa [Nat.pow_succ] at hb
   have e : ((p ^ i : Nat) : Int) * (p : Int) = ((p ^ (i + 1) : Nat) : Int):=by rw [Nat.pow_succ,Int.natCast_mul]
   refine j_nf [_,_,_,_,_,_] rfl (j_run it 1 rfl (by simp) ?_)
   refine j_step rfl (x_field rfl fd24_1 ?_)
   refine j_step rfl (x_bld 0 rfl rfl ld3 rfl ?_)
   refine j_run it 1 rfl (by simp) ?_
   refine j_nf [_,_,_,_,_] rfl (j_if rfl rfl (fun h7=>?_) (fun h7=>by exfalso;omega))
   refine j_nf [_,_,_,_,_,_,_,_] rfl (j_run it 1 rfl (by simp) ?_)
   refine j_step rfl (x_field rfl fd24_0 ?_)
   refine j_step rfl (x_bld 0 rfl rfl ld3 rfl ?_)
   refine j_run it 2 rfl ⟨trivial,⟨by omega,by omega,by omega,by omega⟩,trivial⟩ ?_
   refine j_nf [_,_,_,_,_,_,_] rfl (j_if rfl rfl (fun h8=>by exfalso;omega) (fun h8=>?_))
   refine j_nf [_,_,_,_,_,_] rfl (j_run it 1 rfl (by simp) ?_)
   refine j_step rfl (x_field rfl fd24_0 ?_)
   refine j_step rfl (x_bld 0 rfl rfl ld3 rfl ?_)
   refine j_run it 2 rfl ⟨trivial,⟨by omega,by omega⟩,trivial⟩ ?_
   refine j_nf [_,_,_,_] rfl (j_run it 3 rfl ⟨trivial,⟨by omega,by omega⟩,trivial,trivial⟩ ?_)
   refine j_nfn 1 [.lp (pL 244),.blk 0,.c [1,1,1,1]] rfl ?_
   rw [e]
   refine j_to [] (by exact fra rfl) rfl rfl (ih (i + 1) (by omega) ⟨by omega,hb⟩)
  ·have hgt : 256 / p < p ^ i:=by
    refine Nat.lt_of_not_le fun h=>hb ?_
    rw [Nat.le_div_iff_mul_le hp0] at h
    rw [Nat.pow_succ];exact h
   rw [no fun h=>hb (Nat.le_trans (Nat.pow_le_pow_right hp0 hil) (by have:=h.2.2.2;simpa using this))]
   refine j_nf [_,_,_,_,_,_] rfl (j_run it 1 rfl (by simp) ?_)
   refine j_step rfl (x_field rfl fd24_1 ?_)
   refine j_step rfl (x_bld 0 rfl rfl ld3 rfl ?_)
   refine j_run it 1 rfl (by simp) ?_
   refine j_nf [_,_,_,_,_] rfl (j_if rfl rfl (fun h7=>?_) (fun h7=>by exfalso;omega))
   refine j_nf [_,_,_,_,_,_,_,_] rfl (j_run it 1 rfl (by simp) ?_)
   refine j_step rfl (x_field rfl fd24_0 ?_)
   refine j_step rfl (x_bld 0 rfl rfl ld3 rfl ?_)
   refine j_run it 2 rfl ⟨trivial,⟨by omega,by omega,by omega,by omega⟩,trivial⟩ ?_
   refine j_nf [_,_,_,_,_,_,_] rfl (j_if rfl rfl (fun h8=>?_) (fun h8=>by exfalso;omega))
   refine j_nf [_,_,_,_,_,_,_,_] rfl (j_run it 1 rfl (by simp) ?_)
   refine j_nf [_,_,_,_,_,_,_] rfl ?_
   refine j_giv [] rfl rfl rfl ⟨rfl,rfl,rfl⟩
 ·obtain rfl : m = i:=by omega
  have : res = ((p ^ m : Nat) : Int):=by
   rw [← hres,ordI,if_pos ⟨by omega,by omega,by omega,by simpa using hq⟩];simp
  rw [this]
  refine j_nf [_,_,_,_,_,_] rfl (j_run it 1 rfl (by simp) ?_)
  refine j_step rfl (x_field rfl fd24_1 ?_)
  refine j_step rfl (x_bld 0 rfl rfl ld3 rfl ?_)
  refine j_run it 1 rfl (by simp) ?_
  refine j_nf [_,_,_,_,_] rfl (j_if rfl rfl (fun h7=>by exfalso;omega) (fun h7=>?_))
  refine j_nf [_,_] rfl (j_run it 2 rfl (by simp) ?_)
  refine j_nf [_] rfl ?_
  refine j_giv [] rfl rfl rfl ⟨rfl,rfl,rfl⟩
theorem S_codewrightref04_prime {n : Nat} (hn : 2 ≤ n) (hn2 : n ≤ 1000000) {res : Bool} (hres : res = true ↔ Prm n) : Ctr Try.prog 55 [.int .i64 n] [] [] (Rv (.bool res) []):=by
 refine Ctr_of_j' (F:=F_codewrightref04_prime) rfl fun C=>?_
 refine j_nf [_,_] rfl (j_run it 1 rfl (by simp) ?_)
 refine j_nf [_,_,_] rfl (j_run it 1 rfl (by simp) ?_)
 refine j_nf [_,_,_] rfl ?_
 refine j_loopG (X:=Nat) [0] [] (fun d=>[(3,.int .i64 (d : Int))]) (fun _=>[]) (fun _=>[]) (fun d=>2 ≤ d ∧ d ≤ n ∧ ∀ e,2 ≤ e → e < d → ¬ e ∣ n) (fun d=>n - d) 2 [] rfl rfl rfl ⟨Nat.le_refl 2,hn,fun e h1 h2=>by omega⟩ (by repeat (first | exact Fr.sub_nil _ | refine Fr.sub_cons rfl ?_)) rfl rfl ?_
 rintro d ⟨hd,hdn,hall⟩ ih
 simp only [List.cons_append,List.nil_append] at hd hdn hall ih ⊢
 by_cases hdl : d < n
 ·by_cases hm : n % d = 0
  ·have hm' : (n : Int) % (d : Int) = 0:=by omega
   have : res = false:=by
    cases res with
    | false=>rfl
    | true=>exact absurd (Nat.dvd_of_mod_eq_zero hm) ((hres.1 rfl).2 d hd hdl)
   rw [this]
   refine j_nf [_,_,_,_,_,_] rfl (j_run it 3 rfl (by simp) ?_)
   refine j_nf [_,_,_,_,_] rfl (j_if rfl rfl (fun h1=>?_) (fun h1=>by exfalso;omega))
   refine j_nf [_,_,_,_,_,_,_] rfl (j_run it 4 rfl ⟨trivial,⟨by omega,by omega⟩,trivial,trivial,trivial⟩ ?_)
   refine j_nf [_,_,_,_,_,_] rfl (j_if rfl rfl (fun h2=>?_) (fun h2=>by exfalso;omega))
   refine j_nf [_,_,_,_,_,_,_] rfl (j_run it 1 rfl (by simp) ?_)
   refine j_nf [_,_,_,_,_,_] rfl ?_
   refine j_giv [] rfl rfl rfl ⟨rfl,rfl,rfl⟩
  ·have hm' : ¬ (n : Int) % (d : Int) = 0:=by omega
   refine j_nf [_,_,_,_,_,_] rfl (j_run it 3 rfl (by simp) ?_)
   refine j_nf [_,_,_,_,_] rfl (j_if rfl rfl (fun h1=>?_) (fun h1=>by exfalso;omega))
   refine j_nf [_,_,_,_,_,_,_] rfl (j_run it 4 rfl ⟨trivial,⟨by omega,by omega⟩,trivial,trivial,trivial⟩ ?_)
   refine j_nf [_,_,_,_,_,_] rfl (j_if rfl rfl (fun h2=>by exfalso;omega) (fun h2=>?_))
   refine j_nf [_,_,_,_] rfl (j_run it 3 rfl ⟨trivial,⟨by omega,by omega⟩,trivial,trivial⟩ ?_)
   refine j_nfn 1 [.lp [1,0,1,0,0],.blk 0,.c [1,1]] rfl ?_
   refine j_to [] (by exact fra rfl) rfl rfl (ih (d + 1) (by omega) ⟨by omega,by omega,fun e h1 h2=>by
    rcases Nat.lt_succ_iff_lt_or_eq.1 h2 with h3 | rfl
    ·exact hall e h1 h3
    ·exact fun hdv=>hm (Nat.mod_eq_zero_of_dvd hdv)⟩)
 ·obtain rfl : n = d:=by omega
  have : res = true:=hres.2 ⟨hn,hall⟩
  rw [this]
  refine j_nf [_,_,_,_,_,_] rfl (j_run it 3 rfl (by simp) ?_)
  refine j_nf [_,_,_,_,_] rfl (j_if rfl rfl (fun h1=>by exfalso;omega) (fun h1=>?_))
  refine j_nf [_,_] rfl (j_run it 1 rfl (by simp) ?_)
  refine j_nf [_] rfl ?_
  refine j_giv [] rfl rfl rfl ⟨rfl,rfl,rfl⟩
theorem fill_set {T : List Nat} {i n : Nat} (hT : T.length = n) (hi : i < n) {z : Nat} (hz : T[i]? = some z) : (T.take i++List.replicate (n - i) 0).set i z = T.take (i + 1)++List.replicate (n - (i + 1)) 0:=by
 have hl : (T.take i).length = i:=by rw [List.length_take];omega
 rw [List.set_append,if_neg (by omega),hl,Nat.sub_self,show n - i = (n - (i + 1)) + 1 by omega,List.replicate_succ,List.set_cons_zero,List.take_add_one,hz]
 simp
theorem dig_at {p : Nat} : ∀ {n i x : Nat},i < n → (dig p n x)[i]? = some (x / p ^ i % p)
 | n + 1,0,x,_=>by rw [dig,List.getElem?_cons_zero,Nat.pow_zero,Nat.div_one]
 | n + 1,i + 1,x,h=>by
  rw [dig,List.getElem?_cons_succ,dig_at (by omega),Nat.div_div_eq_div_mul,Nat.pow_succ,Nat.mul_comm p]
theorem toI_at {l : List Nat} {i x : Nat} (h : l[i]? = some x) : (toI l)[i]? = some (x : Int):=by rw [toI,List.getElem?_map,h];rfl
theorem natCells_toI (k : IntKind) (l : List Nat) : natCells k l = intCells k (toI l):=by simp [natCells,intCells,toI]
theorem toI_rng {l : List Nat} (h : ∀ x ∈ l,x ≤ 9223372036854775807) : ∀ x ∈ toI l,InR .i64 x:=fun x hx=>by
 obtain ⟨n,hn,rfl⟩:=List.mem_map.1 hx
 have:=h n hn
 simp only [InR];omega
abbrev SvI (n : Nat) (l : List Int) : Value → List Fact → List Blk → Prop:=fun v Φ β=>∃ pa ca,v = .slice pa n ca ∧ Φ = [slF I64 pa n ca l] ∧ β = []
theorem S_codewrightref04_digits {p n x : Nat} (hp : 1 ≤ p) (hp2 : p ≤ 1000000) (hn : n ≤ 100) (hx : x ≤ 1000000000) : Ctr Try.prog 87 [.int .i64 x,.int .i64 p,.int .i64 n] [] [] (SvI n (toI (dig p n x))):=by
 refine Ctr_of_j' (F:=F_codewrightref04_digits) rfl fun C=>?_
 have hl:=dig_len p n x
 refine j_nf [_,_] rfl (j_run it 1 rfl (by simp) ?_)
 refine j_nf [_,_] rfl (j_run it 1 rfl (by simp) ?_)
 refine j_step rfl (x_make_nat (n) _ rfl rfl sl22 zo22e by22e (by omega) (by omega) (by omega) fun b1=>?_)
 refine j_run it 1 rfl (by simp) ?_
 refine j_nf [_,_,_] rfl (j_run it 1 rfl (by simp) ?_)
 refine j_nf [_,_,_] rfl ?_
 rw [show List.replicate n 0 = (dig p n x).take 0++List.replicate (n - 0) 0 by simp]
 refine j_loopG (X:=Nat) [1,2,6,7] [] (fun i=>[(8,.int .i64 (i : Int)),(0,.int .i64 ((x / p ^ i : Nat) : Int))]) (fun i=>[(some b1,3,natCells .i64 ((dig p n x).take i++List.replicate (n - i) 0))]) (fun _=>[]) (fun i=>i ≤ n) (fun i=>n - i) 0 [] rfl rfl rfl (Nat.zero_le _) (by refine Fr.sub_cons rfl ?_;refine Fr.sub_consI rfl (by simp) ?_;repeat (first | exact Fr.sub_nil _ | refine Fr.sub_cons rfl ?_)) rfl rfl ?_
 rintro i hi ih
 simp only [List.cons_append,List.nil_append] at hi ih ⊢
 have hxi : x / p ^ i ≤ x:=Nat.div_le_self _ _
 have hz:=fun h=>dig_at (p:=p) (n:=n) (i:=i) (x:=x) h
 have hnx : x / p ^ (i + 1) = x / p ^ i / p:=by rw [Nat.pow_succ,← Nat.div_div_eq_div_mul]
 by_cases hil : i < n
 ·have ih':=ih (i + 1) (by omega) (by omega)
  rw [hnx,← fill_set hl hil (hz hil)] at ih'
  generalize x / p ^ i = y at *
  have e1 : (y : Int) % (p : Int) = ((y % p : Nat) : Int):=(Int.natCast_emod _ _).symm
  have e2 : (y : Int) / (p : Int) = ((y / p : Nat) : Int):=(Int.natCast_ediv _ _).symm
  have hlen : ((dig p n x).take i++List.replicate (n - i) 0).length = n:=by simp [hl];omega
  refine j_nf [_,_,_,_,_,_] rfl (j_run it 3 rfl (by simp) ?_)
  refine j_nf [_,_,_,_,_] rfl (j_if rfl rfl (fun h1=>?_) (fun h1=>by exfalso;omega))
  refine j_nf [_,_,_,_,_,_,_] rfl (j_run it 5 rfl ⟨⟨by omega,by omega⟩,trivial,trivial,trivial,trivial,trivial⟩ ?_)
  refine j_step rfl (x_idx_own (i) (i) rfl rfl sl22 rfl (by omega) (Nat.mul_one _) ?_)
  refine j_step rfl (x_bst_nat 0 ((y) % (p)) rfl rfl rfl ld3 (by first | rfl | omega) (by first | omega | (simp;omega)) ?_)
  refine j_nf [_,_,_,_,_,_] rfl (j_run it 4 rfl ⟨trivial,⟨by omega,by omega,by omega,by omega⟩,trivial,trivial,trivial⟩ ?_)
  refine j_nf [_,_,_,_] rfl (j_run it 3 rfl ⟨trivial,⟨by omega,by omega⟩,trivial,trivial⟩ ?_)
  refine j_nfn 1 [.lp (pL 116),.blk 0,.c [1,1,1]] rfl ?_
  rw [e2]
  refine j_to [] (by exact fra rfl) rfl rfl (ih')
 ·obtain rfl : i = n:=by omega
  clear hz hnx
  rw [List.take_of_length_le (by omega),Nat.sub_self,List.replicate_zero,List.append_nil,natCells_toI]
  refine j_nf [_,_,_,_,_,_] rfl (j_run it 3 rfl (by simp) ?_)
  refine j_nf [_,_,_,_,_] rfl (j_if rfl rfl (fun h1=>by exfalso;omega) (fun h1=>?_))
  refine j_nf [_,_] rfl (j_run it 2 rfl (by simp) ?_)
  refine j_nf [_] rfl ?_
  refine j_pub_madei 8 (toI (dig p i x)) 0 rfl (by rw [toI_len,hl]) (toI_rng fun d hd=>by have:=dig_lt (by omega) d hd;omega) (by omega) (by omega) ?_
  refine j_giv [0] rfl rfl rfl ⟨_,_,rfl,rfl,rfl⟩
theorem valP_drop {p : Nat} {l : List Nat} {j : Nat} (hj : j < l.length) : valP p (l.drop j) = l.getD j 0 + p * valP p (l.drop (j + 1)):=by
 rw [List.drop_eq_getElem_cons hj,valP,List.getD_eq_getElem?_getD,List.getElem?_eq_getElem hj];rfl
theorem S_codewrightref04_Value {P M : Int} {pm pd : Option Addr} {nm cm nd cd p : Nat} {l : List Nat} (hP : P = p) (hp : 1 ≤ p) (hp2 : p ≤ 256) (hd : ∀ x ∈ l,x < p) (hl : p ^ l.length ≤ 1000000) :
  Ctr Try.prog 89 [.agg #[.int .i64 P,.int .i64 M,.slice pm nm cm],.slice pd nd cd] [] [slF I64 pd nd cd (toI l)] (Rv (.int .i64 ((valP p l : Nat) : Int)) []):=by
 subst hP
 refine Ctr_of_j' (F:=F_codewrightref04_Value) rfl fun C=>?_
 refine j_len 0 rfl fun hn hb _=>?_
 rw [toI_len] at hn hb
 subst hn
 have hb : l.length * 8 ≤ 140737488355328:=hb
 refine j_nf [_,_] rfl ?_
 refine j_step rfl (x_box_agg rfl fun b1=>?_)
 refine j_run it 1 rfl (by simp) ?_
 refine j_nf [_,_] rfl ?_
 refine j_run it 1 rfl (by simp) ?_
 refine j_nf [_,_,_] rfl ?_
 refine j_run it 1 rfl (by simp) ?_
 refine j_step rfl (x_len sl22 rfl ?_)
 refine j_run it 2 rfl ⟨trivial,⟨by omega,by omega⟩,trivial⟩ ?_
 refine j_nf [_,_,_] rfl ?_
 refine j_loopG (X:=Nat) [1,2,4] [0] (fun j=>[(6,.int .i64 ((j : Int) - 1)),(5,.int .i64 ((valP p (l.drop j) : Nat) : Int))]) (fun _=>[(some b1,24,[.int .i64 (p : Int),.int .i64 M,.slice pm nm cm])]) (fun _=>[]) (fun j=>j ≤ l.length) (fun j=>j) l.length [] rfl rfl rfl (Nat.le_refl _) (by refine Fr.sub_cons rfl ?_;refine Fr.sub_consI rfl (by simp [valP]) ?_;repeat (first | exact Fr.sub_nil _ | refine Fr.sub_cons rfl ?_)) rfl rfl ?_
 rintro j hj ih
 simp only [List.cons_append,List.nil_append] at hj ih ⊢
 have hlt : valP p (l.drop j) < p ^ l.length:=Nat.lt_of_lt_of_le (valP_lt (by omega) fun x hx=>hd x (List.mem_of_mem_drop hx)) (Nat.pow_le_pow_right (by omega) (by rw [List.length_drop];omega))
 cases j with
 | zero =>
  rw [List.drop_zero]
  refine j_nf [_,_,_,_,_,_] rfl ?_
  refine j_run it 2 rfl (by simp) ?_
  refine j_nf [_,_,_,_,_] rfl ?_
  refine j_if rfl rfl (fun h1=>by exfalso;omega) (fun h1=>?_)
  refine j_nf [_,_] rfl ?_
  refine j_run it 2 rfl (by simp) ?_
  refine j_nf [_] rfl ?_
  refine j_giv [] rfl rfl rfl ⟨rfl,rfl,rfl⟩
 | succ j =>
  have hz : (toI l)[j]? = some ((l.getD j 0 : Nat) : Int):=toI_at (by rw [List.getD_eq_getElem?_getD,List.getElem?_eq_getElem (by omega)];rfl)
  have hz2 : l.getD j 0 < p:=hd _ (List.mem_of_getElem? (i:=j) (by rw [List.getD_eq_getElem?_getD,List.getElem?_eq_getElem (by omega)];rfl))
  have ih':=ih j (by omega) (by omega)
  have hlt2 : valP p (l.drop j) < p ^ l.length:=Nat.lt_of_lt_of_le (valP_lt (by omega) fun x hx=>hd x (List.mem_of_mem_drop hx)) (Nat.pow_le_pow_right (by omega) (by rw [List.length_drop];omega))
  rw [valP_drop (show j < l.length by omega)] at ih' hlt2
  generalize valP p (l.drop (j + 1)) = v at *
  generalize hw : l.getD j 0 = w at *
  have hgd : (toI l).getD (j + 1 - 1) default = (w : Int):=by rw [Nat.add_sub_cancel,List.getD_eq_getElem?_getD,hz];rfl
  have hvp : (v : Int) * (p : Int) ≤ 1000000:=by rw [← Int.natCast_mul,Nat.mul_comm];omega
  have hv0 : 0 ≤ (v : Int) * (p : Int):=by rw [← Int.natCast_mul];omega
  have e : (v : Int) * (p : Int) + (w : Int) = ((w + p * v : Nat) : Int):=by rw [Int.natCast_add,Int.natCast_mul,Int.mul_comm];omega
  refine j_nf [_,_,_,_,_,_] rfl ?_
  refine j_run it 2 rfl (by simp) ?_
  refine j_nf [_,_,_,_,_] rfl ?_
  refine j_if rfl rfl (fun h1=>?_) (fun h1=>by exfalso;omega)
  refine j_nf [_,_,_,_,_,_] rfl ?_
  (apply j_drawK it mx 9;(· rfl);(· rfl))
  (apply lxk_run 1;(· rfl);(· simp))
  (apply lxk_eq;(· rfl);(· exact d_x fun _=>x_field rfl fd24_0 dk_eq))
  (apply lxk_eq;(· rfl);(· exact d_bld 0 rfl rfl ld3 rfl))
  (apply lxk_run 3;(· rfl);(· exact ⟨trivial,trivial,⟨by omega,by omega⟩,trivial⟩))
  (apply lxk_pt;(· rfl);(· exact d_x fun _=>x_idx 0 ((j + 1) - 1) rfl rfl rfl sl22 (by omega) (by omega) fun z1 hz1 b2 o1=>(dk_ptD default hz1 0 rfl));intro b2 o1)
  (apply lxk_eq;(· rfl);(· exact d_x fun _=>x_ld_int 0 rfl rfl ld3 fun ⟨r1,r2⟩=>dk_eq))
  (apply lxk_run 1;(· rfl);(· exact ⟨⟨by omega,by omega⟩,trivial⟩))
  refine lxk_end rfl ?_
  simp only [List.map_cons,List.map_nil,List.cons_append,List.nil_append]
  refine j_run it 1 rfl (by simp) ?_
  refine j_nf [_,_,_,_] rfl ?_
  refine j_run it 3 rfl ⟨trivial,⟨by omega,by omega⟩,trivial,trivial⟩ ?_
  refine j_nfn 1 [.lp (pL 116),.blk 0,.c [1,1,1]] rfl ?_
  rw [hgd,e]
  refine j_to [1] (by exact fii rfl (by omega) (fcc rfl (fcc rfl (fcc rfl (fcc rfl (fzz _)))))) rfl rfl (ih')
theorem dist_symm : ∀ (u v : List Int),dist u v = dist v u:=by
 intro u
 induction u with
 | nil=>intro v;cases v <;> rfl
 | cons x u ih =>
  intro v
  cases v with
  | nil=>rfl
  | cons y v =>
   rw [dist,dist,ih]
   by_cases h : x = y
   ·rw [if_pos h,if_pos h.symm]
   ·rw [if_neg h,if_neg fun e=>h e.symm]
set_option maxHeartbeats 1000000
theorem S_codewrightref01_Trim {pa : Option Addr} {n ca : Nat} {l : List Nat} : Ctr Try.prog 46 [.slice pa n ca] [] [slF U32 pa n ca l] (Sv U32 (trim l)):=by
 refine Ctr_of_j' (F:=F_codewrightref01_Trim) rfl fun C=>?_
 refine j_len 0 rfl fun hn hb hc=>?_
 subst hn
 have hb' : l.length * 4 ≤ 140737488355328:=hb
 have done : ∀ k,k ≤ l.length → trim l = l.take k → J F_codewrightref01_Trim C [.c [1,1,1]] [(0,.slice pa l.length ca),(3,.int .i64 k)] [] [slF U32 pa l.length ca l] (Gives C (Sv U32 (trim l))):=by
  intro k hk he
  have hlk : (l.take k).length = k:=by rw [List.length_take];omega
  refine j_nf [_,_] rfl (j_step rfl (x_lit0 sl29 fun b1=>?_))
  refine j_run it 2 rfl (by simp) ?_
  refine j_step rfl (x_slice_h 0 (k) rfl rfl rfl sl29 (by omega) (by omega) ?_)
  refine j_step rfl (x_app_sl 0 0 rfl rfl rfl rfl sl29 zo29e rfl (by first | exact GrOk.nil _ | assumption | exact .inr ⟨_,rfl,Nat.le_refl _,by omega,rfl⟩) (by omega) _ by29e (by omega) fun bo1 cap1 cs1 vss1 hg1 ht1=>?_)
  refine j_run it 1 rfl (by simp) ?_
  refine j_nf [_] rfl ?_
  simp only [Nat.zero_add] at hg1 ht1 ⊢
  refine j_pub 0 0 rfl rfl hg1 (by simpa using ht1) hlk.symm (by show _ * 4 ≤ _;omega) ?_
  refine j_giv [0] rfl rfl rfl ⟨_,_,by rw [he,hlk];rfl,by rw [he,hlk],rfl⟩
 refine j_nf [_,_] rfl (j_run it 1 rfl (by simp) ?_)
 refine j_nf [_,_] rfl (j_run it 1 rfl (by simp) ?_)
 refine j_step rfl (x_len sl29 rfl ?_)
 refine j_run it 1 rfl (by simp) ?_
 refine j_nf [_,_,_] rfl ?_
 refine j_loopN (X:=Nat) (fun k=>[(0,.slice pa l.length ca),(3,.int .i64 k)]) (fun _=>[]) (fun _=>[slF U32 pa l.length ca l]) (fun k=>k ≤ l.length ∧ trim (l.take k) = trim l) (fun k=>k) l.length [0] rfl ⟨Nat.le_refl _,by rw [List.take_length]⟩ (by repeat (first | exact Fr.sub_nil _ | refine Fr.sub_cons rfl ?_)) rfl rfl ?_
 intro k ⟨hk,ht⟩ ih
 by_cases hk0 : 0 < k
 ·obtain ⟨z,hz⟩ : ∃ z,l[k - 1]? = some z:=⟨_,List.getElem?_eq_getElem (show k - 1 < l.length by omega)⟩
  have side : ∀ y,l[k - 1]? = some y → y = z:=fun y hy=>by rw [hz] at hy;exact (Option.some.inj hy).symm
  refine j_nf [_,_,_,_,_,_] rfl (j_run it 3 rfl (by simp) ?_)
  refine j_split_dec (t:=8) rfl (fun h1=>?_) (fun h1=>by exfalso;omega)
  refine j_run it 3 rfl ⟨⟨by omega,by omega⟩,trivial,trivial,trivial⟩ ?_
  refine j_gstep rfl rfl (x_idx 0 ((k) - 1) rfl rfl rfl sl29 (by omega) (by omega) fun z1 hz1 b1 o1=>?_)
  refine j_gstep rfl rfl (x_ld_nat 0 rfl rfl ld76 fun ⟨r1,r2⟩=>?_)
  refine j_run it 2 rfl (by simp) ?_
  refine j_nf [_,_,_,_,_] rfl (j_if rfl rfl (fun h2=>?_) (fun h2=>?_))
  ·have e:=side z1 hz1
   have hz0 : z1 = 0:=by omega
   subst hz0
   refine j_nf [_,_,_,_,_] rfl (j_run it 3 rfl ⟨trivial,⟨by omega,by omega⟩,trivial,trivial⟩ ?_)
   refine j_nfn 2 [.lp [1,1,0,0,0],.blk 0,.c [1,1,1]] rfl ?_
   refine j_to [1] (by exact fcc rfl (fii rfl (by omega) (fzz _))) rfl rfl (ih (k - 1) (by omega) ⟨by omega,by rw [← trim_take_zero hz1];rw [show k - 1 + 1 = k by omega];exact ht⟩)
  ·refine j_nfn 1 [.c [1,1,1]] rfl ?_
   refine j_to [1] (by exact fra rfl) rfl rfl (done k hk (by rw [← ht];have:=trim_take_ne hz1 (by omega);rwa [show k - 1 + 1 = k by omega] at this))
 ·refine j_nf [_,_,_,_,_,_] rfl (j_run it 3 rfl (by simp) ?_)
  refine j_split_dec (t:=8) rfl (fun h1=>by exfalso;omega) (fun h1=>?_)
  refine j_run it 7 rfl (by simp) ?_
  refine j_nf [_,_,_,_,_] rfl ?_
  refine j_false rfl rfl ?_
  refine j_nfn 1 [.c [1,1,1]] rfl ?_
  refine j_to [0] (by exact fra rfl) rfl rfl (done k hk (by rw [← ht,show k = 0 by omega];rfl))
theorem val_two' (n : Nat) : val [n % 4294967296,n / 4294967296] = n:=by simp only [val];omega
theorem S_codewrightref01_Of {n : Nat} (hn : n < 18446744073709551616) : Ctr Try.prog 14 [.int .u64 n] [] [] (Sv U32 (limbs n)):=by
 refine Ctr_of_j' (F:=F_codewrightref01_Of) rfl fun C=>?_
 refine j_nf [_,_] rfl (j_run it 1 rfl (by simp) ?_)
 refine j_nf [_,_] rfl (j_run it 6 rfl ⟨⟨by omega,by omega⟩,⟨by omega,by omega,by omega,by omega⟩,trivial,⟨by omega,by omega⟩,⟨by omega,by omega⟩,trivial,trivial⟩ ?_)
 refine j_step rfl (x_lit sl29 zo29e rfl rfl rfl rfl (by decide) (by decide) rfl fun b1=>?_)
 refine j_pub_made (n:=2) (kd:=IntKind.u32) 4 [((n) % 4294967296),((n) / 4294967296)] 0 rfl rfl (by first | (simp [InR];done) | (simp only [InR,List.mem_cons,List.not_mem_nil,or_false,forall_eq_or_imp,forall_eq];omega)) (by decide) (by decide) ?_
 refine j_step rfl (x_call [0] rfl (S_codewrightref01_Trim) rfl ?_)
 rintro _ _ _ ⟨pa1,ca1,rfl,rfl,rfl⟩
 simp only [List.cons_append,List.nil_append]
 refine j_run it 1 rfl (by simp) ?_
 refine j_nf [_] rfl ?_
 rw [trim_eq (l:=[n % 4294967296,n / 4294967296]) (by simp;omega),val_two']
 refine j_giv [0] rfl rfl rfl ⟨_,_,rfl,rfl,rfl⟩
theorem S_codewrightref01_limb {pa : Option Addr} {n ca i : Nat} {l : List Nat} : Ctr Try.prog 94 [.slice pa n ca,.int .i64 i] [] [slF U32 pa n ca l] (Rv (.int .u64 (l.getD i 0 : Nat)) []):=by
 refine Ctr_of_j' (F:=F_codewrightref01_limb) rfl fun C=>?_
 refine j_len 0 rfl fun hn hb hc=>?_
 subst hn
 by_cases hi : i < l.length
 ·refine j_nf [_,_] rfl (j_run it 1 rfl (by simp) ?_)
  refine j_nf [_,_,_] rfl (j_run it 2 rfl (by simp) ?_)
  refine j_step rfl (x_len sl29 rfl ?_)
  refine j_run it 1 rfl (by simp) ?_
  refine j_nf [_,_] rfl (j_if rfl rfl (fun h1=>?_) (fun h1=>by exfalso;omega))
  refine j_nf [_,_,_] rfl (j_run it 2 rfl (by simp) ?_)
  refine j_step rfl (x_idx 0 (i) rfl rfl rfl sl29 rfl (by omega) fun z1 hz1 b1 o1=>?_)
  refine j_step rfl (x_ld_nat 0 rfl rfl ld76 fun ⟨r1,r2⟩=>?_)
  refine j_run it 2 rfl ⟨trivial,⟨by omega,by omega⟩,trivial⟩ ?_
  refine j_nf [_,_] rfl ?_
  have e : l.getD i 0 = z1:=by rw [List.getD,hz1];rfl
  refine j_giv [] rfl rfl rfl ⟨by rw [e];rfl,rfl,rfl⟩
 ·refine j_nf [_,_] rfl (j_run it 1 rfl (by simp) ?_)
  refine j_nf [_,_,_] rfl (j_run it 2 rfl (by simp) ?_)
  refine j_step rfl (x_len sl29 rfl ?_)
  refine j_run it 1 rfl (by simp) ?_
  refine j_nf [_,_] rfl (j_if rfl rfl (fun h1=>by exfalso;omega) (fun h1=>?_))
  refine j_nf [_,_] rfl (j_run it 1 rfl (by simp) ?_)
  refine j_nf [_] rfl ?_
  have e : l.getD i 0 = 0:=by rw [List.getD,List.getElem?_eq_none (by omega)];rfl
  refine j_giv [] rfl rfl rfl ⟨by rw [e];rfl,rfl,rfl⟩
theorem S_codewrightref01_Zero {pa : Option Addr} {n ca : Nat} {l : List Nat} : Ctr Try.prog 18 [.slice pa n ca] [] [slF U32 pa n ca l] (Rv (.bool (decide (((trim l).length : Int) = 0))) []):=by
 refine Ctr_of_j' (F:=F_codewrightref01_Zero) rfl fun C=>?_
 refine j_nf [_,_] rfl (j_run it 1 rfl (by simp) ?_)
 refine j_nf [_,_] rfl (j_run it 1 rfl (by simp) ?_)
 refine j_step rfl (x_call [0] rfl (S_codewrightref01_Trim) rfl ?_)
 rintro _ _ _ ⟨pa1,ca1,rfl,rfl,rfl⟩
 simp only [List.cons_append,List.nil_append]
 refine j_step rfl (x_len sl29 rfl ?_)
 refine j_run it 2 rfl (by simp) ?_
 refine j_nf [_] rfl ?_
 refine j_giv [] rfl rfl rfl ⟨rfl,rfl,rfl⟩
theorem take_eq_step {a b : List Nat} {k : Nat} (h : a.take k = b.take k) (ha : k < a.length) (hb : k < b.length) (e : a.getD k default = b.getD k default) : a.take (k + 1) = b.take (k + 1):=by
 rw [List.take_add_one,List.take_add_one,h,List.getElem?_eq_getElem ha,List.getElem?_eq_getElem hb]
 rw [List.getD,List.getD,List.getElem?_eq_getElem ha,List.getElem?_eq_getElem hb] at e
 simp only [Option.getD_some] at e
 rw [e]
theorem S_codewrightref01_Same {pa pb : Option Addr} {n m ca cb : Nat} {a b : List Nat} : Ctr Try.prog 16 [.slice pa n ca,.slice pb m cb] [] [slF U32 pa n ca a,slF U32 pb m cb b] (Rv (.bool (decide (a = b))) []):=by
 refine Ctr_of_j' (F:=F_codewrightref01_Same) rfl fun C=>?_
 refine j_len 0 rfl fun hn hba _=>?_
 refine j_len 1 rfl fun hm _ _=>?_
 subst hn;subst hm
 have hba' : a.length * 4 ≤ 140737488355328:=hba
 by_cases hl : a.length = b.length
 ·refine j_nf [_,_] rfl ?_
  refine j_run it 1 rfl (by simp) ?_
  refine j_nf [_,_,_] rfl ?_
  refine j_run it 1 rfl (by simp) ?_
  refine j_step rfl (x_len sl29 rfl ?_)
  refine j_run it 1 rfl (by simp) ?_
  refine j_step rfl (x_len sl29 rfl ?_)
  refine j_run it 1 rfl (by simp) ?_
  refine j_nf [_,_] rfl ?_
  refine j_ifn rfl rfl (fun h1=>by exfalso;omega) (fun h1=>?_)
  refine j_nf [_,_,_] rfl ?_
  refine j_run it 1 rfl (by simp) ?_
  refine j_nf [_,_,_] rfl ?_
  refine j_loopN (X:=Nat) (fun k=>[(0,.slice pa a.length ca),(1,.slice pb b.length cb),(5,.int .i64 k)]) (fun _=>[]) (fun _=>[slF U32 pa a.length ca a,slF U32 pb b.length cb b]) (fun k=>k ≤ a.length ∧ a.take k = b.take k) (fun k=>a.length - k) 0 [0,1] rfl ⟨Nat.zero_le _,by simp⟩ (by repeat (first | exact Fr.sub_nil _ | refine Fr.sub_cons rfl ?_)) rfl rfl ?_
  intro k ⟨hk,ht⟩ ih
  by_cases hkl : k < a.length
  ·refine j_nf [_,_,_,_,_,_] rfl ?_
   refine j_run it 2 rfl (by simp) ?_
   refine j_step rfl (x_len sl29 rfl ?_)
   refine j_run it 1 rfl (by simp) ?_
   refine j_nf [_,_,_,_,_] rfl ?_
   refine j_if rfl rfl (fun h2=>?_) (fun h2=>by exfalso;omega)
   refine j_nf [_,_,_,_,_,_,_] rfl ?_
   (apply j_drawK it mx 9;(· rfl);(· rfl))
   (apply lxk_run 2;(· rfl);(· simp))
   (apply lxk_pt;(· rfl);(· exact d_x fun _=>x_idx 0 (k) rfl rfl rfl sl29 rfl (by omega) fun z1 hz1 b1 o1=>(dk_ptD default hz1 0 rfl));intro b1 o1)
   (apply lxk_eq;(· rfl);(· exact d_x fun _=>x_ld_nat 0 rfl rfl ld76 fun ⟨r1,r2⟩=>dk_eq))
   (apply lxk_run 2;(· rfl);(· simp))
   (apply lxk_pt;(· rfl);(· exact d_x fun _=>x_idx 1 (k) rfl rfl rfl sl29 rfl (by omega) fun z1 hz1 b2 o2=>(dk_ptD default hz1 0 rfl));intro b2 o2)
   (apply lxk_eq;(· rfl);(· exact d_x fun _=>x_ld_nat 0 rfl rfl ld76 fun ⟨r1,r2⟩=>dk_eq))
   (apply lxk_run 1;(· rfl);(· simp))
   refine lxk_end rfl ?_
   simp only [List.map_cons,List.map_nil,List.cons_append,List.nil_append]
   refine j_nf [_,_,_,_,_,_] rfl ?_
   refine j_ifn rfl rfl (fun h3=>?_) (fun h3=>?_)
   ·refine j_nf [_,_,_,_,_,_,_] rfl ?_
    refine j_run it 1 rfl (by simp) ?_
    refine j_nf [_,_,_,_,_,_] rfl ?_
    refine j_giv [] rfl rfl rfl ⟨by
     rw [decide_eq_false (fun e=>by subst e;omega)];rfl,rfl,rfl⟩
   ·refine j_nf [_,_,_,_] rfl ?_
    refine j_run it 3 rfl ⟨trivial,⟨by omega,by omega⟩,trivial,trivial⟩ ?_
    refine j_nfn 1 [.lp (pL 116),.blk 0,.c [1,1,1]] rfl ?_
    refine j_to [2,3] (by exact fra rfl) rfl rfl (ih (k + 1) (by omega) ⟨by omega,take_eq_step ht hkl (by omega) (by omega)⟩)
  ·refine j_nf [_,_,_,_,_,_] rfl ?_
   refine j_run it 2 rfl (by simp) ?_
   refine j_step rfl (x_len sl29 rfl ?_)
   refine j_run it 1 rfl (by simp) ?_
   refine j_nf [_,_,_,_,_] rfl ?_
   refine j_if rfl rfl (fun h2=>by exfalso;omega) (fun h2=>?_)
   refine j_nf [_,_] rfl ?_
   refine j_run it 1 rfl (by simp) ?_
   refine j_nf [_] rfl ?_
   have e : a = b:=by
    have e1 : k = a.length:=by omega
    rw [e1,List.take_length,hl,List.take_length] at ht
    exact ht
   refine j_giv [] rfl rfl rfl ⟨by rw [decide_eq_true e];rfl,rfl,rfl⟩
 ·refine j_nf [_,_] rfl ?_
  refine j_run it 1 rfl (by simp) ?_
  refine j_nf [_,_,_] rfl ?_
  refine j_run it 1 rfl (by simp) ?_
  refine j_step rfl (x_len sl29 rfl ?_)
  refine j_run it 1 rfl (by simp) ?_
  refine j_step rfl (x_len sl29 rfl ?_)
  refine j_run it 1 rfl (by simp) ?_
  refine j_nf [_,_] rfl ?_
  refine j_ifn rfl rfl (fun h1=>?_) (fun h1=>by exfalso;omega)
  refine j_nf [_,_,_] rfl ?_
  refine j_run it 1 rfl (by simp) ?_
  refine j_nf [_,_] rfl ?_
  refine j_giv [] rfl rfl rfl ⟨by rw [decide_eq_false (fun e=>hl (by rw [e]))];rfl,rfl,rfl⟩
theorem S_nat_Trim {pa : Option Addr} {n ca : Nat} {l : List Nat} : Ctr Try.prog 49 [.slice pa n ca] [] [slF U32 pa n ca l] (Sv U32 (trim l)):=by
 refine Ctr_of_j' (F:=F_nat_Trim) rfl fun C=>?_
 refine j_len 0 rfl fun hn hb hc=>?_
 subst hn
 have hb' : l.length * 4 ≤ 140737488355328:=hb
 have:=trim_length_le l
 refine j_nf [_,_] rfl (j_run it 1 rfl (by simp) ?_)
 refine j_nf [_,_] rfl (j_run it 1 rfl (by simp) ?_)
 refine j_step rfl (x_call [0] rfl (S_nat_short) rfl ?_)
 rintro _ _ _ ⟨rfl,rfl,rfl⟩
 simp only [List.cons_append,List.nil_append]
 refine j_nil el29 ?_
 refine j_step rfl (x_app_sl 0 0 rfl rfl rfl rfl sl29 zo29e rfl (by first | exact GrOk.nil _ | assumption | exact .inr ⟨_,rfl,Nat.le_refl _,by omega,rfl⟩) (by omega) _ by29e (by omega) fun bo1 cap1 cs1 vss1 hg1 ht1=>?_)
 refine j_run it 1 rfl (by simp) ?_
 refine j_nf [_] rfl ?_
 simp only [Nat.zero_add] at hg1 ht1 ⊢
 refine j_pub 0 0 rfl rfl hg1 (by simpa using ht1) rfl (by show _ * 4 ≤ _;omega) ?_
 refine j_giv [0] rfl rfl rfl ⟨_,_,rfl,rfl,rfl⟩
theorem val_two (n : Nat) : val [n % 4294967296,n / 4294967296] = n:=by simp only [val];omega
theorem S_nat_Of {n : Nat} (hn : n < 18446744073709551616) : Ctr Try.prog 65 [.int .u64 n] [] [] (Sv U32 (limbs n)):=by
 refine Ctr_of_j' (F:=F_nat_Of) rfl fun C=>?_
 refine j_nf [_,_] rfl (j_run it 1 rfl (by simp) ?_)
 refine j_nf [_,_] rfl (j_run it 1 rfl (by simp) ?_)
 refine j_step rfl (x_conv_u32 it rfl rfl rfl ?_)
 refine j_run it 3 rfl ⟨⟨by omega,by omega⟩,trivial,trivial,trivial⟩ ?_
 refine j_step rfl (x_lit sl29 zo29e rfl rfl rfl rfl (by decide) (by decide) rfl fun b1=>?_)
 refine j_pub_made (n:=2) (kd:=.u32) 4 [n % 4294967296,n / 4294967296] 0 rfl rfl (by simp [InR];omega) (by decide) (by decide) ?_
 refine j_step rfl (x_call [0] rfl (S_nat_Trim) rfl ?_)
 rintro _ _ _ ⟨pa1,ca1,rfl,rfl,rfl⟩
 simp only [List.cons_append,List.nil_append]
 refine j_run it 1 rfl (by simp) ?_
 refine j_nf [_] rfl ?_
 rw [trim_eq (l:=[n % 4294967296,n / 4294967296]) (by simp;omega),val_two]
 refine j_giv [0] rfl rfl rfl ⟨_,_,rfl,rfl,rfl⟩
theorem S_nat_digit {pa : Option Addr} {n ca : Nat} {a : List Nat} {b : Nat} (hb : 0 < b) (hbB : b < 4294967296) :
  Ctr Try.prog 77 [.slice pa n ca,.int .u32 b] [] [slF U32 pa n ca a]
   (fun v Φ β=>∃ pa ca,v = .tuple #[.slice pa (limbs (val a / b)).length ca,.int .u32 (val a % b : Nat)] ∧ Φ = [slF U32 pa (limbs (val a / b)).length ca (limbs (val a / b))] ∧ β = []):=by
 refine Ctr_of_j' (F:=F_nat_digit) rfl fun C=>?_
 refine j_len 0 rfl fun hn hby _=>?_
 subst hn
 have hby' : a.length * 4 ≤ 140737488355328:=hby
 refine j_range 0 rfl fun hra=>?_
 simp only [InR] at hra
 refine j_nf [_,_] rfl (j_run it 2 rfl (by simp) ?_)
 refine j_nf [_,_] rfl (j_run it 1 rfl (by simp) ?_)
 refine j_step rfl (x_len sl29 rfl ?_)
 refine j_step rfl (x_make_nat (a.length) _ rfl rfl sl29 zo29e by29e (by omega) (by omega) (by omega) fun b1=>?_)
 refine j_run it 1 rfl (by simp) ?_
 refine j_nf [_,_] rfl (j_run it 1 rfl (by simp) ?_)
 refine j_nf [_,_,_] rfl (j_run it 1 rfl (by simp) ?_)
 refine j_step rfl (x_len sl29 rfl ?_)
 refine j_run it 2 rfl ⟨trivial,⟨by omega,by omega⟩,trivial⟩ ?_
 refine j_nf [_,_,_] rfl ?_
 refine j_loopN (X:=Nat × Nat × List Nat) (fun x=>[(0,.slice pa a.length ca),(1,.int .u32 b),(6,.slice (some ⟨b1,0,none⟩) a.length a.length),(7,.int .u64 x.2.1),(8,.int .i64 ((x.1 : Int) - 1))])
  (fun x=>[(some b1,76,natCells .u32 x.2.2)]) (fun _=>[slF U32 pa a.length ca a])
  (fun x=>x.1 ≤ a.length ∧ x.2.2.length = a.length ∧ x.2.1 < b ∧ (∀ y ∈ x.2.2,y < 4294967296) ∧ val (a.drop x.1) = val (x.2.2.drop x.1) * b + x.2.1)
  (fun x=>x.1) (a.length,0,List.replicate a.length 0) [0] rfl ⟨Nat.le_refl _,by simp,hb,rep_lt (by decide),by simp [val]⟩ (by repeat (first | exact Fr.sub_nil _ | refine Fr.sub_cons rfl ?_)) rfl rfl ?_
 rintro ⟨k,r,out⟩ ⟨hk,hl,hr,ho,hv⟩ ih
 simp only at hk hl hr ho hv ih ⊢
 by_cases hk0 : 0 < k
 ·refine j_nf [_,_,_,_,_,_] rfl (j_run it 2 rfl (by simp) ?_)
  refine j_nf [_,_,_,_,_] rfl (j_if rfl rfl (fun h1=>?_) (fun h1=>by exfalso;omega))
  refine j_nf [_,_,_,_,_,_,_] rfl (j_run it 4 rfl ⟨trivial,trivial,⟨by omega,by omega⟩,trivial,trivial⟩ ?_)
  refine j_step rfl (x_idx 0 ((k) - 1) rfl rfl rfl sl29 (by omega) (by omega) fun z1 hz1 b2 o1=>?_)
  refine j_step rfl (x_ld_nat 0 rfl rfl ld76 fun ⟨r1,r2⟩=>?_)
  refine j_run it 1 rfl ⟨⟨by omega,by omega⟩,trivial⟩ ?_
  refine j_step rfl (x_or_shl (r) (z1) rfl rfl (by first | rfl | omega) (by first | rfl | omega) (by omega) (by omega) ?_)
  refine j_run it 1 rfl (by simp) ?_
  refine j_nf [_,_,_,_,_,_,_] rfl (j_run it 6 rfl ⟨⟨by omega,by omega,by omega,by omega⟩,⟨by omega,by omega⟩,trivial,trivial,trivial,trivial,trivial⟩ ?_)
  refine j_step rfl (x_conv_u32 it rfl rfl rfl ?_)
  refine j_step rfl (x_idx_own ((k) - 1) ((k) - 1) rfl rfl sl29 (by omega) (by omega) (Nat.mul_one _) ?_)
  refine j_step rfl (x_bst_nat 0 (((r * 4294967296 + z1) / (b)) % 4294967296) rfl rfl rfl ld76 (by first | rfl | omega) (by first | omega | (simp;omega)) ?_)
  refine j_nf [_,_,_,_,_,_] rfl (j_run it 5 rfl ⟨trivial,⟨by omega,by omega⟩,⟨by omega,by omega⟩,trivial,trivial,trivial⟩ ?_)
  refine j_nf [_,_,_,_] rfl (j_run it 3 rfl ⟨trivial,⟨by omega,by omega⟩,trivial,trivial⟩ ?_)
  refine j_nfn 1 [.lp (pL 244),.blk 0,.c [1,1,1,1]] rfl ?_
  have hz:=(hra z1 (List.mem_of_getElem? hz1)).2
  have hq:=div_lt' (x:=z1) hr (by omega)
  refine j_to [1] (by exact fcc rfl (fcc rfl (fcc rfl (fcc rfl (fii rfl (by omega) (fzz _)))))) rfl rfl (ih (k - 1,(r * 4294967296 + z1) % b,out.set (k - 1) ((r * 4294967296 + z1) / b % 4294967296)) (by simp only;omega) ⟨by simp only;omega,by simpa using hl,Nat.mod_lt _ hb,set_lt ho (by omega),by
   simp only
   rw [Nat.mod_eq_of_lt hq]
   have e : k - 1 + 1 = k:=by omega
   have hz1' : a[k - 1]? = some z1:=by first | exact hz1 | simpa using hz1
   rw [val_drop hz1',val_set_drop (by omega),e]
   exact div_step hv hb⟩)
 ·refine j_nf [_,_,_,_,_,_] rfl (j_run it 2 rfl (by simp) ?_)
  refine j_nf [_,_,_,_,_] rfl (j_if rfl rfl (fun h1=>by exfalso;omega) (fun h1=>?_))
  refine j_nf [_,_] rfl (j_run it 1 rfl (by simp) ?_)
  refine j_pub32 (n:=a.length) 0 rfl (by simp [*]) (by first | assumption | exact set_all (by assumption) (by omega) | (simp;omega)) (by omega) ?_
  refine j_step rfl (x_call [0] rfl (S_nat_short) rfl ?_)
  rintro _ _ _ ⟨rfl,rfl,rfl⟩
  simp only [List.cons_append,List.nil_append]
  refine j_run it 4 rfl ⟨trivial,trivial,⟨by omega,by omega⟩,trivial,trivial⟩ ?_
  refine j_nf [_] rfl ?_
  have e : k = 0:=by omega
  subst e
  simp only [List.drop_zero] at hv
  have h1 : val a / b = val out:=by rw [hv,Nat.mul_comm,Nat.mul_add_div hb,Nat.div_eq_of_lt hr,Nat.add_zero]
  have h2 : val a % b = r:=by rw [hv,Nat.mul_comm,Nat.mul_add_mod,Nat.mod_eq_of_lt hr]
  rw [trim_eq ho,← h1]
  refine j_giv [0] rfl rfl rfl ⟨_,_,by rw [h2];rfl,rfl,rfl⟩
theorem S_bits_Len32 {x : Nat} (hx : x < 4294967296) : Ctr Try.prog 96 [.int .u32 x] [] [] (Rv (.int .i64 (blen x)) []):=by
 refine Ctr_of_j' (F:=F_bits_Len32) rfl fun C=>?_
 have last : ∀ (y c : Nat),y < 256 → c ≤ 24 → c + blen y = blen x → J F_bits_Len32 C [.c [1,1,1]] [(0,.int .u32 y),(2,.int .i64 c)] [] [] (Gives C (Rv (.int .i64 (blen x)) [])):=by
  intro y c hy hc he
  refine j_nf [_,_] rfl (j_run it 3 rfl ⟨⟨by omega,by omega⟩,trivial,trivial,trivial⟩ ?_)
  refine j_step rfl (x_char y rfl rfl rfl rfl (tab_get (by decide +kernel) hy) ?_)
  have e : (UInt8.ofNat (blen y)).toNat = blen y:=by
   have:=blen_le (n:=y) (k:=8) (by simpa using hy)
   simp only [UInt8.toNat_ofNat'];omega
  rw [e]
  have h8:=blen_le (n:=y) (k:=8) (by simpa using hy)
  refine j_run it 3 rfl ⟨trivial,⟨by omega,by omega⟩,⟨by omega,by omega⟩,trivial⟩ ?_
  refine j_nf [_] rfl ?_
  refine j_giv [] rfl rfl rfl ⟨by rw [← he];rfl,rfl,rfl⟩
 have mid : ∀ (y c : Nat),y < 65536 → c ≤ 16 → c + blen y = blen x → J F_bits_Len32 C [.c [1,1]] [(0,.int .u32 y),(2,.int .i64 c)] [] [] (Gives C (Rv (.int .i64 (blen x)) [])):=by
  intro y c hy hc he
  by_cases h : 256 ≤ y
  ·refine j_nf [_,_,_] rfl (j_run it 2 rfl (by simp) ?_)
   refine j_nf [_,_] rfl (j_if rfl rfl (fun h1=>?_) (fun h1=>by exfalso;omega))
   refine j_nf [_,_,_] rfl (j_run it 1 rfl (by simp) ?_)
   refine j_step rfl (x_shr_nat (y) 8 rfl rfl (by first | rfl | omega) (by first | rfl | omega) (by first | decide | (simp only [IntKind.bits];omega)) ?_)
   refine j_run it 1 rfl (by simp) ?_
   refine j_nf [_,_] rfl (j_run it 3 rfl ⟨trivial,⟨by omega,by omega⟩,trivial,trivial⟩ ?_)
   refine j_nfn 1 [.c [1,1,1]] rfl ?_
   refine j_to [] (by exact fra rfl) rfl rfl (last (y / 2 ^ 8) (c + 8) (by omega) (by omega) (by rw [← he,blen_div 8 y (by omega)];omega))
  ·refine j_nf [_,_,_] rfl (j_run it 2 rfl (by simp) ?_)
   refine j_nf [_,_] rfl (j_if rfl rfl (fun h1=>by exfalso;omega) (fun h1=>?_))
   refine j_nfn 1 [.c [1,1,1]] rfl ?_
   refine j_to [] (by exact fra rfl) rfl rfl (last y c (by omega) (by omega) he)
 by_cases h : 65536 ≤ x
 ·refine j_nf [_,_] rfl (j_run it 1 rfl (by simp) ?_)
  refine j_nf [_,_,_] rfl (j_run it 2 rfl (by simp) ?_)
  refine j_nf [_,_] rfl (j_if rfl rfl (fun h1=>?_) (fun h1=>by exfalso;omega))
  refine j_nf [_,_,_] rfl (j_run it 1 rfl (by simp) ?_)
  refine j_step rfl (x_shr_nat (x) 16 rfl rfl (by first | rfl | omega) (by first | rfl | omega) (by first | decide | (simp only [IntKind.bits];omega)) ?_)
  refine j_run it 1 rfl (by simp) ?_
  refine j_nf [_,_] rfl (j_run it 1 rfl (by simp) ?_)
  refine j_nfn 1 [.c [1,1]] rfl ?_
  refine j_to [] (by exact fra rfl) rfl rfl (mid (x / 2 ^ 16) 16 (by omega) (by omega) (by rw [blen_div 16 x (by omega)];omega))
 ·refine j_nf [_,_] rfl (j_run it 1 rfl (by simp) ?_)
  refine j_nf [_,_,_] rfl (j_run it 2 rfl (by simp) ?_)
  refine j_nf [_,_] rfl (j_if rfl rfl (fun h1=>by exfalso;omega) (fun h1=>?_))
  refine j_nfn 1 [.c [1,1]] rfl ?_
  refine j_to [] (by exact fra rfl) rfl rfl (mid x 0 (by omega) (by omega) (by omega))
theorem S_nat_Bits {pa : Option Addr} {n ca : Nat} {l : List Nat} : Ctr Try.prog 70 [.slice pa n ca] [] [slF U32 pa n ca l] (Rv (.int .i64 (bitsL l)) []):=by
 refine Ctr_of_j' (F:=F_nat_Bits) rfl fun C=>?_
 refine j_len 0 rfl fun hn hb _=>?_
 subst hn
 have hb' : l.length * 4 ≤ 140737488355328:=hb
 refine j_range 0 rfl fun hr=>?_
 simp only [InR] at hr
 have hl:=trim_length_le l
 by_cases h0 : (trim l).length = 0
 ·refine j_nf [_,_] rfl (j_run it 1 rfl (by simp) ?_)
  refine j_nf [_,_] rfl (j_run it 1 rfl (by simp) ?_)
  refine j_step rfl (x_call [0] rfl (S_nat_short) rfl ?_)
  rintro _ _ _ ⟨rfl,rfl,rfl⟩
  simp only [List.cons_append,List.nil_append]
  refine j_run it 1 rfl (by simp) ?_
  refine j_nf [_,_,_] rfl (j_run it 1 rfl (by simp) ?_)
  refine j_step rfl (x_len sl29 rfl ?_)
  refine j_run it 1 rfl (by simp) ?_
  refine j_nf [_,_] rfl (j_if rfl rfl (fun h1=>?_) (fun h1=>by exfalso;omega))
  refine j_nf [_,_,_] rfl (j_run it 1 rfl (by simp) ?_)
  refine j_nf [_,_] rfl ?_
  refine j_giv [] rfl rfl rfl ⟨by rw [bitsL_nil h0];rfl,rfl,rfl⟩
 ·have side : ∀ z,(trim l)[(trim l).length - 1]? = some z → z < 4294967296:=fun z hz=>by have:=hr z (mem_trim (List.mem_of_getElem? hz));omega
  have side2 : ∀ z,(trim l)[(trim l).length - 1]? = some z → blen z ≤ 32:=fun z hz=>blen_le (by have:=side z hz;simpa using this)
  refine j_nf [_,_] rfl (j_run it 1 rfl (by simp) ?_)
  refine j_nf [_,_] rfl (j_run it 1 rfl (by simp) ?_)
  refine j_step rfl (x_call [0] rfl (S_nat_short) rfl ?_)
  rintro _ _ _ ⟨rfl,rfl,rfl⟩
  simp only [List.cons_append,List.nil_append]
  refine j_run it 1 rfl (by simp) ?_
  refine j_nf [_,_,_] rfl (j_run it 1 rfl (by simp) ?_)
  refine j_step rfl (x_len sl29 rfl ?_)
  refine j_run it 1 rfl (by simp) ?_
  refine j_nf [_,_] rfl (j_if rfl rfl (fun h1=>by exfalso;omega) (fun h1=>?_))
  refine j_nf [_,_] rfl (j_run it 1 rfl (by simp) ?_)
  refine j_step rfl (x_len sl29 rfl ?_)
  refine j_run it 4 rfl ⟨trivial,trivial,⟨by omega,by omega⟩,⟨by omega,by omega⟩,trivial⟩ ?_
  refine j_step rfl (x_len sl29 rfl ?_)
  refine j_run it 1 rfl ⟨⟨by omega,by omega⟩,trivial⟩ ?_
  refine j_step rfl (x_idx 0 (((trim l).length) - 1) rfl rfl rfl sl29 (by omega) (by omega) fun z1 hz1 b1 o1=>?_)
  refine j_step rfl (x_ld_nat 0 rfl rfl ld76 fun ⟨r1,r2⟩=>?_)
  refine j_step rfl (x_call [] rfl (S_bits_Len32 (by omega)) rfl ?_)
  rintro _ _ _ ⟨rfl,rfl,rfl⟩
  simp only [List.cons_append,List.nil_append] --ok
  have hs2:=side2 z1 hz1
  refine j_run it 2 rfl ⟨trivial,⟨by omega,by omega⟩,trivial⟩ ?_
  refine j_nf [_] rfl ?_
  refine j_giv [] rfl rfl rfl ⟨by
   rw [bitsL_top hz1]
   show Value.int .i64 _ = Value.int .i64 _
   congr 1;omega,rfl,rfl⟩
theorem S_codewrightref01_Add {pa pb : Option Addr} {n m ca cb : Nat} {a b : List Nat} (ha : a.length ≤ 1099511627776) (hb : b.length ≤ 1099511627776) :
  Ctr Try.prog 97 [.slice pa n ca,.slice pb m cb] [] [slF U32 pa n ca a,slF U32 pb m cb b] (Sv U32 (limbs (val a + val b))):=by
 refine Ctr_of_j' (F:=F_codewrightref01_Add) rfl fun C=>?_
 refine j_len 0 rfl fun hn _ _=>?_
 refine j_len 1 rfl fun hm _ _=>?_
 subst hn;subst hm
 refine j_range 0 rfl fun hra=>?_
 refine j_range 1 rfl fun hrb=>?_
 have hra' : ∀ x ∈ a,x < 4294967296:=fun x hx=>by have:=hra x hx;simp only [InR] at this;omega
 have hrb' : ∀ x ∈ b,x < 4294967296:=fun x hx=>by have:=hrb x hx;simp only [InR] at this;omega
 obtain ⟨M,hM1,hM2,hM3⟩ : ∃ M,a.length ≤ M ∧ b.length ≤ M ∧ (M = a.length ∨ M = b.length):=⟨max a.length b.length,by omega,by omega,by omega⟩
 refine j_nf [_,_] rfl (j_run it 1 rfl (by simp) ?_)
 refine j_nf [_,_] rfl (j_run it 1 rfl (by simp) ?_)
 refine j_nf [_,_] rfl (j_run it 1 rfl (by simp) ?_)
 refine j_nf [_,_,_] rfl (j_run it 1 rfl (by simp) ?_)
 refine j_nf [_,_,_] rfl ?_
 refine j_nil 76 ?_
 refine j_loopN (X:=Nat × Nat × List Nat × Option Nat × Nat × List Value) (fun x=>[(0,.slice pa a.length ca),(1,.slice pb b.length cb),(5,.slice (ad x.2.2.2.1) x.1 x.2.2.2.2.1),(6,.int .u64 x.2.1),(7,.int .i64 x.1)])
  (fun x=>[(x.2.2.2.1,76,x.2.2.2.2.2)]) (fun _=>[slF U32 pa a.length ca a,slF U32 pb b.length cb b])
  (fun x=>(x.1 ≤ M + 1 ∧ (x.1 = M + 1 → x.2.1 = 0) ∧ x.2.1 ≤ 1 ∧ x.2.2.1.length = x.1) ∧ (∀ y ∈ x.2.2.1,y < 4294967296) ∧ val x.2.2.1 + 4294967296 ^ x.1 * x.2.1 = val (a.take x.1) + val (b.take x.1) ∧ GrOk x.2.2.2.1 x.1 x.2.2.2.2.1 1 x.2.2.2.2.2 ∧ x.2.2.2.2.2.take x.1 = natCells .u32 x.2.2.1)
  (fun x=>M + 1 - x.1) (0,0,[],none,0,[]) [0,1] rfl ⟨⟨Nat.zero_le _,fun h=>rfl,Nat.zero_le _,rfl⟩,(fun y hy=>by cases hy),by simp [val],GrOk.nil _,rfl⟩ (by repeat (first | exact Fr.sub_nil _ | refine Fr.sub_cons rfl ?_)) rfl rfl ?_
 rintro ⟨k,c,out,bo,cap,cs⟩ ⟨⟨hk,hkc,hc,hl⟩,ho,hv,hg,ht⟩ ih
 simp only at hk hkc hc hl ho hv hg ht ih ⊢
 have h1:=getD_lt (k:=k) hra' (by decide)
 have h2:=getD_lt (k:=k) hrb' (by decide)
 have step : k ≤ M → (k < a.length ∨ k < b.length ∨ 0 < c) → J F_codewrightref01_Add C [.c (pL 978),.c (pL 979),.lp (pL 244),.blk 0,.c [1,1,1,1]] [(0,.slice pa a.length ca),(1,.slice pb b.length cb),(5,.slice (ad bo) k cap),(6,.int .u64 c),(7,.int .i64 k)] [(bo,76,cs)] [slF U32 pa a.length ca a,slF U32 pb b.length cb b] (Gives C (Sv U32 (limbs (val a + val b)))):=by
  intro hkM hor
  refine j_nf [_,_,_,_,_,_,_] rfl (j_run it 2 rfl (by simp) ?_)
  refine j_step rfl (x_call [0] rfl (S_codewrightref01_limb) rfl ?_)
  rintro _ _ _ ⟨rfl,rfl,rfl⟩
  simp only [List.cons_append,List.nil_append]
  refine j_run it 2 rfl (by simp) ?_
  refine j_step rfl (x_call [1] rfl (S_codewrightref01_limb) rfl ?_)
  rintro _ _ _ ⟨rfl,rfl,rfl⟩
  simp only [List.cons_append,List.nil_append]
  refine j_run it 4 rfl ⟨trivial,⟨by omega,by omega⟩,trivial,⟨by omega,by omega⟩,trivial⟩ ?_
  refine j_nf [_,_,_,_,_,_,_] rfl (j_run it 4 rfl ⟨⟨by omega,by omega⟩,⟨by omega,by omega⟩,trivial,trivial,trivial⟩ ?_)
  refine j_step rfl (x_lit sl29 zo29e rfl rfl rfl rfl (by decide) (by decide) rfl fun b1=>?_)
  refine j_step rfl (x_app 1 0 rfl rfl rfl rfl sl29 zo29e rfl (by first | exact GrOk.nil _ | assumption | exact .inr ⟨_,rfl,Nat.le_refl _,by omega,rfl⟩) rfl rfl (by first | (simp [Value.oneCell'];done) | (simp [Value.oneCell',cellsL];done) | (intro u hu;rcases List.mem_singleton.1 hu with rfl;rfl)) (by omega) _ by29e (by omega) fun bo1 cap1 cs1 hg1 ht1=>?_)
  refine j_run it 1 rfl (by simp) ?_
  refine j_nf [_,_,_,_,_,_] rfl (j_run it 3 rfl ⟨trivial,⟨by omega,by omega,by omega,by omega⟩,trivial,trivial⟩ ?_)
  refine j_nf [_,_,_,_] rfl (j_run it 3 rfl ⟨trivial,⟨by omega,by omega⟩,trivial,trivial⟩ ?_)
  refine j_nfn 1 [.lp (pL 244),.blk 0,.c [1,1,1,1]] rfl ?_
  simp only [Nat.mul_one] at hg1 ht1
  have hs1 : (a.getD k 0 + b.getD k 0 + c) / 4294967296 ≤ 1:=by omega
  refine j_weakB (β':=[(bo1,76,cs1)]) (by simp) ?_
  refine j_to [0,1] (by exact fra rfl) rfl rfl (ih (k + 1,(a.getD k 0 + b.getD k 0 + c) / 4294967296,out++[(a.getD k 0 + b.getD k 0 + c) % 4294967296],bo1,cap1,cs1) (by simp only;omega)
   ⟨⟨by simp only;omega,(by
    intro hkM1
    have ga:=getD_ge (l:=a) (k:=k) (by omega)
    have gb:=getD_ge (l:=b) (k:=k) (by omega)
    simp only at hkM1 ⊢
    omega),hs1,by simp [hl]⟩,snoc_lt ho (by omega),by
    simp only
    rw [val_snoc,hl,Nat.pow_succ,val_take_getD,val_take_getD]
    exact carry_step hv (by omega),hg1,by
    simp only
    rw [ht1,ht,natCells_append];rfl⟩)
 by_cases hor : k < a.length ∨ k < b.length ∨ 0 < c
 ·have hkM : k ≤ M:=by
   rcases hor with h | h | h
   ·omega
   ·omega
   ·by_cases e : k = M + 1
    ·have:=hkc e;omega
    ·omega
  by_cases ka : k < a.length
  ·refine j_nf [_,_,_,_,_,_] rfl (j_run it 2 rfl (by simp) ?_)
   refine j_step rfl (x_len sl29 rfl ?_)
   refine j_run it 2 rfl (by simp) ?_
   refine j_split_dec (t:=13) rfl (fun h3=>?_) (fun h3=>by exfalso;omega)
   refine j_run it 9 rfl (by simp) ?_
   refine j_nf [_,_,_,_,_] rfl ?_
   refine j_true rfl rfl ?_
   refine j_nfn 2 [.c (pL 978),.c (pL 979),.lp (pL 244),.blk 0,.c [1,1,1,1]] rfl ?_
   refine j_to [0,1] (by exact fra rfl) rfl rfl (step hkM hor)
  ·by_cases kb : k < b.length
   ·refine j_nf [_,_,_,_,_,_] rfl (j_run it 2 rfl (by simp) ?_)
    refine j_step rfl (x_len sl29 rfl ?_)
    refine j_run it 2 rfl (by simp) ?_
    refine j_split_dec (t:=13) rfl (fun h3=>by exfalso;omega) (fun h3=>?_)
    refine j_run it 2 rfl (by simp) ?_
    refine j_gstep rfl rfl (x_len sl29 rfl ?_)
    refine j_run it 3 rfl (by simp) ?_
    refine j_split_dec (t:=19) rfl (fun h4=>?_) (fun h4=>by exfalso;omega)
    refine j_run it 3 rfl (by simp) ?_
    refine j_nf [_,_,_,_,_] rfl ?_
    refine j_true rfl rfl ?_
    refine j_nfn 2 [.c (pL 978),.c (pL 979),.lp (pL 244),.blk 0,.c [1,1,1,1]] rfl ?_
    refine j_to [0,1] (by exact fra rfl) rfl rfl (step hkM hor)
   ·have hc0 : 0 < c:=by omega
    refine j_nf [_,_,_,_,_,_] rfl (j_run it 2 rfl (by simp) ?_)
    refine j_step rfl (x_len sl29 rfl ?_)
    refine j_run it 2 rfl (by simp) ?_
    refine j_split_dec (t:=13) rfl (fun h3=>by exfalso;omega) (fun h3=>?_)
    refine j_run it 2 rfl (by simp) ?_
    refine j_gstep rfl rfl (x_len sl29 rfl ?_)
    refine j_run it 3 rfl (by simp) ?_
    refine j_split_dec (t:=19) rfl (fun h4=>by exfalso;omega) (fun h4=>?_)
    refine j_run it 3 rfl (by simp) ?_
    refine j_nf [_,_,_,_,_] rfl (j_if rfl rfl (fun h5=>?_) (fun h5=>by exfalso;omega))
    refine j_nfn 2 [.c (pL 978),.c (pL 979),.lp (pL 244),.blk 0,.c [1,1,1,1]] rfl ?_
    refine j_to [0,1] (by exact fra rfl) rfl rfl (step hkM hor)
 ·have ka : ¬ k < a.length:=by omega
  have kb : ¬ k < b.length:=by omega
  have hc0 : c = 0:=by omega
  subst hc0
  rw [List.take_of_length_le (by omega),List.take_of_length_le (by omega),Nat.mul_zero,Nat.add_zero] at hv
  refine j_pub_nat (kd:=.u32) 4 out 0 rfl hg ht hl.symm (fun x hx=>by have:=ho x hx;simp only [InR];omega) (by omega) ?_
  refine j_nf [_,_,_,_,_,_] rfl (j_run it 2 rfl (by simp) ?_)
  refine j_step rfl (x_len sl29 rfl ?_)
  refine j_run it 2 rfl (by simp) ?_
  refine j_split_dec (t:=13) rfl (fun h3=>by exfalso;omega) (fun h3=>?_)
  refine j_run it 2 rfl (by simp) ?_
  refine j_gstep rfl rfl (x_len sl29 rfl ?_)
  refine j_run it 3 rfl (by simp) ?_
  refine j_split_dec (t:=19) rfl (fun h4=>by exfalso;omega) (fun h4=>?_)
  refine j_run it 3 rfl (by simp) ?_
  refine j_nf [_,_,_,_,_] rfl (j_if rfl rfl (fun h5=>by exfalso;omega) (fun h5=>?_))
  refine j_nf [_,_] rfl (j_run it 1 rfl (by simp) ?_)
  refine j_step rfl (x_call [0] rfl (S_codewrightref01_Trim) rfl ?_)
  rintro _ _ _ ⟨pa1,ca1,rfl,rfl,rfl⟩
  simp only [List.cons_append,List.nil_append]
  refine j_run it 1 rfl (by simp) ?_
  refine j_nf [_] rfl ?_
  rw [trim_eq ho,hv]
  refine j_giv [0] rfl rfl rfl ⟨_,_,rfl,rfl,rfl⟩
set_option maxHeartbeats 400000
theorem S_codewrightref01_Bits {pa : Option Addr} {n ca : Nat} {l : List Nat} : Ctr Try.prog 47 [.slice pa n ca] [] [slF U32 pa n ca l] (Rv (.int .i64 (bitsL l)) []):=by
 refine Ctr_of_j' (F:=F_codewrightref01_Bits) rfl fun C=>?_
 refine j_len 0 rfl fun hn hb _=>?_
 subst hn
 have hb' : l.length * 4 ≤ 140737488355328:=hb
 refine j_range 0 rfl fun hr=>?_
 simp only [InR] at hr
 have hl:=trim_length_le l
 by_cases h0 : (trim l).length = 0
 ·refine j_nf [_,_] rfl (j_run it 1 rfl (by simp) ?_)
  refine j_nf [_,_] rfl (j_run it 1 rfl (by simp) ?_)
  refine j_step rfl (x_call [0] rfl (S_codewrightref01_Trim) rfl ?_)
  rintro _ _ _ ⟨pa1,ca1,rfl,rfl,rfl⟩
  simp only [List.cons_append,List.nil_append]
  refine j_run it 1 rfl (by simp) ?_
  refine j_nf [_,_,_] rfl (j_run it 1 rfl (by simp) ?_)
  refine j_step rfl (x_len sl29 rfl ?_)
  refine j_run it 1 rfl (by simp) ?_
  refine j_nf [_,_] rfl (j_if rfl rfl (fun h1=>?_) (fun h1=>by exfalso;omega))
  refine j_nf [_,_,_] rfl (j_run it 1 rfl (by simp) ?_)
  refine j_nf [_,_] rfl ?_
  refine j_giv [] rfl rfl rfl ⟨by rw [bitsL_nil h0];rfl,rfl,rfl⟩
 ·have side2 : ∀ z,(trim l)[(trim l).length - 1]? = some z → blen z ≤ 32:=fun z hz=>blen_le (by have:=hr z (mem_trim (List.mem_of_getElem? hz));omega)
  refine j_nf [_,_] rfl (j_run it 1 rfl (by simp) ?_)
  refine j_nf [_,_] rfl (j_run it 1 rfl (by simp) ?_)
  refine j_step rfl (x_call [0] rfl (S_codewrightref01_Trim) rfl ?_)
  rintro _ _ _ ⟨pa1,ca1,rfl,rfl,rfl⟩
  simp only [List.cons_append,List.nil_append]
  refine j_run it 1 rfl (by simp) ?_
  refine j_nf [_,_,_] rfl (j_run it 1 rfl (by simp) ?_)
  refine j_step rfl (x_len sl29 rfl ?_)
  refine j_run it 1 rfl (by simp) ?_
  refine j_nf [_,_] rfl (j_if rfl rfl (fun h1=>by exfalso;omega) (fun h1=>?_))
  refine j_nf [_,_] rfl (j_run it 1 rfl (by simp) ?_)
  refine j_step rfl (x_len sl29 rfl ?_)
  refine j_run it 3 rfl ⟨trivial,⟨by omega,by omega⟩,⟨by omega,by omega⟩,trivial⟩ ?_
  refine j_nf [_,_,_] rfl (j_run it 2 rfl (by simp) ?_)
  refine j_step rfl (x_len sl29 rfl ?_)
  refine j_run it 1 rfl ⟨⟨by omega,by omega⟩,trivial⟩ ?_
  refine j_step rfl (x_idx 0 (((trim l).length) - 1) rfl rfl rfl sl29 (by omega) (by omega) fun z1 hz1 b1 o1=>?_)
  refine j_step rfl (x_ld_nat 0 rfl rfl ld76 fun ⟨r1,r2⟩=>?_)
  refine j_run it 1 rfl (by simp) ?_
  refine j_nf [_,_,_] rfl ?_
  have hs2:=side2 z1 hz1
  refine j_loopN (X:=Nat × Nat) (fun x=>[(3,.int .i64 x.1),(4,.int .u32 x.2)]) (fun _=>[]) (fun _=>[])
   (fun x=>x.1 + blen x.2 = bitsL l ∧ x.2 < 4294967296 ∧ bitsL l ≤ 32 * l.length + 32) (fun x=>x.2) (32 * ((trim l).length - 1),z1) [] rfl ⟨by rw [bitsL_top hz1],by have:=hr z1 (mem_trim (List.mem_of_getElem? hz1));simp only;omega,by rw [bitsL_top hz1];omega⟩ (by repeat (first | exact Fr.sub_nil _ | refine Fr.sub_cons rfl ?_ | refine Fr.sub_consI rfl (by omega) ?_)) rfl rfl ?_
  rintro ⟨c,x⟩ ⟨hc,hx,hbl⟩ ih
  simp only at hc hx ih ⊢
  by_cases hx0 : 0 < x
  ·rw [blen_pos (by omega)] at hc
   refine j_nf [_,_,_,_,_,_] rfl (j_run it 2 rfl (by simp) ?_)
   refine j_nf [_,_,_,_,_] rfl (j_if rfl rfl (fun h2=>?_) (fun h2=>by exfalso;omega))
   refine j_nf [_,_,_,_,_,_] rfl (j_run it 3 rfl ⟨trivial,⟨by omega,by omega⟩,trivial,trivial⟩ ?_)
   refine j_nf [_,_,_,_] rfl (j_run it 3 rfl ⟨trivial,⟨by omega,by omega,by omega,by omega⟩,trivial,trivial⟩ ?_)
   refine j_nfn 1 [.lp (pL 500),.blk 0,.c [1,1,1,1,1]] rfl ?_
   refine j_to [] (by exact fra rfl) rfl rfl (ih (c + 1,x / 2) (by simp only;omega) ⟨by simp only;omega,by simp only;omega,hbl⟩)
  ·refine j_nf [_,_,_,_,_,_] rfl (j_run it 2 rfl (by simp) ?_)
   refine j_nf [_,_,_,_,_] rfl (j_if rfl rfl (fun h2=>by exfalso;omega) (fun h2=>?_))
   refine j_nf [_,_] rfl (j_run it 2 rfl (by simp) ?_)
   refine j_nf [_] rfl ?_
   have e : x = 0:=by omega
   subst e
   rw [blen_zero] at hc
   refine j_giv [] rfl rfl rfl ⟨by rw [← hc];rfl,rfl,rfl⟩
set_option maxHeartbeats 1000000
set_option maxHeartbeats 400000
set_option maxHeartbeats 4000000
def divR (p : Nat) (g r : List Int) : Nat → List Int
 | 0=>r
 | n + 1=>(stepR p (p - (divR p g r n).getD (r.length - 1 - n) 0) g (r.length - 1 - n - g.length) g.length (divR p g r n)).set (r.length - 1 - n) 0
theorem divR_len (p : Nat) (g r : List Int) : ∀ n,(divR p g r n).length = r.length
 | 0=>rfl
 | n + 1=>by rw [divR,List.length_set,stepR_len,divR_len p g r n]
theorem divR_rng {p : Nat} (hp : 0 < p) (g : List Int) {r : List Int} (hr : ∀ x ∈ r,0 ≤ x ∧ x < p) : ∀ n,∀ x ∈ divR p g r n,0 ≤ x ∧ x < p
 | 0=>hr
 | n + 1=>fun x hx=>by
  rw [divR] at hx
  rcases List.mem_or_eq_of_mem_set hx with h | rfl
  ·exact stepR_rng hp _ _ _ (divR_rng hp g hr n) _ x h
  ·omega
theorem divR_out {p : Nat} {g r : List Int} : ∀ n,n + g.length ≤ r.length → ∀ k,r.length - n ≤ k → k < r.length → (divR p g r n).getD k 0 = 0
 | 0,_,k,h1,h2=>by omega
 | n + 1,hn,k,h1,h2=>by
  rw [divR,List.getD_eq_getElem?_getD,List.getElem?_set]
  by_cases e : r.length - 1 - n = k
  ·rw [if_pos e,if_pos (by rw [stepR_len,divR_len];omega)];rfl
  ·rw [if_neg e,← List.getD_eq_getElem?_getD,stepR_out _ _ _ _ _ _ (by omega)]
   exact divR_out n (by omega) k (by omega) h2
theorem divR_ev {p : Nat} {g r : List Int} (hg : 1 ≤ g.length) : ∀ n,n + g.length ≤ r.length → cg p fun j=>evL (Xg g) ((divR p g r n).take (r.length - n)) oneV j - evL (Xg g) r oneV j
 | 0,_=>fun j=>by
  rw [divR,Nat.sub_zero,List.take_length]
  exact ⟨0,by show evL (Xg g) r oneV j - evL (Xg g) r oneV j = _;omega⟩
 | n + 1,hn=>fun j=>by
  have ih : (p : Int) ∣ evL (Xg g) ((divR p g r n).take (r.length - n)) oneV j - evL (Xg g) r oneV j:=divR_ev hg n (by omega) j
  have h1 : (p : Int) ∣ evL (Xg g) ((stepR p (p - (divR p g r n).getD (r.length - 1 - n) 0) g (r.length - 1 - n - g.length) g.length (divR p g r n)).take (r.length - 1 - n)) oneV j - evL (Xg g) ((divR p g r n).take (r.length - 1 - n + 1)) oneV j:=red_step (p:=p) hg (r:=divR p g r n) (i:=r.length - 1 - n) (by omega) (by rw [divR_len];omega) j
  rw [show r.length - 1 - n + 1 = r.length - n by omega] at h1
  refine dvd_eq (Int.dvd_add h1 ih) ?_
  show _ = evL (Xg g) ((divR p g r (n + 1)).take (r.length - (n + 1))) oneV j - _
  rw [show r.length - (n + 1) = r.length - 1 - n by omega,divR,List.take_set,List.set_eq_of_length_le (by rw [List.length_take];omega)]
  omega
theorem divR_zero {p : Nat} (hp : 0 < p) {g r : List Int} (hg : 1 ≤ g.length) (hr : ∀ x ∈ r,0 ≤ x ∧ x < p) (hl : g.length ≤ r.length) :
  (∀ k,k < r.length → (divR p g r (r.length - g.length)).getD k 0 = 0) ↔ cg p (evL (Xg g) r oneV):=by
 have h1:=divR_ev (p:=p) hg (r:=r) (r.length - g.length) (by omega)
 rw [show r.length - (r.length - g.length) = g.length by omega] at h1
 have h2:=divR_out (p:=p) (g:=g) (r:=r) (r.length - g.length) (by omega)
 have h3:=divR_rng hp g hr (r.length - g.length)
 have h4:=divR_len p g r (r.length - g.length)
 generalize divR p g r (r.length - g.length) = s at *
 rw [ev_one (by rw [List.length_take];omega)] at h1
 constructor
 ·intro h j
  have h5 : (p : Int) ∣ vec (s.take g.length) j - evL (Xg g) r oneV j:=h1 j
  have h6 : vec (s.take g.length) j = 0:=by
   by_cases hj : j < g.length
   ·have:=h j (by omega)
    rw [vec,List.getD_eq_getElem?_getD,List.getElem?_take,if_pos hj,← List.getD_eq_getElem?_getD];exact this
   ·exact vec_out (by rw [List.length_take];omega)
  rw [h6] at h5
  exact Int.dvd_neg.1 (dvd_eq h5 (by omega))
 ·intro h k hk
  by_cases hkd : k < g.length
  ·have h5 : (p : Int) ∣ vec (s.take g.length) k - evL (Xg g) r oneV k:=h1 k
   have h6:=Int.dvd_add h5 (h k)
   have h7 : vec (s.take g.length) k = s.getD k 0:=by
    rw [vec,List.getD_eq_getElem?_getD,List.getElem?_take,if_pos hkd,← List.getD_eq_getElem?_getD]
   rw [h7] at h6
   have h8 : (p : Int) ∣ s.getD k 0:=dvd_eq h6 (by omega)
   obtain ⟨b0,b1⟩:=h3 (s.getD k 0) (List.mem_of_getElem? (i:=k) (by rw [List.getD_eq_getElem?_getD,List.getElem?_eq_getElem (by omega)];rfl))
   obtain ⟨z,hz⟩:=h8
   have hp' : (0 : Int) < p:=by omega
   rcases Int.lt_trichotomy z 0 with h9 | h9 | h9
   ·have:=Int.mul_le_mul_of_nonneg_left (show z ≤ -1 by omega) (Int.le_of_lt hp')
    omega
   ·rw [hz,h9,Int.mul_zero]
   ·have:=Int.mul_le_mul_of_nonneg_left (show 1 ≤ z by omega) (Int.le_of_lt hp')
    omega
  ·exact h2 k (by omega) hk
theorem S_codewrightref04_divides {pg pm : Option Addr} {ng nm cg' cm p : Nat} {g md : List Int} (hp : 1 ≤ p) (hp2 : p ≤ 256) (hg : 1 ≤ g.length) (hl : g.length ≤ md.length) (hm : md.length ≤ 100) (rg : ∀ x ∈ g,0 ≤ x ∧ x < p) (rm : ∀ x ∈ md,0 ≤ x ∧ x < p) (h1p : 1 < p)
  {res : Bool} (hres : res = true ↔ cg p (evL (Xg g) (md++[1]) oneV)) :
  Ctr Try.prog 86 [.slice pg ng cg',.slice pm nm cm,.int .i64 p] [] [slF I64 pg ng cg' g,slF I64 pm nm cm md] (Rv (.bool res) []):=by
 refine Ctr_of_j' (F:=F_codewrightref04_divides) rfl fun C=>?_
 refine j_len 0 rfl fun hn1 _ _=>?_
 refine j_len 1 rfl fun hn2 _ _=>?_
 subst hn1;subst hn2
 refine j_nf [_,_] rfl ?_
 refine j_run it 1 rfl (by simp) ?_
 refine j_nf [_,_] rfl ?_
 refine j_run it 1 rfl (by simp) ?_
 refine j_step rfl (x_len sl22 rfl ?_)
 refine j_run it 1 rfl (by simp) ?_
 refine j_nf [_,_] rfl ?_
 refine j_step rfl (x_lit0 sl22 fun b1=>?_)
 refine j_run it 1 rfl (by simp) ?_
 (apply j_rowlit (E:=encInt IntKind.i64 8) (n:=0) (cs:=[]) [] [] 0 (fun w A hG=>allrd_nil);(· rfl);(· rfl);(· rfl);(· rfl);(· decide))
 refine j_step rfl (x_appS 0 0 2 rfl rfl rfl rfl rfl sl22 zo22e rfl (by omega) _ by22e (by omega) fun r1=>?_)
 refine j_run it 1 rfl (by simp) ?_
 refine j_nf [_,_] rfl ?_
 refine j_run it 1 rfl (by simp) ?_
 refine j_step rfl (x_lit sl22 zo22e rfl rfl rfl rfl (by decide) (by decide) rfl fun b2=>?_)
 refine j_step rfl (x_appR (z:=(1 : Int)) 1 0 0 rfl rfl rfl rfl rfl sl22 zo22e rfl (fun w A hG=>(rd_int (by first | (simp only [InR];omega) | (simp [InR];done)))) (by omega) _ by22e (by omega) fun r2=>?_)
 refine j_run it 1 rfl (by simp) ?_
 refine j_nf [_,_,_] rfl ?_
 refine j_run it 1 rfl (by simp) ?_
 refine j_step rfl (x_len sl22 rfl ?_)
 refine j_run it 2 rfl ⟨trivial,⟨by omega,by omega⟩,trivial⟩ ?_
 refine j_nf [_,_,_] rfl ?_
 simp only [Nat.zero_add,List.nil_append]
 have r0 : ∀ x ∈ md++[1],0 ≤ x ∧ x < (p : Int):=fun x hx=>by
  rcases List.mem_append.1 hx with h | h
  ·exact rm x h
  ·rw [List.mem_singleton.1 h];omega
 have l0 : (md++[1]).length = md.length + 1:=by simp
 have hz:=divR_zero (p:=p) (by omega) hg r0 (by omega)
 have hR:=divR_rng (p:=p) (by omega) g r0
 have hL:=divR_len p g (md++[1])
 have hO:=divR_out (p:=p) (g:=g) (r:=md++[1])
 rw [l0] at hz hL hO
 refine j_rowB 0 rfl (by omega) fun bR capR csR hRow=>?_
 subst hRow
 refine j_loopG (X:=Nat × List Value) [0,2,6,7,8] [2,3] (fun x=>[(9,.int .i64 ((md.length : Int) - (x.1 : Int)))]) (fun x=>[(some bR,3,x.2),(some b2,3,[.int .i64 1])])
  (fun x=>[rowF I64 ⟨some bR,capR,x.2⟩ (md.length + 1) (divR p g (md++[1]) x.1)]) (fun x=>x.1 ≤ md.length + 1 - g.length) (fun x=>md.length + 1 - g.length - x.1) (0,csR) [0] rfl rfl rfl (Nat.zero_le _) (by refine Fr.sub_consI rfl (by simp) ?_;repeat (first | exact Fr.sub_nil _ | refine Fr.sub_cons rfl ?_)) rfl rfl ?_
 rintro ⟨n,csA⟩ hn ih
 simp only [List.cons_append,List.nil_append] at hn ih ⊢
 by_cases hil : n < md.length + 1 - g.length
 ·have hlt : md.length - n < md.length + 1:=by omega
  have hLn:=hL n
  have hRn:=hR n
  have ihn:=fun r : List Value=>ih (n + 1,r) (by dsimp only;omega) (by dsimp only;omega)
  simp only [divR,l0] at ihn
  rw [show md.length + 1 - 1 - n = md.length - n by omega] at ihn
  generalize divR p g (md++[1]) n = L at *
  have hzc : L[md.length - n]? = some (L.getD (md.length - n) 0):=by rw [List.getD_eq_getElem?_getD,List.getElem?_eq_getElem (by omega)];rfl
  obtain ⟨c0,c1⟩:=hRn _ (List.mem_of_getElem? hzc)
  generalize L.getD (md.length - n) 0 = c at *
  obtain ⟨cN,rfl⟩ : ∃ cN : Nat,c = cN:=⟨c.toNat,by omega⟩
  have hpc : (p : Int) - (cN : Int) = ((p - cN : Nat) : Int):=by omega
  rw [hpc] at ihn
  refine j_nf [_,_,_,_,_,_] rfl ?_
  refine j_run it 3 rfl (by simp) ?_
  refine j_nf [_,_,_,_,_] rfl ?_
  refine j_if rfl rfl (fun h1=>?_) (fun h1=>by exfalso;omega)
  refine j_nf [_,_,_,_,_,_,_] rfl ?_
  refine j_run it 2 rfl (by simp) ?_
  refine j_step rfl (x_idx_own ((md.length) - (n)) ((md.length) - (n)) rfl rfl sl22 (by omega) (by omega) (Nat.mul_one _) ?_)
  refine j_step rfl (x_ldR_int 0 0 (md.length - n) rfl rfl rfl ld3 rfl (by assumption) fun hr1=>?_)
  refine j_run it 1 rfl (by simp) ?_
  refine j_nf [_,_,_,_,_,_,_,_] rfl ?_
  refine j_run it 1 rfl (by simp) ?_
  refine j_nf [_,_,_,_,_,_,_,_] rfl ?_
  have hk : md.length - n - g.length + g.length ≤ md.length:=by omega
  generalize hkk : md.length - n - g.length = k at *
  refine j_loopG (X:=Nat × List Value) [0,2,6,7,8,9,10,24,25,26,29,30,31,32] [1,2] (fun x=>[(11,.int .i64 (x.1 : Int))]) (fun x=>[(some bR,3,x.2),(some b2,3,[.int .i64 1])])
   (fun x=>[rowF I64 ⟨some bR,capR,x.2⟩ (md.length + 1) (stepR p ((p - cN : Nat) : Int) g k x.1 L)]) (fun x=>x.1 ≤ g.length) (fun x=>g.length - x.1) (0,csA) [0] rfl rfl rfl (Nat.zero_le _) (by repeat (first | exact Fr.sub_nil _ | refine Fr.sub_cons rfl ?_)) rfl rfl ?_
  rintro ⟨j,csB⟩ hj ihj
  simp only [List.cons_append,List.nil_append] at hj ihj ⊢
  by_cases hjl : j < g.length
  ·have hSl:=stepR_len p ((p - cN : Nat) : Int) g k L j
   have hSr:=stepR_rng (p:=p) (by omega) ((p - cN : Nat) : Int) g k hRn j
   have ihj':=fun r : List Value=>ihj (j + 1,r) (by dsimp only;omega) (by dsimp only;omega)
   simp only [stepR] at ihj'
   generalize stepR p ((p - cN : Nat) : Int) g k j L = S at *
   have hzS : S[k + j]? = some (S.getD (k + j) 0):=by rw [List.getD_eq_getElem?_getD,List.getElem?_eq_getElem (by omega)];rfl
   have hgd : g.getD j 0 = g.getD j default:=rfl
   rw [hgd] at ihj'
   have hzg : g[j]? = some (g.getD j default):=by rw [List.getD_eq_getElem?_getD,List.getElem?_eq_getElem (by omega)];rfl
   obtain ⟨s0,s1⟩:=hSr _ (List.mem_of_getElem? hzS)
   obtain ⟨g0,g1⟩:=rg _ (List.mem_of_getElem? hzg)
   generalize S.getD (k + j) 0 = s at *
   have hm0 : 0 ≤ ((p - cN : Nat) : Int) * g.getD j default:=Int.mul_nonneg (by omega) g0
   have hm1 : ((p - cN : Nat) : Int) * g.getD j default ≤ 65536:=Int.le_trans (Int.mul_le_mul (show ((p - cN : Nat) : Int) ≤ 256 by omega) (show g.getD j default ≤ 256 by omega) g0 (by decide)) (by decide)
   have em : (s + ((p - cN : Nat) : Int) * g.getD j default) % (p : Int) < p:=Int.emod_lt_of_pos _ (by omega)
   have em0 : 0 ≤ (s + ((p - cN : Nat) : Int) * g.getD j default) % (p : Int):=Int.emod_nonneg _ (by omega)
   rw [← hkk] at hzS ihj'
   refine j_nf [_,_,_,_,_,_,_,_,_,_,_] rfl ?_
   refine j_run it 3 rfl (by simp) ?_
   refine j_nf [_,_,_,_,_,_,_,_,_,_] rfl ?_
   refine j_if rfl rfl (fun h2=>?_) (fun h2=>by exfalso;omega)
   refine j_nf [_,_,_,_,_,_,_,_,_,_,_] rfl ?_
   (apply j_drawK it mx 25;(· rfl);(· rfl))
   (apply lxk_run 3;(· rfl);(· simp))
   (apply lxk_eq (v:=Value.int IntKind.i64 (((((md.length) - (n)) - (g.length) : Nat)) : Int));(· rfl);(· exact d_x fun _=>x_asN it _ rfl ⟨by omega,by omega⟩ (by omega) dk_eq))
   simp only [Nat.add_sub_cancel]
   (apply lxk_run 5;(· rfl);(· exact ⟨trivial,trivial,trivial,⟨by omega,by omega⟩,trivial,trivial⟩))
   (apply lxk_eq (v:=Value.int IntKind.i64 (((((md.length) - (n)) - (g.length) : Nat)) : Int));(· rfl);(· exact d_x fun _=>x_asN it _ rfl ⟨by omega,by omega⟩ (by omega) dk_eq))
   simp only [Nat.add_sub_cancel]
   (apply lxk_run 2;(· rfl);(· exact ⟨⟨by omega,by omega⟩,trivial,trivial⟩))
   (apply lxk_eq;(· rfl);(· exact d_x fun _=>x_idx_own ((md.length - n - g.length) + (j)) ((md.length - n - g.length) + (j)) rfl rfl sl22 (by omega) (by omega) (Nat.mul_one _) dk_eq))
   (apply lxk_eq;(· rfl);(· exact d_ldR_int 0 0 (md.length - n - g.length + j) rfl rfl rfl ld3 rfl (by assumption)))
   (apply lxk_run 2;(· rfl);(· simp))
   (apply lxk_eq (v:=Value.int IntKind.i64 ((((p) - (cN) : Nat)) : Int));(· rfl);(· exact d_x fun _=>x_asN it _ rfl ⟨by omega,by omega⟩ (by omega) dk_eq))
   simp only [Nat.add_sub_cancel]
   (apply lxk_run 2;(· rfl);(· simp))
   (apply lxk_pt;(· rfl);(· exact d_x fun _=>x_idx 2 (j) rfl rfl rfl sl22 rfl (by omega) fun z1 hz1 b3 o1=>(dk_ptD default hz1 0 rfl));intro b3 o1)
   (apply lxk_eq;(· rfl);(· exact d_x fun _=>x_ld_int 0 rfl rfl ld3 fun ⟨r2,r3⟩=>dk_eq))
   (apply lxk_run 4;(· rfl);(· exact ⟨⟨by omega,by omega⟩,trivial,⟨by omega,by omega⟩,⟨by omega,by omega⟩,trivial⟩))
   refine lxk_end rfl ?_
   simp only [List.map_cons,List.map_nil,List.cons_append,List.nil_append]
   refine j_step rfl (x_idx_own ((md.length - n - g.length) + (j)) ((md.length - n - g.length) + (j)) rfl rfl sl22 (by omega) (by omega) (Nat.mul_one _) ?_)
   refine j_step rfl (x_stR (vs:=[Value.int IntKind.i64 ((s + ↑(p - cN) * g.getD j default) % ↑p)]) (z:=((s + ↑(p - cN) * g.getD j default) % ↑p : Int)) 0 1 (md.length - n - g.length + j) rfl rfl rfl rfl rfl ld3 (Nat.mul_one _).symm (by omega) (fun w A hG=>(rd_int (by first | (simp only [InR];omega) | (simp [InR];done)))) fun cs1=>?_)
   refine j_nf [_,_,_,_,_,_,_,_,_] rfl ?_
   refine j_run it 3 rfl ⟨trivial,⟨by omega,by omega⟩,trivial,trivial⟩ ?_
   refine j_nfn 1 [.lp (pL 128148),.blk 2,.c (pL 16019),.blk 1,.c (pL 2003),.lp (pL 500),.blk 0,.c [1,1,1,1,1]] rfl ?_
   refine j_to [0,3,4] (by exact fra rfl) rfl rfl (ihj' cs1)
  ·obtain rfl : j = g.length:=by omega
   refine j_nf [_,_,_,_,_,_,_,_,_,_,_] rfl ?_
   refine j_run it 3 rfl (by simp) ?_
   refine j_nf [_,_,_,_,_,_,_,_,_,_] rfl ?_
   refine j_if rfl rfl (fun h2=>by exfalso;omega) (fun h2=>?_)
   refine j_nf [_,_,_,_,_,_] rfl ?_
   refine j_run it 2 rfl (by simp) ?_
   refine j_step rfl (x_idx_own ((md.length) - (n)) ((md.length) - (n)) rfl rfl sl22 (by omega) (by omega) (Nat.mul_one _) ?_)
   refine j_step rfl (x_stR (vs:=[Value.int IntKind.i64 0]) (z:=(0 : Int)) 0 0 (md.length - n) rfl rfl rfl rfl rfl ld3 (Nat.mul_one _).symm (by omega) (fun w A hG=>(rd_int (by first | (simp only [InR];omega) | (simp [InR];done)))) fun cs1=>?_)
   refine j_nf [_,_,_,_] rfl ?_
   refine j_run it 3 rfl ⟨trivial,⟨by omega,by omega⟩,trivial,trivial⟩ ?_
   refine j_nfn 1 [.lp (pL 500),.blk 0,.c [1,1,1,1,1]] rfl ?_
   refine j_to [0,2,3] (by exact fii rfl (by omega) (fcc rfl (fcc rfl (fcc rfl (fcc rfl (fcc rfl (fzz _))))))) rfl rfl (ihn cs1)
 ·obtain rfl : n = md.length + 1 - g.length:=by omega
  clear ih
  have hLn:=hL (md.length + 1 - g.length)
  generalize divR p g (md++[1]) (md.length + 1 - g.length) = L at *
  refine j_nf [_,_,_,_,_,_] rfl ?_
  refine j_run it 3 rfl (by simp) ?_
  refine j_nf [_,_,_,_,_] rfl ?_
  refine j_if rfl rfl (fun h1=>by exfalso;omega) (fun h1=>?_)
  refine j_nf [_,_,_] rfl ?_
  refine j_run it 1 rfl (by simp) ?_
  refine j_nf [_,_,_] rfl ?_
  refine j_loopG (X:=Nat) [8] [1,2] (fun i=>[(12,.int .i64 (i : Int))]) (fun _=>[(some bR,3,csA),(some b2,3,[.int .i64 1])]) (fun _=>[rowF I64 ⟨some bR,capR,csA⟩ (md.length + 1) L]) (fun i=>i ≤ md.length + 1 ∧ ∀ k,k < i → L.getD k 0 = 0) (fun i=>md.length + 1 - i) 0 [0] rfl rfl rfl ⟨Nat.zero_le _,fun k hk=>by omega⟩ (by repeat (first | exact Fr.sub_nil _ | refine Fr.sub_cons rfl ?_)) rfl rfl ?_
  rintro i ⟨hi,hall⟩ ih
  simp only [List.cons_append,List.nil_append] at hi hall ih ⊢
  by_cases hil : i < md.length + 1
  ·have hzi : L[i]? = some (L.getD i 0):=by rw [List.getD_eq_getElem?_getD,List.getElem?_eq_getElem (by omega)];rfl
   by_cases h0 : L.getD i 0 = 0
   ·generalize hv : L.getD i 0 = v at *
    refine j_nf [_,_,_,_,_,_] rfl ?_
    refine j_run it 2 rfl (by simp) ?_
    refine j_step rfl (x_len sl22 rfl ?_)
    refine j_run it 1 rfl (by simp) ?_
    refine j_nf [_,_,_,_,_] rfl ?_
    refine j_if rfl rfl (fun h2=>?_) (fun h2=>by exfalso;omega)
    refine j_nf [_,_,_,_,_,_,_] rfl ?_
    refine j_run it 2 rfl (by simp) ?_
    refine j_step rfl (x_idx_own (i) (i) rfl rfl sl22 rfl (by omega) (Nat.mul_one _) ?_)
    refine j_step rfl (x_ldR_int 0 0 (i) rfl rfl rfl ld3 rfl (by assumption) fun hr1=>?_)
    refine j_run it 1 rfl (by simp) ?_
    refine j_nf [_,_,_,_,_,_] rfl ?_
    refine j_ifn rfl rfl (fun h3=>by exfalso;omega) (fun h3=>?_)
    refine j_nf [_,_,_,_] rfl ?_
    refine j_run it 3 rfl ⟨trivial,⟨by omega,by omega⟩,trivial,trivial⟩ ?_
    refine j_nfn 1 [.lp (pL 1012),.blk 4,.c (pL 127)] rfl ?_
    refine j_to [0,1,2] (by exact fra rfl) rfl rfl (ih (i + 1) (by omega) ⟨by omega,fun k hk=>by
     rcases Nat.lt_succ_iff_lt_or_eq.1 hk with h | rfl
     ·exact hall k h
     ·rw [hv];exact h0⟩)
   ·have hf : res = false:=by
     cases res with
     | false=>rfl
     | true=>exact absurd (hz.2 (hres.1 rfl) i hil) h0
    rw [hf]
    generalize L.getD i 0 = v at *
    refine j_nf [_,_,_,_,_,_] rfl ?_
    refine j_run it 2 rfl (by simp) ?_
    refine j_step rfl (x_len sl22 rfl ?_)
    refine j_run it 1 rfl (by simp) ?_
    refine j_nf [_,_,_,_,_] rfl ?_
    refine j_if rfl rfl (fun h2=>?_) (fun h2=>by exfalso;omega)
    refine j_nf [_,_,_,_,_,_,_] rfl ?_
    refine j_run it 2 rfl (by simp) ?_
    refine j_step rfl (x_idx_own (i) (i) rfl rfl sl22 rfl (by omega) (Nat.mul_one _) ?_)
    refine j_step rfl (x_ldR_int 0 0 (i) rfl rfl rfl ld3 rfl (by assumption) fun hr1=>?_)
    refine j_run it 1 rfl (by simp) ?_
    refine j_nf [_,_,_,_,_,_] rfl ?_
    refine j_ifn rfl rfl (fun h3=>?_) (fun h3=>by exfalso;omega)
    refine j_nf [_,_,_,_,_,_,_] rfl ?_
    refine j_run it 1 rfl (by simp) ?_
    refine j_nf [_,_,_,_,_,_] rfl ?_
    refine j_giv [] rfl rfl rfl ⟨rfl,rfl,rfl⟩
  ·obtain rfl : i = md.length + 1:=by omega
   have ht : res = true:=hres.2 (hz.1 hall)
   rw [ht]
   refine j_nf [_,_,_,_,_,_] rfl ?_
   refine j_run it 2 rfl (by simp) ?_
   refine j_step rfl (x_len sl22 rfl ?_)
   refine j_run it 1 rfl (by simp) ?_
   refine j_nf [_,_,_,_,_] rfl ?_
   refine j_if rfl rfl (fun h2=>by exfalso;omega) (fun h2=>?_)
   refine j_nf [_,_] rfl ?_
   refine j_run it 1 rfl (by simp) ?_
   refine j_nf [_] rfl ?_
   refine j_giv [] rfl rfl rfl ⟨rfl,rfl,rfl⟩
theorem toI_digs {l : List Nat} {p : Nat} (h : ∀ x ∈ l,x < p) : ∀ x ∈ toI l,0 ≤ x ∧ x < (p : Int):=fun x hx=>by
 obtain ⟨n,hn,rfl⟩:=List.mem_map.1 hx
 have:=h n hn
 omega
open Classical in
theorem S_codewrightref04_irreducible {pm : Option Addr} {nm cm p : Nat} {md : List Nat} (hp : 2 ≤ p) (hp2 : p ≤ 256) (hq : p ^ md.length ≤ 256) (hm : md.length ≤ 8) (rm : ∀ x ∈ md,x < p) {res : Bool} (hres : res = true ↔ irrP p md) :
  Ctr Try.prog 56 [.slice pm nm cm,.int .i64 p] [] [slF I64 pm nm cm (toI md)] (Rv (.bool res) []):=by
 refine Ctr_of_j' (F:=F_codewrightref04_irreducible) rfl fun C=>?_
 refine j_len 0 rfl fun hn1 _ _=>?_
 rw [toI_len] at hn1
 subst hn1
 have rI:=toI_digs rm
 have lI:=toI_len md
 refine j_nf [_,_] rfl (j_run it 1 rfl (by simp) ?_)
 refine j_nf [_,_] rfl (j_run it 1 rfl (by simp) ?_)
 refine j_nf [_,_,_] rfl (j_run it 1 rfl (by simp) ?_)
 refine j_nf [_,_,_] rfl ?_
 refine j_loopG (X:=Nat) [0,1] [0] (fun d=>[(6,.int .i64 ((d + 1 : Nat) : Int)),(5,.int .i64 ((p ^ d : Nat) : Int))]) (fun _=>[]) (fun _=>[]) (fun d=>2 * d ≤ md.length ∧ ∀ e,1 ≤ e → e ≤ d → ∀ v,v < p ^ e → ¬ cg p (evL (Xg (toI (dig p e v))) (toI md++[1]) oneV)) (fun d=>md.length - d) 0 [] rfl rfl rfl ⟨Nat.zero_le _,fun e h1 h2=>by omega⟩ (by refine Fr.sub_cons rfl ?_;refine Fr.sub_consI rfl (by simp) ?_;repeat (first | exact Fr.sub_nil _ | refine Fr.sub_cons rfl ?_)) rfl rfl ?_
 rintro d ⟨hd,hall⟩ ih
 simp only [List.cons_append,List.nil_append] at hd hall ih ⊢
 have hpd : p ^ d ≤ 256:=Nat.le_trans (Nat.pow_le_pow_right (by omega) (by omega)) hq
 by_cases hdl : 2 * (d + 1) ≤ md.length
 ·have hpe : p ^ (d + 1) ≤ 256:=Nat.le_trans (Nat.pow_le_pow_right (by omega) (by omega)) hq
  have ee : ((p ^ d : Nat) : Int) * (p : Int) = ((p ^ (d + 1) : Nat) : Int):=by rw [Nat.pow_succ,Int.natCast_mul]
  have ih':=ih (d + 1) (by omega)
  generalize hP : p ^ (d + 1) = P at *
  generalize p ^ d = Q at *
  have hQP : 0 ≤ (Q : Int) * (p : Int) ∧ (Q : Int) * (p : Int) ≤ 256:=by omega
  refine j_nf [_,_,_,_,_,_] rfl (j_run it 3 rfl ⟨trivial,⟨by omega,by omega⟩,trivial,trivial⟩ ?_)
  refine j_step rfl (x_len sl22 rfl ?_)
  refine j_run it 1 rfl (by simp) ?_
  refine j_nf [_,_,_,_,_] rfl (j_if rfl rfl (fun h1=>?_) (fun h1=>by exfalso;omega))
  refine j_nf [_,_,_,_,_,_,_] rfl (j_run it 4 rfl ⟨trivial,⟨by omega,by omega⟩,trivial,trivial,trivial⟩ ?_)
  refine j_nf [_,_,_,_,_,_,_] rfl (j_run it 1 rfl (by simp) ?_)
  refine j_nf [_,_,_,_,_,_,_] rfl ?_
  rw [ee]
  refine j_loopG (X:=Nat) [0,1,5,6,8,9,10,11,12,15,16,17] [0] (fun v=>[(7,.int .i64 (v : Int))]) (fun _=>[]) (fun _=>[]) (fun v=>v ≤ P ∧ ∀ u,u < v → ¬ cg p (evL (Xg (toI (dig p (d + 1) u))) (toI md++[1]) oneV)) (fun v=>P - v) 0 [] rfl rfl rfl ⟨Nat.zero_le _,fun u h=>by omega⟩ (by repeat (first | exact Fr.sub_nil _ | refine Fr.sub_cons rfl ?_)) rfl rfl ?_
  rintro v ⟨hv,hvall⟩ ihv
  simp only [List.cons_append,List.nil_append] at hv hvall ihv ⊢
  by_cases hvl : v < P
  ·have gl : (toI (dig p (d + 1) v)).length = d + 1:=by rw [toI_len,dig_len]
   have gr:=toI_digs fun x hx=>dig_lt (p:=p) (n:=d + 1) (x:=v) (by omega) x hx
   have c_codewrightref04_divides:=fun {pg pm : Option Addr} {ng nm cg' cm : Nat} {res : Bool} hres=>S_codewrightref04_divides (pg:=pg) (pm:=pm) (ng:=ng) (nm:=nm) (cg':=cg') (cm:=cm) (p:=p) (g:=toI (dig p (d + 1) v)) (md:=toI md) (by omega) hp2 (by omega) (by omega) (by omega) gr rI (by omega) (res:=res) hres
   by_cases hdv : cg p (evL (Xg (toI (dig p (d + 1) v))) (toI md++[1]) oneV)
   ·have hf : res = false:=by
     cases res with
     | false=>rfl
     | true=>exact absurd hdv ((hres.1 rfl) (d + 1) (by omega) hdl v (by rw [hP];exact hvl))
    have hr : (true = true ↔ cg p (evL (Xg (toI (dig p (d + 1) v))) (toI md++[1]) oneV)):=⟨fun _=>hdv,fun _=>rfl⟩
    rw [hf]
    refine j_nf [_,_,_,_,_,_,_,_,_,_] rfl (j_run it 3 rfl (by simp) ?_)
    refine j_nf [_,_,_,_,_,_,_,_,_] rfl (j_if rfl rfl (fun h2=>?_) (fun h2=>by exfalso;omega))
    refine j_nf [_,_,_,_,_,_,_,_,_,_,_] rfl (j_run it 3 rfl (by simp) ?_)
    refine j_step rfl (x_call [] rfl (S_codewrightref04_digits (by omega) (by omega) (by omega) (by omega)) rfl ?_)
    rintro _ _ _ ⟨pa1,ca1,rfl,rfl,rfl⟩
    simp only [List.cons_append,List.nil_append]
    refine j_run it 2 rfl (by simp) ?_
    refine j_step rfl (x_call [0,1] rfl (c_codewrightref04_divides (by omega)) rfl ?_)
    rintro _ _ _ ⟨rfl,rfl,rfl⟩
    simp only [List.cons_append,List.nil_append]
    refine j_nf [_,_,_,_,_,_,_,_,_,_] rfl ?_
    refine j_true rfl rfl ?_
    refine j_nf [_,_,_,_,_,_,_,_,_,_,_] rfl (j_run it 1 rfl (by simp) ?_)
    refine j_nf [_,_,_,_,_,_,_,_,_,_] rfl ?_
    refine j_giv [] rfl rfl rfl ⟨rfl,rfl,rfl⟩
   ·have hr : (false = true ↔ cg p (evL (Xg (toI (dig p (d + 1) v))) (toI md++[1]) oneV)):=⟨fun h=>(by cases h),fun h=>absurd h hdv⟩
    refine j_nf [_,_,_,_,_,_,_,_,_,_] rfl (j_run it 3 rfl (by simp) ?_)
    refine j_nf [_,_,_,_,_,_,_,_,_] rfl (j_if rfl rfl (fun h2=>?_) (fun h2=>by exfalso;omega))
    refine j_nf [_,_,_,_,_,_,_,_,_,_,_] rfl (j_run it 3 rfl (by simp) ?_)
    refine j_step rfl (x_call [] rfl (S_codewrightref04_digits (by omega) (by omega) (by omega) (by omega)) rfl ?_)
    rintro _ _ _ ⟨pa1,ca1,rfl,rfl,rfl⟩
    simp only [List.cons_append,List.nil_append]
    refine j_run it 2 rfl (by simp) ?_
    refine j_step rfl (x_call [0,1] rfl (c_codewrightref04_divides (by omega)) rfl ?_)
    rintro _ _ _ ⟨rfl,rfl,rfl⟩
    simp only [List.cons_append,List.nil_append]
    refine j_nf [_,_,_,_,_,_,_,_,_,_] rfl ?_
    refine j_false rfl rfl ?_
    refine j_nf [_,_,_,_,_,_,_,_] rfl (j_run it 3 rfl ⟨trivial,⟨by omega,by omega⟩,trivial,trivial⟩ ?_)
    refine j_nfn 1 [.lp (pL 14924),.blk 2,.blk 1,.c (pL 467),.lp (pL 116),.blk 0,.c [1,1,1]] rfl ?_
    refine j_to [1] (by exact fra rfl) rfl rfl (ihv (v + 1) (by omega) ⟨by omega,fun u hu=>by
     rcases Nat.lt_succ_iff_lt_or_eq.1 hu with h | rfl
     ·exact hvall u h
     ·exact hdv⟩)
  ·obtain rfl : v = P:=by omega
   refine j_nf [_,_,_,_,_,_,_,_,_,_] rfl (j_run it 3 rfl (by simp) ?_)
   refine j_nf [_,_,_,_,_,_,_,_,_] rfl (j_if rfl rfl (fun h2=>by exfalso;omega) (fun h2=>?_))
   refine j_nf [_,_,_,_] rfl (j_run it 3 rfl ⟨trivial,⟨by omega,by omega⟩,trivial,trivial⟩ ?_)
   refine j_nfn 1 [.lp (pL 116),.blk 0,.c [1,1,1]] rfl ?_
   refine j_to [0] (by exact fra rfl) rfl rfl (ih' ⟨by omega,fun e h1 h2 u hu=>by
    rcases Nat.lt_succ_iff_lt_or_eq.1 (Nat.lt_succ_of_le h2) with h | rfl
    ·exact hall e h1 (by omega) u hu
    ·exact hvall u (by rw [← hP];exact hu)⟩)
 ·have ht : res = true:=hres.2 fun e h1 h2 v hv=>hall e h1 (by omega) v hv
  rw [ht]
  refine j_nf [_,_,_,_,_,_] rfl (j_run it 3 rfl ⟨trivial,⟨by omega,by omega⟩,trivial,trivial⟩ ?_)
  refine j_step rfl (x_len sl22 rfl ?_)
  refine j_run it 1 rfl (by simp) ?_
  refine j_nf [_,_,_,_,_] rfl (j_if rfl rfl (fun h1=>by exfalso;omega) (fun h1=>?_))
  refine j_nf [_,_] rfl (j_run it 1 rfl (by simp) ?_)
  refine j_nf [_] rfl ?_
  refine j_giv [] rfl rfl rfl ⟨rfl,rfl,rfl⟩
def chkF (P M : Int) (md : List Int) : Prop:=ordP P M ∧ Prm P.toNat ∧ (M = 1 → md.length = 0) ∧ (M ≠ 1 → (md.length : Int) = M ∧ (∀ x ∈ md,0 ≤ x ∧ x < P) ∧ irrP P.toNat (md.map Int.toNat))
theorem toI_toNat {l : List Int} (h : ∀ x ∈ l,0 ≤ x) : toI (l.map Int.toNat) = l:=by
 rw [toI,List.map_map]
 conv=>rhs;rw [← List.map_id l]
 refine List.map_congr_left fun x hx=>?_
 have:=h x hx
 show ((x.toNat : Nat) : Int) = x
 omega
open Classical in
theorem S_codewrightref04_Check {P M : Int} {pm : Option Addr} {nm cm : Nat} {md : List Int} {e : Int} (he : e = if chkF P M md then 0 else 1) : Ctr Try.prog 25 [.agg #[.int .i64 P,.int .i64 M,.slice pm nm cm]] [] [slF I64 pm nm cm md] (Rv (.int .i64 e) []):=by
 refine Ctr_of_j' (F:=F_codewrightref04_Check) rfl fun C=>?_
 refine j_len 0 rfl fun hn1 hb1 _=>?_
 subst hn1
 have no : ¬ chkF P M md → e = 1:=fun h=>by rw [he,if_neg h]
 by_cases ho : ordP P M
 case neg =>
  have hI : ordI P M = 0:=by rw [ordI,if_neg ho]
  rw [no fun h=>ho h.1]
  refine j_nf [_,_] rfl ?_
  refine j_step rfl (x_box_agg rfl fun b1=>?_)
  refine j_run it 1 rfl (by simp) ?_
  refine j_nf [_,_,_] rfl ?_
  refine j_step rfl (x_bld_all 0 rfl rfl ld24 rfl ?_)
  refine j_step rfl (x_call [] rfl (S_codewrightref04_Order (by omega)) rfl ?_)
  rintro _ _ _ ⟨rfl,rfl,rfl⟩
  simp only [List.cons_append,List.nil_append]
  refine j_run it 7 rfl (by simp) ?_
  refine j_nf [_,_] rfl ?_
  refine j_true rfl rfl ?_
  refine j_nf [_,_,_] rfl ?_
  refine j_run it 1 rfl (by simp) ?_
  refine j_nf [_,_] rfl ?_
  refine j_giv [] rfl rfl rfl ⟨rfl,rfl,rfl⟩
 obtain ⟨h1,h2,h3,h4⟩:=ho
 obtain ⟨p,rfl⟩ : ∃ p : Nat,P = p:=⟨P.toNat,by omega⟩
 obtain ⟨m,rfl⟩ : ∃ m : Nat,M = m:=⟨M.toNat,by omega⟩
 simp only [Int.toNat_natCast] at h4
 have hI : ordI (p : Int) (m : Int) = ((p ^ m : Nat) : Int):=by rw [ordI,if_pos ⟨h1,h2,h3,by simpa using h4⟩];simp
 have hpm : p ≤ p ^ m:=Nat.le_self_pow (by omega) p
 have hq0 : ¬ ((p ^ m : Nat) : Int) = 0:=by omega
 by_cases hp : Prm p
 case neg =>
  have hr : (false = true ↔ Prm p):=⟨fun h=>(by cases h),fun h=>absurd h hp⟩
  rw [no fun h=>hp (by simpa using h.2.1)]
  generalize p ^ m = Q at *
  refine j_nf [_,_] rfl ?_
  refine j_step rfl (x_box_agg rfl fun b1=>?_)
  refine j_run it 1 rfl (by simp) ?_
  refine j_nf [_,_,_] rfl ?_
  refine j_step rfl (x_bld_all 0 rfl rfl ld24 rfl ?_)
  refine j_step rfl (x_call [] rfl (S_codewrightref04_Order (by omega)) rfl ?_)
  rintro _ _ _ ⟨rfl,rfl,rfl⟩
  simp only [List.cons_append,List.nil_append]
  refine j_run it 2 rfl (by simp) ?_
  refine j_split_dec (t:=7) rfl (fun h5=>by exfalso;omega) (fun h5=>?_)
  refine j_gstep rfl rfl (x_field rfl fd24_0 ?_)
  refine j_gstep rfl rfl (x_bld 0 rfl rfl ld3 rfl ?_)
  refine j_gstep rfl rfl (x_call [] rfl (S_codewrightref04_prime (by omega) (by omega) (by omega)) rfl ?_)
  rintro _ _ _ ⟨rfl,rfl,rfl⟩
  simp only [List.cons_append,List.nil_append]
  refine j_run it 2 rfl (by simp) ?_
  refine j_nf [_,_] rfl ?_
  refine j_true rfl rfl ?_
  refine j_nf [_,_,_] rfl ?_
  refine j_run it 1 rfl (by simp) ?_
  refine j_nf [_,_] rfl ?_
  refine j_giv [] rfl rfl rfl ⟨rfl,rfl,rfl⟩
 have hr : (true = true ↔ Prm p):=⟨fun _=>hp,fun _=>rfl⟩
 by_cases hm1 : m = 1
 ·subst hm1
  by_cases hl : md.length = 0
  ·have : e = 0:=by rw [he,if_pos ⟨⟨h1,h2,h3,by simpa using h4⟩,by simpa using hp,fun _=>hl,fun h=>absurd rfl h⟩]
   rw [this]
   generalize p ^ 1 = Q at *
   refine j_nf [_,_] rfl ?_
   refine j_step rfl (x_box_agg rfl fun b1=>?_)
   refine j_run it 1 rfl (by simp) ?_
   refine j_nf [_,_,_] rfl ?_
   refine j_step rfl (x_bld_all 0 rfl rfl ld24 rfl ?_)
   refine j_step rfl (x_call [] rfl (S_codewrightref04_Order (by omega)) rfl ?_)
   rintro _ _ _ ⟨rfl,rfl,rfl⟩
   simp only [List.cons_append,List.nil_append]
   refine j_run it 2 rfl (by simp) ?_
   refine j_split_dec (t:=7) rfl (fun h5=>by exfalso;omega) (fun h5=>?_)
   refine j_gstep rfl rfl (x_field rfl fd24_0 ?_)
   refine j_gstep rfl rfl (x_bld 0 rfl rfl ld3 rfl ?_)
   refine j_gstep rfl rfl (x_call [] rfl (S_codewrightref04_prime (by omega) (by omega) (by omega)) rfl ?_)
   rintro _ _ _ ⟨rfl,rfl,rfl⟩
   simp only [List.cons_append,List.nil_append]
   refine j_run it 2 rfl (by simp) ?_
   refine j_nf [_,_] rfl ?_
   refine j_false rfl rfl ?_
   refine j_nf [_,_,_] rfl ?_
   refine j_step rfl (x_field rfl fd24_1 ?_)
   refine j_step rfl (x_bld 0 rfl rfl ld3 rfl ?_)
   refine j_run it 1 rfl (by simp) ?_
   refine j_nf [_,_] rfl ?_
   refine j_if rfl rfl (fun h6=>?_) (fun h6=>by exfalso;omega)
   refine j_nf [_,_,_,_] rfl ?_
   refine j_step rfl (x_field rfl fd24_2 ?_)
   refine j_step rfl (x_bld 0 rfl rfl ld22 rfl ?_)
   refine j_step rfl (x_len sl22 rfl ?_)
   refine j_run it 1 rfl (by simp) ?_
   refine j_nf [_,_,_] rfl ?_
   refine j_ifn rfl rfl (fun h7=>by exfalso;omega) (fun h7=>?_)
   refine j_nf [_,_,_] rfl ?_
   refine j_run it 1 rfl (by simp) ?_
   refine j_nf [_,_] rfl ?_
   refine j_giv [] rfl rfl rfl ⟨rfl,rfl,rfl⟩
  ·rw [no fun h=>hl (h.2.2.1 rfl)]
   generalize p ^ 1 = Q at *
   refine j_nf [_,_] rfl ?_
   refine j_step rfl (x_box_agg rfl fun b1=>?_)
   refine j_run it 1 rfl (by simp) ?_
   refine j_nf [_,_,_] rfl ?_
   refine j_step rfl (x_bld_all 0 rfl rfl ld24 rfl ?_)
   refine j_step rfl (x_call [] rfl (S_codewrightref04_Order (by omega)) rfl ?_)
   rintro _ _ _ ⟨rfl,rfl,rfl⟩
   simp only [List.cons_append,List.nil_append]
   refine j_run it 2 rfl (by simp) ?_
   refine j_split_dec (t:=7) rfl (fun h5=>by exfalso;omega) (fun h5=>?_)
   refine j_gstep rfl rfl (x_field rfl fd24_0 ?_)
   refine j_gstep rfl rfl (x_bld 0 rfl rfl ld3 rfl ?_)
   refine j_gstep rfl rfl (x_call [] rfl (S_codewrightref04_prime (by omega) (by omega) (by omega)) rfl ?_)
   rintro _ _ _ ⟨rfl,rfl,rfl⟩
   simp only [List.cons_append,List.nil_append]
   refine j_run it 2 rfl (by simp) ?_
   refine j_nf [_,_] rfl ?_
   refine j_false rfl rfl ?_
   refine j_nf [_,_,_] rfl ?_
   refine j_step rfl (x_field rfl fd24_1 ?_)
   refine j_step rfl (x_bld 0 rfl rfl ld3 rfl ?_)
   refine j_run it 1 rfl (by simp) ?_
   refine j_nf [_,_] rfl ?_
   refine j_if rfl rfl (fun h6=>?_) (fun h6=>by exfalso;omega)
   refine j_nf [_,_,_,_] rfl ?_
   refine j_step rfl (x_field rfl fd24_2 ?_)
   refine j_step rfl (x_bld 0 rfl rfl ld22 rfl ?_)
   refine j_step rfl (x_len sl22 rfl ?_)
   refine j_run it 1 rfl (by simp) ?_
   refine j_nf [_,_,_] rfl ?_
   refine j_ifn rfl rfl (fun h7=>?_) (fun h7=>by exfalso;omega)
   refine j_nf [_,_,_,_] rfl ?_
   refine j_run it 1 rfl (by simp) ?_
   refine j_nf [_,_,_] rfl ?_
   refine j_giv [] rfl rfl rfl ⟨rfl,rfl,rfl⟩
 have hm1' : ¬ (m : Int) = 1:=by omega
 by_cases hl : md.length = m
 case neg =>
  rw [no fun h=>hl (by have:=(h.2.2.2 hm1').1;omega)]
  generalize p ^ m = Q at *
  refine j_nf [_,_] rfl ?_
  refine j_step rfl (x_box_agg rfl fun b1=>?_)
  refine j_run it 1 rfl (by simp) ?_
  refine j_nf [_,_,_] rfl ?_
  refine j_step rfl (x_bld_all 0 rfl rfl ld24 rfl ?_)
  refine j_step rfl (x_call [] rfl (S_codewrightref04_Order (by omega)) rfl ?_)
  rintro _ _ _ ⟨rfl,rfl,rfl⟩
  simp only [List.cons_append,List.nil_append]
  refine j_run it 2 rfl (by simp) ?_
  refine j_split_dec (t:=7) rfl (fun h5=>by exfalso;omega) (fun h5=>?_)
  refine j_gstep rfl rfl (x_field rfl fd24_0 ?_)
  refine j_gstep rfl rfl (x_bld 0 rfl rfl ld3 rfl ?_)
  refine j_gstep rfl rfl (x_call [] rfl (S_codewrightref04_prime (by omega) (by omega) (by omega)) rfl ?_)
  rintro _ _ _ ⟨rfl,rfl,rfl⟩
  simp only [List.cons_append,List.nil_append]
  refine j_run it 2 rfl (by simp) ?_
  refine j_nf [_,_] rfl ?_
  refine j_false rfl rfl ?_
  refine j_nf [_,_,_] rfl ?_
  refine j_step rfl (x_field rfl fd24_1 ?_)
  refine j_step rfl (x_bld 0 rfl rfl ld3 rfl ?_)
  refine j_run it 1 rfl (by simp) ?_
  refine j_nf [_,_] rfl ?_
  refine j_if rfl rfl (fun h6=>by exfalso;omega) (fun h6=>?_)
  refine j_nf [_,_,_] rfl ?_
  refine j_step rfl (x_field rfl fd24_2 ?_)
  refine j_step rfl (x_bld 0 rfl rfl ld22 rfl ?_)
  refine j_step rfl (x_len sl22 rfl ?_)
  refine j_step rfl (x_field rfl fd24_1 ?_)
  refine j_step rfl (x_bld 0 rfl rfl ld3 rfl ?_)
  refine j_run it 1 rfl (by simp) ?_
  refine j_nf [_,_] rfl ?_
  refine j_ifn rfl rfl (fun h7=>?_) (fun h7=>by exfalso;omega)
  refine j_nf [_,_,_] rfl ?_
  refine j_run it 1 rfl (by simp) ?_
  refine j_nf [_,_] rfl ?_
  refine j_giv [] rfl rfl rfl ⟨rfl,rfl,rfl⟩
 subst hl
 have hm8 : md.length ≤ 8:=by omega
 generalize hQ : p ^ md.length = Q at *
 refine j_nf [_,_] rfl ?_
 refine j_step rfl (x_box_agg rfl fun b1=>?_)
 refine j_run it 1 rfl (by simp) ?_
 refine j_nf [_,_,_] rfl ?_
 refine j_step rfl (x_bld_all 0 rfl rfl ld24 rfl ?_)
 refine j_step rfl (x_call [] rfl (S_codewrightref04_Order (by omega)) rfl ?_)
 rintro _ _ _ ⟨rfl,rfl,rfl⟩
 simp only [List.cons_append,List.nil_append]
 refine j_run it 2 rfl (by simp) ?_
 refine j_split_dec (t:=7) rfl (fun h5=>by exfalso;omega) (fun h5=>?_)
 refine j_gstep rfl rfl (x_field rfl fd24_0 ?_)
 refine j_gstep rfl rfl (x_bld 0 rfl rfl ld3 rfl ?_)
 refine j_gstep rfl rfl (x_call [] rfl (S_codewrightref04_prime (by omega) (by omega) (by omega)) rfl ?_)
 rintro _ _ _ ⟨rfl,rfl,rfl⟩
 simp only [List.cons_append,List.nil_append]
 refine j_run it 2 rfl (by simp) ?_
 refine j_nf [_,_] rfl ?_
 refine j_false rfl rfl ?_
 refine j_nf [_,_,_] rfl ?_
 refine j_step rfl (x_field rfl fd24_1 ?_)
 refine j_step rfl (x_bld 0 rfl rfl ld3 rfl ?_)
 refine j_run it 1 rfl (by simp) ?_
 refine j_nf [_,_] rfl ?_
 refine j_if rfl rfl (fun h6=>by exfalso;omega) (fun h6=>?_)
 refine j_nf [_,_,_] rfl ?_
 refine j_step rfl (x_field rfl fd24_2 ?_)
 refine j_step rfl (x_bld 0 rfl rfl ld22 rfl ?_)
 refine j_step rfl (x_len sl22 rfl ?_)
 refine j_step rfl (x_field rfl fd24_1 ?_)
 refine j_step rfl (x_bld 0 rfl rfl ld3 rfl ?_)
 refine j_run it 1 rfl (by simp) ?_
 refine j_nf [_,_] rfl ?_
 refine j_ifn rfl rfl (fun h7=>by exfalso;omega) (fun h7=>?_)
 refine j_nf [_,_,_] rfl ?_
 refine j_run it 1 rfl (by simp) ?_
 refine j_nf [_,_,_] rfl ?_
 refine j_loopG (X:=Nat) [1] [0] (fun i=>[(3,.int .i64 (i : Int))]) (fun _=>[(some b1,24,[.int .i64 (p : Int),.int .i64 (md.length : Int),.slice pm md.length cm])]) (fun _=>[]) (fun i=>i ≤ md.length ∧ ∀ k,k < i → 0 ≤ md.getD k 0 ∧ md.getD k 0 < p) (fun i=>md.length - i) 0 [] rfl rfl rfl ⟨Nat.zero_le _,fun k hk=>by omega⟩ (by repeat (first | exact Fr.sub_nil _ | refine Fr.sub_cons rfl ?_)) rfl rfl ?_
 rintro i ⟨hi,hall⟩ ih
 simp only [List.cons_append,List.nil_append] at hi hall ih ⊢
 by_cases hil : i < md.length
 ·have hz : md[i]? = some (md.getD i 0):=by rw [List.getD_eq_getElem?_getD,List.getElem?_eq_getElem hil];rfl
  have hdd : md.getD i 0 = md.getD i default:=rfl
  rw [hdd] at hz
  by_cases ha : md.getD i default < 0
  ·rw [no fun h=>by have:=(h.2.2.2 hm1').2.1 _ (List.mem_of_getElem? hz);omega]
   refine j_nf [_,_,_,_,_,_] rfl ?_
   refine j_run it 1 rfl (by simp) ?_
   refine j_step rfl (x_field rfl fd24_1 ?_)
   refine j_step rfl (x_bld 0 rfl rfl ld3 rfl ?_)
   refine j_run it 1 rfl (by simp) ?_
   refine j_nf [_,_,_,_,_] rfl ?_
   refine j_if rfl rfl (fun h8=>?_) (fun h8=>by exfalso;omega)
   refine j_nf [_,_,_,_,_,_,_] rfl ?_
   (apply j_drawK it mx 16;(· rfl);(· rfl))
   (apply lxk_eq;(· rfl);(· exact d_x fun _=>x_field rfl fd24_2 dk_eq))
   (apply lxk_eq;(· rfl);(· exact d_bld 0 rfl rfl ld22 rfl))
   (apply lxk_run 1;(· rfl);(· simp))
   (apply lxk_pt;(· rfl);(· exact d_x fun _=>x_idx 0 (i) rfl rfl rfl sl22 rfl (by omega) fun z1 hz1 b2 o1=>(dk_ptD default hz1 0 rfl));intro b2 o1)
   (apply lxk_eq;(· rfl);(· exact d_x fun _=>x_ld_int 0 rfl rfl ld3 fun ⟨r1,r2⟩=>dk_eq))
   (apply lxk_eq;(· rfl);(· exact d_x fun _=>x_true it rfl (by trivial) (by omega) dk_eq))
   (apply lxk_run 8;(· rfl);(· simp))
   (apply lxk_run 2;(· rfl);(· simp))
   refine lxk_end rfl ?_
   simp only [List.map_cons,List.map_nil,List.cons_append,List.nil_append]
   refine j_nf [_,_,_,_,_,_] rfl ?_
   refine j_true rfl rfl ?_
   refine j_nf [_,_,_,_,_,_,_] rfl ?_
   refine j_run it 1 rfl (by simp) ?_
   refine j_nf [_,_,_,_,_,_] rfl ?_
   refine j_giv [] rfl rfl rfl ⟨rfl,rfl,rfl⟩
  by_cases hb : (p : Int) ≤ md.getD i default
  ·rw [no fun h=>by have:=(h.2.2.2 hm1').2.1 _ (List.mem_of_getElem? hz);omega]
   refine j_nf [_,_,_,_,_,_] rfl ?_
   refine j_run it 1 rfl (by simp) ?_
   refine j_step rfl (x_field rfl fd24_1 ?_)
   refine j_step rfl (x_bld 0 rfl rfl ld3 rfl ?_)
   refine j_run it 1 rfl (by simp) ?_
   refine j_nf [_,_,_,_,_] rfl ?_
   refine j_if rfl rfl (fun h8=>?_) (fun h8=>by exfalso;omega)
   refine j_nf [_,_,_,_,_,_,_] rfl ?_
   (apply j_drawK it mx 16;(· rfl);(· rfl))
   (apply lxk_eq;(· rfl);(· exact d_x fun _=>x_field rfl fd24_2 dk_eq))
   (apply lxk_eq;(· rfl);(· exact d_bld 0 rfl rfl ld22 rfl))
   (apply lxk_run 1;(· rfl);(· simp))
   (apply lxk_pt;(· rfl);(· exact d_x fun _=>x_idx 0 (i) rfl rfl rfl sl22 rfl (by omega) fun z1 hz1 b2 o1=>(dk_ptD default hz1 0 rfl));intro b2 o1)
   (apply lxk_eq;(· rfl);(· exact d_x fun _=>x_ld_int 0 rfl rfl ld3 fun ⟨r1,r2⟩=>dk_eq))
   (apply lxk_eq;(· rfl);(· exact d_x fun _=>x_false it rfl (by trivial) (by omega) dk_eq))
   (apply lxk_run 1;(· rfl);(· simp))
   (apply lxk_eq;(· rfl);(· exact d_x fun _=>x_field rfl fd24_2 dk_eq))
   (apply lxk_eq;(· rfl);(· exact d_bld 0 rfl rfl ld22 rfl))
   (apply lxk_run 1;(· rfl);(· simp))
   (apply lxk_pt;(· rfl);(· exact d_x fun _=>x_idx 1 (i) rfl rfl rfl sl22 rfl (by omega) fun z1 hz1 b3 o2=>(dk_ptD default hz1 0 rfl));intro b3 o2)
   (apply lxk_eq;(· rfl);(· exact d_x fun _=>x_ld_int 0 rfl rfl ld3 fun ⟨r1,r2⟩=>dk_eq))
   (apply lxk_eq;(· rfl);(· exact d_x fun _=>x_field rfl fd24_0 dk_eq))
   (apply lxk_eq;(· rfl);(· exact d_bld 0 rfl rfl ld3 rfl))
   (apply lxk_eq;(· rfl);(· exact d_x fun _=>x_true it rfl (by trivial) (by omega) dk_eq))
   (apply lxk_run 1;(· rfl);(· simp))
   refine lxk_end rfl ?_
   simp only [List.map_cons,List.map_nil,List.cons_append,List.nil_append]
   refine j_nf [_,_,_,_,_,_] rfl ?_
   refine j_true rfl rfl ?_
   refine j_nf [_,_,_,_,_,_,_] rfl ?_
   refine j_run it 1 rfl (by simp) ?_
   refine j_nf [_,_,_,_,_,_] rfl ?_
   refine j_giv [] rfl rfl rfl ⟨rfl,rfl,rfl⟩
  ·refine j_nf [_,_,_,_,_,_] rfl ?_
   refine j_run it 1 rfl (by simp) ?_
   refine j_step rfl (x_field rfl fd24_1 ?_)
   refine j_step rfl (x_bld 0 rfl rfl ld3 rfl ?_)
   refine j_run it 1 rfl (by simp) ?_
   refine j_nf [_,_,_,_,_] rfl ?_
   refine j_if rfl rfl (fun h8=>?_) (fun h8=>by exfalso;omega)
   refine j_nf [_,_,_,_,_,_,_] rfl ?_
   (apply j_drawK it mx 16;(· rfl);(· rfl))
   (apply lxk_eq;(· rfl);(· exact d_x fun _=>x_field rfl fd24_2 dk_eq))
   (apply lxk_eq;(· rfl);(· exact d_bld 0 rfl rfl ld22 rfl))
   (apply lxk_run 1;(· rfl);(· simp))
   (apply lxk_pt;(· rfl);(· exact d_x fun _=>x_idx 0 (i) rfl rfl rfl sl22 rfl (by omega) fun z1 hz1 b2 o1=>(dk_ptD default hz1 0 rfl));intro b2 o1)
   (apply lxk_eq;(· rfl);(· exact d_x fun _=>x_ld_int 0 rfl rfl ld3 fun ⟨r1,r2⟩=>dk_eq))
   (apply lxk_eq;(· rfl);(· exact d_x fun _=>x_false it rfl (by trivial) (by omega) dk_eq))
   (apply lxk_run 1;(· rfl);(· simp))
   (apply lxk_eq;(· rfl);(· exact d_x fun _=>x_field rfl fd24_2 dk_eq))
   (apply lxk_eq;(· rfl);(· exact d_bld 0 rfl rfl ld22 rfl))
   (apply lxk_run 1;(· rfl);(· simp))
   (apply lxk_pt;(· rfl);(· exact d_x fun _=>x_idx 1 (i) rfl rfl rfl sl22 rfl (by omega) fun z1 hz1 b3 o2=>(dk_ptD default hz1 0 rfl));intro b3 o2)
   (apply lxk_eq;(· rfl);(· exact d_x fun _=>x_ld_int 0 rfl rfl ld3 fun ⟨r1,r2⟩=>dk_eq))
   (apply lxk_eq;(· rfl);(· exact d_x fun _=>x_field rfl fd24_0 dk_eq))
   (apply lxk_eq;(· rfl);(· exact d_bld 0 rfl rfl ld3 rfl))
   (apply lxk_eq;(· rfl);(· exact d_x fun _=>x_false it rfl (by trivial) (by omega) dk_eq))
   (apply lxk_run 1;(· rfl);(· simp))
   refine lxk_end rfl ?_
   simp only [List.map_cons,List.map_nil,List.cons_append,List.nil_append]
   refine j_nf [_,_,_,_,_,_] rfl ?_
   refine j_false rfl rfl ?_
   refine j_nf [_,_,_,_] rfl ?_
   refine j_run it 3 rfl ⟨trivial,⟨by omega,by omega⟩,trivial,trivial⟩ ?_
   refine j_nfn 1 [.lp (pL 500),.blk 0,.c [1,1,1,1,1]] rfl ?_
   refine j_to [2] (by exact fra rfl) rfl rfl (ih (i + 1) (by omega) ⟨by omega,fun k hk=>by
    rcases Nat.lt_succ_iff_lt_or_eq.1 hk with h | rfl
    ·exact hall k h
    ·rw [hdd];omega⟩)
 ·obtain rfl : i = md.length:=by omega
  have hrng : ∀ x ∈ md,0 ≤ x ∧ x < (p : Int):=fun x hx=>by
   obtain ⟨k,hk⟩:=List.getElem?_of_mem hx
   have hkl:=(List.getElem?_eq_some_iff.1 hk).1
   have:=hall k hkl
   rw [List.getD_eq_getElem?_getD,hk] at this
   exact this
  have eI:=toI_toNat fun x hx=>(hrng x hx).1
  have lN : (md.map Int.toNat).length = md.length:=List.length_map _
  have rN : ∀ x ∈ md.map Int.toNat,x < p:=fun x hx=>by
   obtain ⟨y,hy,rfl⟩:=List.mem_map.1 hx
   have:=hrng y hy
   omega
  have c_codewrightref04_irreducible:=fun {pm : Option Addr} {nm cm : Nat} {res : Bool} hres=>S_codewrightref04_irreducible (pm:=pm) (nm:=nm) (cm:=cm) (p:=p) (md:=md.map Int.toNat) hp.1 (by omega) (by rw [lN,hQ];exact h4) (by omega) rN (res:=res) hres
  rw [eI] at c_codewrightref04_irreducible
  by_cases hirr : irrP p (md.map Int.toNat)
  ·have hri : (true = true ↔ irrP p (md.map Int.toNat)):=⟨fun _=>hirr,fun _=>rfl⟩
   have : e = 0:=by rw [he,if_pos ⟨⟨h1,h2,h3,by simpa [hQ] using h4⟩,by simpa using hp,fun h=>absurd h hm1',fun _=>⟨rfl,hrng,by simpa using hirr⟩⟩]
   rw [this]
   refine j_nf [_,_,_,_,_,_] rfl ?_
   refine j_run it 1 rfl (by simp) ?_
   refine j_step rfl (x_field rfl fd24_1 ?_)
   refine j_step rfl (x_bld 0 rfl rfl ld3 rfl ?_)
   refine j_run it 1 rfl (by simp) ?_
   refine j_nf [_,_,_,_,_] rfl ?_
   refine j_if rfl rfl (fun h8=>by exfalso;omega) (fun h8=>?_)
   refine j_nf [_,_,_] rfl ?_
   refine j_step rfl (x_field rfl fd24_2 ?_)
   refine j_step rfl (x_bld 0 rfl rfl ld22 rfl ?_)
   refine j_step rfl (x_field rfl fd24_0 ?_)
   refine j_step rfl (x_bld 0 rfl rfl ld3 rfl ?_)
   refine j_step rfl (x_call [0] rfl (c_codewrightref04_irreducible (by omega)) rfl ?_)
   rintro _ _ _ ⟨rfl,rfl,rfl⟩
   simp only [List.cons_append,List.nil_append]
   refine j_run it 1 rfl (by simp) ?_
   refine j_nf [_,_] rfl ?_
   refine j_false rfl rfl ?_
   refine j_nf [_,_] rfl ?_
   refine j_run it 1 rfl (by simp) ?_
   refine j_nf [_] rfl ?_
   refine j_giv [] rfl rfl rfl ⟨rfl,rfl,rfl⟩
  ·have hri : (false = true ↔ irrP p (md.map Int.toNat)):=⟨fun h=>(by cases h),fun h=>absurd h hirr⟩
   rw [no fun h=>hirr (by have:=(h.2.2.2 hm1').2.2;simpa using this)]
   refine j_nf [_,_,_,_,_,_] rfl ?_
   refine j_run it 1 rfl (by simp) ?_
   refine j_step rfl (x_field rfl fd24_1 ?_)
   refine j_step rfl (x_bld 0 rfl rfl ld3 rfl ?_)
   refine j_run it 1 rfl (by simp) ?_
   refine j_nf [_,_,_,_,_] rfl ?_
   refine j_if rfl rfl (fun h8=>by exfalso;omega) (fun h8=>?_)
   refine j_nf [_,_,_] rfl ?_
   refine j_step rfl (x_field rfl fd24_2 ?_)
   refine j_step rfl (x_bld 0 rfl rfl ld22 rfl ?_)
   refine j_step rfl (x_field rfl fd24_0 ?_)
   refine j_step rfl (x_bld 0 rfl rfl ld3 rfl ?_)
   refine j_step rfl (x_call [0] rfl (c_codewrightref04_irreducible (by omega)) rfl ?_)
   rintro _ _ _ ⟨rfl,rfl,rfl⟩
   simp only [List.cons_append,List.nil_append]
   refine j_run it 1 rfl (by simp) ?_
   refine j_nf [_,_] rfl ?_
   refine j_true rfl rfl ?_
   refine j_nf [_,_,_] rfl ?_
   refine j_run it 1 rfl (by simp) ?_
   refine j_nf [_,_] rfl ?_
   refine j_giv [] rfl rfl rfl ⟨rfl,rfl,rfl⟩
structure Fok (p m : Nat) (md : List Int) : Prop where
 pr : Prm p
 m1 : 1 ≤ m
 m8 : m ≤ 8
 q : p ^ m ≤ 256
 one : m = 1 → md = []
 len : m ≠ 1 → md.length = m
 rng : ∀ x ∈ md,0 ≤ x ∧ x < (p : Int)
 irr : m ≠ 1 → irrP p (md.map Int.toNat)
theorem chk_ok {P M : Int} {md : List Int} (h : chkF P M md) : ∃ p m : Nat,P = p ∧ M = m ∧ Fok p m md:=by
 obtain ⟨⟨h1,h2,h3,h4⟩,hp,ho,hn⟩:=h
 refine ⟨P.toNat,M.toNat,by omega,by omega,hp,by omega,by omega,h4,fun e=>List.length_eq_zero_iff.1 (ho (by omega)),fun e=>?_,fun x hx=>?_,fun e=>(hn (by omega)).2.2⟩
 ·have:=(hn (by omega)).1;omega
 ·by_cases e : M = 1
  ·have:=List.length_eq_zero_iff.1 (ho e)
   rw [this] at hx;cases hx
  ·have:=(hn e).2.1 x hx
   omega
def fpo (m : Nat) (md : List Int) : List Int:=if m = 1 then [0] else md
section
variable {p m : Nat} {md : List Int} (K : Fok p m md)
include K
theorem Fok.p2 : 2 ≤ p:=K.pr.1
theorem Fok.p256 : p ≤ 256:=Nat.le_trans (Nat.le_self_pow (by have:=K.m1;omega) p) K.q
theorem Fok.flen : (fpo m md).length = m:=by
 unfold fpo
 by_cases h : m = 1
 ·rw [if_pos h,h];rfl
 ·rw [if_neg h,K.len h]
theorem Fok.fi : FI (p ^ m) (liftI (fA p m)) (liftI (fM p (fpo m md))):=by
 have hl:=K.flen
 have h:=fld_of K.pr (f:=fpo m md) (by rw [hl];exact K.m1) (by
  unfold fpo
  by_cases h : m = 1
  ·rw [if_pos h]
   rintro ⟨g,s,h1,h2,h3,_⟩
   simp at h3;omega
  ·rw [if_neg h,← toI_toNat fun x hx=>(K.rng x hx).1]
   exact irr_splits (by have:=K.p2;omega) (K.irr h))
 rw [hl] at h
 exact fi_of h
theorem Fok.ord : ordI p m = ((p ^ m : Nat) : Int):=by
 have:=K.p2;have:=K.m1;have:=K.m8
 rw [ordI,if_pos ⟨by omega,by omega,by omega,by simpa using K.q⟩];simp
end
theorem S_codewrightref04_Is {P M x : Int} {pm : Option Addr} {n c : Nat} {res : Bool} (hres : decide (0 ≤ x ∧ x < ordI P M) = res) : Ctr Try.prog 85 [.agg #[.int .i64 P,.int .i64 M,.slice pm n c],.int .i64 x] [] [] (Rv (.bool res) []):=by
 subst hres
 refine Ctr_of_j' (F:=F_codewrightref04_Is) rfl fun C=>?_
 by_cases h : 0 ≤ x
 ·rw [show decide (0 ≤ x ∧ x < ordI P M) = decide (x < ordI P M) from decide_eq_decide.2 ⟨fun h=>h.2,fun h2=>⟨h,h2⟩⟩]
  refine j_nf [_,_] rfl (j_step rfl (x_box_agg rfl fun b1=>?_))
  refine j_run it 1 rfl (by simp) ?_
  refine j_nf [_,_] rfl (j_run it 3 rfl (by simp) ?_)
  refine j_split_dec (t:=7) rfl (fun h1=>?_) (fun h1=>by exfalso;omega)
  refine j_run it 1 rfl (by simp) ?_
  refine j_gstep rfl rfl (x_bld_all 0 rfl rfl ld24 rfl ?_)
  refine j_gstep rfl rfl (x_call [] rfl (S_codewrightref04_Order (by rfl)) rfl ?_)
  rintro _ _ _ ⟨rfl,rfl,rfl⟩
  simp only [List.cons_append,List.nil_append]
  refine j_run it 3 rfl (by simp) ?_
  refine j_nf [_] rfl ?_
  refine j_giv [] rfl rfl rfl ⟨rfl,rfl,rfl⟩
 ·rw [decide_eq_false fun h2=>h h2.1]
  refine j_nf [_,_] rfl (j_step rfl (x_box_agg rfl fun b1=>?_))
  refine j_run it 1 rfl (by simp) ?_
  refine j_nf [_,_] rfl (j_run it 3 rfl (by simp) ?_)
  refine j_split_dec (t:=7) rfl (fun h1=>by exfalso;omega) (fun h1=>?_)
  refine j_run it 6 rfl (by simp) ?_
  refine j_nf [_] rfl ?_
  refine j_giv [] rfl rfl rfl ⟨rfl,rfl,rfl⟩
def inI (q x : Int) : Int:=if 0 ≤ x ∧ x < q then x else 0
theorem S_codewrightref04_In {P M x : Int} {pm : Option Addr} {n c : Nat} {res : Int} (hres : inI (ordI P M) x = res) : Ctr Try.prog 53 [.agg #[.int .i64 P,.int .i64 M,.slice pm n c],.int .i64 x] [] [] (Rv (.int .i64 res) []):=by
 subst hres
 refine Ctr_of_j' (F:=F_codewrightref04_In) rfl fun C=>?_
 by_cases h : 0 ≤ x ∧ x < ordI P M
 ·have hd : decide (0 ≤ x ∧ x < ordI P M) = true:=decide_eq_true h
  rw [inI,if_pos h]
  refine j_nf [_,_] rfl (j_step rfl (x_box_agg rfl fun b1=>?_))
  refine j_run it 1 rfl (by simp) ?_
  refine j_nf [_,_,_] rfl (j_step rfl (x_bld_all 0 rfl rfl ld24 rfl ?_))
  refine j_run it 1 rfl (by simp) ?_
  refine j_step rfl (x_call [] rfl (S_codewrightref04_Is (by omega)) rfl ?_)
  rintro _ _ _ ⟨rfl,rfl,rfl⟩
  simp only [List.cons_append,List.nil_append]
  refine j_nf [_,_] rfl ?_
  refine j_true rfl rfl ?_
  refine j_nf [_,_,_] rfl (j_run it 2 rfl (by simp) ?_)
  refine j_nf [_,_] rfl ?_
  refine j_giv [] rfl rfl rfl ⟨rfl,rfl,rfl⟩
 ·have hd : decide (0 ≤ x ∧ x < ordI P M) = false:=decide_eq_false h
  rw [inI,if_neg h]
  refine j_nf [_,_] rfl (j_step rfl (x_box_agg rfl fun b1=>?_))
  refine j_run it 1 rfl (by simp) ?_
  refine j_nf [_,_,_] rfl (j_step rfl (x_bld_all 0 rfl rfl ld24 rfl ?_))
  refine j_run it 1 rfl (by simp) ?_
  refine j_step rfl (x_call [] rfl (S_codewrightref04_Is (by omega)) rfl ?_)
  rintro _ _ _ ⟨rfl,rfl,rfl⟩
  simp only [List.cons_append,List.nil_append]
  refine j_nf [_,_] rfl ?_
  refine j_false rfl rfl ?_
  refine j_nf [_,_] rfl (j_run it 1 rfl (by simp) ?_)
  refine j_nf [_] rfl ?_
  refine j_giv [] rfl rfl rfl ⟨rfl,rfl,rfl⟩
abbrev OvI (e : TypeId) (n : Nat) (l : List Nat) : Value → List Fact → List Blk → Prop:=fun v Φ β=>∃ b,v = .slice (some ⟨b,0,none⟩) n n ∧ Φ = [] ∧ β = [(some b,e,natCells .i64 l)]
theorem O_codewrightref04_digits {p n x : Nat} (hp : 1 ≤ p) (hp2 : p ≤ 1000000) (hn : n ≤ 100) (hx : x ≤ 1000000000) : Ctr Try.prog 87 [.int .i64 x,.int .i64 p,.int .i64 n] [] [] (OvI 3 n (dig p n x)):=by
 refine Ctr_of_j' (F:=F_codewrightref04_digits) rfl fun C=>?_
 have hl:=dig_len p n x
 refine j_nf [_,_] rfl (j_run it 1 rfl (by simp) ?_)
 refine j_nf [_,_] rfl (j_run it 1 rfl (by simp) ?_)
 refine j_step rfl (x_make_nat (n) _ rfl rfl sl22 zo22e by22e (by omega) (by omega) (by omega) fun b1=>?_)
 refine j_run it 1 rfl (by simp) ?_
 refine j_nf [_,_,_] rfl (j_run it 1 rfl (by simp) ?_)
 refine j_nf [_,_,_] rfl ?_
 rw [show List.replicate n 0 = (dig p n x).take 0++List.replicate (n - 0) 0 by simp]
 refine j_loopG (X:=Nat) [1,2,6,7] [] (fun i=>[(8,.int .i64 (i : Int)),(0,.int .i64 ((x / p ^ i : Nat) : Int))]) (fun i=>[(some b1,3,natCells .i64 ((dig p n x).take i++List.replicate (n - i) 0))]) (fun _=>[]) (fun i=>i ≤ n) (fun i=>n - i) 0 [] rfl rfl rfl (Nat.zero_le _) (by refine Fr.sub_cons rfl ?_;refine Fr.sub_consI rfl (by simp) ?_;repeat (first | exact Fr.sub_nil _ | refine Fr.sub_cons rfl ?_)) rfl rfl ?_
 rintro i hi ih
 simp only [List.cons_append,List.nil_append] at hi ih ⊢
 have hxi : x / p ^ i ≤ x:=Nat.div_le_self _ _
 have hz:=fun h=>dig_at (p:=p) (n:=n) (i:=i) (x:=x) h
 have hnx : x / p ^ (i + 1) = x / p ^ i / p:=by rw [Nat.pow_succ,← Nat.div_div_eq_div_mul]
 by_cases hil : i < n
 ·have ih':=ih (i + 1) (by omega) (by omega)
  rw [hnx,← fill_set hl hil (hz hil)] at ih'
  generalize x / p ^ i = y at *
  have e1 : (y : Int) % (p : Int) = ((y % p : Nat) : Int):=(Int.natCast_emod _ _).symm
  have e2 : (y : Int) / (p : Int) = ((y / p : Nat) : Int):=(Int.natCast_ediv _ _).symm
  have hlen : ((dig p n x).take i++List.replicate (n - i) 0).length = n:=by simp [hl];omega
  refine j_nf [_,_,_,_,_,_] rfl (j_run it 3 rfl (by simp) ?_)
  refine j_nf [_,_,_,_,_] rfl (j_if rfl rfl (fun h1=>?_) (fun h1=>by exfalso;omega))
  refine j_nf [_,_,_,_,_,_,_] rfl (j_run it 5 rfl ⟨⟨by omega,by omega⟩,trivial,trivial,trivial,trivial,trivial⟩ ?_)
  refine j_step rfl (x_idx_own (i) (i) rfl rfl sl22 rfl (by omega) (Nat.mul_one _) ?_)
  refine j_step rfl (x_bst_nat 0 ((y) % (p)) rfl rfl rfl ld3 (by first | rfl | omega) (by first | omega | (simp;omega)) ?_)
  refine j_nf [_,_,_,_,_,_] rfl (j_run it 4 rfl ⟨trivial,⟨by omega,by omega,by omega,by omega⟩,trivial,trivial,trivial⟩ ?_)
  refine j_nf [_,_,_,_] rfl (j_run it 3 rfl ⟨trivial,⟨by omega,by omega⟩,trivial,trivial⟩ ?_)
  refine j_nfn 1 [.lp (pL 116),.blk 0,.c [1,1,1]] rfl ?_
  rw [e2]
  refine j_to [] (by exact fra rfl) rfl rfl (ih')
 ·obtain rfl : i = n:=by omega
  clear hz hnx
  rw [List.take_of_length_le (by omega),Nat.sub_self,List.replicate_zero,List.append_nil]
  refine j_nf [_,_,_,_,_,_] rfl (j_run it 3 rfl (by simp) ?_)
  refine j_nf [_,_,_,_,_] rfl (j_if rfl rfl (fun h1=>by exfalso;omega) (fun h1=>?_))
  refine j_nf [_,_] rfl (j_run it 2 rfl (by simp) ?_)
  refine j_nf [_] rfl ?_
  refine j_gives [] rfl rfl rfl ⟨_,rfl,rfl,rfl⟩
theorem S_codewrightref04_Digits {p m nm cm : Nat} {md : List Int} {pm : Option Addr} (K : Fok p m md) {x : Int} (x0 : 0 ≤ x) (x1 : x < ((p ^ m : Nat) : Int)) : Ctr Try.prog 88 [.agg #[.int .i64 p,.int .i64 m,.slice pm nm cm],.int .i64 x] [] [] (OvI 3 m (dig p m x.toNat)):=by
 refine Ctr_of_j' (F:=F_codewrightref04_Digits) rfl fun C=>?_
 have h1:=K.p2
 have h2:=K.p256
 have h3:=K.m8
 have h4:=K.q
 have hi : inI (ordI (p : Int) (m : Int)) x = ((x.toNat : Nat) : Int):=by rw [K.ord,inI,if_pos ⟨x0,x1⟩];omega
 have hx : x.toNat ≤ 1000000000:=by omega
 have c_codewrightref04_digits:=@O_codewrightref04_digits
 refine j_nf [_,_] rfl ?_
 refine j_step rfl (x_box_agg rfl fun b1=>?_)
 refine j_run it 1 rfl (by simp) ?_
 refine j_nf [_,_] rfl ?_
 (apply j_drawK it mx 7;(· rfl);(· rfl))
 (apply lxk_eq;(· rfl);(· exact d_bld_all 0 rfl rfl ld24 rfl))
 (apply lxk_run 1;(· rfl);(· simp))
 (apply lxk_eq;(· rfl);(· exact d_x fun _=>x_call [] rfl (S_codewrightref04_In (by omega)) rfl (by rintro _ _ _ ⟨rfl,rfl,rfl⟩;exact dk_eq)))
 (apply lxk_eq;(· rfl);(· exact d_x fun _=>x_field rfl fd24_0 dk_eq))
 (apply lxk_eq;(· rfl);(· exact d_bld 0 rfl rfl ld3 rfl))
 (apply lxk_eq;(· rfl);(· exact d_x fun _=>x_field rfl fd24_1 dk_eq))
 (apply lxk_eq;(· rfl);(· exact d_bld 0 rfl rfl ld3 rfl))
 refine lxk_end rfl ?_
 simp only [List.map_cons,List.map_nil,List.cons_append,List.nil_append]
 refine j_step rfl (x_call [] rfl (c_codewrightref04_digits (by omega) (by omega) (by omega) (by omega)) rfl ?_)
 rintro _ _ _ ⟨b2,rfl,rfl,rfl⟩
 simp only [List.cons_append,List.nil_append]
 refine j_run it 1 rfl (by simp) ?_
 refine j_nf [_] rfl ?_
 refine j_givK 2 [0] [] rfl (.tmp rfl .nil) rfl rfl rfl ⟨_,rfl,rfl,rfl⟩
theorem mix_set {T D : List Nat} {i n : Nat} (hT : T.length = n) (hD : D.length = n) (hi : i < n) {z : Nat} (hz : T[i]? = some z) : (T.take i++D.drop i).set i z = T.take (i + 1)++D.drop (i + 1):=by
 have hl : (T.take i).length = i:=by rw [List.length_take];omega
 rw [List.set_append,if_neg (by omega),hl,Nat.sub_self,List.drop_eq_getElem_cons (by omega),List.set_cons_zero,List.take_add_one,hz]
 simp
theorem mix_at {T D : List Nat} {i n : Nat} (hT : T.length = n) (hD : D.length = n) (hi : i < n) : (T.take i++D.drop i)[i]? = D[i]?:=by
 have hl : (T.take i).length = i:=by rw [List.length_take];omega
 rw [List.getElem?_append_right (by omega),hl,Nat.sub_self,List.getElem?_drop,Nat.add_zero]
theorem S_codewrightref04_Add {p m nm cm : Nat} {md : List Int} {pm : Option Addr} (K : Fok p m md) {x y : Int} (x0 : 0 ≤ x) (x1 : x < ((p ^ m : Nat) : Int)) (y0 : 0 ≤ y) (y1 : y < ((p ^ m : Nat) : Int)) :
  Ctr Try.prog 58 [.agg #[.int .i64 p,.int .i64 m,.slice pm nm cm],.int .i64 x,.int .i64 y] [] [] (Rv (.int .i64 (liftI (fA p m) x y)) []):=by
 refine Ctr_of_j' (F:=F_codewrightref04_Add) rfl fun C=>?_
 have h1:=K.p2
 have h2:=K.p256
 have h3:=K.m8
 have h4:=K.q
 let T : List Nat:=(List.range m).map fun j=>((dig p m x.toNat).getD j 0 + (dig p m y.toNat).getD j 0) % p
 have lT : T.length = m:=by simp [T]
 have lx:=dig_len p m x.toNat
 have ly:=dig_len p m y.toNat
 have eT : valP p T = fA p m x.toNat y.toNat:=by
  rw [fA,un]
  congr 1
  refine List.map_congr_left fun j hj=>?_
  have hj:=List.mem_range.1 hj
  rw [rep_at hj,rep_at hj,← Int.natCast_add,← Int.natCast_emod]
  exact (Int.toNat_natCast _).symm
 have rT : ∀ d ∈ T,d < p:=fun d hd=>by
  obtain ⟨j,_,rfl⟩:=List.mem_map.1 hd
  exact Nat.mod_lt _ (by omega)
 have tz : ∀ i,i < m → T[i]? = some (((dig p m x.toNat).getD i 0 + (dig p m y.toNat).getD i 0) % p):=fun i hi=>by
  rw [List.getElem?_map,List.getElem?_range hi];rfl
 have xr:=fun d hd=>dig_lt (p:=p) (n:=m) (x:=x.toNat) (by omega) d hd
 have yr:=fun d hd=>dig_lt (p:=p) (n:=m) (x:=y.toNat) (by omega) d hd
 have eR : liftI (fA p m) x y = ((valP p T : Nat) : Int):=by rw [eT];rfl
 rw [eR]
 clear eR eT
 clear_value T
 have ep : p ^ T.length ≤ 1000000:=by rw [lT];omega
 refine j_nf [_,_] rfl ?_
 refine j_step rfl (x_box_agg rfl fun b1=>?_)
 refine j_run it 1 rfl (by simp) ?_
 refine j_nf [_,_] rfl ?_
 refine j_step rfl (x_bld_all 0 rfl rfl ld24 rfl ?_)
 refine j_run it 1 rfl (by simp) ?_
 refine j_step rfl (x_call [] rfl (S_codewrightref04_Digits (by omega) (by omega) (by omega)) rfl ?_)
 rintro _ _ _ ⟨b2,rfl,rfl,rfl⟩
 simp only [List.cons_append,List.nil_append]
 refine j_run it 1 rfl (by simp) ?_
 refine j_nf [_,_] rfl ?_
 refine j_step rfl (x_bld_all 1 rfl rfl ld24 rfl ?_)
 refine j_run it 1 rfl (by simp) ?_
 refine j_step rfl (x_call [] rfl (S_codewrightref04_Digits (by omega) (by omega) (by omega)) rfl ?_)
 rintro _ _ _ ⟨b3,rfl,rfl,rfl⟩
 simp only [List.cons_append,List.nil_append]
 refine j_run it 1 rfl (by simp) ?_
 refine j_nf [_,_,_] rfl ?_
 refine j_run it 1 rfl (by simp) ?_
 refine j_nf [_,_,_] rfl ?_
 rw [show natCells .i64 (dig p m x.toNat) = natCells .i64 (T.take 0++(dig p m x.toNat).drop 0) by simp]
 refine j_loopG (X:=Nat) [3,6,7,8] [] (fun i=>[(9,.int .i64 (i : Int))]) (fun i=>[(some b3,3,natCells .i64 (dig p m y.toNat)),(some b2,3,natCells .i64 (T.take i++(dig p m x.toNat).drop i)),(some b1,24,[.int .i64 p,.int .i64 m,.slice pm nm cm])]) (fun _=>[]) (fun i=>i ≤ m) (fun i=>m - i) 0 [] rfl rfl rfl (Nat.zero_le _) (by repeat (first | exact Fr.sub_nil _ | refine Fr.sub_cons rfl ?_)) rfl rfl ?_
 rintro i hi ih
 simp only [List.cons_append,List.nil_append] at hi ih ⊢
 by_cases hil : i < m
 ·have zx : (dig p m x.toNat)[i]? = some ((dig p m x.toNat).getD i 0):=by rw [List.getD_eq_getElem?_getD,List.getElem?_eq_getElem (by omega)];rfl
  have zy : (dig p m y.toNat)[i]? = some ((dig p m y.toNat).getD i 0):=by rw [List.getD_eq_getElem?_getD,List.getElem?_eq_getElem (by omega)];rfl
  have zt:=tz i hil
  have bx:=xr _ (List.mem_of_getElem? zx)
  have by':=yr _ (List.mem_of_getElem? zy)
  have ih':=ih (i + 1) (by omega) (by omega)
  have zm:=(mix_at (T:=T) (D:=dig p m x.toNat) lT lx hil).trans zx
  have lm : (T.take i++(dig p m x.toNat).drop i).length = m:=by rw [List.length_append,List.length_take,List.length_drop];omega
  rw [← mix_set lT lx hil zt] at ih'
  generalize (dig p m x.toNat).getD i 0 = u at *
  generalize (dig p m y.toNat).getD i 0 = v at *
  have em : ((u : Int) + (v : Int)) % (p : Int) = (((u + v) % p : Nat) : Int):=by rw [← Int.natCast_add,← Int.natCast_emod]
  refine j_nf [_,_,_,_,_,_] rfl ?_
  refine j_run it 2 rfl (by simp) ?_
  refine j_step rfl (x_len sl22 rfl ?_)
  refine j_run it 1 rfl (by simp) ?_
  refine j_nf [_,_,_,_,_] rfl ?_
  refine j_if rfl rfl (fun h5=>?_) (fun h5=>by exfalso;omega)
  refine j_nf [_,_,_,_,_,_] rfl ?_
  (apply j_drawK it mx 14;(· rfl);(· rfl))
  (apply lxk_run 4;(· rfl);(· simp))
  (apply lxk_eq;(· rfl);(· exact d_x fun _=>x_idx_own (i) (i) rfl rfl sl22 rfl (by omega) (Nat.mul_one _) dk_eq))
  (apply lxk_eq;(· rfl);(· exact d_bld_nat 1 rfl rfl ld3 (by assumption)))
  (apply lxk_run 2;(· rfl);(· simp))
  (apply lxk_eq;(· rfl);(· exact d_x fun _=>x_idx_own (i) (i) rfl rfl sl22 rfl (by omega) (Nat.mul_one _) dk_eq))
  (apply lxk_eq;(· rfl);(· exact d_bld_nat 0 rfl rfl ld3 (by assumption)))
  (apply lxk_run 1;(· rfl);(· exact ⟨⟨by omega,by omega⟩,trivial⟩))
  (apply lxk_eq;(· rfl);(· exact d_x fun _=>x_field rfl fd24_0 dk_eq))
  (apply lxk_eq;(· rfl);(· exact d_bld 2 rfl rfl ld3 rfl))
  (apply lxk_run 1;(· rfl);(· exact ⟨⟨by omega,by omega⟩,trivial⟩))
  refine lxk_end rfl ?_
  simp only [List.map_cons,List.map_nil,List.cons_append,List.nil_append]
  refine j_step rfl (x_idx_own (i) (i) rfl rfl sl22 rfl (by omega) (Nat.mul_one _) ?_)
  refine j_step rfl (x_bst_nat 1 (((u) + (v)) % (p)) rfl rfl rfl ld3 (by first | rfl | omega) (by first | omega | (simp;omega)) ?_)
  refine j_nf [_,_,_,_] rfl ?_
  refine j_run it 3 rfl ⟨trivial,⟨by omega,by omega⟩,trivial,trivial⟩ ?_
  refine j_nfn 1 [.lp (pL 244),.blk 0,.c [1,1,1,1]] rfl ?_
  refine j_to [] (by exact fra rfl) rfl rfl (ih')
 ·obtain rfl : i = m:=by omega
  clear ih
  rw [List.take_of_length_le (by omega),List.drop_of_length_le (by omega),List.append_nil,natCells_toI .i64 T]
  refine j_nf [_,_,_,_,_,_] rfl ?_
  refine j_run it 2 rfl (by simp) ?_
  refine j_step rfl (x_len sl22 rfl ?_)
  refine j_run it 1 rfl (by simp) ?_
  refine j_nf [_,_,_,_,_] rfl ?_
  refine j_if rfl rfl (fun h5=>by exfalso;omega) (fun h5=>?_)
  refine j_nf [_,_] rfl ?_
  refine j_step rfl (x_bld_all 2 rfl rfl ld24 rfl ?_)
  refine j_run it 1 rfl (by simp) ?_
  refine j_pub_madei 8 (toI T) 1 rfl (by rw [toI_len,lT]) (toI_rng fun d hd=>by have:=rT d hd;omega) (by omega) (by omega) ?_
  simp only [List.eraseIdx_cons_zero,List.eraseIdx_cons_succ]
  refine j_step rfl (x_call [0] rfl (S_codewrightref04_Value (by rfl) (by omega) (by omega) (by omega) (by omega)) rfl ?_)
  rintro _ _ _ ⟨rfl,rfl,rfl⟩
  simp only [List.cons_append,List.nil_append]
  refine j_run it 1 rfl (by simp) ?_
  refine j_nf [_] rfl ?_
  refine j_giv [] rfl rfl rfl ⟨rfl,rfl,rfl⟩
open Go Go.Fw
set_option maxRecDepth 100000
set_option linter.unusedVariables false
set_option linter.unusedSimpArgs false
set_option maxHeartbeats 4000000
theorem toI_set (l : List Nat) (i z : Nat) : toI (l.set i z) = (toI l).set i (z : Int):=by simp [toI,List.map_set]
theorem toI_getD {l : List Nat} {i : Nat} : (toI l).getD i 0 = ((l.getD i 0 : Nat) : Int):=by
 rw [toI,List.getD_eq_getElem?_getD,List.getD_eq_getElem?_getD,List.getElem?_map]
 cases l[i]? <;> rfl
theorem getD_z {l : List Nat} {i : Nat} (h : i < l.length) : l[i]? = some (l.getD i 0):=by
 rw [List.getD_eq_getElem?_getD,List.getElem?_eq_getElem h];rfl
theorem toI_zeros (n : Nat) : toI (List.replicate n 0) = List.replicate n 0:=by simp [toI]
theorem S_codewrightref04_Mul {p m nm cm : Nat} {md : List Int} {pm : Option Addr} (K : Fok p m md) {x y : Int} (x0 : 0 ≤ x) (x1 : x < ((p ^ m : Nat) : Int)) (y0 : 0 ≤ y) (y1 : y < ((p ^ m : Nat) : Int)) :
  Ctr Try.prog 59 [.agg #[.int .i64 p,.int .i64 m,.slice pm nm cm],.int .i64 x,.int .i64 y] [] [slF I64 pm nm cm md] (Rv (.int .i64 (liftI (fM p (fpo m md)) x y)) []):=by
 refine Ctr_of_j' (F:=F_codewrightref04_Mul) rfl fun C=>?_
 have h1:=K.p2
 have h2:=K.p256
 have h3:=K.m8
 have h4:=K.q
 have h5:=K.m1
 have lx:=dig_len p m x.toNat
 have ly:=dig_len p m y.toNat
 have fl:=K.flen
 have md0:=mul_digs (p:=p) (by omega) (f:=fpo m md) (by omega) x.toNat y.toNat
 rw [fl] at md0
 have xr:=fun d hd=>dig_lt (p:=p) (n:=m) (x:=x.toNat) (by omega) d hd
 have yr:=fun d hd=>dig_lt (p:=p) (n:=m) (x:=y.toNat) (by omega) d hd
 have eR : liftI (fM p (fpo m md)) x y = ((valP p ((List.range m).map fun j=>(mulV (fpo m md) (rep p m x.toNat) (rep p m y.toNat) j % p).toNat) : Nat) : Int):=by
  rw [liftI,fM,un,fl]
 rw [eR]
 clear eR
 refine j_len 0 rfl fun hn _ _=>?_
 subst hn
 generalize hT : (List.range m).map (fun j=>(mulV (fpo m md) (rep p m x.toNat) (rep p m y.toNat) j % p).toNat) = T at *
 have lT : T.length = m:=by rw [← hT];simp
 have rT : ∀ d ∈ T,d < p:=fun d hd=>by rw [← hT] at hd;exact un_digs (by omega) _ d hd
 clear hT
 have ep : p ^ T.length ≤ 1000000:=by rw [lT];omega
 have c_codewrightref04_Digits:=fun {z : Int} (z0 : 0 ≤ z) (z1 : z < ((p ^ m : Nat) : Int))=>S_codewrightref04_Digits (nm:=md.length) (cm:=cm) (pm:=pm) K z0 z1
 refine j_nf [_,_] rfl ?_
 refine j_step rfl (x_box_agg rfl fun b1=>?_)
 refine j_run it 1 rfl (by simp) ?_
 refine j_nf [_,_] rfl ?_
 refine j_step rfl (x_bld_all 0 rfl rfl ld24 rfl ?_)
 refine j_run it 1 rfl (by simp) ?_
 refine j_step rfl (x_call [] rfl (c_codewrightref04_Digits (by omega) (by omega)) rfl ?_)
 rintro _ _ _ ⟨b2,rfl,rfl,rfl⟩
 simp only [List.cons_append,List.nil_append]
 refine j_run it 1 rfl (by simp) ?_
 refine j_nf [_,_] rfl ?_
 refine j_step rfl (x_bld_all 1 rfl rfl ld24 rfl ?_)
 refine j_run it 1 rfl (by simp) ?_
 refine j_step rfl (x_call [] rfl (c_codewrightref04_Digits (by omega) (by omega)) rfl ?_)
 rintro _ _ _ ⟨b3,rfl,rfl,rfl⟩
 simp only [List.cons_append,List.nil_append]
 refine j_run it 1 rfl (by simp) ?_
 refine j_nf [_,_] rfl ?_
 refine j_step rfl (x_field rfl fd24_1 ?_)
 refine j_step rfl (x_bld 2 rfl rfl ld3 rfl ?_)
 refine j_run it 2 rfl ⟨⟨by omega,by omega⟩,⟨by omega,by omega⟩,trivial⟩ ?_
 refine j_step rfl (x_make_nat ((2 * (m)) - 1) _ rfl rfl sl22 zo22e by22e (by omega) (by omega) (by omega) fun b4=>?_)
 refine j_run it 1 rfl (by simp) ?_
 refine j_nf [_,_,_] rfl ?_
 refine j_run it 1 rfl (by simp) ?_
 refine j_nf [_,_,_] rfl ?_
 generalize hDX : dig p m x.toNat = DX at *
 generalize hDY : dig p m y.toNat = DY at *
 have mL:=mulR_len p m (toI DX) (toI DY)
 have mR:=mulR_rng (p:=p) (by omega) m (toI DX) (toI DY)
 refine j_loopG (X:=Nat × List Nat) [3,6,7,8,9] [0] (fun x=>[(10,.int .i64 (x.1 : Int))]) (fun x=>[(some b4,3,natCells .i64 x.2),(some b3,3,natCells .i64 DY),(some b2,3,natCells .i64 DX),(some b1,24,[.int .i64 p,.int .i64 m,.slice pm md.length cm])]) (fun _=>[])
  (fun x=>x.1 ≤ m ∧ toI x.2 = mulR p m (toI DX) (toI DY) x.1) (fun x=>m - x.1) (0,List.replicate (2 * m - 1) 0) [] rfl rfl rfl ⟨Nat.zero_le _,toI_zeros _⟩ (by repeat (first | exact Fr.sub_nil _ | refine Fr.sub_cons rfl ?_)) rfl rfl ?_
 rintro ⟨i,L⟩ ⟨hi,hL⟩ ih
 simp only [List.cons_append,List.nil_append] at hi hL ih ⊢
 by_cases hil : i < m
 ·refine j_nf [_,_,_,_,_,_] rfl ?_
  refine j_run it 1 rfl (by simp) ?_
  refine j_step rfl (x_field rfl fd24_1 ?_)
  refine j_step rfl (x_bld 3 rfl rfl ld3 rfl ?_)
  refine j_run it 1 rfl (by simp) ?_
  refine j_nf [_,_,_,_,_] rfl ?_
  refine j_if rfl rfl (fun h6=>?_) (fun h6=>by exfalso;omega)
  refine j_nf [_,_,_,_,_,_,_] rfl ?_
  refine j_run it 1 rfl (by simp) ?_
  refine j_nf [_,_,_,_,_,_,_] rfl ?_
  have ihn:=fun l h=>ih (i + 1,l) (by dsimp only;omega) ⟨by dsimp only;omega,h⟩
  simp only [mulR] at ihn
  rw [← hL] at ihn
  have lL : L.length = 2 * m - 1:=by rw [← toI_len,hL,mL]
  have rL : ∀ z ∈ toI L,0 ≤ z ∧ z < (p : Int):=by rw [hL];exact mR i
  have zx:=getD_z (l:=DX) (i:=i) (by omega)
  have bx:=xr _ (List.mem_of_getElem? zx)
  rw [toI_getD] at ihn
  generalize DX.getD i 0 = u at *
  refine j_loopG (X:=Nat × List Nat) [3,6,7,8,9,10,25,26,27,28] [0] (fun x=>[(11,.int .i64 (x.1 : Int))]) (fun x=>[(some b4,3,natCells .i64 x.2),(some b3,3,natCells .i64 DY),(some b2,3,natCells .i64 DX),(some b1,24,[.int .i64 p,.int .i64 m,.slice pm md.length cm])]) (fun _=>[])
   (fun x=>x.1 ≤ m ∧ toI x.2 = stepR p (u : Int) (toI DY) i x.1 (toI L)) (fun x=>m - x.1) (0,L) [] rfl rfl rfl ⟨Nat.zero_le _,rfl⟩ (by repeat (first | exact Fr.sub_nil _ | refine Fr.sub_cons rfl ?_)) rfl rfl ?_
  rintro ⟨j,S⟩ ⟨hj,hS⟩ ihj
  simp only [List.cons_append,List.nil_append] at hj hS ihj ⊢
  by_cases hjl : j < m
  ·have lS : S.length = 2 * m - 1:=by rw [← toI_len,hS,stepR_len,toI_len,lL]
   have rS:=stepR_rng (p:=p) (by omega) (u : Int) (toI DY) i rL j
   rw [← hS] at rS
   have ihj':=fun l h=>ihj (j + 1,l) (by dsimp only;omega) ⟨by dsimp only;omega,h⟩
   simp only [stepR] at ihj'
   rw [← hS] at ihj'
   simp only [toI_getD] at ihj'
   have zy:=getD_z (l:=DY) (i:=j) (by omega)
   have by':=yr _ (List.mem_of_getElem? zy)
   have zs:=getD_z (l:=S) (i:=i + j) (by omega)
   have bs:=rS _ (List.mem_of_getElem? (toI_at zs))
   generalize DY.getD j 0 = v at *
   generalize S.getD (i + j) 0 = s at *
   have huv : u * v ≤ 65536:=Nat.le_trans (Nat.mul_le_mul (show u ≤ 256 by omega) (show v ≤ 256 by omega)) (by decide)
   have huv' : (u : Int) * (v : Int) = ((u * v : Nat) : Int):=by omega
   have hb0 : 0 ≤ (u : Int) * (v : Int) ∧ (u : Int) * (v : Int) ≤ 65536:=by omega
   have em : ((s : Int) + (u : Int) * (v : Int)) % (p : Int) = (((s + u * v) % p : Nat) : Int):=by rw [huv',← Int.natCast_add,← Int.natCast_emod]
   have hmod : (s + u * v) % p < p:=Nat.mod_lt _ (by omega)
   refine j_nf [_,_,_,_,_,_,_,_,_,_] rfl ?_
   refine j_run it 1 rfl (by simp) ?_
   refine j_step rfl (x_field rfl fd24_1 ?_)
   refine j_step rfl (x_bld 3 rfl rfl ld3 rfl ?_)
   refine j_run it 1 rfl (by simp) ?_
   refine j_nf [_,_,_,_,_,_,_,_,_] rfl ?_
   refine j_if rfl rfl (fun h7=>?_) (fun h7=>by exfalso;omega)
   refine j_nf [_,_,_,_,_,_,_,_,_,_] rfl ?_
   (apply j_drawK it mx 23;(· rfl);(· rfl))
   (apply lxk_run 8;(· rfl);(· exact ⟨⟨by omega,by omega⟩,trivial,trivial,trivial,⟨by omega,by omega⟩,trivial,trivial,trivial,trivial⟩))
   (apply lxk_eq;(· rfl);(· exact d_x fun _=>x_idx_own ((i) + (j)) ((i) + (j)) rfl rfl sl22 (by omega) (by omega) (Nat.mul_one _) dk_eq))
   (apply lxk_eq;(· rfl);(· exact d_bld_nat 0 rfl rfl ld3 (by assumption)))
   (apply lxk_run 2;(· rfl);(· simp))
   (apply lxk_eq;(· rfl);(· exact d_x fun _=>x_idx_own (i) (i) rfl rfl sl22 rfl (by omega) (Nat.mul_one _) dk_eq))
   (apply lxk_eq;(· rfl);(· exact d_bld_nat 2 rfl rfl ld3 (by assumption)))
   (apply lxk_run 2;(· rfl);(· simp))
   (apply lxk_eq;(· rfl);(· exact d_x fun _=>x_idx_own (j) (j) rfl rfl sl22 rfl (by omega) (Nat.mul_one _) dk_eq))
   (apply lxk_eq;(· rfl);(· exact d_bld_nat 1 rfl rfl ld3 (by assumption)))
   (apply lxk_run 2;(· rfl);(· exact ⟨⟨by omega,by omega⟩,⟨by omega,by omega⟩,trivial⟩))
   (apply lxk_eq;(· rfl);(· exact d_x fun _=>x_field rfl fd24_0 dk_eq))
   (apply lxk_eq;(· rfl);(· exact d_bld 3 rfl rfl ld3 rfl))
   (apply lxk_run 1;(· rfl);(· exact ⟨⟨by omega,by omega⟩,trivial⟩))
   refine lxk_end rfl ?_
   simp only [List.map_cons,List.map_nil,List.cons_append,List.nil_append]
   refine j_step rfl (x_idx_own ((i) + (j)) ((i) + (j)) rfl rfl sl22 (by omega) (by omega) (Nat.mul_one _) ?_)
   refine j_step rfl (x_bst_nat 0 (((s) + ((u) * (v))) % (p)) rfl rfl rfl ld3 (by first | rfl | omega) (by first | omega | (simp;omega)) ?_)
   refine j_nf [_,_,_,_,_,_,_,_] rfl ?_
   refine j_run it 3 rfl ⟨trivial,⟨by omega,by omega⟩,trivial,trivial⟩ ?_
   refine j_nfn 1 [.lp (pL 32036),.blk 2,.blk 1,.c (pL 2003),.lp (pL 500),.blk 0,.c [1,1,1,1,1]] rfl ?_
   refine j_to [0] (by exact fra rfl) rfl rfl (ihj' (S.set (i + j) ((s + u * v) % p)) (by rw [toI_set,← em]))
  ·obtain rfl : j = m:=by omega
   refine j_nf [_,_,_,_,_,_,_,_,_,_] rfl ?_
   refine j_run it 1 rfl (by simp) ?_
   refine j_step rfl (x_field rfl fd24_1 ?_)
   refine j_step rfl (x_bld 3 rfl rfl ld3 rfl ?_)
   refine j_run it 1 rfl (by simp) ?_
   refine j_nf [_,_,_,_,_,_,_,_,_] rfl ?_
   refine j_if rfl rfl (fun h7=>by exfalso;omega) (fun h7=>?_)
   refine j_nf [_,_,_,_] rfl ?_
   refine j_run it 3 rfl ⟨trivial,⟨by omega,by omega⟩,trivial,trivial⟩ ?_
   refine j_nfn 1 [.lp (pL 500),.blk 0,.c [1,1,1,1,1]] rfl ?_
   refine j_to [0] (by exact fra rfl) rfl rfl (ihn S hS)
 ·obtain rfl : i = m:=by omega
  clear ih
  rw [← hL] at md0
  have lL : L.length = 2 * i - 1:=by rw [← toI_len,hL,mL]
  have rL : ∀ z ∈ toI L,0 ≤ z ∧ z < (p : Int):=by rw [hL];exact mR i
  clear hL mL mR
  have kL:=redL_len p (fpo i md) (toI L)
  have kR:=redL_rng (p:=p) (by omega) (fpo i md) rL
  have tl : (toI L).length = 2 * i - 1:=by rw [toI_len,lL]
  rw [tl] at kL
  refine j_nf [_,_,_,_,_,_] rfl ?_
  refine j_run it 1 rfl (by simp) ?_
  refine j_step rfl (x_field rfl fd24_1 ?_)
  refine j_step rfl (x_bld 3 rfl rfl ld3 rfl ?_)
  refine j_run it 1 rfl (by simp) ?_
  refine j_nf [_,_,_,_,_] rfl ?_
  refine j_if rfl rfl (fun h6=>by exfalso;omega) (fun h6=>?_)
  refine j_nf [_,_,_] rfl ?_
  refine j_step rfl (x_field rfl fd24_1 ?_)
  refine j_step rfl (x_bld 3 rfl rfl ld3 rfl ?_)
  refine j_run it 3 rfl ⟨trivial,⟨by omega,by omega⟩,⟨by omega,by omega⟩,trivial⟩ ?_
  refine j_nf [_,_,_] rfl ?_
  refine j_loopG (X:=Nat × List Nat) [3,6,9] [0] (fun x=>[(12,.int .i64 (2 * (i : Int) - 2 - (x.1 : Int)))]) (fun x=>[(some b4,3,natCells .i64 x.2),(some b3,3,natCells .i64 DY),(some b2,3,natCells .i64 DX),(some b1,24,[.int .i64 p,.int .i64 i,.slice pm md.length cm])]) (fun _=>[])
   (fun x=>x.1 ≤ i - 1 ∧ toI x.2 = redL p (fpo i md) (toI L) x.1) (fun x=>i - 1 - x.1) (0,L) [] rfl rfl rfl ⟨Nat.zero_le _,rfl⟩ (by refine Fr.sub_consI rfl (by simp) ?_;repeat (first | exact Fr.sub_nil _ | refine Fr.sub_cons rfl ?_)) rfl rfl ?_
  rintro ⟨n,Z⟩ ⟨hn,hZ⟩ ih
  simp only [List.cons_append,List.nil_append] at hn hZ ih ⊢
  by_cases hnl : n < i - 1
  ·have hi1 : i ≠ 1:=by omega
   have hfp : fpo i md = md:=if_neg hi1
   have hml : md.length = i:=K.len hi1
   have hrm:=K.rng
   refine j_nf [_,_,_,_,_,_] rfl ?_
   refine j_run it 1 rfl (by simp) ?_
   refine j_step rfl (x_field rfl fd24_1 ?_)
   refine j_step rfl (x_bld 3 rfl rfl ld3 rfl ?_)
   refine j_run it 1 rfl (by simp) ?_
   refine j_nf [_,_,_,_,_] rfl ?_
   refine j_if rfl rfl (fun h7=>?_) (fun h7=>by exfalso;omega)
   refine j_nf [_,_,_,_,_,_,_] rfl ?_
   refine j_run it 1 rfl (by simp) ?_
   refine j_nf [_,_,_,_,_,_,_] rfl ?_
   have ihn:=fun l h=>ih (n + 1,l) (by dsimp only;omega) ⟨by dsimp only;omega,h⟩
   simp only [redL] at ihn
   rw [← hZ,tl,hfp,toI_getD,show 2 * i - 1 - 1 - n = 2 * i - 2 - n by omega] at ihn
   have lZ : Z.length = 2 * i - 1:=by rw [← toI_len,hZ,kL]
   have rZ : ∀ z ∈ toI Z,0 ≤ z ∧ z < (p : Int):=by rw [hZ];exact kR n
   have zc:=getD_z (l:=Z) (i:=2 * i - 2 - n) (by omega)
   have bc:=rZ _ (List.mem_of_getElem? (toI_at zc))
   generalize hcv : Z.getD (2 * i - 2 - n) 0 = c at *
   have hpc : (p : Int) - (c : Int) = ((p - c : Nat) : Int):=by omega
   rw [hpc] at ihn
   refine j_loopG (X:=Nat × List Nat) [3,6,9,12,65,66,67,68] [0] (fun x=>[(13,.int .i64 (x.1 : Int))]) (fun x=>[(some b4,3,natCells .i64 x.2),(some b3,3,natCells .i64 DY),(some b2,3,natCells .i64 DX),(some b1,24,[.int .i64 p,.int .i64 i,.slice pm md.length cm])]) (fun _=>[])
    (fun x=>x.1 ≤ i ∧ toI x.2 = stepR p ((p - c : Nat) : Int) md (2 * i - 2 - n - i) x.1 (toI Z)) (fun x=>i - x.1) (0,Z) [] rfl rfl rfl ⟨Nat.zero_le _,rfl⟩ (by repeat (first | exact Fr.sub_nil _ | refine Fr.sub_cons rfl ?_)) rfl rfl ?_
   rintro ⟨j,S⟩ ⟨hj,hS⟩ ihj
   simp only [List.cons_append,List.nil_append] at hj hS ihj ⊢
   by_cases hjl : j < i
   ·have lS : S.length = 2 * i - 1:=by rw [← toI_len,hS,stepR_len,toI_len,lZ]
    have rS:=stepR_rng (p:=p) (by omega) ((p - c : Nat) : Int) md (2 * i - 2 - n - i) rZ j
    rw [← hS] at rS
    have oS:=stepR_out p ((p - c : Nat) : Int) md (2 * i - 2 - n - i) (toI Z) (i:=2 * i - 2 - n) j (by omega)
    rw [← hS,toI_getD,toI_getD,hcv] at oS
    have ihj':=fun l h=>ihj (j + 1,l) (by dsimp only;omega) ⟨by dsimp only;omega,h⟩
    simp only [stepR] at ihj'
    rw [← hS] at ihj'
    simp only [toI_getD] at ihj'
    have hdd : md.getD j 0 = md.getD j default:=rfl
    rw [hdd] at ihj'
    have zm : md[j]? = some (md.getD j default):=by rw [List.getD_eq_getElem?_getD,List.getElem?_eq_getElem (by omega)];rfl
    have bm:=hrm _ (List.mem_of_getElem? zm)
    have zi:=getD_z (l:=S) (i:=2 * i - 2 - n) (by omega)
    rw [show S.getD (2 * i - 2 - n) 0 = c by omega] at zi
    have zs:=getD_z (l:=S) (i:=2 * i - 2 - n - i + j) (by omega)
    have bs:=rS _ (List.mem_of_getElem? (toI_at zs))
    generalize S.getD (2 * i - 2 - n - i + j) 0 = s at *
    have hb0 : 0 ≤ ((p - c : Nat) : Int) * md.getD j default:=Int.mul_nonneg (by omega) bm.1
    have hb1 : ((p - c : Nat) : Int) * md.getD j default ≤ 65536:=Int.le_trans (Int.mul_le_mul (show ((p - c : Nat) : Int) ≤ 256 by omega) (show md.getD j default ≤ 256 by omega) bm.1 (by decide)) (by decide)
    have em0 : 0 ≤ ((s : Int) + ((p - c : Nat) : Int) * md.getD j default) % (p : Int):=Int.emod_nonneg _ (by omega)
    have em1 : ((s : Int) + ((p - c : Nat) : Int) * md.getD j default) % (p : Int) < p:=Int.emod_lt_of_pos _ (by omega)
    refine j_nf [_,_,_,_,_,_,_,_,_,_] rfl ?_
    refine j_run it 1 rfl (by simp) ?_
    refine j_step rfl (x_field rfl fd24_1 ?_)
    refine j_step rfl (x_bld 3 rfl rfl ld3 rfl ?_)
    refine j_run it 1 rfl (by simp) ?_
    refine j_nf [_,_,_,_,_,_,_,_,_] rfl ?_
    refine j_if rfl rfl (fun h8=>?_) (fun h8=>by exfalso;omega)
    refine j_nf [_,_,_,_,_,_,_,_,_,_] rfl ?_
    (apply j_drawK it mx 33;(· rfl);(· rfl))
    (apply lxk_run 2;(· rfl);(· simp))
    (apply lxk_eq;(· rfl);(· exact d_x fun _=>x_field rfl fd24_1 dk_eq))
    (apply lxk_eq;(· rfl);(· exact d_bld 3 rfl rfl ld3 rfl))
    (apply lxk_eq (v:=Value.int IntKind.i64 ((((((2 * (i)) - 2) - (n)) - (i) : Nat)) : Int));(· rfl);(· exact d_x fun _=>x_asN it _ rfl ⟨by omega,by omega⟩ (by omega) dk_eq))
    simp only [Nat.add_sub_cancel]
    (apply lxk_run 4;(· rfl);(· exact ⟨trivial,trivial,⟨by omega,by omega⟩,trivial,trivial⟩))
    (apply lxk_eq;(· rfl);(· exact d_x fun _=>x_field rfl fd24_1 dk_eq))
    (apply lxk_eq;(· rfl);(· exact d_bld 3 rfl rfl ld3 rfl))
    (apply lxk_eq (v:=Value.int IntKind.i64 ((((((2 * (i)) - 2) - (n)) - (i) : Nat)) : Int));(· rfl);(· exact d_x fun _=>x_asN it _ rfl ⟨by omega,by omega⟩ (by omega) dk_eq))
    simp only [Nat.add_sub_cancel]
    (apply lxk_run 2;(· rfl);(· exact ⟨⟨by omega,by omega⟩,trivial,trivial⟩))
    (apply lxk_eq;(· rfl);(· exact d_x fun _=>x_idx_own ((2 * i - 2 - n - i) + (j)) ((2 * i - 2 - n - i) + (j)) rfl rfl sl22 (by omega) (by omega) (Nat.mul_one _) dk_eq))
    (apply lxk_eq;(· rfl);(· exact d_bld_nat 0 rfl rfl ld3 (by assumption)))
    (apply lxk_eq;(· rfl);(· exact d_x fun _=>x_field rfl fd24_0 dk_eq))
    (apply lxk_eq;(· rfl);(· exact d_bld 3 rfl rfl ld3 rfl))
    (apply lxk_run 2;(· rfl);(· simp))
    (apply lxk_eq;(· rfl);(· exact d_x fun _=>x_idx_own (((2 * (i)) - 2) - (n)) (((2 * (i)) - 2) - (n)) rfl rfl sl22 (by omega) (by omega) (Nat.mul_one _) dk_eq))
    (apply lxk_eq;(· rfl);(· exact d_bld_nat 0 rfl rfl ld3 (by assumption)))
    (apply lxk_eq (v:=Value.int IntKind.i64 ((((p) - (c) : Nat)) : Int));(· rfl);(· exact d_x fun _=>x_asN it _ rfl ⟨by omega,by omega⟩ (by omega) dk_eq))
    simp only [Nat.add_sub_cancel]
    (apply lxk_eq;(· rfl);(· exact d_x fun _=>x_field rfl fd24_2 dk_eq))
    (apply lxk_eq;(· rfl);(· exact d_bld 3 rfl rfl ld22 rfl))
    (apply lxk_run 1;(· rfl);(· simp))
    (apply lxk_pt;(· rfl);(· exact d_x fun _=>x_idx 0 (j) rfl rfl rfl sl22 rfl (by omega) fun z1 hz1 b5 o1=>(dk_ptD default hz1 0 rfl));intro b5 o1)
    (apply lxk_eq;(· rfl);(· exact d_x fun _=>x_ld_int 0 rfl rfl ld3 fun ⟨r1,r2⟩=>dk_eq))
    (apply lxk_run 2;(· rfl);(· exact ⟨⟨by omega,by omega⟩,⟨by omega,by omega⟩,trivial⟩))
    (apply lxk_eq;(· rfl);(· exact d_x fun _=>x_field rfl fd24_0 dk_eq))
    (apply lxk_eq;(· rfl);(· exact d_bld 3 rfl rfl ld3 rfl))
    (apply lxk_run 1;(· rfl);(· exact ⟨⟨by omega,by omega⟩,trivial⟩))
    refine lxk_end rfl ?_
    simp only [List.map_cons,List.map_nil,List.cons_append,List.nil_append]
    refine j_step rfl (x_idx_own ((2 * i - 2 - n - i) + (j)) ((2 * i - 2 - n - i) + (j)) rfl rfl sl22 (by omega) (by omega) (Nat.mul_one _) ?_)
    refine j_step rfl (x_bst_nat 0 (((s) + ((p - c) * ((md.getD j default : Int).toNat))) % (p)) rfl rfl rfl ld3 ?_ ?_ ?_)
    ·rw [Int.natCast_emod,Int.natCast_add,Int.natCast_mul,Int.toNat_of_nonneg bm.1]
    ·rw [lS];omega
    refine j_nf [_,_,_,_,_,_,_,_] rfl ?_
    refine j_run it 3 rfl ⟨trivial,⟨by omega,by omega⟩,trivial,trivial⟩ ?_
    refine j_nfn 1 [.lp (pL 64804),.blk 6,.blk 5,.c (pL 4051),.lp (pL 1012),.blk 4,.c (pL 127)] rfl ?_
    refine j_to [1] (by exact fra rfl) rfl rfl (ihj' (S.set (2 * i - 2 - n - i + j) ((s + (p - c) * (md.getD j default).toNat) % p)) (by rw [toI_set,Int.natCast_emod,Int.natCast_add,Int.natCast_mul,Int.toNat_of_nonneg bm.1]))
   ·obtain rfl : j = i:=by omega
    refine j_nf [_,_,_,_,_,_,_,_,_,_] rfl ?_
    refine j_run it 1 rfl (by simp) ?_
    refine j_step rfl (x_field rfl fd24_1 ?_)
    refine j_step rfl (x_bld 3 rfl rfl ld3 rfl ?_)
    refine j_run it 1 rfl (by simp) ?_
    refine j_nf [_,_,_,_,_,_,_,_,_] rfl ?_
    refine j_if rfl rfl (fun h8=>by exfalso;omega) (fun h8=>?_)
    refine j_nf [_,_,_,_] rfl ?_
    refine j_run it 3 rfl ⟨trivial,⟨by omega,by omega⟩,trivial,trivial⟩ ?_
    refine j_nfn 1 [.lp (pL 1012),.blk 4,.c (pL 127)] rfl ?_
    refine j_to [0] (by exact fii rfl (by omega) (fcc rfl (fcc rfl (fcc rfl (fzz _))))) rfl rfl (ihn S (by rw [hml];exact hS))
  ·obtain rfl : n = i - 1:=by omega
   rw [← hZ] at md0
   have lZ : Z.length = 2 * i - 1:=by rw [← toI_len,hZ,kL]
   have rZ : ∀ z ∈ toI Z,0 ≤ z ∧ z < (p : Int):=by rw [hZ];exact kR (i - 1)
   have c_codewrightref04_Value:=fun {pd : Option Addr} {cd : Nat}=>S_codewrightref04_Value (P:=(p : Int)) (M:=(i : Int)) (pm:=pm) (pd:=pd) (nm:=md.length) (cm:=cm) (nd:=i) (cd:=cd) (p:=p) (l:=T) rfl (by omega) h2 rT ep
   rw [← md0] at c_codewrightref04_Value
   rw [natCells_toI .i64 Z]
   refine j_pub_madei 8 (toI Z) 0 rfl (by rw [toI_len,lZ]) (fun z hz=>by have:=rZ z hz;simp only [InR];omega) (by omega) (by omega) ?_
   simp only [List.eraseIdx_cons_zero]
   generalize (some (⟨b4,0,none⟩ : Addr)) = pc
   refine j_nf [_,_,_,_,_,_] rfl ?_
   refine j_run it 1 rfl (by simp) ?_
   refine j_step rfl (x_field rfl fd24_1 ?_)
   refine j_step rfl (x_bld 2 rfl rfl ld3 rfl ?_)
   refine j_run it 1 rfl (by simp) ?_
   refine j_nf [_,_,_,_,_] rfl ?_
   refine j_if rfl rfl (fun h7=>by exfalso;omega) (fun h7=>?_)
   refine j_nf [_,_] rfl ?_
   (apply j_drawK it mx 6;(· rfl);(· rfl))
   (apply lxk_eq;(· rfl);(· exact d_bld_all 2 rfl rfl ld24 rfl))
   (apply lxk_run 1;(· rfl);(· simp))
   (apply lxk_eq;(· rfl);(· exact d_x fun _=>x_field rfl fd24_1 dk_eq))
   (apply lxk_eq;(· rfl);(· exact d_bld 2 rfl rfl ld3 rfl))
   (apply lxk_sl;(· rfl);(· exact d_x fun _=>x_slice_h 0 (i) rfl rfl rfl sl22 (by omega) (by omega) (dk_sl 0 rfl));intro pa1 ca1)
   (apply lxk_eq;(· rfl);(· exact d_x fun _=>x_call [0] rfl (c_codewrightref04_Value) rfl (by rintro _ _ _ ⟨rfl,rfl,rfl⟩;exact dk_eq)))
   refine lxk_end rfl ?_
   simp only [List.map_cons,List.map_nil,List.cons_append,List.nil_append]
   refine j_run it 1 rfl (by simp) ?_
   refine j_nf [_] rfl ?_
   refine j_giv [] rfl rfl rfl ⟨rfl,rfl,rfl⟩
abbrev aF (p m : Nat) : Int → Int → Int:=liftI (fA p m)
abbrev mF (p m : Nat) (md : List Int) : Int → Int → Int:=liftI (fM p (fpo m md))
theorem wd_at {q n k : Nat} {u : List Int} (h : Wd q n u) (hk : k < n) : 0 ≤ u.getD k default ∧ u.getD k default < q:=h.2 _ (List.mem_of_getElem? (i:=k) (by rw [List.getD_eq_getElem?_getD,List.getElem?_eq_getElem (by rw [h.1];exact hk)];rfl))
def rowW (q : Int) (n : Nat) (l : List Int) : List Int:=(List.range n).map fun i=>if i < l.length then inI q (l.getD i 0) else 0
theorem inI_rng {q x : Int} (hq : 0 < q) : 0 ≤ inI q x ∧ inI q x < q:=by
 unfold inI;split
 ·assumption
 ·exact ⟨Int.le_refl 0,hq⟩
theorem rowW_wd {q n : Nat} (hq : 0 < q) (l : List Int) : Wd q n (rowW q n l):=⟨by simp [rowW],fun x hx=>by
 obtain ⟨i,_,rfl⟩:=List.mem_map.1 hx
 split
 ·exact inI_rng (by omega)
 ·omega⟩
theorem S_codewrightref24_Row {P M : Int} {n nm cm nl cl : Nat} {pm pl : Option Addr} {l : List Int} (ho : ordP P M) (hn : n ≤ 1000) :
  Ctr Try.prog 22 [.agg #[.int .i64 P,.int .i64 M,.slice pm nm cm],.int .i64 n,.slice pl nl cl] [] [slF I64 pl nl cl l] (SvI n (rowW (ordI P M) n l)):=by
 refine Ctr_of_j' (F:=F_codewrightref24_Row) rfl fun C=>?_
 have hq : 0 < ordI P M ∧ ordI P M ≤ 256:=by
  rw [ordI,if_pos ho]
  have h1:=ho.1
  have:=Nat.pow_pos (n:=M.toNat) (show 0 < P.toNat by omega)
  have:=ho.2.2.2
  omega
 refine j_len 0 rfl fun e1 hba _=>?_
 have hba' : l.length * 8 ≤ 140737488355328:=hba
 subst e1
 generalize hQ : ordI P M = Q at *
 have lT : (rowW Q n l).length = n:=by simp [rowW]
 have rT : ∀ x ∈ rowW Q n l,0 ≤ x ∧ x < Q:=fun x hx=>by
  obtain ⟨i,_,rfl⟩:=List.mem_map.1 hx
  split
  ·exact inI_rng hq.1
  ·exact ⟨Int.le_refl 0,hq.1⟩
 have tz : ∀ i,i < n → (rowW Q n l)[i]? = some (if i < l.length then inI Q (l.getD i 0) else 0):=fun i hi=>by
  rw [rowW,List.getElem?_map,List.getElem?_range hi];rfl
 have eT:=toI_toNat fun x hx=>(rT x hx).1
 have lN : ((rowW Q n l).map Int.toNat).length = n:=by rw [List.length_map,lT]
 have nz : ∀ i,i < n → ((rowW Q n l).map Int.toNat)[i]? = some (if i < l.length then inI Q (l.getD i 0) else 0).toNat:=fun i hi=>by
  rw [List.getElem?_map,tz i hi];rfl
 rw [← eT]
 have rN : ∀ d ∈ (rowW Q n l).map Int.toNat,d ≤ 9223372036854775807:=fun d hd=>by
  obtain ⟨x,hx,rfl⟩:=List.mem_map.1 hd
  have:=rT x hx;omega
 generalize (rowW Q n l).map Int.toNat = T at *
 have c_codewrightref04_In:=fun {x : Int}=>S_codewrightref04_In (P:=P) (M:=M) (x:=x) (pm:=pm) (n:=nm) (c:=cm) (res:=inI Q x) (by rw [hQ])
 refine j_nf [_,_] rfl ?_
 refine j_step rfl (x_box_agg rfl fun b1=>?_)
 refine j_run it 1 rfl (by simp) ?_
 refine j_nf [_,_] rfl ?_
 refine j_run it 1 rfl (by simp) ?_
 refine j_step rfl (x_make_nat (n) _ rfl rfl sl22 zo22e by22e (by omega) (by omega) (by omega) fun b2=>?_)
 refine j_run it 1 rfl (by simp) ?_
 refine j_nf [_,_,_] rfl ?_
 refine j_run it 1 rfl (by simp) ?_
 refine j_nf [_,_,_] rfl ?_
 rw [show List.replicate n 0 = T.take 0++List.replicate (n - 0) 0 by simp]
 refine j_loopG (X:=Nat) [1,2,3,6,7] [0] (fun i=>[(8,.int .i64 (i : Int))]) (fun i=>[(some b2,3,natCells .i64 (T.take i++List.replicate (n - i) 0)),(some b1,24,[.int .i64 P,.int .i64 M,.slice pm nm cm])]) (fun _=>[]) (fun i=>i ≤ n ∧ i ≤ l.length) (fun i=>n - i) 0 [] rfl rfl rfl ⟨Nat.zero_le _,Nat.zero_le _⟩ (by repeat (first | exact Fr.sub_nil _ | refine Fr.sub_cons rfl ?_)) rfl rfl ?_
 rintro i ⟨hi,hil⟩ ih
 simp only [List.cons_append,List.nil_append] at hi hil ih ⊢
 have fin : i = n ∨ i = l.length → T.take i++List.replicate (n - i) 0 = T:=fun h=>by
  refine List.ext_getElem? fun j=>?_
  have hl : (T.take i).length = i:=by rw [List.length_take];omega
  by_cases hj : j < i
  ·rw [List.getElem?_append_left (by omega),List.getElem?_take,if_pos hj]
  ·rw [List.getElem?_append_right (by omega),hl,List.getElem?_replicate]
   by_cases hjn : j < n
   ·rw [if_pos (by omega),nz j hjn,if_neg (by omega)];rfl
   ·rw [if_neg (by omega),List.getElem?_eq_none (by omega)]
 by_cases h1 : i < n
 ·by_cases h2 : i < l.length
  ·have ih':=ih (i + 1) (by omega) ⟨by omega,by omega⟩
   have zz:=nz i h1
   rw [if_pos h2] at zz
   have hdd : l.getD i 0 = l.getD i default:=rfl
   rw [hdd] at zz
   have br:=inI_rng (q:=Q) (x:=l.getD i default) hq.1
   rw [← fill_set lN h1 zz] at ih'
   have lf : (T.take i++List.replicate (n - i) 0).length = n:=by rw [List.length_append,List.length_take,List.length_replicate];omega
   have en : (((inI Q (l.getD i default)).toNat : Nat) : Int) = inI Q (l.getD i default):=Int.toNat_of_nonneg br.1
   refine j_nf [_,_,_,_,_,_] rfl ?_
   refine j_run it 4 rfl (by simp) ?_
   refine j_split_dec (t:=14) rfl (fun h3=>?_) (fun h3=>by exfalso;omega)
   refine j_run it 2 rfl (by simp) ?_
   refine j_gstep rfl rfl (x_len sl22 rfl ?_)
   refine j_run it 2 rfl (by simp) ?_
   refine j_nf [_,_,_,_,_] rfl ?_
   refine j_if rfl rfl (fun h4=>?_) (fun h4=>by exfalso;omega)
   refine j_nf [_,_,_,_,_,_] rfl ?_
   (apply j_drawK it mx 8;(· rfl);(· rfl))
   (apply lxk_run 2;(· rfl);(· simp))
   (apply lxk_eq;(· rfl);(· exact d_bld_all 1 rfl rfl ld24 rfl))
   (apply lxk_run 2;(· rfl);(· simp))
   (apply lxk_pt;(· rfl);(· exact d_x fun _=>x_idx 0 (i) rfl rfl rfl sl22 rfl (by omega) fun z1 hz1 b3 o1=>(dk_ptD default hz1 0 rfl));intro b3 o1)
   (apply lxk_eq;(· rfl);(· exact d_x fun _=>x_ld_int 0 rfl rfl ld3 fun ⟨r1,r2⟩=>dk_eq))
   (apply lxk_eq;(· rfl);(· exact d_x fun _=>x_call [] rfl (c_codewrightref04_In) rfl (by rintro _ _ _ ⟨rfl,rfl,rfl⟩;exact dk_eq)))
   refine lxk_end rfl ?_
   simp only [List.map_cons,List.map_nil,List.cons_append,List.nil_append]
   refine j_step rfl (x_idx_own (i) (i) rfl rfl sl22 rfl (by omega) (Nat.mul_one _) ?_)
   refine j_step rfl (x_bst_nat 0 ((inI Q (l.getD i default) : Int).toNat) rfl rfl rfl ld3 (by first | rfl | omega) (by first | omega | (simp;omega)) ?_)
   refine j_nf [_,_,_,_] rfl ?_
   refine j_run it 3 rfl ⟨trivial,⟨by omega,by omega⟩,trivial,trivial⟩ ?_
   refine j_nfn 1 [.lp (pL 116),.blk 0,.c [1,1,1]] rfl ?_
   refine j_to [1] (by exact fra rfl) rfl rfl (ih')
  ·rw [fin (.inr (by omega)),natCells_toI]
   refine j_nf [_,_,_,_,_,_] rfl ?_
   refine j_run it 4 rfl (by simp) ?_
   refine j_split_dec (t:=14) rfl (fun h3=>?_) (fun h3=>by exfalso;omega)
   refine j_run it 2 rfl (by simp) ?_
   refine j_gstep rfl rfl (x_len sl22 rfl ?_)
   refine j_run it 2 rfl (by simp) ?_
   refine j_nf [_,_,_,_,_] rfl ?_
   refine j_if rfl rfl (fun h4=>by exfalso;omega) (fun h4=>?_)
   refine j_nf [_,_] rfl ?_
   refine j_run it 2 rfl (by simp) ?_
   refine j_nf [_] rfl ?_
   refine j_pub_madei 8 (toI T) 0 rfl (by rw [toI_len,lN]) (toI_rng rN) (by omega) (by omega) ?_
   refine j_giv [0] rfl rfl rfl ⟨_,_,rfl,rfl,rfl⟩
 ·rw [fin (.inl (by omega)),natCells_toI]
  refine j_nf [_,_,_,_,_,_] rfl ?_
  refine j_run it 4 rfl (by simp) ?_
  refine j_split_dec (t:=14) rfl (fun h2=>by exfalso;omega) (fun h2=>?_)
  refine j_run it 5 rfl (by simp) ?_
  refine j_nf [_,_,_,_,_] rfl ?_
  refine j_false rfl rfl ?_
  refine j_nf [_,_] rfl ?_
  refine j_run it 2 rfl (by simp) ?_
  refine j_nf [_] rfl ?_
  refine j_pub_madei 8 (toI T) 0 rfl (by rw [toI_len,lN]) (toI_rng rN) (by omega) (by omega) ?_
  refine j_giv [0] rfl rfl rfl ⟨_,_,rfl,rfl,rfl⟩
end Go.Proofs.Ytlelanmgijhjfaa
