/-
The canonical list of limbs of a number, and how it goes with values. Binary digits; powers by squaring; binomial coefficients. Binomial coefficients. Numbers in limbs, compared and taken from each other. Fractions: what a sign, a numerator and a denominator in limbs say, and the canonical form. Krawtchouk numbers: the coefficients of (1 + a z)^m (1 - z)^x, and their laws. Numbers with a sign, as the program has them; the program's table of Krawtchouk numbers. Integers among the fractions. The transform of a distribution, as the program reckons it. Sums of fractions; the transform of the transform. Delsarte's inequalities, the linear programming bound, the certificate of Singleton. Linear programs over the fractions: weak duality, the lemma of Farkas, rays, complementary slackness. Sums of products of two rows of fractions: bounds, steps; what is feasible, as a test. Columns of Krawtchouk numbers as rows of fractions; certificates as they are handed in. Products of Krawtchouk numbers, the certificate of Hamming's bound, and the least bound from below. Residues of whole polynomials by a monic one, as a module with an operator; products of polynomials by their values at the operator; division. Residues of polynomials by a prime and a monic polynomial: where a product of two others is 0, the polynomial has a divisor. Numbers as lists of digits; the field of residues on numbers: its laws. A field on integers; sums over it; words, their products, and the sums over all words. The reduction of a row of coefficients from its top, step by step; the document's test for divisors. Words that rows generate; the words that are orthogonal to them; sums over both. Weights of words against the kernel: the identity of MacWilliams, and the moments of Pless. The theorem of Delsarte on the external distance. The words that rows generate are closed, differ from each other, and any of them moves the list onto itself; distances between codewords. The theorem of Assmus and Mattson: words of the least weight over t places. Spans are linear, and list each word once; words of the least weight with one support are multiples. The dual distribution: the transform of numbers, divided by their sum. Lists of words: their first error; how their distances are counted. Masks of blocks. Contracts of nat.short. Contracts of nat.Trim, nat.Of. Contracts of nat.plus and nat.Add. Contracts of nat.times and nat.Mul. Contracts of nat.digit.
-/
import Derived.Test.YtmhcfhddmkhaiaaHC2
set_option linter.unusedVariables false
set_option linter.unusedSimpArgs false
namespace Go.Proofs.Ytmhcfhddmkhaiaa
set_option maxRecDepth 100000
set_option linter.unusedVariables false
set_option linter.unusedSimpArgs false
def limbs (n : Nat) : List Nat:=if _h : n = 0 then [] else n % 4294967296::limbs (n / 4294967296)
termination_by n
decreasing_by omega
theorem limbs_zero : limbs 0 = []:=by rw [limbs];rfl
theorem limbs_pos {n : Nat} (h : n ≠ 0) : limbs n = n % 4294967296::limbs (n / 4294967296):=by rw [limbs,dif_neg h]
theorem val_limbs (n : Nat) : val (limbs n) = n:=by
 induction n using Nat.strongRecOn with
 | ind n ih =>
  by_cases h : n = 0
  ·subst h;rw [limbs_zero];rfl
  ·rw [limbs_pos h,val,ih _ (by omega)];omega
theorem limbs_lt (n : Nat) : ∀ x ∈ limbs n,x < 4294967296:=by
 induction n using Nat.strongRecOn with
 | ind n ih =>
  intro x hx
  by_cases h : n = 0
  ·subst h;rw [limbs_zero] at hx;cases hx
  ·rw [limbs_pos h] at hx
   rcases List.mem_cons.1 hx with rfl | hx
   ·omega
   ·exact ih _ (by omega) x hx
theorem limbs_inj {a b : Nat} (h : limbs a = limbs b) : a = b:=by rw [← val_limbs a,h,val_limbs]
theorem limbs_nil {n : Nat} : limbs n = [] ↔ n = 0:=by
 constructor
 ·intro h;have:=val_limbs n;rw [h] at this;exact this.symm
 ·rintro rfl;exact limbs_zero
theorem trim_eq {l : List Nat} (h : ∀ x ∈ l,x < 4294967296) : trim l = limbs (val l):=by
 induction l with
 | nil=>exact limbs_zero.symm
 | cons x l ih =>
  have ih:=ih fun y hy=>h y (.tail _ hy)
  have hx:=h x (.head _)
  simp only [trim,val]
  rw [ih]
  by_cases hv : val l = 0
  ·rw [hv,limbs_zero]
   by_cases h0 : x = 0
   ·subst h0;simp [limbs_zero]
   ·simp only [if_neg h0]
    rw [limbs_pos (by omega),show (x + 4294967296 * 0) / 4294967296 = 0 by omega,limbs_zero,show (x + 4294967296 * 0) % 4294967296 = x by omega]
  ·rw [limbs_pos (show x + 4294967296 * val l ≠ 0 by omega),show (x + 4294967296 * val l) / 4294967296 = val l by omega,show (x + 4294967296 * val l) % 4294967296 = x by omega]
   rw [limbs_pos hv]
theorem trim_limbs (n : Nat) : trim (limbs n) = limbs n:=by rw [trim_eq (limbs_lt n),val_limbs]
theorem val_append (l m : List Nat) : val (l++m) = val l + 4294967296 ^ l.length * val m:=by
 induction l with
 | nil=>simp [val]
 | cons x l ih =>
  simp only [List.cons_append,val,ih,List.length_cons,Nat.pow_succ]
  rw [Nat.mul_add,Nat.mul_comm (4294967296 ^ l.length) 4294967296,Nat.mul_assoc];omega
theorem val_lt {l : List Nat} (h : ∀ x ∈ l,x < 4294967296) : val l < 4294967296 ^ l.length:=by
 induction l with
 | nil=>simp [val]
 | cons x l ih =>
  have ih:=ih fun y hy=>h y (.tail _ hy)
  have hx:=h x (.head _)
  simp only [val,List.length_cons,Nat.pow_succ]
  have : val l + 1 ≤ 4294967296 ^ l.length:=ih
  have:=Nat.mul_le_mul_right 4294967296 this
  omega
theorem limbs_length_le {n k : Nat} (h : n < 4294967296 ^ k) : (limbs n).length ≤ k:=by
 induction k generalizing n with
 | zero => have : n = 0 := by simpa using h
           subst this; rw [limbs_zero]; exact Nat.le_refl _
 | succ k ih =>
  by_cases h0 : n = 0
  ·subst h0;rw [limbs_zero];exact Nat.zero_le _
  ·rw [limbs_pos h0,List.length_cons]
   have:=ih (n:=n / 4294967296) (by rw [Nat.pow_succ] at h;exact Nat.div_lt_of_lt_mul (by rw [Nat.mul_comm];exact h))
   omega
theorem limbs_le_length {n k : Nat} (h : (limbs n).length ≤ k) : n < 4294967296 ^ k:=by
 have:=val_lt (limbs_lt n)
 rw [val_limbs] at this
 exact Nat.lt_of_lt_of_le this (Nat.pow_le_pow_right (by omega) h)
theorem val_take_succ {l : List Nat} {i x : Nat} (h : l[i]? = some x) : val (l.take (i + 1)) = val (l.take i) + 4294967296 ^ i * x:=by
 have hi : i < l.length:=(List.getElem?_eq_some_iff.1 h).1
 rw [List.take_add_one,h,val_append]
 simp [val,List.length_take,Nat.min_eq_left (Nat.le_of_lt hi)]
theorem val_replicate (n : Nat) : val (List.replicate n 0) = 0:=by
 induction n with
 | zero=>rfl
 | succ n ih=>rw [List.replicate_succ,val,ih]
theorem val_set_take {l : List Nat} {k z : Nat} (h : k < l.length) : val ((l.set k z).take (k + 1)) = val (l.take k) + 4294967296 ^ k * z:=by
 rw [val_take_succ (x:=z) (by simp [h]),List.take_set_of_le (Nat.le_refl k)]
theorem take_ge {l : List Nat} {k : Nat} (h : l.length ≤ k) : l.take (k + 1) = l.take k:=by rw [List.take_of_length_le h,List.take_of_length_le (by omega)]
theorem set_lt {l : List Nat} {k z m : Nat} (h : ∀ x ∈ l,x < m) (hz : z < m) : ∀ x ∈ l.set k z,x < m:=fun x hx=>by
 rcases List.mem_or_eq_of_mem_set hx with h1 | rfl
 ·exact h x h1
 ·exact hz
theorem carry_step {V P c A b x y s : Nat} (h : V + P * c = A + b) (hs : s = x + c + y) : V + P * (s % 4294967296) + P * 4294967296 * (s / 4294967296) = A + P * x + (b + P * y):=by
 have h1 : P * (s % 4294967296) + P * 4294967296 * (s / 4294967296) = P * s:=by rw [Nat.mul_assoc,← Nat.mul_add,Nat.mod_add_div]
 rw [Nat.add_assoc,h1,hs,Nat.mul_add,Nat.mul_add];omega
theorem rep_lt {n m : Nat} (h : 0 < m) : ∀ x ∈ List.replicate n 0,x < m:=fun x hx=>by rw [(List.mem_replicate.1 hx).2];exact h
def sumV (ls : List (List Nat)) : Nat:=(ls.map val).sum
def prodV : List (List Nat) → Nat
 | []=>1
 | l::ls=>val l * prodV ls
def lenS (ls : List (List Nat)) : Nat:=(ls.map List.length).sum
theorem sumV_take_succ {ls : List (List Nat)} {k : Nat} {z : List Nat} (h : ls[k]? = some z) : sumV (ls.take (k + 1)) = sumV (ls.take k) + val z:=by
 rw [List.take_add_one,h];simp [sumV]
theorem sumV_le {ls : List (List Nat)} {m : Nat} (h : ∀ l ∈ ls,val l ≤ m) : sumV ls ≤ ls.length * m:=by
 induction ls with
 | nil=>simp [sumV]
 | cons l ls ih =>
  have h1:=ih fun x hx=>h x (.tail _ hx)
  have h2:=h l (.head _)
  have e : sumV (l::ls) = val l + sumV ls:=by simp [sumV]
  rw [e,List.length_cons,Nat.succ_mul];omega
theorem sum_len {ls : List (List Nat)} {L : Nat} (hr : ∀ l ∈ ls,∀ x ∈ l,x < 4294967296) (hL : ∀ l ∈ ls,l.length ≤ L) (hn : ls.length ≤ 65536) (k : Nat) : (limbs (sumV (ls.take k))).length ≤ L + 1:=by
 refine limbs_length_le ?_
 have h1 : sumV (ls.take k) ≤ (ls.take k).length * 4294967296 ^ L:=sumV_le fun l hl=>by
  have hl':=List.mem_of_mem_take hl
  exact Nat.le_trans (Nat.le_of_lt (val_lt (hr l hl'))) (Nat.pow_le_pow_right (by omega) (hL l hl'))
 have h2 : (ls.take k).length * 4294967296 ^ L ≤ 65536 * 4294967296 ^ L:=Nat.mul_le_mul_right _ (by rw [List.length_take];omega)
 have h3 : 0 < 4294967296 ^ L:=Nat.pow_pos (by omega)
 rw [Nat.pow_succ];omega
theorem prodV_append (ls : List (List Nat)) (z : List Nat) : prodV (ls++[z]) = prodV ls * val z:=by
 induction ls with
 | nil=>simp [prodV]
 | cons l ls ih=>rw [List.cons_append,prodV,ih,prodV,Nat.mul_assoc]
theorem prodV_take_succ {ls : List (List Nat)} {k : Nat} {z : List Nat} (h : ls[k]? = some z) : prodV (ls.take (k + 1)) = prodV (ls.take k) * val z:=by
 rw [List.take_add_one,h];exact prodV_append _ _
theorem lenS_cons (l : List Nat) (ls : List (List Nat)) : lenS (l::ls) = l.length + lenS ls:=by simp [lenS]
theorem prodV_le {ls : List (List Nat)} (hr : ∀ l ∈ ls,∀ x ∈ l,x < 4294967296) : prodV ls ≤ 4294967296 ^ lenS ls:=by
 induction ls with
 | nil=>simp [prodV,lenS]
 | cons l ls ih =>
  rw [prodV,lenS_cons,Nat.pow_add]
  exact Nat.mul_le_mul (Nat.le_of_lt (val_lt (hr l (.head _)))) (ih fun x hx=>hr x (.tail _ hx))
theorem lenS_take (ls : List (List Nat)) (k : Nat) : lenS (ls.take k) ≤ lenS ls:=by
 induction ls generalizing k with
 | nil=>simp
 | cons l ls ih =>
  cases k with
  | zero=>simp [lenS]
  | succ k=>rw [List.take_succ_cons,lenS_cons,lenS_cons];have:=ih k;omega
theorem lenS_mem {ls : List (List Nat)} {l : List Nat} (h : l ∈ ls) : l.length ≤ lenS ls:=by
 induction ls with
 | nil=>cases h
 | cons y ls ih =>
  rw [lenS_cons]
  rcases List.mem_cons.1 h with rfl | h
  ·omega
  ·have:=ih h;omega
theorem prod_len {ls : List (List Nat)} (hr : ∀ l ∈ ls,∀ x ∈ l,x < 4294967296) (k : Nat) : (limbs (prodV (ls.take k))).length ≤ lenS ls + 1:=by
 refine limbs_length_le ?_
 have h1:=prodV_le (ls:=ls.take k) fun l hl=>hr l (List.mem_of_mem_take hl)
 have h2 : 4294967296 ^ lenS (ls.take k) ≤ 4294967296 ^ lenS ls:=Nat.pow_le_pow_right (by omega) (lenS_take ls k)
 have h3 : 0 < 4294967296 ^ lenS ls:=Nat.pow_pos (by omega)
 rw [Nat.pow_succ];omega
theorem limbs_one : limbs 1 = [1]:=by rw [limbs_pos (by omega)];simp [limbs_zero]
theorem limbs_small {n : Nat} (h : n ≠ 0) (h' : n < 4294967296) : limbs n = [n]:=by
 rw [limbs_pos h,show n / 4294967296 = 0 by omega,limbs_zero,show n % 4294967296 = n by omega]
theorem val_drop {l : List Nat} {k x : Nat} (h : l[k]? = some x) : val (l.drop k) = x + 4294967296 * val (l.drop (k + 1)):=by
 have hk : k < l.length:=(List.getElem?_eq_some_iff.1 h).1
 rw [List.drop_eq_getElem_cons hk,val]
 rw [List.getElem?_eq_getElem hk] at h
 rw [Option.some.inj h]
theorem val_set_drop {l : List Nat} {k z : Nat} (h : k < l.length) : val ((l.set k z).drop k) = z + 4294967296 * val (l.drop (k + 1)):=by
 rw [val_drop (x:=z) (by simp [h]),List.drop_set_of_lt (by omega)]
theorem div_step {A Q b r x : Nat} (h : A = Q * b + r) (hb : 0 < b) : x + 4294967296 * A = ((r * 4294967296 + x) / b + 4294967296 * Q) * b + (r * 4294967296 + x) % b:=by
 have h1:=Nat.div_add_mod (r * 4294967296 + x) b
 rw [Nat.add_mul,Nat.mul_comm _ b]
 rw [h,Nat.mul_add,Nat.mul_assoc]
 omega
theorem div_lt' {r x b : Nat} (hr : r < b) (hx : x < 4294967296) : (r * 4294967296 + x) / b < 4294967296:=by
 refine Nat.div_lt_of_lt_mul ?_
 have:=Nat.mul_le_mul_right 4294967296 (show r + 1 ≤ b from hr)
 omega
theorem val_take_getD (l : List Nat) (k : Nat) : val (l.take (k + 1)) = val (l.take k) + 4294967296 ^ k * l.getD k 0:=by
 by_cases h : k < l.length
 ·rw [val_take_succ (List.getElem?_eq_getElem h),List.getD,List.getElem?_eq_getElem h];rfl
 ·rw [take_ge (by omega),List.getD,List.getElem?_eq_none (by omega)];rfl
theorem getD_lt {l : List Nat} {k m : Nat} (h : ∀ x ∈ l,x < m) (hm : 0 < m) : l.getD k 0 < m:=by
 by_cases hk : k < l.length
 ·rw [List.getD,List.getElem?_eq_getElem hk];exact h _ (List.getElem_mem hk)
 ·rw [List.getD,List.getElem?_eq_none (by omega)];exact hm
theorem getD_ge {l : List Nat} {k : Nat} (h : l.length ≤ k) : l.getD k 0 = 0:=by rw [List.getD,List.getElem?_eq_none h];rfl
theorem val_snoc {l : List Nat} {x : Nat} : val (l++[x]) = val l + 4294967296 ^ l.length * x:=by rw [val_append];simp [val]
theorem snoc_lt {l : List Nat} {z m : Nat} (h : ∀ x ∈ l,x < m) (hz : z < m) : ∀ x ∈ l++[z],x < m:=fun x hx=>by
 rcases List.mem_append.1 hx with h1 | h1
 ·exact h x h1
 ·rw [List.mem_singleton.1 h1];exact hz
def blen (n : Nat) : Nat:=if _h : n = 0 then 0 else blen (n / 2) + 1
termination_by n
decreasing_by omega
theorem blen_zero : blen 0 = 0:=by rw [blen];rfl
theorem blen_pos {n : Nat} (h : n ≠ 0) : blen n = blen (n / 2) + 1:=by rw [blen,dif_neg h]
theorem blen_div (k : Nat) : ∀ n,2 ^ k ≤ n → blen n = blen (n / 2 ^ k) + k:=by
 induction k with
 | zero=>intro n _;simp
 | succ k ih =>
  intro n h
  have h0 : 0 < 2 ^ k:=Nat.pow_pos (by omega)
  rw [Nat.pow_succ] at h
  rw [blen_pos (by omega),ih (n / 2) (by omega),Nat.div_div_eq_div_mul,Nat.pow_succ,Nat.mul_comm 2];omega
def blenF : Nat → Nat → Nat
 | 0,_=>0
 | f + 1,n=>if n = 0 then 0 else blenF f (n / 2) + 1
theorem blenF_eq (f : Nat) : ∀ n,n < 2 ^ f → blenF f n = blen n:=by
 induction f with
 | zero => intro n h; have : n = 0 := by simpa using h
           subst this; rw [blen_zero]; rfl
 | succ f ih =>
  intro n h
  rw [blenF]
  by_cases h0 : n = 0
  ·subst h0;rw [if_pos rfl,blen_zero]
  ·rw [if_neg h0,blen_pos h0,ih _ (by rw [Nat.pow_succ] at h;omega)]
theorem blen_le {n k : Nat} (h : n < 2 ^ k) : blen n ≤ k:=by
 induction k generalizing n with
 | zero => have : n = 0 := by simpa using h
           subst this; rw [blen_zero]; omega
 | succ k ih =>
  by_cases h0 : n = 0
  ·subst h0;rw [blen_zero];omega
  ·rw [blen_pos h0];have:=ih (n:=n / 2) (by rw [Nat.pow_succ] at h;omega);omega
theorem blen_eq_zero {n : Nat} : blen n = 0 ↔ n = 0:=by
 constructor
 ·intro h
  by_cases h0 : n = 0
  ·exact h0
  ·rw [blen_pos h0] at h;omega
 ·rintro rfl;exact blen_zero
theorem blen_eq_one {n : Nat} : blen n = 1 ↔ n = 1:=by
 constructor
 ·intro h
  by_cases h0 : n = 0
  ·subst h0;rw [blen_zero] at h;omega
  ·rw [blen_pos h0] at h
   have:=blen_eq_zero.1 (show blen (n / 2) = 0 by omega)
   omega
 ·rintro rfl;rw [blen_pos (by omega)];simp [blen_zero]
def tabOk (s : ByteArray) : Bool:=(List.range 256).all fun n=>match s[n]? with
 | some b=>b.toNat == blenF 8 n
 | none=>false
theorem tab_get {s : ByteArray} (h : tabOk s = true) {n : Nat} (hn : n < 256) : s[n]? = some (UInt8.ofNat (blen n)):=by
 unfold tabOk at h
 have:=List.all_eq_true.1 h n (List.mem_range.2 hn)
 cases hs : s[n]? with
 | none=>rw [hs] at this;simp at this
 | some b =>
  rw [hs] at this
  simp only [beq_iff_eq] at this
  rw [blenF_eq 8 n (by simpa using hn)] at this
  rw [← this];simp
def bitsL (l : List Nat) : Nat:=match (trim l).getLast? with
 | none=>0
 | some x=>32 * ((trim l).length - 1) + blen x
theorem bitsL_nil {l : List Nat} (h : (trim l).length = 0) : bitsL l = 0:=by
 have : trim l = []:=List.length_eq_zero_iff.1 h
 unfold bitsL;rw [this];rfl
theorem bitsL_top {l : List Nat} {z : Nat} (h : (trim l)[(trim l).length - 1]? = some z) : bitsL l = 32 * ((trim l).length - 1) + blen z:=by
 unfold bitsL
 rw [List.getLast?_eq_getElem?,h]
theorem bitsL_small {l : List Nat} {n : Nat} (h : trim l = limbs n) (hn : n < 4294967296) : bitsL l = blen n:=by
 unfold bitsL
 rw [h]
 by_cases h0 : n = 0
 ·subst h0;rw [limbs_zero,blen_zero];rfl
 ·rw [limbs_small h0 hn];simp
theorem pow_half (s n : Nat) : s ^ n = s ^ (n % 2) * (s * s) ^ (n / 2):=by
 have h : n = n % 2 + 2 * (n / 2):=by omega
 have h2 : (s * s) ^ (n / 2) = s ^ (2 * (n / 2)):=by rw [Nat.pow_mul,Nat.pow_two]
 rw [h2,← Nat.pow_add,← h]
theorem pow_odd {o s n W : Nat} (h : o * s ^ n = W) (hn : n % 2 = 1) : o * s * (s * s) ^ (n / 2) = W:=by
 rw [← h,pow_half s n,hn,Nat.pow_one,Nat.mul_assoc]
theorem pow_even {o s n W : Nat} (h : o * s ^ n = W) (hn : n % 2 = 0) : o * (s * s) ^ (n / 2) = W:=by
 rw [← h,pow_half s n,hn,Nat.pow_zero,Nat.one_mul]
theorem pow_bounds {o s n W : Nat} (h : o * s ^ n = W) (ho : 1 ≤ o) (hs : 1 ≤ s) (hn : 1 ≤ n) : o ≤ W ∧ s ≤ W ∧ o * s ≤ W:=by
 have h1 : 1 ≤ s ^ n:=Nat.pow_pos hs
 have h2 : s ≤ s ^ n:=by
  have:=Nat.pow_le_pow_right hs hn
  rwa [Nat.pow_one] at this
 refine ⟨?_,?_,?_⟩
 ·rw [← h];exact Nat.le_mul_of_pos_right _ h1
 ·rw [← h];exact Nat.le_trans h2 (Nat.le_mul_of_pos_left _ ho)
 ·rw [← h];exact Nat.mul_le_mul_left _ h2
theorem limbs_mono {x W k : Nat} (h : (limbs W).length ≤ k) (hx : x ≤ W) : (limbs x).length ≤ k :=
 limbs_length_le (Nat.lt_of_le_of_lt hx (limbs_le_length h))
def binom : Nat → Nat → Nat
 | _,0=>1
 | 0,_ + 1=>0
 | n + 1,k + 1=>binom n k + binom n (k + 1)
theorem binom_zero (n : Nat) : binom n 0 = 1:=by cases n <;> rfl
theorem binom_succ (n k : Nat) : binom (n + 1) (k + 1) = binom n k + binom n (k + 1):=rfl
theorem binom_gt : ∀ (n k : Nat),n < k → binom n k = 0:=by
 intro n
 induction n with
 | zero=>intro k h;cases k with
  | zero=>omega
  | succ k=>rfl
 | succ n ih=>intro k h;cases k with
  | zero=>omega
  | succ k=>rw [binom_succ,ih k (by omega),ih (k + 1) (by omega)]
theorem binom_self (n : Nat) : binom n n = 1:=by
 induction n with
 | zero=>rfl
 | succ n ih=>rw [binom_succ,ih,binom_gt n (n + 1) (by omega)]
theorem binom_symm : ∀ (n a b : Nat),a + b = n → binom n a = binom n b:=by
 intro n
 induction n with
 | zero => intro a b h; have : a = 0 := by omega
           have : b = 0 := by omega
           subst_vars; rfl
 | succ n ih =>
  intro a b h
  cases a with
  | zero => have : b = n + 1 := by omega
            subst this; rw [binom_self, binom_zero]
  | succ a=>cases b with
   | zero => have : a = n := by omega
             subst this; rw [binom_self, binom_zero]
   | succ b=>rw [binom_succ,binom_succ,ih a (b + 1) (by omega),ih (a + 1) b (by omega),Nat.add_comm]
theorem binom_le (n : Nat) : ∀ k,binom n k ≤ 2 ^ n:=by
 induction n with
 | zero=>intro k;cases k <;> simp [binom]
 | succ n ih=>intro k;cases k with
  | zero=>rw [binom_zero];exact Nat.pow_pos (by omega)
  | succ k=>rw [binom_succ,Nat.pow_succ];have:=ih k;have:=ih (k + 1);omega
theorem binom_step : ∀ (n k m : Nat),n = k + m → (k + 1) * binom n (k + 1) = m * binom n k:=by
 intro n
 induction n with
 | zero => intro k m h; have : k = 0 := by omega
           have : m = 0 := by omega
           subst_vars; rfl
 | succ n ih =>
  intro k m h
  cases k with
  | zero =>
   have hm : m = n + 1:=by omega
   subst hm
   have:=ih 0 n (by omega)
   rw [binom_succ,binom_zero,binom_zero] at *
   simp only [Nat.zero_add,Nat.one_mul,Nat.mul_one] at this ⊢
   omega
  | succ j =>
   cases m with
   | zero=>rw [Nat.zero_mul,binom_gt (n + 1) (j + 1 + 1) (by omega),Nat.mul_zero]
   | succ m =>
    have h1:=ih j (m + 1) (by omega)
    have h2:=ih (j + 1) m (by omega)
    rw [binom_succ,binom_succ]
    have h3 : (j + 1 + 1) * (binom n (j + 1) + binom n (j + 1 + 1)) = (j + 1) * binom n (j + 1) + binom n (j + 1) + (j + 1 + 1) * binom n (j + 1 + 1):=by rw [Nat.mul_add,Nat.add_mul (j + 1) 1,Nat.one_mul]
    rw [h3,h2,h1,Nat.mul_add,Nat.add_mul m 1 (binom n (j + 1)),Nat.one_mul]
    omega
theorem binom_next {n k : Nat} (h : k ≤ n) : binom n k * (n - k) / (k + 1) = binom n (k + 1):=by
 have:=binom_step n k (n - k) (by omega)
 rw [Nat.mul_comm,← this]
 exact Nat.mul_div_cancel_left _ (by omega)
theorem binom_min {n k : Nat} (h : k ≤ n) : binom n (if n - k < k then n - k else k) = binom n k:=by
 split
 ·exact binom_symm n (n - k) k (by omega)
 ·rfl
theorem pow_chain {x n m k : Nat} (h : x ≤ 2 ^ n) (hn : n ≤ m) (hm : m < 32 * k) : x < 4294967296 ^ k:=by
 have e : (4294967296 : Nat) ^ k = 2 ^ (32 * k):=by rw [Nat.pow_mul]
 rw [e]
 exact Nat.lt_of_le_of_lt h (Nat.pow_lt_pow_right (by decide) (by omega))
theorem binom_len {n : Nat} (h : n ≤ 4096) (k : Nat) : (limbs (binom n k)).length ≤ 129 :=
 limbs_length_le (pow_chain (binom_le n k) h (by decide))
def cmpN (a b : Nat) : Int:=if a < b then -1 else if b < a then 1 else 0
theorem cmpN_lt {a b : Nat} (h : a < b) : cmpN a b = -1:=by rw [cmpN,if_pos h]
theorem cmpN_gt {a b : Nat} (h : b < a) : cmpN a b = 1:=by rw [cmpN,if_neg (by omega),if_pos h]
theorem cmpN_eq {a b : Nat} (h : a = b) : cmpN a b = 0:=by rw [cmpN,if_neg (by omega),if_neg (by omega)]
theorem val_take_drop (l : List Nat) (k : Nat) (hk : k ≤ l.length) : val l = val (l.take k) + 4294967296 ^ k * val (l.drop k):=by
 have h:=val_append (l.take k) (l.drop k)
 rw [List.take_append_drop,List.length_take,Nat.min_eq_left hk] at h
 exact h
theorem take_lt {l : List Nat} (h : ∀ x ∈ l,x < 4294967296) {k : Nat} (hk : k ≤ l.length) : val (l.take k) < 4294967296 ^ k:=by
 have:=val_lt (l:=l.take k) (fun x hx=>h x (List.mem_of_mem_take hx))
 rwa [List.length_take,Nat.min_eq_left hk] at this
theorem lt_of_len {x y : Nat} (h : (limbs x).length < (limbs y).length) : x < y:=by
 rcases Nat.lt_or_ge x y with h1 | h1
 ·exact h1
 ·have:=limbs_mono (x:=y) (W:=x) (Nat.le_refl _) h1
  omega
theorem lt_of_top {l m : List Nat} {k x y : Nat} (hl : ∀ z ∈ l,z < 4294967296) (hd : val (l.drop (k + 1)) = val (m.drop (k + 1))) (hx : l[k]? = some x) (hy : m[k]? = some y) (h : x < y) : val l < val m:=by
 have hkl : k < l.length:=(List.getElem?_eq_some_iff.1 hx).1
 have hkm : k < m.length:=(List.getElem?_eq_some_iff.1 hy).1
 rw [val_take_drop l k (by omega),val_take_drop m k (by omega),val_drop hx,val_drop hy,hd]
 have h1:=take_lt hl (Nat.le_of_lt hkl)
 generalize 4294967296 ^ k = P at *
 generalize val (m.drop (k + 1)) = V at *
 have e : P * (x + 4294967296 * V) + P = P * ((x + 1) + 4294967296 * V):=by rw [← Nat.mul_succ];congr 1;omega
 have h2 : P * ((x + 1) + 4294967296 * V) ≤ P * (y + 4294967296 * V):=Nat.mul_le_mul_left _ (by omega)
 omega
theorem drop_step {l m : List Nat} {k x : Nat} (hd : l.drop (k + 1) = m.drop (k + 1)) (hx : l[k]? = some x) (hy : m[k]? = some x) : l.drop k = m.drop k:=by
 obtain ⟨h1,rfl⟩:=List.getElem?_eq_some_iff.1 hx
 obtain ⟨h2,e⟩:=List.getElem?_eq_some_iff.1 hy
 rw [List.drop_eq_getElem_cons h1,List.drop_eq_getElem_cons h2,hd,e]
theorem borrow_word {b x y d : Nat} (hb : b ≤ 1) (hx : x < 4294967296) (hy : y < 4294967296) (hd : d = ((x + 18446744073709551616 - b) % 18446744073709551616 + 18446744073709551616 - y) % 18446744073709551616) :
  d % 4294967296 + y + b = x + 4294967296 * (d / 9223372036854775808) ∧ d / 9223372036854775808 ≤ 1:=by omega
theorem borrow_step {V P b A c x y d : Nat} (h : V + c = A + P * b) (hb : b ≤ 1) (hx : x < 4294967296) (hy : y < 4294967296) (hd : d = ((x + 18446744073709551616 - b) % 18446744073709551616 + 18446744073709551616 - y) % 18446744073709551616) :
  V + P * (d % 4294967296) + (c + P * y) = A + P * x + P * 4294967296 * (d / 9223372036854775808):=by
 have e:=(borrow_word hb hx hy hd).1
 have e2 : P * (d % 4294967296) + P * y + P * b = P * x + P * 4294967296 * (d / 9223372036854775808):=by
  rw [Nat.mul_assoc,← Nat.mul_add,← Nat.mul_add,← Nat.mul_add,e]
 omega
theorem get_some {α : Type} {l : List α} {i : Nat} {dflt : α} (h : i < l.length) : l[i]? = some (l.getD i dflt):=by
 rw [List.getD,List.getElem?_eq_getElem h];rfl
theorem sub_end {out b : List Nat} {A n c : Nat} (ho : ∀ x ∈ out,x < 4294967296) (hl : out.length = n) (hc : c ≤ 1) (hab : val b ≤ A) (he : val out + val (b.take n) = A + 4294967296 ^ n * c) : c = 0 ∧ val out = A - val b:=by
 have h1:=val_lt ho
 rw [hl] at h1
 have hA : val b = val (b.take n) + 4294967296 ^ n * val (b.drop n):=by
  rcases Nat.le_total b.length n with h | h
  ·rw [List.take_of_length_le h,List.drop_of_length_le h];simp [val]
  ·exact val_take_drop b _ h
 generalize 4294967296 ^ n = P at *
 have hD : val (b.drop n) = 0:=by
  rcases Nat.eq_zero_or_pos (val (b.drop n)) with h | h
  ·exact h
  ·have : P * 1 ≤ P * val (b.drop n):=Nat.mul_le_mul_left _ h
   have : P * c ≤ P * 1:=Nat.mul_le_mul_left _ hc
   omega
 rw [hD,Nat.mul_zero,Nat.add_zero] at hA
 have hc0 : c = 0:=by
  rcases Nat.eq_zero_or_pos c with h | h
  ·exact h
  ·have : P * 1 ≤ P * c:=Nat.mul_le_mul_left _ h
   omega
 subst hc0
 exact ⟨rfl,by omega⟩
theorem sub_word {x y c w : Nat} (hx : x < 4294967296) (hy : y < 4294967296) (hc : c ≤ 1) (hw : w = x + 4294967296 - y - c) : w % 4294967296 + y + c = x + 4294967296 * (1 - w / 4294967296) ∧ 1 - w / 4294967296 ≤ 1:=by omega
theorem sub_step {V P b A c x y w : Nat} (h : V + b = A + P * c) (hc : c ≤ 1) (hx : x < 4294967296) (hy : y < 4294967296) (hw : w = x + 4294967296 - y - c) : V + P * (w % 4294967296) + (b + P * y) = A + P * x + P * 4294967296 * (1 - w / 4294967296):=by
 have e:=(sub_word hx hy hc hw).1
 have e2 : P * (w % 4294967296) + P * y + P * c = P * x + P * 4294967296 * (1 - w / 4294967296):=by
  rw [Nat.mul_assoc,← Nat.mul_add,← Nat.mul_add,← Nat.mul_add,e]
 omega
def sg (neg : Bool) (n : Nat) : Int:=if neg then -(n : Int) else n
abbrev Rt3:=Bool × List Nat × List Nat
def vq (r : Rt3) : Rat:=mkRat (sg r.1 (val r.2.1)) (val r.2.2)
def rt (q : Rat) : Rt3:=(decide (q.num < 0),limbs q.num.natAbs,limbs q.den)
theorem sg_abs (neg : Bool) (n : Nat) : (sg neg n).natAbs = n:=by unfold sg;split <;> omega
theorem sg_int (z : Int) : sg (decide (z < 0)) z.natAbs = z:=by
 unfold sg
 by_cases h : z < 0
 ·rw [decide_eq_true h,if_pos rfl];omega
 ·rw [decide_eq_false h,if_neg (by decide)];omega
theorem sg_num (q : Rat) : sg (decide (q.num < 0)) q.num.natAbs = q.num:=sg_int _
theorem sg_not (neg : Bool) (n : Nat) : sg (!neg) n = -sg neg n:=by cases neg <;> simp [sg]
theorem sg_mul (a b : Bool) (m n : Nat) : sg (a != b) (m * n) = sg a m * sg b n:=by
 cases a <;> cases b <;> simp [sg,Int.neg_mul,Int.mul_neg]
theorem sg_zero (neg : Bool) : sg neg 0 = 0:=by cases neg <;> rfl
theorem sg_lt {neg : Bool} {n : Nat} (h : n ≠ 0) : decide (sg neg n < 0) = neg:=by cases neg <;> simp [sg] <;> omega
theorem vq_rt (q : Rat) : vq (rt q) = q:=by
 simp only [vq,rt,val_limbs,sg_num,Rat.mkRat_self]
theorem vq_rt' (q : Rat) : vq ((rt q).1,(rt q).2.1,(rt q).2.2) = q:=vq_rt q
theorem rt_zero : rt 0 = (false,[],[1]):=by
 show (decide ((0 : Rat).num < 0),limbs (0 : Rat).num.natAbs,limbs (0 : Rat).den) = _
 have e1 : (0 : Rat).num = 0:=rfl
 have e2 : (0 : Rat).den = 1:=rfl
 rw [e1,e2,limbs_one]
 simp [limbs_zero]
theorem rt_mk {neg : Bool} {n d : Nat} (hn : n ≠ 0) (hd : d ≠ 0) : rt (mkRat (sg neg n) d) = (neg,limbs (n / Nat.gcd n d),limbs (d / Nat.gcd n d)):=by
 have hg : 0 < Nat.gcd n d:=Nat.gcd_pos_of_pos_left _ (by omega)
 have e1 : (mkRat (sg neg n) d).num = sg neg (n / Nat.gcd n d):=by
  rw [Rat.num_mkRat,if_neg hd,sg_abs,Nat.gcd_comm]
  have hdv : n / Nat.gcd n d * Nat.gcd n d = n:=Nat.div_mul_cancel (Nat.gcd_dvd_left _ _)
  generalize Nat.gcd n d = g at *
  generalize n / g = m at *
  have : sg neg n = sg neg m * (g : Int):=by rw [← hdv];unfold sg;split <;> simp [Int.neg_mul]
  rw [this,Int.mul_ediv_cancel _ (by omega)]
 have e2 : (mkRat (sg neg n) d).den = d / Nat.gcd n d:=by rw [Rat.den_mkRat,if_neg hd,sg_abs,Nat.gcd_comm]
 have hne : n / Nat.gcd n d ≠ 0:=by
  have : Nat.gcd n d ≤ n:=Nat.gcd_le_left _ (by omega)
  have:=Nat.div_pos this hg
  omega
 simp only [rt,e1,e2,sg_abs,sg_lt hne]
theorem mk_zero {neg : Bool} {n d : Nat} (h : n = 0 ∨ d = 0) : mkRat (sg neg n) d = 0:=by
 rcases h with h | h
 ·subst h;rw [sg_zero,Rat.zero_mkRat]
 ·subst h;rw [Rat.mkRat_zero]
theorem num_rt (q : Rat) : val (rt q).2.1 = q.num.natAbs:=val_limbs _
theorem den_rt (q : Rat) : val (rt q).2.2 = q.den:=val_limbs _
theorem neg_rt (q : Rat) : (rt q).1 = decide (q.num < 0):=rfl
theorem vq_eq (r : Rt3) : vq r = mkRat (sg r.1 (val r.2.1)) (val r.2.2):=rfl
theorem add_same {p q : Rat} (h : decide (p.num < 0) = decide (q.num < 0)) : mkRat (sg (decide (p.num < 0)) (p.num.natAbs * q.den + q.num.natAbs * p.den)) (p.den * q.den) = p + q:=by
 conv=>rhs;rw [← Rat.mkRat_self p,← Rat.mkRat_self q,Rat.mkRat_add_mkRat _ _ p.den_nz q.den_nz]
 congr 1
 generalize p.num = x at h ⊢
 generalize q.num = y at h ⊢
 by_cases hp : x < 0
 ·have hq : y < 0:=by simpa [hp] using h
  have e1 : (x.natAbs : Int) = -x:=by omega
  have e2 : (y.natAbs : Int) = -y:=by omega
  rw [decide_eq_true hp,sg,if_pos rfl,Int.natCast_add,Int.natCast_mul,Int.natCast_mul,e1,e2]
  grind
 ·have hq : ¬ y < 0:=by simpa [hp] using h
  have e1 : (x.natAbs : Int) = x:=by omega
  have e2 : (y.natAbs : Int) = y:=by omega
  rw [decide_eq_false hp,sg,if_neg (by decide),Int.natCast_add,Int.natCast_mul,Int.natCast_mul,e1,e2]
theorem add_diff {p q : Rat} (h : decide (p.num < 0) ≠ decide (q.num < 0)) (hle : q.num.natAbs * p.den ≤ p.num.natAbs * q.den) : mkRat (sg (decide (p.num < 0)) (p.num.natAbs * q.den - q.num.natAbs * p.den)) (p.den * q.den) = p + q:=by
 conv=>rhs;rw [← Rat.mkRat_self p,← Rat.mkRat_self q,Rat.mkRat_add_mkRat _ _ p.den_nz q.den_nz]
 congr 1
 have hc : ((p.num.natAbs * q.den - q.num.natAbs * p.den : Nat) : Int) = p.num.natAbs * q.den - q.num.natAbs * p.den:=by
  rw [Int.ofNat_sub hle,Int.natCast_mul,Int.natCast_mul]
 generalize p.num.natAbs * q.den - q.num.natAbs * p.den = w at hc ⊢
 generalize p.num = x at h hc ⊢
 generalize q.num = y at h hc ⊢
 by_cases hp : x < 0
 ·have hq : ¬ y < 0:=by simpa [hp] using h
  have e1 : (x.natAbs : Int) = -x:=by omega
  have e2 : (y.natAbs : Int) = y:=by omega
  rw [decide_eq_true hp,sg,if_pos rfl,hc,e1,e2]
  grind
 ·have hq : y < 0:=by simpa [hp] using h
  have e1 : (x.natAbs : Int) = x:=by omega
  have e2 : (y.natAbs : Int) = -y:=by omega
  rw [decide_eq_false hp,sg,if_neg (by decide),hc,e1,e2]
  grind
theorem mul_mk (p q : Rat) : mkRat (sg (decide (p.num < 0) != decide (q.num < 0)) (p.num.natAbs * q.num.natAbs)) (p.den * q.den) = p * q:=by
 rw [sg_mul,sg_num,sg_num,← Rat.mkRat_mul_mkRat,Rat.mkRat_self,Rat.mkRat_self]
theorem neg_mk (n : Bool) (a d : Nat) : mkRat (sg (!n) a) d = -mkRat (sg n a) d:=by rw [sg_not,Rat.neg_mkRat]
def bd (k : Nat) (q : Rat) : Prop:=q.num.natAbs < 4294967296 ^ k ∧ q.den < 4294967296 ^ k
theorem bd_mk {k : Nat} {n : Bool} {a d : Nat} (hk : 1 ≤ k) (ha : a < 4294967296 ^ k) (hd : d < 4294967296 ^ k) : bd k (mkRat (sg n a) d):=by
 have hp : 1 < 4294967296 ^ k:=Nat.one_lt_pow (by omega) (by decide)
 constructor
 ·rw [Rat.num_mkRat]
  split
  ·simp;omega
  ·refine Nat.lt_of_le_of_lt (Int.natAbs_ediv_le_natAbs _ _) ?_
   rw [sg_abs];exact ha
 ·rw [Rat.den_mkRat]
  split
  ·exact hp
  ·exact Nat.lt_of_le_of_lt (Nat.div_le_self _ _) hd
theorem bd_mono {k m : Nat} {q : Rat} (h : bd k q) (hk : k ≤ m) : bd m q :=
 ⟨Nat.lt_of_lt_of_le h.1 (Nat.pow_le_pow_right (by decide) hk),Nat.lt_of_lt_of_le h.2 (Nat.pow_le_pow_right (by decide) hk)⟩
theorem bd_len {k : Nat} {q : Rat} (h : bd k q) : (rt q).2.1.length ≤ k ∧ (rt q).2.2.length ≤ k:=⟨limbs_length_le h.1,limbs_length_le h.2⟩
theorem mul_pow {a b j k : Nat} (ha : a < 4294967296 ^ j) (hb : b < 4294967296 ^ k) : a * b < 4294967296 ^ (j + k):=by
 rw [Nat.pow_add]
 exact Nat.mul_lt_mul'' ha hb
theorem bd_mul {j k : Nat} {p q : Rat} (hp : bd j p) (hq : bd k q) (h : 1 ≤ j + k) : bd (j + k) (p * q):=by
 rw [← mul_mk]
 exact bd_mk h (mul_pow hp.1 hq.1) (mul_pow hp.2 hq.2)
theorem bd_add {j k : Nat} {p q : Rat} (hp : bd j p) (hq : bd k q) : bd (j + k + 1) (p + q):=by
 conv=>rw [← Rat.mkRat_self p,← Rat.mkRat_self q,Rat.mkRat_add_mkRat _ _ p.den_nz q.den_nz]
 have h1:=mul_pow hp.1 hq.2
 have h2:=mul_pow hq.1 hp.2
 rw [Nat.add_comm k j] at h2
 have h3:=mul_pow hp.2 hq.2
 have e : ∀ z : Int,z = sg (decide (z < 0)) z.natAbs:=fun z=>(sg_int z).symm
 rw [e (p.num * q.den + q.num * p.den)]
 refine bd_mk (by omega) ?_ (Nat.lt_of_lt_of_le h3 (Nat.pow_le_pow_right (by decide) (by omega)))
 have h4 : (p.num * q.den + q.num * p.den).natAbs ≤ p.num.natAbs * q.den + q.num.natAbs * p.den:=by
  refine Nat.le_trans (Int.natAbs_add_le _ _) ?_
  rw [Int.natAbs_mul,Int.natAbs_mul];simp
 rw [Nat.pow_succ]
 omega
theorem bd_vq {k : Nat} {r : Rt3} (h1 : ∀ x ∈ r.2.1,x < 4294967296) (h2 : ∀ x ∈ r.2.2,x < 4294967296) (l1 : r.2.1.length ≤ k) (l2 : r.2.2.length ≤ k) (hk : 1 ≤ k) : bd k (vq r) :=
 bd_mk hk (Nat.lt_of_lt_of_le (val_lt h1) (Nat.pow_le_pow_right (by decide) l1)) (Nat.lt_of_lt_of_le (val_lt h2) (Nat.pow_le_pow_right (by decide) l2))
theorem bd_zero {k : Nat} (h : 1 ≤ k) : bd k 0:=by
 have hp : 1 < 4294967296 ^ k:=Nat.one_lt_pow (by omega) (by decide)
 exact ⟨by show (0 : Rat).num.natAbs < _;exact Nat.lt_trans (by decide) hp,by show (0 : Rat).den < _;exact hp⟩
def okR (k : Nat) (r : Rt3) : Prop:=(∀ x ∈ r.2.1,x < 4294967296) ∧ (∀ x ∈ r.2.2,x < 4294967296) ∧ r.2.1.length ≤ k ∧ r.2.2.length ≤ k
theorem okR_bd {k : Nat} {r : Rt3} (h : okR k r) (hk : 1 ≤ k) : bd k (vq r):=bd_vq h.1 h.2.1 h.2.2.1 h.2.2.2 hk
def lin (a : Int) (f : Nat → Int) : Nat → Int
 | 0=>f 0
 | k + 1=>f (k + 1) + a * f k
def dl : Nat → Int
 | 0=>1
 | _ + 1=>0
def iter (a : Int) : Nat → (Nat → Int) → (Nat → Int)
 | 0,f=>f
 | n + 1,f=>lin a (iter a n f)
def pw (a : Int) (m x : Nat) : Nat → Int:=iter a m (iter (-1) x dl)
def kr (a : Int) (n k x : Nat) : Int:=pw a (n - x) x k
theorem lin_comm (a b : Int) (f : Nat → Int) : lin a (lin b f) = lin b (lin a f):=by
 funext k
 match k with
 | 0=>rfl
 | 1=>simp only [lin];grind
 | k + 2=>simp only [lin];grind
theorem iter_lin (a b : Int) (n : Nat) (f : Nat → Int) : iter a n (lin b f) = lin b (iter a n f):=by
 induction n with
 | zero=>rfl
 | succ n ih=>rw [iter,ih,lin_comm];rfl
theorem pw_m (a : Int) (m x : Nat) : pw a (m + 1) x = lin a (pw a m x):=rfl
theorem pw_x (a : Int) (m x : Nat) : pw a m (x + 1) = lin (-1) (pw a m x):=iter_lin a (-1) m _
theorem pw_zero (a : Int) (m x : Nat) : pw a m x 0 = 1:=by
 induction m with
 | zero =>
  induction x with
  | zero=>rfl
  | succ x ih=>rw [pw_x];exact ih
 | succ m ih=>exact ih
theorem kr_next (a : Int) {n x : Nat} (hx : x < n) (k : Nat) : kr a n (k + 1) (x + 1) = kr a n (k + 1) x - kr a n k x - a * kr a n k (x + 1):=by
 obtain ⟨m,rfl⟩ : ∃ m,n = m + x + 1:=⟨n - x - 1,by omega⟩
 have e1 : m + x + 1 - x = m + 1:=by omega
 have e2 : m + x + 1 - (x + 1) = m:=by omega
 simp only [kr,e1,e2]
 have h1 : lin a (pw a m (x + 1)) = lin (-1) (pw a (m + 1) x):=by rw [pw_x,lin_comm,← pw_m]
 have h2:=congrFun h1 (k + 1)
 simp only [lin] at h2
 omega
theorem kr_zero (a : Int) (n x : Nat) : kr a n 0 x = 1:=pw_zero a _ _
def sm : Nat → (Nat → Int) → Int
 | 0,_=>0
 | n + 1,f=>sm n f + f n
theorem sm_congr {n : Nat} {f g : Nat → Int} (h : ∀ i,i < n → f i = g i) : sm n f = sm n g:=by
 induction n with
 | zero=>rfl
 | succ n ih=>rw [sm,sm,ih fun i hi=>h i (by omega),h n (by omega)]
theorem sm_add (n : Nat) (f g : Nat → Int) : sm n (fun i=>f i + g i) = sm n f + sm n g:=by
 induction n with
 | zero=>rfl
 | succ n ih=>simp only [sm,ih];omega
theorem sm_sub (n : Nat) (f g : Nat → Int) : sm n (fun i=>f i - g i) = sm n f - sm n g:=by
 induction n with
 | zero=>rfl
 | succ n ih=>simp only [sm,ih];omega
theorem sm_mul (n : Nat) (c : Int) (f : Nat → Int) : sm n (fun i=>c * f i) = c * sm n f:=by
 induction n with
 | zero=>simp [sm]
 | succ n ih=>simp only [sm,ih,Int.mul_add]
theorem sm_zero (n : Nat) : sm n (fun _=>0) = 0:=by
 induction n with
 | zero=>rfl
 | succ n ih=>simp only [sm,ih];rfl
theorem sm_head (n : Nat) (f : Nat → Int) : sm (n + 1) f = f 0 + sm n (fun i=>f (i + 1)):=by
 induction n with
 | zero=>simp [sm]
 | succ n ih=>rw [sm,ih];simp only [sm];omega
theorem sm_swap (n m : Nat) (f : Nat → Nat → Int) : sm n (fun i=>sm m (fun j=>f i j)) = sm m (fun j=>sm n (fun i=>f i j)):=by
 induction n with
 | zero=>simp only [sm];exact (sm_zero m).symm
 | succ n ih=>simp only [sm,ih,sm_add]
theorem iter_dl (a : Int) : ∀ (n k : Nat),iter a n dl k = (binom n k : Int) * a ^ k:=by
 intro n
 induction n with
 | zero =>
  intro k
  cases k with
  | zero=>simp [iter,dl,binom]
  | succ k=>simp [iter,dl,binom]
 | succ n ih =>
  intro k
  cases k with
  | zero=>show iter a n dl 0 = _;rw [ih,binom_zero,binom_zero]
  | succ k =>
   show iter a n dl (k + 1) + a * iter a n dl k = _
   rw [ih,ih,binom_succ,Int.natCast_add,Int.pow_succ]
   grind
theorem kr_first (a : Int) (n k : Nat) : kr a n k 0 = (binom n k : Int) * a ^ k:=iter_dl a n k
def conv (f g : Nat → Int) (k : Nat) : Int:=sm (k + 1) (fun j=>f j * g (k - j))
theorem conv_lin (a : Int) (f g : Nat → Int) : conv f (lin a g) = lin a (conv f g):=by
 funext k
 cases k with
 | zero=>simp [conv,sm,lin]
 | succ k =>
  have h1 : conv f (lin a g) (k + 1) = sm (k + 1) (fun j=>f j * g (k + 1 - j) + a * (f j * g (k - j))) + f (k + 1) * g 0:=by
   rw [conv,sm]
   congr 1
   ·refine sm_congr fun i hi=>?_
    have e : k + 1 - i = (k - i) + 1:=by omega
    rw [e]
    simp only [lin]
    grind
   ·rw [Nat.sub_self];rfl
  rw [h1,sm_add,sm_mul]
  show _ = conv f g (k + 1) + a * conv f g k
  simp only [conv]
  rw [sm.eq_2 _ (k + 1),Nat.sub_self]
  omega
theorem conv_dl (f : Nat → Int) : conv f dl = f:=by
 funext k
 rw [conv,sm,Nat.sub_self]
 have : sm k (fun j=>f j * dl (k - j)) = 0:=by
  rw [← sm_zero k]
  refine sm_congr fun i hi=>?_
  obtain ⟨d,hd⟩ : ∃ d,k - i = d + 1:=⟨k - i - 1,by omega⟩
  rw [hd];simp [dl]
 rw [this];simp [dl]
theorem iter_conv (a : Int) (n : Nat) (f : Nat → Int) : iter a n f = conv f (iter a n dl):=by
 induction n with
 | zero=>exact (conv_dl f).symm
 | succ n ih=>rw [iter,ih];exact (conv_lin a f _).symm
theorem kr_sum (a : Int) (n k x : Nat) : kr a n k x = sm (k + 1) (fun j=>(binom x j : Int) * (-1) ^ j * ((binom (n - x) (k - j) : Int) * a ^ (k - j))):=by
 rw [kr,pw,iter_conv,conv]
 refine sm_congr fun i _=>?_
 rw [iter_dl,iter_dl]
def bf (f : Nat → Int) : Nat → Int
 | 0=>0
 | k + 1=>f k
theorem bf_succ (f : Nat → Int) (k : Nat) : bf f (k + 1) = f k:=rfl
theorem lin_eq (a : Int) (f : Nat → Int) (k : Nat) : lin a f k = f k + a * bf f k:=by
 cases k with
 | zero=>simp [lin,bf]
 | succ k=>rfl
theorem lin_neg (f : Nat → Int) (k : Nat) : lin (-1) f k = f k - bf f k:=by
 rw [lin_eq,Int.neg_mul,Int.one_mul,← Int.sub_eq_add_neg]
theorem kr_in (a : Int) {n i : Nat} (h : i ≤ n) (k : Nat) : kr a (n + 1) k i = kr a n k i + a * bf (fun j=>kr a n j i) k:=by
 have e : n + 1 - i = (n - i) + 1:=by omega
 rw [kr,e,pw_m,lin_eq];rfl
theorem kr_out (a : Int) {n i : Nat} (k : Nat) : kr a (n + 1) k (i + 1) = kr a n k i - bf (fun j=>kr a n j i) k:=by
 have e : n + 1 - (i + 1) = n - i:=by omega
 rw [kr,e,pw_x,lin_neg];rfl
def orth (a : Int) (n r s : Nat) : Int:=sm (n + 1) (fun i=>(binom n i : Int) * a ^ i * (kr a n r i * kr a n s i))
theorem sm_binom (a : Int) (n : Nat) (f : Nat → Int) : sm (n + 2) (fun i=>(binom (n + 1) i : Int) * a ^ i * f i) = sm (n + 1) (fun i=>(binom n i : Int) * a ^ i * f i) + sm (n + 1) (fun i=>(binom n i : Int) * a ^ i * (a * f (i + 1))):=by
 rw [sm_head (n + 1)]
 have h1 : sm (n + 1) (fun i=>(binom (n + 1) (i + 1) : Int) * a ^ (i + 1) * f (i + 1)) = sm (n + 1) (fun i=>(binom n i : Int) * a ^ i * (a * f (i + 1))) + sm (n + 1) (fun i=>(binom n (i + 1) : Int) * a ^ (i + 1) * f (i + 1)):=by
  rw [← sm_add]
  refine sm_congr fun i _=>?_
  rw [binom_succ,Int.natCast_add,Int.pow_succ]
  grind
 rw [h1]
 have h2 : sm (n + 1) (fun i=>(binom n (i + 1) : Int) * a ^ (i + 1) * f (i + 1)) = sm n (fun i=>(binom n (i + 1) : Int) * a ^ (i + 1) * f (i + 1)):=by
  rw [sm,binom_gt n (n + 1) (by omega)];simp
 rw [h2,sm_head n (fun i=>(binom n i : Int) * a ^ i * f i),binom_zero,binom_zero]
 omega
theorem orth_step (a : Int) (n r s : Nat) : orth a (n + 1) r s = (a + 1) * orth a n r s + a * (a + 1) * sm (n + 1) (fun i=>(binom n i : Int) * a ^ i * (bf (fun j=>kr a n j i) r * bf (fun j=>kr a n j i) s)):=by
 rw [orth,sm_binom a n (fun i=>kr a (n + 1) r i * kr a (n + 1) s i),orth,← sm_mul,← sm_mul,← sm_add,← sm_add]
 refine sm_congr fun i hi=>?_
 rw [kr_in a (by omega),kr_in a (by omega),kr_out,kr_out]
 grind
theorem ring1 (a x y c d : Int) : (a + 1) * (x * (y * a * d)) + a * (a + 1) * (x * (y * c)) = x * (a + 1) * (y * a * (c + d)):=by grind
theorem ring2 (a x y c : Int) : (a + 1) * (x * (y * c)) + a * (a + 1) * 0 = x * (a + 1) * (y * c):=by grind
theorem orth_eq (a : Int) : ∀ (n r s : Nat),orth a n r s = if r = s then (a + 1) ^ n * (a ^ r * (binom n r : Int)) else 0:=by
 intro n
 induction n with
 | zero =>
  intro r s
  have e : ∀ k,kr a 0 k 0 = dl k:=fun k=>rfl
  simp only [orth,sm,e,Int.pow_zero]
  cases r <;> cases s <;> simp [dl,binom]
 | succ n ih =>
  intro r s
  rw [orth_step,ih]
  cases r with
  | zero =>
   have : sm (n + 1) (fun i=>(binom n i : Int) * a ^ i * (bf (fun j=>kr a n j i) 0 * bf (fun j=>kr a n j i) s)) = 0:=by
    rw [← sm_zero (n + 1)];exact sm_congr fun i _=>by simp [bf]
   rw [this]
   cases s with
   | zero=>rw [if_pos rfl,if_pos rfl,binom_zero,binom_zero,Int.pow_succ];exact ring2 _ _ _ _
   | succ s=>simp
  | succ r =>
   cases s with
   | zero =>
    have : sm (n + 1) (fun i=>(binom n i : Int) * a ^ i * (bf (fun j=>kr a n j i) (r + 1) * bf (fun j=>kr a n j i) 0)) = 0:=by
     rw [← sm_zero (n + 1)];exact sm_congr fun i _=>by simp [bf]
    rw [this];simp
   | succ s =>
    have : sm (n + 1) (fun i=>(binom n i : Int) * a ^ i * (bf (fun j=>kr a n j i) (r + 1) * bf (fun j=>kr a n j i) (s + 1))) = orth a n r s:=rfl
    rw [this,ih]
    by_cases h : r = s
    ·subst h
     rw [if_pos rfl,if_pos rfl,if_pos rfl,binom_succ,Int.natCast_add,Int.pow_succ,Int.pow_succ]
     exact ring1 _ _ _ _ _
    ·have h' : ¬ r + 1 = s + 1:=by omega
     rw [if_neg h',if_neg h,if_neg h'];simp
theorem ring3 (b p k c a : Int) : b * (p * (k + a * c)) = b * (p * k) + a * (b * (p * c)):=by grind
theorem ring4 (b c p a k m k2 m2 : Int) : b * (p * a * (k - m)) + (c * (p * a * k2) + a * (c * (p * a * m2))) = c * (p * a * k2) + a * (c * (p * a * m2)) + a * (b * (p * k)) - a * (b * (p * m)):=by grind
theorem ring5 {c p k c' p' k' : Int} (h : c * (p * k) = c' * (p' * k')) : k * (p * c) = k' * (p' * c'):=by
 have e1 : k * (p * c) = c * (p * k):=by clear h;grind
 have e2 : k' * (p' * c') = c' * (p' * k'):=by clear h;grind
 rw [e1,e2,h]
theorem recip (a : Int) : ∀ (n i s : Nat),i ≤ n → s ≤ n → kr a n s i * (a ^ i * (binom n i : Int)) = kr a n i s * (a ^ s * (binom n s : Int)):=by
 -- the numbers without their bounds
 have key : ∀ (n i s : Nat),(binom n i : Int) * (a ^ i * kr a n s i) = (binom n s : Int) * (a ^ s * kr a n i s):=by
  have step : ∀ (n i s : Nat),(binom (n + 1) i : Int) * (a ^ i * kr a (n + 1) s i) =
    (binom n i : Int) * (a ^ i * kr a n s i) + a * bf (fun t=>(binom n i : Int) * (a ^ i * kr a n t i)) s + a * bf (fun j=>(binom n j : Int) * (a ^ j * kr a n s j)) i - a * bf (fun j=>bf (fun t=>(binom n j : Int) * (a ^ j * kr a n t j)) s) i:=by
   intro n i s
   have hbf : ∀ (c : Int) (f : Nat → Int) (s : Nat),bf (fun t=>c * f t) s = c * bf f s:=by
    intro c f s;cases s <;> simp [bf]
   have h1 : (binom n i : Int) * (a ^ i * kr a (n + 1) s i) = (binom n i : Int) * (a ^ i * kr a n s i) + a * bf (fun t=>(binom n i : Int) * (a ^ i * kr a n t i)) s:=by
    rw [hbf,hbf]
    by_cases h : i ≤ n
    ·rw [kr_in a h];exact ring3 _ _ _ _ _
    ·rw [binom_gt n i (by omega)];simp
   cases i with
   | zero=>rw [binom_zero] at *;rw [binom_zero,h1];simp [bf]
   | succ i =>
    rw [binom_succ,Int.natCast_add,Int.add_mul,h1,kr_out]
    simp only [bf_succ,hbf,Int.pow_succ]
    exact ring4 _ _ _ _ _ _ _ _
  intro n
  induction n with
  | zero =>
   intro i s
   have e : ∀ k x,kr a 0 k x = iter (-1) x dl k:=fun k x=>by rw [kr,Nat.zero_sub];rfl
   cases i <;> cases s <;> simp [binom,e,iter,dl]
  | succ n ih =>
   intro i s
   rw [step,step,ih i s]
   have hb : ∀ i s,bf (fun t=>(binom n i : Int) * (a ^ i * kr a n t i)) s = bf (fun j=>(binom n j : Int) * (a ^ j * kr a n i j)) s:=by
    intro i s
    cases s with
    | zero=>rfl
    | succ s=>exact ih i s
   rw [hb i s,hb s i]
   have hc : bf (fun j=>bf (fun t=>(binom n j : Int) * (a ^ j * kr a n t j)) s) i = bf (fun j=>bf (fun t=>(binom n j : Int) * (a ^ j * kr a n t j)) i) s:=by
    cases i with
    | zero=>cases s <;> rfl
    | succ i =>
     cases s with
     | zero=>rfl
     | succ s=>exact ih i s
   rw [hc]
   omega
 intro n i s _ _
 exact ring5 (key n i s)
theorem ring6 {A J M X p2 p1 p0 pb : Int} (h1 : (J + 1 + 1) * p2 + (A - 1) * (J + 1) * p1 - A * (J + 1 - 1) * p0 = (M * A - X) * p1 - (M * A + X * A) * p0) (h2 : (J + 1) * p1 + (A - 1) * J * p0 - A * (J - 1) * pb = (M * A - X) * p0 - (M * A + X * A) * pb) :
  (J + 1 + 1) * (p2 + A * p1) + (A - 1) * (J + 1) * (p1 + A * p0) - A * (J + 1 - 1) * (p0 + A * pb) = ((M + 1) * A - X) * (p1 + A * p0) - ((M + 1) * A + X * A) * (p0 + A * pb):=by grind
theorem ring7 {A J X p2 p1 p0 pb : Int} (h1 : (J + 1 + 1) * p2 + (A - 1) * (J + 1) * p1 - A * (J + 1 - 1) * p0 = (0 * A - X) * p1 - (0 * A + X * A) * p0) (h2 : (J + 1) * p1 + (A - 1) * J * p0 - A * (J - 1) * pb = (0 * A - X) * p0 - (0 * A + X * A) * pb) :
  (J + 1 + 1) * (p2 + -1 * p1) + (A - 1) * (J + 1) * (p1 + -1 * p0) - A * (J + 1 - 1) * (p0 + -1 * pb) = (0 * A - (X + 1)) * (p1 + -1 * p0) - (0 * A + (X + 1) * A) * (p0 + -1 * pb):=by grind
theorem three (a : Int) : ∀ (m x j : Nat),(j + 1 : Int) * pw a m x (j + 1) + (a - 1) * j * pw a m x j - a * (j - 1) * bf (pw a m x) j = (m * a - x) * pw a m x j - (m * a + x * a) * bf (pw a m x) j:=by
 intro m
 induction m with
 | zero =>
  intro x
  induction x with
  | zero =>
   intro j
   cases j with
   | zero=>simp [pw,iter,dl,bf]
   | succ j=>cases j <;> simp [pw,iter,dl,bf]
  | succ x ih =>
   intro j
   rw [pw_x]
   have h1:=ih j
   cases j with
   | zero=>simp only [lin,bf] at *;grind
   | succ j =>
    have h2:=ih j
    have e : bf (lin (-1) (pw a 0 x)) (j + 1) = pw a 0 x j + -1 * bf (pw a 0 x) j:=lin_eq _ _ _
    rw [e]
    simp only [lin] at *
    rw [bf_succ] at h1
    simp only [Int.natCast_add,Int.natCast_one,Int.natCast_zero] at h1 h2 ⊢
    exact ring7 h1 h2
 | succ m ih =>
  intro x j
  rw [pw_m]
  have h1:=ih x j
  cases j with
  | zero=>simp only [lin,bf] at *;grind
  | succ j =>
   have h2:=ih x j
   have e : bf (lin a (pw a m x)) (j + 1) = pw a m x j + a * bf (pw a m x) j:=lin_eq _ _ _
   rw [e]
   simp only [lin] at *
   rw [bf_succ] at h1
   simp only [Int.natCast_add,Int.natCast_one] at h1 h2 ⊢
   exact ring6 h1 h2
theorem kr_three (a : Int) {n j x : Nat} (hx : x ≤ n) (hj : 1 ≤ j) : (j + 1 : Int) * kr a n (j + 1) x = ((n - j) * a + j - (a + 1) * x) * kr a n j x - a * (n - j + 1) * kr a n (j - 1) x:=by
 obtain ⟨i,rfl⟩ : ∃ i,j = i + 1:=⟨j - 1,by omega⟩
 have h:=three a (n - x) x (i + 1)
 have e : bf (pw a (n - x) x) (i + 1) = pw a (n - x) x i:=rfl
 have hc : ((n - x : Nat) : Int) = n - x:=by omega
 rw [e,hc] at h
 show _ * pw a (n - x) x (i + 1 + 1) = _ * pw a (n - x) x (i + 1) - _ * pw a (n - x) x (i + 1 - 1)
 rw [Nat.add_sub_cancel]
 grind
theorem lin_abs {a : Int} {A M : Nat} (ha : a.natAbs ≤ A) {f : Nat → Int} (h : ∀ k,(f k).natAbs ≤ M) : ∀ k,(lin a f k).natAbs ≤ (A + 1) * M:=by
 intro k
 rw [lin_eq]
 have h1 : (bf f k).natAbs ≤ M:=by
  cases k with
  | zero=>simp [bf]
  | succ k=>exact h k
 have h2:=Int.natAbs_add_le (f k) (a * bf f k)
 rw [Int.natAbs_mul] at h2
 have h3:=Nat.mul_le_mul ha h1
 have h4:=h k
 rw [Nat.succ_mul]
 omega
theorem pw_abs {a : Int} {A : Nat} (ha : a.natAbs ≤ A) (hA : 1 ≤ A) (m x k : Nat) : (pw a m x k).natAbs ≤ (A + 1) ^ (m + x):=by
 induction m generalizing k with
 | zero =>
  induction x generalizing k with
  | zero=>cases k <;> simp [pw,iter,dl]
  | succ x ih =>
   rw [pw_x]
   refine Nat.le_trans (lin_abs (A:=A) (a:=-1) (by simpa using hA) ih k) ?_
   rw [← Nat.add_assoc,Nat.pow_succ,Nat.mul_comm]
   exact Nat.le_refl _
 | succ m ih =>
  rw [pw_m]
  refine Nat.le_trans (lin_abs ha ih k) ?_
  rw [Nat.add_right_comm,Nat.pow_succ,Nat.mul_comm]
  exact Nat.le_refl _
theorem kr_abs {a : Int} {A : Nat} (ha : a.natAbs ≤ A) (hA : 1 ≤ A) {n x : Nat} (hx : x ≤ n) (k : Nat) : (kr a n k x).natAbs ≤ (A + 1) ^ n:=by
 have:=pw_abs ha hA (n - x) x k
 rw [Nat.sub_add_cancel hx] at this
 exact this
abbrev Zs:=Bool × Nat
def plusZ (a b : Zs) : Zs:=if a.1 = b.1 then (a.1,a.2 + b.2) else if a.2 < b.2 then (b.1,b.2 - a.2) else (a.1,a.2 - b.2)
def minusZ (a b : Zs) : Zs:=plusZ a (!b.1,b.2)
def timesZ (a b : Zs) : Zs:=(a.1 != b.1,a.2 * b.2)
def iv (a : Zs) : Int:=sg a.1 a.2
theorem iv_plus (a b : Zs) : iv (plusZ a b) = iv a + iv b:=by
 obtain ⟨g,m⟩:=a
 obtain ⟨h,n⟩:=b
 simp only [plusZ,iv]
 cases g <;> cases h <;> simp only [sg] <;> (repeat' split) <;> simp_all <;> omega
theorem iv_neg (g : Bool) (n : Nat) : iv (!g,n) = -iv (g,n):=sg_not g n
theorem iv_minus (a b : Zs) : iv (minusZ a b) = iv a - iv b:=by
 rw [minusZ,iv_plus,iv_neg];rfl
theorem iv_times (a b : Zs) : iv (timesZ a b) = iv a * iv b:=sg_mul _ _ _ _
theorem iv_abs (a : Zs) : (iv a).natAbs = a.2:=sg_abs _ _
theorem plusZ_le (a b : Zs) : (plusZ a b).2 ≤ a.2 + b.2:=by
 unfold plusZ;split
 ·exact Nat.le_refl _
 ·split <;> dsimp only <;> omega
theorem minusZ_le (a b : Zs) : (minusZ a b).2 ≤ a.2 + b.2:=plusZ_le _ _
def enz (a : Zs) : Bool × List Nat:=(a.1,limbs a.2)
theorem zs_eta (a : Zs) : (a.1,a.2) = a:=rfl
theorem val_enz (a : Zs) : ((enz a).1,val (enz a).2) = a:=by simp [enz,val_limbs]
def nextRow (q : Nat) (f : Nat → Zs) : Nat → Zs
 | 0=>f 0
 | k + 1=>minusZ (minusZ (f (k + 1)) (f k)) (timesZ (false,q - 1) (nextRow q f k))
def tz (q n : Nat) : Nat → Nat → Zs
 | 0=>fun k=>(false,binom n k * (q - 1) ^ k)
 | x + 1=>nextRow q (tz q n x)
theorem tz_iv {q n : Nat} (hq : 1 ≤ q) : ∀ x,x ≤ n → ∀ k,iv (tz q n x k) = kr ((q : Int) - 1) n k x:=by
 intro x
 induction x with
 | zero =>
  intro _ k
  rw [kr_first]
  show ((binom n k * (q - 1) ^ k : Nat) : Int) = _
  rw [Int.natCast_mul,Int.natCast_pow,Int.ofNat_sub hq];rfl
 | succ x ih =>
  intro hx k
  induction k with
  | zero =>
   show iv (tz q n x 0) = _
   rw [ih (by omega),kr_zero,kr_zero]
  | succ k ihk =>
   show iv (minusZ (minusZ (tz q n x (k + 1)) (tz q n x k)) (timesZ (false,q - 1) (tz q n (x + 1) k))) = _
   rw [iv_minus,iv_minus,iv_times,ih (by omega),ih (by omega),ihk,kr_next _ (by omega)]
   have : iv (false,q - 1) = (q : Int) - 1:=by show ((q - 1 : Nat) : Int) = _;omega
   rw [this]
theorem tz_le {q n x : Nat} (hq : 2 ≤ q) (hx : x ≤ n) (k : Nat) : (tz q n x k).2 ≤ q ^ n:=by
 have h:=kr_abs (a:=(q : Int) - 1) (A:=q - 1) (by omega) (by omega) hx k
 rw [← tz_iv (by omega) x hx k,iv_abs] at h
 have e : q - 1 + 1 = q:=by omega
 rwa [e] at h
theorem qn_lt {q n : Nat} (hq : q ≤ 256) (hn : n ≤ 64) {k : Nat} (hk : 17 ≤ k) : q ^ n < 4294967296 ^ k:=by
 have h1 : q ^ n ≤ 256 ^ n:=Nat.pow_le_pow_left hq n
 have h2 : (256 : Nat) ^ n ≤ 256 ^ (4 * 16):=Nat.pow_le_pow_right (by decide) (by omega)
 rw [Nat.pow_mul] at h2
 have e : (256 : Nat) ^ 4 = 4294967296:=by decide
 rw [e] at h2
 have h3 : (4294967296 : Nat) ^ 16 < 4294967296 ^ k:=Nat.pow_lt_pow_right (by decide) (by omega)
 omega
theorem tz_lt {q n x : Nat} (hq : 2 ≤ q) (hq2 : q ≤ 256) (hn : n ≤ 64) (hx : x ≤ n) (k : Nat) {m : Nat} (hm : 17 ≤ m) : (tz q n x k).2 < 4294967296 ^ m:=Nat.lt_of_le_of_lt (tz_le hq hx k) (qn_lt hq2 hn hm)
theorem tz_len {q n x : Nat} (hq : 2 ≤ q) (hq2 : q ≤ 256) (hn : n ≤ 64) (hx : x ≤ n) (k : Nat) : (enz (tz q n x k)).2.length ≤ 17:=limbs_length_le (tz_lt hq hq2 hn hx k (Nat.le_refl _))
def mapTo {α : Type} (f : Nat → α) (d : α) (N k : Nat) : List α:=(List.range N).map fun i=>if i < k then f i else d
theorem mapTo_zero {α : Type} (f : Nat → α) (d : α) (N : Nat) : mapTo f d N 0 = List.replicate N d:=by
 rw [mapTo]
 refine List.ext_getElem (by simp) fun i h1 h2=>by simp
theorem mapTo_len {α : Type} (f : Nat → α) (d : α) (N k : Nat) : (mapTo f d N k).length = N:=by simp [mapTo]
theorem mapTo_set {α : Type} (f : Nat → α) (d : α) (N k : Nat) : (mapTo f d N k).set k (f k) = mapTo f d N (k + 1):=by
 refine List.ext_getElem (by simp [mapTo]) fun i h1 h2=>?_
 rw [List.getElem_set]
 by_cases h : k = i
 ·subst h;simp [mapTo]
 ·rw [if_neg h]
  simp only [mapTo,List.getElem_map,List.getElem_range]
  by_cases h3 : i < k
  ·rw [if_pos h3,if_pos (by omega)]
  ·rw [if_neg h3,if_neg (by omega)]
theorem mapTo_all {α : Type} (f : Nat → α) (d : α) (N : Nat) : mapTo f d N N = (List.range N).map f:=by
 refine List.ext_getElem (by simp [mapTo]) fun i h1 h2=>?_
 simp only [mapTo,List.getElem_map,List.getElem_range]
 rw [if_pos]
 simpa [mapTo] using h1
theorem range_snoc {α : Type} (f : Nat → α) (k : Nat) : (List.range (k + 1)).map f = (List.range k).map f++[f k]:=by
 rw [List.range_succ,List.map_append];rfl
theorem range_get {α : Type} (f : Nat → α) {N k : Nat} (h : k < N) : ((List.range N).map f)[k]? = some (f k):=by simp [h]
theorem range_getD {α : Type} (f : Nat → α) (d : α) {N k : Nat} (h : k < N) : ((List.range N).map f).getD k d = f k:=by simp [List.getD,h]
theorem rt_int (z : Int) : rt (z : Rat) = (decide (z < 0),limbs z.natAbs,[1]):=by
 show (decide ((z : Rat).num < 0),limbs (z : Rat).num.natAbs,limbs (z : Rat).den) = _
 rw [Rat.num_intCast,Rat.den_intCast,limbs_one]
theorem vq_one (g : Bool) (N : List Nat) : vq (g,N,[1]) = ((sg g (val N) : Int) : Rat):=by
 rw [vq_eq]
 have : val [1] = 1:=rfl
 simp only [this]
 rw [Rat.mkRat_one]
theorem rt_int_len {z : Int} {m : Nat} (h : z.natAbs < 4294967296 ^ m) : (rt (z : Rat)).2.1.length ≤ m ∧ (rt (z : Rat)).2.2.length ≤ 1:=by
 rw [rt_int]
 exact ⟨limbs_length_le h,Nat.le_refl _⟩
theorem sm_abs {n M : Nat} {f : Nat → Int} (h : ∀ i,i < n → (f i).natAbs ≤ M) : (sm n f).natAbs ≤ n * M:=by
 induction n with
 | zero=>simp [sm]
 | succ n ih =>
  have h1:=ih fun i hi=>h i (by omega)
  have h2:=h n (by omega)
  rw [sm,Nat.succ_mul]
  omega
def krTerm (q n k x j : Nat) : Int:=(binom x j : Int) * (-1) ^ j * ((binom (n - x) (k - j) : Int) * ((q : Int) - 1) ^ (k - j))
theorem krTerm_sum {q n k x : Nat} : kr ((q : Int) - 1) n k x = sm (k + 1) (krTerm q n k x):=kr_sum _ _ _ _
def krSize (q n k x j : Nat) : Nat:=(q - 1) ^ (k - j) * (binom x j * binom (n - x) (k - j))
theorem neg_one_pow (j : Nat) : (-1 : Int) ^ j = if j % 2 = 1 then -1 else 1:=by
 induction j with
 | zero=>rfl
 | succ j ih =>
  rw [Int.pow_succ,ih]
  by_cases h : j % 2 = 1
  ·rw [if_pos h,if_neg (by omega)];rfl
  ·rw [if_neg h,if_pos (by omega)];rfl
theorem krTerm_odd {q n k x j : Nat} (hq : 1 ≤ q) (h : j % 2 = 1) : krTerm q n k x j = -(krSize q n k x j : Int):=by
 rw [krTerm,neg_one_pow,if_pos h,krSize,Int.natCast_mul,Int.natCast_pow,Int.natCast_mul,Int.ofNat_sub hq]
 exact ring8 _ _ _
where ring8 (a b c : Int) : a * -1 * (b * c) = -(c * (a * b)):=by grind
theorem krTerm_even {q n k x j : Nat} (hq : 1 ≤ q) (h : ¬ j % 2 = 1) : krTerm q n k x j = (krSize q n k x j : Int):=by
 rw [krTerm,neg_one_pow,if_neg h,krSize,Int.natCast_mul,Int.natCast_pow,Int.natCast_mul,Int.ofNat_sub hq]
 exact ring9 _ _ _
where ring9 (a b c : Int) : a * 1 * (b * c) = c * (a * b):=by grind
theorem krTerm_abs {q n k x j : Nat} (hq : 1 ≤ q) : (krTerm q n k x j).natAbs = krSize q n k x j:=by
 by_cases h : j % 2 = 1
 ·rw [krTerm_odd hq h];omega
 ·rw [krTerm_even hq h];omega
theorem pow2_32 (m : Nat) : (2 : Nat) ^ (32 * m) = 4294967296 ^ m:=by
 rw [Nat.pow_mul]
theorem binom_lt {n : Nat} (h : n ≤ 64) (k : Nat) : binom n k < 4294967296 ^ 3:=by
 have h1:=binom_le n k
 have h2 : (2 : Nat) ^ n < 2 ^ (32 * 3):=Nat.pow_lt_pow_right (by decide) (by omega)
 rw [pow2_32] at h2
 omega
theorem krSize_lt {q n k x j : Nat} (hq2 : q ≤ 256) (hn : n ≤ 64) (hk : k ≤ n) (hx : x ≤ n) : krSize q n k x j < 4294967296 ^ 23:=by
 have h1 : (q - 1) ^ (k - j) < 4294967296 ^ 17:=qn_lt (by omega) (by omega) (Nat.le_refl _)
 have h2:=mul_pow (binom_lt (n:=x) (by omega) j) (binom_lt (n:=n - x) (by omega) (k - j))
 exact mul_pow h1 h2
theorem krPart_lt {q n k x j : Nat} (hq : 1 ≤ q) (hq2 : q ≤ 256) (hn : n ≤ 64) (hk : k ≤ n) (hx : x ≤ n) (hj : j ≤ 65) : (sm j (krTerm q n k x)).natAbs < 4294967296 ^ 24:=by
 have h:=sm_abs (n:=j) (M:=4294967296 ^ 23) (f:=krTerm q n k x) fun i _=>by rw [krTerm_abs hq];exact Nat.le_of_lt (krSize_lt hq2 hn hk hx)
 have e : (4294967296 : Nat) ^ 24 = 4294967296 ^ 23 * 4294967296:=Nat.pow_succ ..
 rw [e]
 have hp : 0 < (4294967296 : Nat) ^ 23:=Nat.pow_pos (by decide)
 generalize (4294967296 : Nat) ^ 23 = P at *
 have:=Nat.mul_le_mul_right P hj
 omega
theorem kr_lt {q n k x : Nat} (hq : 2 ≤ q) (hq2 : q ≤ 256) (hn : n ≤ 64) (hx : x ≤ n) : (kr ((q : Int) - 1) n k x).natAbs < 4294967296 ^ 17:=by
 have h:=kr_abs (a:=(q : Int) - 1) (A:=q - 1) (by omega) (by omega) hx k
 have e : q - 1 + 1 = q:=by omega
 rw [e] at h
 exact Nat.lt_of_le_of_lt h (qn_lt hq2 hn (Nat.le_refl _))
def szP (f g : Nat → Zs) : Nat → Zs
 | 0=>(false,0)
 | k + 1=>if (f k).2 = 0 then szP f g k else plusZ (szP f g k) (timesZ (f k) (g k))
theorem szP_iv (f g : Nat → Zs) (n : Nat) : iv (szP f g n) = sm n fun i=>iv (f i) * iv (g i):=by
 induction n with
 | zero=>rfl
 | succ n ih =>
  rw [sm,← ih,szP]
  split
  ·rename_i h
   have : iv (f n) = 0:=by
    have:=iv_abs (f n)
    omega
   rw [this];simp
  ·rw [iv_plus,iv_times]
theorem szP_le {f g : Nat → Zs} {A B : Nat} {n : Nat} (hf : ∀ i,i < n → (f i).2 ≤ A) (hg : ∀ i,i < n → (g i).2 ≤ B) : (szP f g n).2 ≤ n * (A * B):=by
 induction n with
 | zero=>simp [szP]
 | succ n ih =>
  have h1:=ih (fun i hi=>hf i (by omega)) (fun i hi=>hg i (by omega))
  have h2:=Nat.mul_le_mul (hf n (by omega)) (hg n (by omega))
  rw [szP,Nat.succ_mul]
  split
  ·omega
  ·have h3:=plusZ_le (szP f g n) (timesZ (f n) (g n))
   have h4 : (timesZ (f n) (g n)).2 = (f n).2 * (g n).2:=rfl
   omega
theorem szP_lt {f g : Nat → Zs} {m n k : Nat} (hn : n ≤ 65) (hk : k ≤ n) (hf : ∀ i,i < n → (f i).2 < 4294967296 ^ m) (hg : ∀ i,i < n → (g i).2 < 4294967296 ^ 17) : (szP f g k).2 < 4294967296 ^ (m + 18):=by
 have h:=szP_le (f:=f) (g:=g) (n:=k) (A:=4294967296 ^ m) (B:=4294967296 ^ 17) (fun i hi=>Nat.le_of_lt (hf i (by omega))) (fun i hi=>Nat.le_of_lt (hg i (by omega)))
 rw [← Nat.pow_add] at h
 have e : (4294967296 : Nat) ^ (m + 18) = 4294967296 ^ (m + 17) * 4294967296:=Nat.pow_succ ..
 rw [e]
 have hp : 0 < (4294967296 : Nat) ^ (m + 17):=Nat.pow_pos (by decide)
 generalize (4294967296 : Nat) ^ (m + 17) = P at *
 have:=Nat.mul_le_mul_right P (show k ≤ 65 by omega)
 omega
theorem mapTo_keep {α : Type} (f : Nat → α) (d : α) (N k : Nat) : (mapTo f d N k).set k d = mapTo f d N k:=by
 refine List.ext_getElem (by simp [mapTo]) fun i h1 h2=>?_
 rw [List.getElem_set]
 by_cases h : k = i
 ·subst h;simp [mapTo]
 ·rw [if_neg h]
theorem mapTo_setget {α : Type} (f : Nat → α) (d x : α) {N k : Nat} (h : k < N) : ((mapTo f d N k).set k x)[k]? = some x:=by
 rw [List.getElem?_set_self (by rw [mapTo_len];exact h)]
def qAt (L : List Rt3) (i : Nat) : Rat:=vq (L.getD i default)
def trP (L : List Rt3) (g : Nat → Int) : Nat → Rat
 | 0=>0
 | k + 1=>trP L g k + qAt L k * ((g k : Int) : Rat)
theorem trP_bd {L : List Rt3} {q n j K : Nat} (hq : 2 ≤ q) (hq2 : q ≤ 256) (hn : n ≤ 64) (hL : ∀ i,i ≤ n → bd K (qAt L i)) : ∀ k,k ≤ n + 1 → bd ((K + 18) * k + 1) (trP L (fun i=>kr ((q : Int) - 1) n j i) k):=by
 intro k
 induction k with
 | zero=>intro _;exact bd_zero (by omega)
 | succ k ih =>
  intro hk
  have h1:=ih (by omega)
  have h2 : bd 17 (((kr ((q : Int) - 1) n j k : Int)) : Rat):=by
   refine ⟨by rw [Rat.num_intCast];exact kr_lt hq hq2 hn (by omega),?_⟩
   rw [Rat.den_intCast]
   exact Nat.one_lt_pow (by decide) (by decide)
  have h3:=bd_mul (hL k (by omega)) h2 (by omega)
  have h4:=bd_add h1 h3
  exact bd_mono h4 (by rw [Nat.mul_succ];omega)
def rs : Nat → (Nat → Rat) → Rat
 | 0,_=>0
 | n + 1,f=>rs n f + f n
def dist : List Int → List Int → Nat
 | x::u,y::v=>(if x = y then 0 else 1) + dist u v
 | _,_=>0
def kap (q : Nat) (x y : Int) : Int:=if x = y then (q : Int) - 1 else -1
theorem sm_const (n : Nat) (c : Int) : sm n (fun _=>c) = n * c:=by
 induction n with
 | zero=>simp [sm]
 | succ n ih=>rw [sm,ih];grind
theorem sm_nonneg {n : Nat} {f : Nat → Int} (h : ∀ i,i < n → 0 ≤ f i) : 0 ≤ sm n f:=by
 induction n with
 | zero=>exact Int.le_refl 0
 | succ n ih =>
  have h1:=ih fun i hi=>h i (by omega)
  have h2:=h n (by omega)
  rw [sm];omega
theorem sm_pick {n x : Nat} (h : x < n) (g : Nat → Int) : sm n (fun d=>if x = d then g d else 0) = g x:=by
 induction n with
 | zero=>omega
 | succ n ih =>
  rw [sm]
  by_cases e : x = n
  ·subst e
   rw [if_pos rfl,sm_congr (g:=fun _=>0) fun i hi=>if_neg (show ¬ x = i by omega),sm_zero];omega
  ·rw [if_neg e,ih (by omega)];omega
def dot : List Rat → List Rat → Rat
 | a::l,b::m=>a * b + dot l m
 | _,_=>0
def rows (A : List (List Rat)) (x : List Rat) : List Rat:=A.map fun r=>dot r x
theorem binom_pos : ∀ {n k : Nat},k ≤ n → 0 < binom n k:=by
 intro n
 induction n with
 | zero => intro k h; obtain rfl : k = 0 := by omega
           decide
 | succ n ih =>
  intro k h
  cases k with
  | zero=>rw [binom_zero];decide
  | succ k=>rw [binom_succ];have:=ih (k:=k) (by omega);omega
def uT (a : Int) (n : Nat) (f : Nat → Int) (x : Nat) : Int:=sm (n + 1) (fun k=>(binom n k : Int) * a ^ k * (kr a n x k * f k))
def band (a : Int) (n m : Nat) (f : Nat → Int) : Prop:=∀ x,m < x → uT a n f x = 0
theorem uT_add (a : Int) (n : Nat) (f g : Nat → Int) (x : Nat) : uT a n (fun k=>f k + g k) x = uT a n f x + uT a n g x:=by
 rw [uT,uT,uT,← sm_add];exact sm_congr fun k _=>by grind
theorem uT_mul (a : Int) (n : Nat) (c : Int) (f : Nat → Int) (x : Nat) : uT a n (fun k=>c * f k) x = c * uT a n f x:=by
 rw [uT,uT,← sm_mul];exact sm_congr fun k _=>by grind
theorem uT_congr {a : Int} {n : Nat} {f g : Nat → Int} (h : ∀ k,k ≤ n → f k = g k) (x : Nat) : uT a n f x = uT a n g x :=
 sm_congr fun k hk=>by rw [h k (by omega)]
theorem uT_kr (a : Int) (n j x : Nat) : uT a n (fun k=>kr a n j k) x = if x = j then (a + 1) ^ n * (a ^ x * (binom n x : Int)) else 0:=orth_eq a n x j
theorem band_kr (a : Int) (n j : Nat) : band a n j (fun k=>kr a n j k):=fun x hx=>by rw [uT_kr,if_neg (by omega)]
theorem band_le {a : Int} {n m m' : Nat} {f : Nat → Int} (h : band a n m f) (hm : m ≤ m') : band a n m' f:=fun x hx=>h x (by omega)
theorem band_add {a : Int} {n m : Nat} {f g : Nat → Int} (hf : band a n m f) (hg : band a n m g) : band a n m (fun k=>f k + g k):=fun x hx=>by
 rw [uT_add,hf x hx,hg x hx];rfl
theorem band_mul {a : Int} {n m : Nat} (c : Int) {f : Nat → Int} (hf : band a n m f) : band a n m (fun k=>c * f k):=fun x hx=>by
 rw [uT_mul,hf x hx,Int.mul_zero]
theorem band_congr {a : Int} {n m : Nat} {f g : Nat → Int} (h : ∀ k,k ≤ n → f k = g k) (hf : band a n m f) : band a n m g:=fun x hx=>by
 rw [← uT_congr h];exact hf x hx
theorem ring_u (b k0 k1 k2 f w p r s : Int) (h : p * k2 = (r - s * b) * k1 - w * k0) : s * (k1 * (b * f)) = r * (k1 * f) - p * (k2 * f) - w * (k0 * f):=by grind
theorem uT_step (a : Int) {n x : Nat} (hx : 1 ≤ x) (f : Nat → Int) : (a + 1) * uT a n (fun k=>(k : Int) * f k) x = ((n - x) * a + x) * uT a n f x - (x + 1) * uT a n f (x + 1) - a * (n - x + 1) * uT a n f (x - 1):=by
 rw [uT,uT,uT,uT,← sm_mul,← sm_mul,← sm_mul,← sm_mul,← sm_sub,← sm_sub]
 refine sm_congr fun k hk=>?_
 have h:=ring_u (k : Int) _ _ _ (f k) _ _ _ _ (kr_three a (n:=n) (j:=x) (x:=k) (by omega) hx)
 generalize (binom n k : Int) * a ^ k = w
 have e1 : (a + 1) * (w * (kr a n x k * ((k : Int) * f k))) = w * ((a + 1) * (kr a n x k * ((k : Int) * f k))):=by grind
 rw [e1,h]
 grind
theorem band_step {a : Int} (ha : a + 1 ≠ 0) {n m : Nat} {f : Nat → Int} (hf : band a n m f) : band a n (m + 1) (fun k=>(k : Int) * f k):=fun x hx=>by
 have h:=uT_step a (n:=n) (x:=x) (by omega) f
 rw [hf x (by omega),hf (x + 1) (by omega),hf (x - 1) (by omega)] at h
 simp only [Int.mul_zero,Int.sub_zero] at h
 exact (Int.mul_eq_zero.1 h).resolve_left ha
theorem ham_sum {q n x : Nat} (hx : x ≤ n) (f : Nat → Int) : (((q : Int) - 1) ^ x * (binom n x : Int)) * sm (n + 1) (fun k=>f k * kr ((q : Int) - 1) n k x) = uT ((q : Int) - 1) n f x:=by
 rw [uT,← sm_mul]
 refine sm_congr fun k hk=>?_
 have h:=recip ((q : Int) - 1) n x k hx (by omega)
 have e : ((q : Int) - 1) ^ x * (binom n x : Int) * (f k * kr ((q : Int) - 1) n k x) = f k * (kr ((q : Int) - 1) n k x * (((q : Int) - 1) ^ x * (binom n x : Int))):=by
  generalize ((q : Int) - 1) ^ x * (binom n x : Int) = w
  grind
 rw [e,h]
 grind
abbrev Vz:=Nat → Int
def Lin (Y : Vz → Vz) : Prop:=∀ (a b : Int) (u v : Vz),Y (fun j=>a * u j + b * v j) = fun j=>a * Y u j + b * Y v j
theorem Lin.add {Y : Vz → Vz} (h : Lin Y) (u v : Vz) : Y (fun j=>u j + v j) = fun j=>Y u j + Y v j:=by
 have:=h 1 1 u v
 simp only [Int.one_mul] at this
 exact this
theorem Lin.mul {Y : Vz → Vz} (h : Lin Y) (a : Int) (u : Vz) : Y (fun j=>a * u j) = fun j=>a * Y u j:=by
 have:=h a 0 u u
 simp only [Int.zero_mul,Int.add_zero] at this
 exact this
theorem Lin.zero {Y : Vz → Vz} (h : Lin Y) : Y (fun _=>0) = fun _=>0:=by
 have:=h 0 0 (fun _=>0) (fun _=>0)
 simp only [Int.zero_mul,Int.add_zero] at this
 exact this
def evL (Y : Vz → Vz) : List Int → Vz → Vz
 | [],_=>fun _=>0
 | a::F,w=>fun j=>a * w j + Y (evL Y F w) j
theorem evL_lin {Y : Vz → Vz} (h : Lin Y) : ∀ F,Lin (evL Y F)
 | []=>fun a b u v=>by funext j;simp [evL]
 | c::F=>fun a b u v=>by
  funext j
  simp only [evL]
  rw [evL_lin h F a b u v,h]
  grind
theorem evL_Y {Y : Vz → Vz} (h : Lin Y) : ∀ (F : List Int) (w : Vz),Y (evL Y F w) = evL Y F (Y w)
 | [],w=>h.zero
 | c::F,w=>by
  have e : evL Y (c::F) w = fun j=>c * w j + 1 * Y (evL Y F w) j:=by funext j;simp only [evL,Int.one_mul]
  rw [e,h]
  funext j
  simp only [evL,Int.one_mul]
  rw [evL_Y h F w]
theorem evL_comm {Y : Vz → Vz} (h : Lin Y) : ∀ (F G : List Int) (w : Vz),evL Y F (evL Y G w) = evL Y G (evL Y F w)
 | [],G,w=>(evL_lin h G).zero.symm
 | a::F,G,w=>by
  have e : evL Y (a::F) w = fun j=>a * w j + 1 * Y (evL Y F w) j:=by funext j;simp only [evL,Int.one_mul]
  rw [e,evL_lin h G,← evL_Y h G,← evL_comm h F G w]
  funext j
  simp only [evL,Int.one_mul]
def itY (Y : Vz → Vz) : Nat → Vz → Vz
 | 0,w=>w
 | n + 1,w=>Y (itY Y n w)
theorem evL_snoc {Y : Vz → Vz} (h : Lin Y) (c : Int) (w : Vz) : ∀ F : List Int,evL Y (F++[c]) w = fun j=>evL Y F w j + c * itY Y F.length w j
 | []=>by
  funext j
  show c * w j + Y (fun _=>0) j = 0 + c * w j
  rw [h.zero];simp
 | a::F=>by
  funext j
  show a * w j + Y (evL Y (F++[c]) w) j = a * w j + Y (evL Y F w) j + c * Y (itY Y F.length w) j
  have e : (fun j=>evL Y F w j + c * itY Y F.length w j) = fun j=>1 * evL Y F w j + c * itY Y F.length w j:=by funext j;rw [Int.one_mul]
  rw [evL_snoc h c w F,e,h]
  grind
theorem evL_sub {Y : Vz → Vz} (h : Lin Y) (c : Int) (w : Vz) : ∀ {u g : List Int},u.length = g.length → evL Y (List.zipWith (fun x y=>x - c * y) u g) w = fun j=>evL Y u w j - c * evL Y g w j
 | [],[],_=>by funext j;simp [evL]
 | a::u,b::g,e=>by
  have ih:=evL_sub h c w (u:=u) (g:=g) (by simpa using e)
  funext j
  show (a - c * b) * w j + Y (evL Y (List.zipWith (fun x y=>x - c * y) u g) w) j = a * w j + Y (evL Y u w) j - c * (b * w j + Y (evL Y g w) j)
  have e2 : (fun j=>evL Y u w j - c * evL Y g w j) = fun j=>1 * evL Y u w j + (-c) * evL Y g w j:=by funext j;grind
  rw [ih,e2,h]
  grind
def divL (g : List Int) : List Int → List Int → List Int × List Int
 | [],r=>([],r)
 | a::F,r0 =>
  let x:=divL g F r0
  let c:=x.2.getLastD 0
  (c::x.1,List.zipWith (fun x y=>x - c * y) (a::x.2.dropLast) g)
theorem divL_len {g : List Int} : ∀ {F r0 : List Int},1 ≤ g.length → r0.length = g.length → (divL g F r0).1.length = F.length ∧ (divL g F r0).2.length = g.length
 | [],r0,_,h=>⟨rfl,h⟩
 | a::F,r0,h1,h=>by
  obtain ⟨e1,e2⟩:=divL_len (F:=F) h1 h
  refine ⟨by simp [divL,e1],?_⟩
  simp only [divL,List.length_zipWith,List.length_cons,List.length_dropLast]
  omega
theorem last_snoc {l : List Int} (h : 1 ≤ l.length) : l = l.dropLast++[l.getLastD 0]:=by
 have hne : l ≠ []:=fun e=>by rw [e] at h;simp at h
 have:=(List.dropLast_concat_getLast hne).symm
 rw [List.getLastD_eq_getLast?,List.getLast?_eq_some_getLast hne]
 exact this
theorem divL_ev {Y : Vz → Vz} (h : Lin Y) {g : List Int} (h1 : 1 ≤ g.length) (w : Vz) : ∀ {F r0 : List Int},r0.length = g.length →
  evL Y (F++r0) w = fun j=>evL Y (divL g F r0).1 (evL Y (g++[1]) w) j + evL Y (divL g F r0).2 w j
 | [],r0,_=>by funext j;simp [divL,evL]
 | a::F,r0,hr=>by
  have ih:=divL_ev h h1 w (F:=F) hr
  obtain ⟨_,l2⟩:=divL_len (F:=F) h1 hr
  funext j
  show a * w j + Y (evL Y (F++r0) w) j = _
  rw [ih,h.add]
  simp only [divL]
  generalize (divL g F r0).1 = s at *
  generalize hx : (divL g F r0).2 = r at *
  have hl:=last_snoc (l:=r) (by omega)
  generalize hc : r.getLastD 0 = c at *
  rw [evL_sub h c w (by simp only [List.length_cons,List.length_dropLast];omega)]
  have e1 : evL Y r w = fun j=>evL Y r.dropLast w j + c * itY Y r.dropLast.length w j:=by
   conv=>lhs;rw [hl]
   exact evL_snoc h c w _
  have e2 : evL Y (g++[1]) w = fun j=>evL Y g w j + 1 * itY Y g.length w j:=evL_snoc h 1 w _
  have e3 : (fun j=>evL Y r.dropLast w j + c * itY Y r.dropLast.length w j) = fun j=>1 * evL Y r.dropLast w j + c * itY Y r.dropLast.length w j:=by funext j;rw [Int.one_mul]
  have e4 : Y (itY Y r.dropLast.length w) j = itY Y g.length w j:=by
   rw [show g.length = r.dropLast.length + 1 by rw [List.length_dropLast];omega];rfl
  rw [e1,e3,h]
  show a * w j + (Y (evL Y s (evL Y (g++[1]) w)) j + (1 * Y (evL Y r.dropLast w) j + c * Y (itY Y r.dropLast.length w) j)) = c * evL Y (g++[1]) w j + Y (evL Y s (evL Y (g++[1]) w)) j + (a * w j + Y (evL Y r.dropLast w) j - c * evL Y g w j)
  rw [e4]
  generalize Y (evL Y s (evL Y (g++[1]) w)) j = z
  rw [e2]
  grind
theorem divL_top (g : List Int) : ∀ {F r0 : List Int},1 ≤ F.length → (divL g F r0).1.getLastD 0 = r0.getLastD 0
 | [a],r0,_=>by simp [divL]
 | a::b::F,r0,_=>by
  have ih:=divL_top g (F:=b::F) (r0:=r0) (by simp)
  rw [← ih]
  show List.getLastD (_::(divL g (b::F) r0).1) 0 = _
  have : (divL g (b::F) r0).1 = ((divL g F r0).2.getLastD 0)::(divL g F r0).1:=rfl
  rw [this]
  simp only [List.getLastD_cons]
def Xg (g : List Int) (v : Vz) : Vz:=fun j=>if j < g.length then (if j = 0 then 0 else v (j - 1)) - g.getD j 0 * v (g.length - 1) else 0
def oneV : Vz:=fun j=>if j = 0 then 1 else 0
def vec (u : List Int) : Vz:=fun j=>u.getD j 0
theorem Xg_lin (g : List Int) : Lin (Xg g):=fun a b u v=>by
 funext j
 simp only [Xg]
 by_cases h : j < g.length
 ·simp only [if_pos h]
  by_cases h0 : j = 0
  ·simp only [if_pos h0];grind
  ·simp only [if_neg h0];grind
 ·simp only [if_neg h];grind
theorem vec_cons (a : Int) (u : List Int) (j : Nat) : vec (a::u) j = if j = 0 then a else vec u (j - 1):=by
 cases j with
 | zero=>rfl
 | succ j=>simp [vec]
theorem vec_out {u : List Int} {j : Nat} (h : u.length ≤ j) : vec u j = 0:=by
 rw [vec,List.getD_eq_getElem?_getD,List.getElem?_eq_none h];rfl
theorem ev_one {g : List Int} : ∀ {u : List Int},u.length ≤ g.length → evL (Xg g) u oneV = vec u
 | [],_=>by funext j;simp [evL,vec]
 | a::u,h=>by
  have h : u.length + 1 ≤ g.length:=h
  have ih:=ev_one (g:=g) (u:=u) (by omega)
  funext j
  show a * oneV j + Xg g (evL (Xg g) u oneV) j = vec (a::u) j
  rw [ih,vec_cons,Xg,vec_out (u:=u) (j:=g.length - 1) (by omega),Int.mul_zero,Int.sub_zero]
  by_cases h0 : j = 0
  ·subst h0
   rw [if_pos rfl,if_pos (by omega),if_pos rfl,oneV,if_pos rfl];omega
  ·rw [if_neg h0,if_neg h0,oneV,if_neg h0,Int.mul_zero,Int.zero_add]
   by_cases hj : j < g.length
   ·rw [if_pos hj]
   ·rw [if_neg hj,vec_out (by omega)]
theorem it_one {g : List Int} : ∀ {k : Nat},k < g.length → itY (Xg g) k oneV = fun j=>if j = k then 1 else 0
 | 0,_=>rfl
 | k + 1,h=>by
  funext j
  show Xg g (itY (Xg g) k oneV) j = _
  rw [it_one (k:=k) (by omega),Xg,if_neg (show ¬ g.length - 1 = k by omega),Int.mul_zero,Int.sub_zero]
  by_cases h0 : j = 0
  ·subst h0;rw [if_pos (by omega),if_pos rfl,if_neg (by omega)]
  ·by_cases hj : j < g.length
   ·rw [if_pos hj,if_neg h0]
    by_cases e : j = k + 1
    ·rw [if_pos e,if_pos (by omega)]
    ·rw [if_neg e,if_neg (by omega)]
   ·rw [if_neg hj,if_neg (by omega)]
theorem it_top {g : List Int} (h : 1 ≤ g.length) : itY (Xg g) g.length oneV = fun j=>-vec g j:=by
 obtain ⟨k,hk⟩ : ∃ k,g.length = k + 1:=⟨g.length - 1,by omega⟩
 rw [hk]
 funext j
 show Xg g (itY (Xg g) k oneV) j = _
 rw [it_one (k:=k) (by omega),Xg,if_pos (show g.length - 1 = k by omega),Int.mul_one]
 by_cases hj : j < g.length
 ·rw [if_pos hj]
  by_cases h0 : j = 0
  ·rw [if_pos h0];show 0 - vec g j = _;omega
  ·rw [if_neg h0,if_neg (by omega)];show 0 - vec g j = _;omega
 ·rw [if_neg hj,vec_out (by omega)];rfl
theorem self_one {g : List Int} (h : 1 ≤ g.length) : evL (Xg g) (g++[1]) oneV = fun _=>0:=by
 rw [evL_snoc (Xg_lin g),ev_one (Nat.le_refl _),it_top h]
 funext j
 show vec g j + 1 * (-vec g j) = 0
 omega
theorem vec_list {g : List Int} {v : Vz} (h : ∀ j,g.length ≤ j → v j = 0) : evL (Xg g) ((List.range g.length).map v) oneV = v:=by
 rw [ev_one (by simp)]
 funext j
 rw [vec,List.getD_eq_getElem?_getD,List.getElem?_map]
 by_cases hj : j < g.length
 ·rw [List.getElem?_range hj];rfl
 ·rw [List.getElem?_eq_none (by simpa using hj),h j (by omega)];rfl
theorem self_zero {g : List Int} (h1 : 1 ≤ g.length) {v : Vz} (h : ∀ j,g.length ≤ j → v j = 0) : evL (Xg g) (g++[1]) v = fun _=>0:=by
 rw [← vec_list h,evL_comm (Xg_lin g),self_one h1,(evL_lin (Xg_lin g) _).zero]
def Prm (p : Nat) : Prop:=2 ≤ p ∧ ∀ d,2 ≤ d → d < p → ¬ d ∣ p
theorem bez : ∀ (a b : Nat),∃ x y : Int,(Nat.gcd a b : Int) = a * x + b * y:=by
 intro a
 induction a using Nat.strongRecOn with
 | _ a ih =>
  intro b
  by_cases h : a = 0
  ·subst h;exact ⟨0,1,by simp⟩
  ·obtain ⟨x,y,e⟩:=ih (b % a) (Nat.mod_lt _ (by omega)) a
   refine ⟨y - (b / a : Nat) * x,x,?_⟩
   rw [Nat.gcd_rec,e]
   have h2 : (b : Int) = a * (b / a : Nat) + (b % a : Nat):=by
    have:=Nat.div_add_mod b a
    omega
   have h3 : ((b % a : Nat) : Int) = b - a * (b / a : Nat):=by omega
   rw [h3]
   grind
theorem prm_gcd {p c : Nat} (hp : Prm p) (h : ¬ p ∣ c) : Nat.gcd c p = 1:=by
 have h1 : Nat.gcd c p ∣ p:=Nat.gcd_dvd_right c p
 have h0 : 0 < Nat.gcd c p:=Nat.gcd_pos_of_pos_right c (by have:=hp.1;omega)
 have h2:=Nat.le_of_dvd (by have:=hp.1;omega) h1
 refine Classical.byContradiction fun hne=>?_
 by_cases e : Nat.gcd c p = p
 ·exact h (by rw [← e];exact Nat.gcd_dvd_left c p)
 ·exact hp.2 _ (by omega) (by omega) h1
theorem prm_inv {p : Nat} (hp : Prm p) {c : Int} (h : ¬ (p : Int) ∣ c) : ∃ c' : Int,(p : Int) ∣ c * c' - 1:=by
 have h1 : ¬ p ∣ c.natAbs:=fun e=>h (Int.ofNat_dvd_left.2 e)
 obtain ⟨x,y,e⟩:=bez c.natAbs p
 rw [prm_gcd hp h1] at e
 rcases Int.natAbs_eq c with hc | hc
 ·refine ⟨x,⟨-y,?_⟩⟩
  rw [← hc] at e
  have : c * x = 1 - p * y:=by omega
  rw [this];grind
 ·refine ⟨-x,⟨-y,?_⟩⟩
  have h2 : ((c.natAbs : Nat) : Int) = -c:=by omega
  rw [h2] at e
  have : c * -x = 1 - p * y:=by grind
  rw [this];grind
def cg (p : Nat) (u : Vz) : Prop:=∀ j,(p : Int) ∣ u j
theorem cg_zero (p : Nat) : cg p (fun _=>0):=fun _=>Int.dvd_zero _
theorem cg_lin {p : Nat} {Y : Vz → Vz} (h : Lin Y) {u : Vz} (hu : cg p u) : cg p (Y u):=by
 have e : u = fun j=>(p : Int) * (u j / p):=by funext j;exact (Int.mul_ediv_cancel' (hu j)).symm
 rw [e,h.mul]
 exact fun j=>⟨_,rfl⟩
theorem cg_add {p : Nat} {u v : Vz} (hu : cg p u) (hv : cg p v) : cg p (fun j=>u j + v j):=fun j=>Int.dvd_add (hu j) (hv j)
theorem cg_mul {p : Nat} (a : Int) {u : Vz} (hu : cg p u) : cg p (fun j=>a * u j):=fun j=>Int.dvd_mul_of_dvd_right (hu j)
theorem cg_coef {p : Nat} {Y : Vz → Vz} (h : Lin Y) (w : Vz) : ∀ {F : List Int},(∀ x ∈ F,(p : Int) ∣ x) → cg p (evL Y F w)
 | [],_=>cg_zero p
 | a::F,hF=>cg_add (fun j=>Int.dvd_mul_of_dvd_left (hF a (.head _))) (cg_lin h (cg_coef h w fun x hx=>hF x (.tail _ hx)))
theorem cg_cancel {p : Nat} {u v : Vz} (h : cg p (fun j=>u j + v j)) (hv : cg p v) : cg p u:=fun j=>by
 have:=Int.dvd_sub (h j) (hv j)
 rwa [show u j + v j - v j = u j by omega] at this
theorem trim_last {p : Nat} : ∀ (n : Nat) (r : List Int),r.length = n → (∃ x ∈ r,¬ (p : Int) ∣ x) → ∃ r1 : List Int,1 ≤ r1.length ∧ r1.length ≤ r.length ∧ ¬ (p : Int) ∣ r1.getLastD 0 ∧ ∀ (Y : Vz → Vz) (w : Vz),Lin Y → cg p (evL Y r w) → cg p (evL Y r1 w)
 | 0,r,h,⟨x,hx,_⟩=>by rw [List.length_eq_zero_iff.1 h] at hx;cases hx
 | n + 1,r,h,⟨x,hx,hn⟩=>by
  by_cases hl : (p : Int) ∣ r.getLastD 0
  ·have hs:=last_snoc (l:=r) (by omega)
   have hx' : x ∈ r.dropLast:=by
    rw [hs] at hx
    rcases List.mem_append.1 hx with h1 | h1
    ·exact h1
    ·rw [List.mem_singleton.1 h1] at hn;exact absurd hl hn
   obtain ⟨r1,a1,a2,a3,a4⟩:=trim_last n r.dropLast (by rw [List.length_dropLast];omega) ⟨x,hx',hn⟩
   refine ⟨r1,a1,by rw [List.length_dropLast] at a2;omega,a3,fun Y w hY hc=>a4 Y w hY ?_⟩
   rw [hs,evL_snoc hY] at hc
   exact cg_cancel hc fun j=>Int.dvd_mul_of_dvd_left hl
  ·exact ⟨r,by omega,Nat.le_refl _,hl,fun _ _ _ h=>h⟩
theorem evL_map {Y : Vz → Vz} (h : Lin Y) (c : Int) (w : Vz) : ∀ F : List Int,evL Y (F.map (c * ·)) w = fun j=>c * evL Y F w j
 | []=>by funext j;simp [evL]
 | a::F=>by
  funext j
  show c * a * w j + Y (evL Y (F.map (c * ·)) w) j = c * (a * w j + Y (evL Y F w) j)
  rw [evL_map h c w F,h.mul]
  grind
def splits (p : Nat) (f : List Int) : Prop:=∃ g s : List Int,1 ≤ g.length ∧ 1 ≤ s.length ∧ g.length + s.length = f.length ∧ cg p (evL (Xg g) (f++[1]) oneV) ∧ cg p (evL (Xg s) (f++[1]) oneV)
theorem split_of {p : Nat} (hp : Prm p) {f : List Int} (hf : 1 ≤ f.length) {b : Vz} (hb : ∀ j,f.length ≤ j → b j = 0) (hb0 : ¬ cg p b) :
  ∀ (n : Nat) (F : List Int),F.length = n → 1 ≤ n → n ≤ f.length → ¬ (p : Int) ∣ F.getLastD 0 → cg p (evL (Xg f) F b) → splits p f:=by
 intro n
 induction n using Nat.strongRecOn with
 | _ n ih =>
  intro F hn h1 h2 hl hc
  have hX:=Xg_lin f
  have hs:=last_snoc (l:=F) (by omega)
  obtain ⟨c',hc'⟩:=prm_inv hp hl
  generalize hF0 : F.dropLast = F0 at hs
  have hF0l : F0.length + 1 = n:=by rw [← hF0,List.length_dropLast];omega
  generalize hcc : F.getLastD 0 = c at *
  -- made monic
  have hm : cg p (evL (Xg f) (F0.map (c' * ·)++[1]) b):=by
   rw [hs,evL_snoc hX] at hc
   have h3:=cg_mul c' hc
   rw [evL_snoc hX,evL_map hX,List.length_map]
   refine fun j=>?_
   have e : c' * evL (Xg f) F0 b j + 1 * itY (Xg f) F0.length b j = c' * (evL (Xg f) F0 b j + c * itY (Xg f) F0.length b j) - (c * c' - 1) * itY (Xg f) F0.length b j:=by grind
   show (p : Int) ∣ c' * evL (Xg f) F0 b j + 1 * itY (Xg f) F0.length b j
   rw [e]
   exact Int.dvd_sub (h3 j) (Int.dvd_mul_of_dvd_left hc')
  generalize hg : F0.map (c' * ·) = g at hm
  have hgl : g.length = F0.length:=by rw [← hg,List.length_map]
  by_cases hg0 : g.length = 0
  ·exfalso
   rw [List.length_eq_zero_iff.1 hg0] at hm
   refine hb0 fun j=>?_
   have:=hm j
   have e : evL (Xg f) ([]++[1]) b j = b j:=by
    show 1 * b j + Xg f (fun _=>0) j = b j
    rw [hX.zero];simp
   rwa [e] at this
  -- division
  let d:=g.length
  let A:=(f++[1]).take (f.length + 1 - d)
  let r0:=(f++[1]).drop (f.length + 1 - d)
  have hA : A.length = f.length + 1 - d:=by simp only [A,List.length_take,List.length_append,List.length_singleton];omega
  have hr0 : r0.length = d:=by simp only [r0,List.length_drop,List.length_append,List.length_singleton];omega
  have hAr : f++[1] = A++r0:=(List.take_append_drop _ _).symm
  have hlast : r0.getLastD 0 = 1:=by
   have h3 : r0 = (f.drop (f.length + 1 - d))++[1]:=by
    simp only [r0]
    rw [List.drop_append_of_le_length (by omega)]
   rw [h3];simp
  obtain ⟨q1,q2⟩:=divL_len (g:=g) (F:=A) (r0:=r0) (by omega) hr0
  have ev:=fun {Y : Vz → Vz} (hY : Lin Y) (w : Vz)=>divL_ev hY (g:=g) (by omega) w (F:=A) (r0:=r0) hr0
  have qt:=divL_top g (F:=A) (r0:=r0) (by omega)
  rw [hlast] at qt
  rw [← hAr] at ev
  generalize (divL g A r0).1 = s' at *
  generalize (divL g A r0).2 = r at *
  have hr : cg p (evL (Xg f) r b):=by
   have h3:=ev hX b
   rw [self_zero hf hb] at h3
   have h4 : cg p (evL (Xg f) s' (evL (Xg f) (g++[1]) b)):=cg_lin (evL_lin hX s') hm
   refine fun j=>?_
   have h5:=congrFun h3 j
   have e : evL (Xg f) r b j = -(evL (Xg f) s' (evL (Xg f) (g++[1]) b) j):=by
    have h5 : (0 : Int) = evL (Xg f) s' (evL (Xg f) (g++[1]) b) j + evL (Xg f) r b j:=h5
    omega
   rw [e];exact (Int.dvd_neg).2 (h4 j)
  by_cases hz : ∃ x ∈ r,¬ (p : Int) ∣ x
  ·obtain ⟨r1,a1,a2,a3,a4⟩:=trim_last r.length r rfl hz
   exact ih r1.length (by omega) r1 rfl a1 (by omega) a3 (a4 _ _ hX hr)
  ·have hz : ∀ x ∈ r,(p : Int) ∣ x:=fun x hx=>Classical.byContradiction fun h=>hz ⟨x,hx,h⟩
   have hss:=last_snoc (l:=s') (by omega)
   rw [qt] at hss
   have q3 : s'.dropLast.length = s'.length - 1:=List.length_dropLast
   generalize s'.dropLast = s at *
   refine ⟨g,s,by omega,by omega,by omega,?_,?_⟩
   ·rw [ev (Xg_lin g) oneV,self_one (by omega),(evL_lin (Xg_lin g) s').zero]
    exact cg_add (cg_zero p) (cg_coef (Xg_lin g) oneV hz)
   ·have hY:=Xg_lin s
    rw [ev hY oneV]
    refine cg_add ?_ (cg_coef hY oneV hz)
    rw [evL_comm hY,hss,self_one (by omega),(evL_lin hY _).zero]
    exact cg_zero p
theorem no_zero {p : Nat} (hp : Prm p) {f : List Int} (hf : 1 ≤ f.length) (hs : ¬ splits p f) {a : List Int} (ha : a.length ≤ f.length) {b : Vz} (hb : ∀ j,f.length ≤ j → b j = 0) (h : cg p (evL (Xg f) a b)) :
  (∀ x ∈ a,(p : Int) ∣ x) ∨ cg p b:=by
 by_cases hb0 : cg p b
 ·exact .inr hb0
 ·refine .inl fun x hx=>Classical.byContradiction fun hn=>?_
  obtain ⟨r1,a1,a2,a3,a4⟩:=trim_last a.length a rfl ⟨x,hx,hn⟩
  exact hs (split_of hp hf hb hb0 r1.length r1 rfl a1 (by omega) a3 (a4 _ _ (Xg_lin f) h))
def dig (p : Nat) : Nat → Nat → List Nat
 | 0,_=>[]
 | n + 1,x=>x % p::dig p n (x / p)
def valP (p : Nat) : List Nat → Nat
 | []=>0
 | d::l=>d + p * valP p l
theorem dig_len (p : Nat) : ∀ (n x : Nat),(dig p n x).length = n
 | 0,_=>rfl
 | n + 1,x=>by rw [dig,List.length_cons,dig_len p n]
theorem dig_lt {p : Nat} (hp : 0 < p) : ∀ {n x : Nat},∀ d ∈ dig p n x,d < p
 | 0,_,d,h=>by cases h
 | n + 1,x,d,h=>by
  rcases List.mem_cons.1 h with rfl | h
  ·exact Nat.mod_lt _ hp
  ·exact dig_lt hp d h
theorem valP_dig {p : Nat} (hp : 0 < p) : ∀ {n x : Nat},x < p ^ n → valP p (dig p n x) = x
 | 0, x, h => by have : x = 0 := by simpa using h
                 rw [this]; rfl
 | n + 1,x,h=>by
  rw [dig,valP,valP_dig hp (by rw [Nat.div_lt_iff_lt_mul hp];rwa [Nat.pow_succ] at h)]
  exact Nat.mod_add_div x p
theorem dig_valP {p : Nat} (hp : 0 < p) : ∀ {l : List Nat},(∀ d ∈ l,d < p) → dig p l.length (valP p l) = l
 | [],_=>rfl
 | d::l,h=>by
  have hd:=h d (.head _)
  rw [List.length_cons,dig,valP,Nat.add_mul_mod_self_left,Nat.mod_eq_of_lt hd,Nat.add_mul_div_left _ _ hp,Nat.div_eq_of_lt hd,Nat.zero_add,dig_valP hp fun e he=>h e (.tail _ he)]
theorem valP_lt {p : Nat} (hp : 0 < p) : ∀ {l : List Nat},(∀ d ∈ l,d < p) → valP p l < p ^ l.length
 | [],_=>by simp [valP]
 | d::l,h=>by
  have hd:=h d (.head _)
  have ih:=valP_lt hp (l:=l) fun e he=>h e (.tail _ he)
  rw [valP,List.length_cons,Nat.pow_succ]
  have h2 : p * (valP p l + 1) ≤ p * p ^ l.length:=Nat.mul_le_mul_left p ih
  rw [Nat.mul_add,Nat.mul_one] at h2
  rw [Nat.mul_comm (p ^ l.length)]
  omega
theorem dig_zero (p : Nat) : ∀ n,dig p n 0 = List.replicate n 0
 | 0=>rfl
 | n + 1=>by rw [dig,Nat.zero_mod,Nat.zero_div,dig_zero p n];rfl
def toI (l : List Nat) : List Int:=l.map fun x : Nat=>(x : Int)
def rep (p m x : Nat) : Vz:=vec (toI (dig p m x))
def un (p m : Nat) (v : Vz) : Nat:=valP p ((List.range m).map fun j=>(v j % p).toNat)
theorem rep_out {p m x j : Nat} (h : m ≤ j) : rep p m x j = 0:=vec_out (by rw [toI,List.length_map,dig_len];exact h)
theorem rep_at {p m x j : Nat} (h : j < m) : rep p m x j = (((dig p m x).getD j 0 : Nat) : Int):=by
 rw [rep,vec,toI,List.getD_eq_getElem?_getD,List.getElem?_map,List.getD_eq_getElem?_getD]
 rw [List.getElem?_eq_getElem (by rw [dig_len];exact h)];rfl
theorem un_digs {p m : Nat} (hp : 0 < p) (v : Vz) : ∀ d ∈ (List.range m).map fun j=>(v j % p).toNat,d < p:=fun d hd=>by
 obtain ⟨j,_,rfl⟩:=List.mem_map.1 hd
 have h1:=Int.emod_lt_of_pos (v j) (show (0 : Int) < p by omega)
 have h2:=Int.emod_nonneg (v j) (show (p : Int) ≠ 0 by omega)
 omega
theorem un_lt {p m : Nat} (hp : 0 < p) (v : Vz) : un p m v < p ^ m:=by
 have:=valP_lt hp (un_digs (m:=m) hp v)
 rwa [List.length_map,List.length_range] at this
theorem rep_un {p m j : Nat} (hp : 0 < p) (v : Vz) (h : j < m) : rep p m (un p m v) j = v j % p:=by
 have e:=dig_valP hp (un_digs (m:=m) hp v)
 rw [List.length_map,List.length_range] at e
 rw [rep_at h,un,e,List.getD_eq_getElem?_getD,List.getElem?_map,List.getElem?_range h]
 show (((v j % p).toNat : Nat) : Int) = _
 have h2:=Int.emod_nonneg (v j) (show (p : Int) ≠ 0 by omega)
 omega
theorem un_congr {p m : Nat} {u v : Vz} (h : ∀ j,j < m → (p : Int) ∣ u j - v j) : un p m u = un p m v:=by
 rw [un,un]
 congr 1
 refine List.map_congr_left fun j hj=>?_
 rw [(Int.emod_eq_emod_iff_emod_sub_eq_zero).2 (Int.emod_eq_zero_of_dvd (h j (List.mem_range.1 hj)))]
theorem un_rep {p m x : Nat} (hp : 0 < p) (h : x < p ^ m) : un p m (rep p m x) = x:=by
 have e : (List.range m).map (fun j=>(rep p m x j % p).toNat) = dig p m x:=by
  refine List.ext_getElem? fun j=>?_
  rw [List.getElem?_map]
  by_cases hj : j < m
  ·rw [List.getElem?_range hj]
   show some ((rep p m x j % p).toNat) = _
   rw [rep_at hj]
   have hl : j < (dig p m x).length:=by rw [dig_len];exact hj
   rw [List.getElem?_eq_getElem hl,List.getD_eq_getElem?_getD,List.getElem?_eq_getElem hl]
   have hd:=dig_lt hp _ (List.getElem_mem hl)
   congr 1
   simp only [Option.getD_some]
   rw [Int.emod_eq_of_lt (by omega) (by omega)]
   omega
  ·rw [List.getElem?_eq_none (by simpa using hj),List.getElem?_eq_none (by rw [dig_len];omega)];rfl
 rw [un,e,valP_dig hp h]
theorem rep_un_dvd {p m : Nat} (hp : 0 < p) (v : Vz) {j : Nat} (h : j < m) : (p : Int) ∣ rep p m (un p m v) j - v j:=by
 rw [rep_un hp v h]
 have:=Int.emod_add_mul_ediv (v j) p
 exact ⟨-(v j / p),by rw [Int.mul_neg];omega⟩
theorem rep_inj {p m x y : Nat} (hp : 0 < p) (hx : x < p ^ m) (hy : y < p ^ m) (h : ∀ j,j < m → (p : Int) ∣ rep p m x j - rep p m y j) : x = y:=by
 rw [← un_rep hp hx,← un_rep hp hy];exact un_congr h
theorem rep_zero (p m : Nat) (j : Nat) : rep p m 0 j = 0:=by
 by_cases h : j < m
 ·rw [rep_at h,dig_zero,List.getD_eq_getElem?_getD,List.getElem?_replicate,if_pos h];rfl
 ·exact rep_out (by omega)
structure Fld (q : Nat) (A M : Nat → Nat → Nat) : Prop where
 q2 : 2 ≤ q
 al : ∀ x y,x < q → y < q → A x y < q
 ac : ∀ x y,x < q → y < q → A x y = A y x
 aa : ∀ x y z,x < q → y < q → z < q → A (A x y) z = A x (A y z)
 a0 : ∀ x,x < q → A x 0 = x
 an : ∀ x,x < q → ∃ y,y < q ∧ A x y = 0
 ml : ∀ x y,x < q → y < q → M x y < q
 mc : ∀ x y,x < q → y < q → M x y = M y x
 ma : ∀ x y z,x < q → y < q → z < q → M (M x y) z = M x (M y z)
 md : ∀ x y z,x < q → y < q → z < q → M x (A y z) = A (M x y) (M x z)
 m1 : ∀ x,x < q → M x 1 = x
 nz : ∀ x y,x < q → y < q → M x y = 0 → x = 0 ∨ y = 0
def fA (p m x y : Nat) : Nat:=un p m fun j=>rep p m x j + rep p m y j
def mulV (f : List Int) (u v : Vz) : Vz:=evL (Xg f) ((List.range f.length).map u) v
def fM (p : Nat) (f : List Int) (x y : Nat) : Nat:=un p f.length (mulV f (rep p f.length x) (rep p f.length y))
theorem mulV_lin (f : List Int) (u : Vz) : Lin (mulV f u):=evL_lin (Xg_lin f) _
theorem mulV_comm {f : List Int} {u v : Vz} (hu : ∀ j,f.length ≤ j → u j = 0) (hv : ∀ j,f.length ≤ j → v j = 0) : mulV f u v = mulV f v u:=by
 rw [mulV,mulV]
 conv=>lhs;rw [← vec_list (g:=f) hv]
 conv=>rhs;rw [← vec_list (g:=f) hu]
 exact evL_comm (Xg_lin f) _ _ _
theorem Xg_out {g : List Int} {v : Vz} {j : Nat} (h : g.length ≤ j) : Xg g v j = 0:=if_neg (by omega)
theorem evL_out {g : List Int} : ∀ {F : List Int} {v : Vz},(∀ j,g.length ≤ j → v j = 0) → ∀ j,g.length ≤ j → evL (Xg g) F v j = 0
 | [],_,_,_,_=>rfl
 | a::F,v,hv,j,hj=>by
  show a * v j + Xg g (evL (Xg g) F v) j = 0
  rw [hv j hj,Xg_out hj];simp
theorem mulV_out {f : List Int} {u v : Vz} (hv : ∀ j,f.length ≤ j → v j = 0) : ∀ j,f.length ≤ j → mulV f u v j = 0:=evL_out hv
theorem mulV_cg {p : Nat} {f : List Int} (u : Vz) {v w : Vz} (h : cg p fun j=>v j - w j) : cg p fun j=>mulV f u v j - mulV f u w j:=by
 have e : (fun j=>mulV f u v j - mulV f u w j) = mulV f u (fun j=>v j - w j):=by
  have:=mulV_lin f u 1 (-1) v w
  have e1 : (fun j=>1 * v j + -1 * w j) = fun j=>v j - w j:=by funext j;omega
  rw [e1] at this
  rw [this];funext j;omega
 rw [e]
 exact cg_lin (mulV_lin f u) h
theorem sub_cg {p m : Nat} {u v : Vz} (hu : ∀ j,m ≤ j → u j = 0) (hv : ∀ j,m ≤ j → v j = 0) (h : ∀ j,j < m → (p : Int) ∣ u j - v j) : cg p fun j=>u j - v j:=fun j=>by
 by_cases hj : j < m
 ·exact h j hj
 ·show (p : Int) ∣ u j - v j
  rw [hu j (by omega),hv j (by omega)];exact Int.dvd_zero _
theorem dvd_eq {a b c : Int} (h : a ∣ b) (e : b = c) : a ∣ c:=e ▸ h
theorem add_out {m : Nat} {u v : Vz} (hu : ∀ j,m ≤ j → u j = 0) (hv : ∀ j,m ≤ j → v j = 0) : ∀ j,m ≤ j → (fun j=>u j + v j) j = 0:=fun j hj=>by
 show u j + v j = 0
 rw [hu j hj,hv j hj];rfl
theorem rp (p m x : Nat) : ∀ j,m ≤ j → rep p m x j = 0:=fun _ h=>rep_out h
theorem rep_un_cg {p m : Nat} (hp : 0 < p) {v : Vz} (hv : ∀ j,m ≤ j → v j = 0) : cg p fun j=>rep p m (un p m v) j - v j:=sub_cg (rp p m _) hv fun _ h=>rep_un_dvd hp v h
theorem rep_one {p m : Nat} (hp : 2 ≤ p) (hm : 1 ≤ m) : rep p m 1 = oneV:=by
 obtain ⟨k,rfl⟩ : ∃ k,m = k + 1:=⟨m - 1,by omega⟩
 funext j
 by_cases hj : j < k + 1
 ·rw [rep_at hj,dig,Nat.mod_eq_of_lt (by omega),Nat.div_eq_of_lt (by omega),dig_zero]
  cases j with
  | zero=>rfl
  | succ j=>rw [List.getD_cons_succ,List.getD_eq_getElem?_getD,List.getElem?_replicate,if_pos (by omega)];rfl
 ·rw [rep_out (by omega),oneV,if_neg (by omega)]
theorem fld_of {p : Nat} (hp : Prm p) {f : List Int} (hf : 1 ≤ f.length) (hs : ¬ splits p f) : Fld (p ^ f.length) (fA p f.length) (fM p f):=by
 have hp0 : 0 < p:=by have:=hp.1;omega
 generalize hm : f.length = m at *
 have hq : 1 < p ^ m:=Nat.one_lt_pow (by omega) hp.1
 have uc : ∀ {u v : Vz},(cg p fun j=>u j - v j) → un p m u = un p m v:=fun h=>un_congr fun j _=>h j
 have mo : ∀ {u v : Vz},(∀ j,m ≤ j → v j = 0) → ∀ j,m ≤ j → mulV f u v j = 0:=fun hv=>by rw [← hm] at hv ⊢;exact mulV_out hv
 have mcm : ∀ {u v : Vz},(∀ j,m ≤ j → u j = 0) → (∀ j,m ≤ j → v j = 0) → mulV f u v = mulV f v u:=fun hu hv=>by rw [← hm] at hu hv;exact mulV_comm hu hv
 have fMe : ∀ x y,fM p f x y = un p m (mulV f (rep p m x) (rep p m y)):=fun x y=>by rw [fM,hm]
 have mass : ∀ {u v w : Vz},(∀ j,m ≤ j → u j = 0) → (∀ j,m ≤ j → v j = 0) → (∀ j,m ≤ j → w j = 0) → mulV f (mulV f u v) w = mulV f u (mulV f v w):=fun {u v w} hu hv hw=>by
  rw [mcm (mo hv) hw,mcm hv hw]
  exact evL_comm (Xg_lin f) _ _ _
 refine ⟨by omega,fun x y _ _=>un_lt hp0 _,fun x y _ _=>?_,fun x y z _ _ _=>?_,fun x hx=>?_,fun x hx=>?_,fun x y _ _=>by rw [fMe];exact un_lt hp0 _,fun x y _ _=>?_,fun x y z _ _ _=>?_,fun x y z _ _ _=>?_,fun x hx=>?_,fun x y hx hy h=>?_⟩
 ·exact congrArg (un p m) (funext fun j=>Int.add_comm _ _)
 ·refine un_congr fun j hj=>?_
  have h1:=rep_un_dvd hp0 (fun j=>rep p m x j + rep p m y j) hj
  have h2:=rep_un_dvd hp0 (fun j=>rep p m y j + rep p m z j) hj
  have:=Int.dvd_sub h1 h2
  rw [fA,fA]
  exact dvd_eq this (by omega)
 ·rw [fA,show (fun j=>rep p m x j + rep p m 0 j) = rep p m x from funext fun j=>by rw [rep_zero];omega]
  exact un_rep hp0 hx
 ·refine ⟨un p m fun j=>-rep p m x j,un_lt hp0 _,?_⟩
  rw [fA]
  have : un p m (fun j=>rep p m x j + rep p m (un p m fun j=>-rep p m x j) j) = un p m (rep p m 0):=un_congr fun j hj=>by
   have h1:=rep_un_dvd hp0 (fun j=>-rep p m x j) hj
   rw [rep_zero]
   exact dvd_eq h1 (by omega)
  rw [this,un_rep hp0 (by omega)]
 ·rw [fMe,fMe,mcm (rp p m x) (rp p m y)]
 ·rw [fMe,fMe,fMe,fMe]
  have e1 : un p m (mulV f (rep p m (un p m (mulV f (rep p m x) (rep p m y)))) (rep p m z)) = un p m (mulV f (mulV f (rep p m x) (rep p m y)) (rep p m z)):=by
   rw [mcm (rp p m _) (rp p m z),mcm (mo (rp p m y)) (rp p m z)]
   exact uc (mulV_cg _ (rep_un_cg hp0 (mo (rp p m y))))
  have e2 : un p m (mulV f (rep p m x) (rep p m (un p m (mulV f (rep p m y) (rep p m z))))) = un p m (mulV f (rep p m x) (mulV f (rep p m y) (rep p m z))):=uc (mulV_cg _ (rep_un_cg hp0 (mo (rp p m z))))
  rw [e1,e2,mass (rp p m x) (rp p m y) (rp p m z)]
 ·rw [fMe,fMe,fMe,fA,fA]
  have e1 : un p m (mulV f (rep p m x) (rep p m (un p m fun j=>rep p m y j + rep p m z j))) = un p m (mulV f (rep p m x) (fun j=>rep p m y j + rep p m z j)):=uc (mulV_cg _ (rep_un_cg hp0 (add_out (rp p m y) (rp p m z))))
  rw [e1,(mulV_lin f _).add]
  refine un_congr fun j hj=>?_
  have h1:=rep_un_dvd hp0 (mulV f (rep p m x) (rep p m y)) hj
  have h2:=rep_un_dvd hp0 (mulV f (rep p m x) (rep p m z)) hj
  have h3:=Int.dvd_add h1 h2
  exact dvd_eq (Int.dvd_neg.2 h3) (by omega)
 ·rw [fMe,rep_one hp.1 hf,mulV,vec_list (g:=f) (fun j hj=>rp p m x j (by omega)),un_rep hp0 hx]
 ·rw [fMe] at h
  have hc : cg p (mulV f (rep p m x) (rep p m y)):=fun j=>by
   by_cases hj : j < m
   ·have h1:=rep_un_dvd hp0 (mulV f (rep p m x) (rep p m y)) hj
    rw [h,rep_zero] at h1
    have:=Int.dvd_neg.2 h1
    rwa [show -(0 - mulV f (rep p m x) (rep p m y) j) = mulV f (rep p m x) (rep p m y) j by omega] at this
   ·rw [mo (rp p m y) j (by omega)];exact Int.dvd_zero _
  rcases no_zero hp (by omega) hs (by simp) (fun j hj=>rp p m y j (by omega)) hc with h1 | h1
  ·refine .inl (rep_inj hp0 hx (by omega) fun j hj=>?_)
   rw [rep_zero,Int.sub_zero]
   exact h1 _ (List.mem_map.2 ⟨j,List.mem_range.2 (by omega),rfl⟩)
  ·refine .inr (rep_inj hp0 hy (by omega) fun j hj=>?_)
   rw [rep_zero,Int.sub_zero]
   exact h1 j
structure FI (q : Nat) (A M : Int → Int → Int) : Prop where
 q2 : 2 ≤ q
 al : ∀ x y : Int,0 ≤ x → x < q → 0 ≤ y → y < q → 0 ≤ A x y ∧ A x y < q
 ac : ∀ x y : Int,0 ≤ x → x < q → 0 ≤ y → y < q → A x y = A y x
 aa : ∀ x y z : Int,0 ≤ x → x < q → 0 ≤ y → y < q → 0 ≤ z → z < q → A (A x y) z = A x (A y z)
 a0 : ∀ x : Int,0 ≤ x → x < q → A x 0 = x
 an : ∀ x : Int,0 ≤ x → x < q → ∃ y : Int,(0 ≤ y ∧ y < q) ∧ A x y = 0
 ml : ∀ x y : Int,0 ≤ x → x < q → 0 ≤ y → y < q → 0 ≤ M x y ∧ M x y < q
 mc : ∀ x y : Int,0 ≤ x → x < q → 0 ≤ y → y < q → M x y = M y x
 ma : ∀ x y z : Int,0 ≤ x → x < q → 0 ≤ y → y < q → 0 ≤ z → z < q → M (M x y) z = M x (M y z)
 md : ∀ x y z : Int,0 ≤ x → x < q → 0 ≤ y → y < q → 0 ≤ z → z < q → M x (A y z) = A (M x y) (M x z)
 m1 : ∀ x : Int,0 ≤ x → x < q → M x 1 = x
 nz : ∀ x y : Int,0 ≤ x → x < q → 0 ≤ y → y < q → M x y = 0 → x = 0 ∨ y = 0
def liftI (f : Nat → Nat → Nat) (x y : Int) : Int:=((f x.toNat y.toNat : Nat) : Int)
theorem fi_of {q : Nat} {A M : Nat → Nat → Nat} (h : Fld q A M) : FI q (liftI A) (liftI M) where
 q2:=h.q2
 al:=fun x y a b c d=>by have:=h.al x.toNat y.toNat (by omega) (by omega);simp only [liftI];omega
 ac:=fun x y a b c d=>by simp only [liftI];rw [h.ac x.toNat y.toNat (by omega) (by omega)]
 aa:=fun x y z a b c d e f=>by simp only [liftI,Int.toNat_natCast];rw [h.aa x.toNat y.toNat z.toNat (by omega) (by omega) (by omega)]
 a0:=fun x a b=>by have:=h.a0 x.toNat (by omega);simp only [liftI];rw [show (0 : Int).toNat = 0 from rfl,this];omega
 an:=fun x a b=>by
  obtain ⟨y,hy,e⟩:=h.an x.toNat (by omega)
  refine ⟨y,⟨by omega,by omega⟩,?_⟩
  simp only [liftI,Int.toNat_natCast];rw [e];rfl
 ml:=fun x y a b c d=>by have:=h.ml x.toNat y.toNat (by omega) (by omega);simp only [liftI];omega
 mc:=fun x y a b c d=>by simp only [liftI];rw [h.mc x.toNat y.toNat (by omega) (by omega)]
 ma:=fun x y z a b c d e f=>by simp only [liftI,Int.toNat_natCast];rw [h.ma x.toNat y.toNat z.toNat (by omega) (by omega) (by omega)]
 md:=fun x y z a b c d e f=>by simp only [liftI,Int.toNat_natCast];rw [h.md x.toNat y.toNat z.toNat (by omega) (by omega) (by omega)]
 m1:=fun x a b=>by have:=h.m1 x.toNat (by omega);simp only [liftI];rw [show (1 : Int).toNat = 1 from rfl,this];omega
 nz:=fun x y a b c d e=>by
  simp only [liftI] at e
  rcases h.nz x.toNat y.toNat (by omega) (by omega) (by omega) with h1 | h1
  ·exact .inl (by omega)
  ·exact .inr (by omega)
theorem sm_le {n : Nat} {f g : Nat → Int} (h : ∀ i,i < n → f i ≤ g i) : sm n f ≤ sm n g:=by
 induction n with
 | zero=>exact Int.le_refl _
 | succ n ih =>
  have h1:=ih fun i hi=>h i (by omega)
  have h2:=h n (by omega)
  rw [sm,sm];omega
theorem inj_count {q : Nat} {φ : Nat → Nat} (hi : ∀ x y,x < q → y < q → φ x = φ y → x = y) (y : Nat) : ∀ n,n ≤ q → sm n (fun x=>if φ x = y then 1 else 0) ≤ 1
 | 0,_=>by rw [sm];decide
 | n + 1,hn=>by
  rw [sm]
  by_cases h : φ n = y
  ·rw [if_pos h]
   have : sm n (fun x=>if φ x = y then (1 : Int) else 0) = 0:=by
    refine (sm_congr (g:=fun _=>0) fun x hx=>if_neg fun e=>?_).trans (sm_zero n)
    have:=hi x n (by omega) (by omega) (e.trans h.symm)
    omega
   rw [this];decide
  ·rw [if_neg h]
   have:=inj_count hi y n (by omega)
   omega
theorem inj_all {q : Nat} {φ : Nat → Nat} (hm : ∀ x,x < q → φ x < q) (hi : ∀ x y,x < q → y < q → φ x = φ y → x = y) {y : Nat} (hy : y < q) : sm q (fun x=>if φ x = y then 1 else 0) = 1:=by
 have h1:=inj_count hi y q (Nat.le_refl q)
 have h0 : ∀ z,0 ≤ sm q (fun x=>if φ x = z then (1 : Int) else 0):=fun z=>sm_nonneg fun i _=>by split <;> decide
 have tot : sm q (fun z=>sm q (fun x=>if φ x = z then (1 : Int) else 0)) = q:=by
  rw [sm_swap,sm_congr (g:=fun _=>(1 : Int)) fun x hx=>sm_pick (hm x hx) (fun _=>1),sm_const];omega
 have split : sm q (fun z=>sm q (fun x=>if φ x = z then (1 : Int) else 0)) ≤ sm q (fun z=>(1 : Int) - if y = z then 1 - sm q (fun x=>if φ x = y then (1 : Int) else 0) else 0):=by
  refine sm_le fun z hz=>?_
  by_cases e : y = z
  ·subst e;rw [if_pos rfl];omega
  ·rw [if_neg e]
   have:=inj_count hi z q (Nat.le_refl q)
   omega
 rw [tot,sm_sub,sm_const,sm_pick hy (fun _=>1 - sm q (fun x=>if φ x = y then (1 : Int) else 0))] at split
 omega
theorem inj_sum {q : Nat} {φ : Nat → Nat} (hm : ∀ x,x < q → φ x < q) (hi : ∀ x y,x < q → y < q → φ x = φ y → x = y) (g : Nat → Int) : sm q (fun x=>g (φ x)) = sm q g:=by
 have e1 : sm q (fun x=>g (φ x)) = sm q (fun x=>sm q (fun z=>if φ x = z then g z else 0)):=sm_congr fun x hx=>(sm_pick (hm x hx) g).symm
 rw [e1,sm_swap]
 refine sm_congr fun z hz=>?_
 rw [sm_congr (g:=fun x=>g z * if φ x = z then 1 else 0) fun x _=>by split <;> simp,sm_mul,inj_all hm hi hz,Int.mul_one]
section
variable {q : Nat} {A M : Int → Int → Int} (F : FI q A M)
def kap0 (q : Nat) (x : Int) : Int:=if x = 0 then (q : Int) - 1 else -1
theorem kap0_sum {q : Nat} (hq : 2 ≤ q) : sm q (fun a=>kap0 q a) = 0:=by
 have : sm q (fun a=>kap0 q a) = sm q (fun a=>(if 0 = a then (q : Int) else 0) - 1):=sm_congr fun a _=>by
  unfold kap0
  by_cases h : a = 0
  ·subst h;simp
  ·rw [if_neg (by omega),if_neg (by omega)];rfl
 rw [this,sm_sub,sm_pick (by omega) (fun _=>(q : Int)),sm_const];omega
include F
theorem FI.z : (0 : Int) < q:=by have:=F.q2;omega
theorem FI.m0 {x : Int} (h0 : 0 ≤ x) (h1 : x < q) : M x 0 = 0:=by
 have hz:=F.z
 have h:=F.md x 0 0 h0 h1 (Int.le_refl 0) hz (Int.le_refl 0) hz
 rw [F.a0 0 (Int.le_refl 0) hz] at h
 obtain ⟨b0,b1⟩:=F.ml x 0 h0 h1 (Int.le_refl 0) hz
 obtain ⟨y,⟨y0,y1⟩,e⟩:=F.an (M x 0) b0 b1
 have h2 : A (A (M x 0) (M x 0)) y = A (M x 0) y:=by rw [← h]
 rw [F.aa _ _ _ b0 b1 b0 b1 y0 y1,e,F.a0 _ b0 b1] at h2
 exact h2
theorem FI.cancel {x y z : Int} (x0 : 0 ≤ x) (x1 : x < q) (y0 : 0 ≤ y) (y1 : y < q) (z0 : 0 ≤ z) (z1 : z < q) (h : A x y = A x z) : y = z:=by
 obtain ⟨w,⟨w0,w1⟩,e⟩:=F.an x x0 x1
 have e2 : A w x = 0:=by rw [F.ac w x w0 w1 x0 x1];exact e
 have h2 : A w (A x y) = A w (A x z):=by rw [h]
 rw [← F.aa _ _ _ w0 w1 x0 x1 y0 y1,← F.aa _ _ _ w0 w1 x0 x1 z0 z1,e2,F.ac 0 y (by omega) (by omega) y0 y1,F.ac 0 z (by omega) (by omega) z0 z1,F.a0 y y0 y1,F.a0 z z0 z1] at h2
 exact h2
theorem FI.mcancel {s x y : Int} (s0 : 0 ≤ s) (s1 : s < q) (hs : s ≠ 0) (x0 : 0 ≤ x) (x1 : x < q) (y0 : 0 ≤ y) (y1 : y < q) (h : M s x = M s y) : x = y:=by
 obtain ⟨w,⟨w0,w1⟩,e⟩:=F.an y y0 y1
 obtain ⟨a0,a1⟩:=F.al x w x0 x1 w0 w1
 have h2 : M s (A x w) = 0:=by
  rw [F.md s x w s0 s1 x0 x1 w0 w1,h,← F.md s y w s0 s1 y0 y1 w0 w1,e,F.m0 s0 s1]
 rcases F.nz s _ s0 s1 a0 a1 h2 with h3 | h3
 ·exact absurd h3 hs
 ·have e2 : A w x = A w y:=by rw [F.ac w x w0 w1 x0 x1,h3,F.ac w y w0 w1 y0 y1,e]
  exact F.cancel w0 w1 x0 x1 y0 y1 e2
theorem FI.line {t s : Int} (t0 : 0 ≤ t) (t1 : t < q) (s0 : 0 ≤ s) (s1 : s < q) : sm q (fun a=>kap0 q (A t (M a s))) = if s = 0 then q * kap0 q t else 0:=by
 by_cases hs : s = 0
 ·subst hs
  rw [if_pos rfl,sm_congr (g:=fun _=>kap0 q t) fun a ha=>by rw [F.m0 (by omega) (by omega),F.a0 t t0 t1],sm_const]
 ·rw [if_neg hs]
  have lt : ∀ a : Nat,a < q → 0 ≤ A t (M a s) ∧ A t (M a s) < q:=fun a ha=>by
   obtain ⟨b0,b1⟩:=F.ml a s (by omega) (by omega) s0 s1
   exact F.al t _ t0 t1 b0 b1
  have e : sm q (fun a=>kap0 q (A t (M a s))) = sm q (fun a=>(fun z : Nat=>kap0 q z) ((fun a : Nat=>(A t (M a s)).toNat) a)):=sm_congr fun a ha=>by
   have:=lt a ha
   show _ = kap0 q (((A t (M a s)).toNat : Nat) : Int)
   rw [Int.toNat_of_nonneg this.1]
  rw [e,inj_sum (φ:=fun a : Nat=>(A t (M a s)).toNat) (fun a ha=>by have:=lt a ha;show (A t (M a s)).toNat < q;omega) (fun a b ha hb h=>?_) (fun z : Nat=>kap0 q z)]
  ·exact kap0_sum F.q2
  ·have l1:=lt a ha
   have l2:=lt b hb
   have h : (A t (M a s)).toNat = (A t (M b s)).toNat:=h
   have h : A t (M a s) = A t (M b s):=by omega
   obtain ⟨c0,c1⟩:=F.ml a s (by omega) (by omega) s0 s1
   obtain ⟨d0,d1⟩:=F.ml b s (by omega) (by omega) s0 s1
   have h:=F.cancel t0 t1 c0 c1 d0 d1 h
   rw [F.mc a s (by omega) (by omega) s0 s1,F.mc b s (by omega) (by omega) s0 s1] at h
   have:=F.mcancel s0 s1 hs (by omega) (by omega) (by omega) (by omega) h
   omega
end
def Wd (q n : Nat) (u : List Int) : Prop:=u.length = n ∧ ∀ x ∈ u,0 ≤ x ∧ x < q
def dotL (A M : Int → Int → Int) : List Int → List Int → Int
 | x::u,y::v=>A (M x y) (dotL A M u v)
 | _,_=>0
def axp (A M : Int → Int → Int) (a : Int) (r u : List Int) : List Int:=List.zipWith (fun x y=>A x (M a y)) u r
def sumW (q : Nat) : Nat → (List Int → Int) → Int
 | 0,g=>g []
 | n + 1,g=>sm q (fun a=>sumW q n (fun w=>g ((a : Int)::w)))
theorem sumW_congr {q : Nat} : ∀ {n : Nat} {f g : List Int → Int},(∀ w,Wd q n w → f w = g w) → sumW q n f = sumW q n g
 | 0,f,g,h=>h [] ⟨rfl,fun x hx=>by cases hx⟩
 | n + 1,f,g,h=>sm_congr fun a ha=>sumW_congr fun w hw=>h _ ⟨by rw [List.length_cons,hw.1],fun x hx=>by
   rcases List.mem_cons.1 hx with rfl | hx
   ·omega
   ·exact hw.2 x hx⟩
theorem sumW_add {q : Nat} : ∀ (n : Nat) (f g : List Int → Int),sumW q n (fun w=>f w + g w) = sumW q n f + sumW q n g
 | 0,_,_=>rfl
 | n + 1,f,g=>by
  rw [sumW,sumW,sumW,← sm_add]
  exact sm_congr fun a _=>sumW_add n _ _
theorem sumW_mul {q : Nat} (c : Int) : ∀ (n : Nat) (f : List Int → Int),sumW q n (fun w=>c * f w) = c * sumW q n f
 | 0,_=>rfl
 | n + 1,f=>by
  rw [sumW,sumW,← sm_mul]
  exact sm_congr fun a _=>sumW_mul c n _
theorem sumW_snoc {q : Nat} : ∀ (n : Nat) (g : List Int → Int),sumW q (n + 1) g = sm q (fun a=>sumW q n (fun w=>g (w++[(a : Int)])))
 | 0,g=>rfl
 | n + 1,g=>by
  rw [sumW,sm_congr fun a _=>sumW_snoc n (fun w=>g ((a : Int)::w)),sm_swap]
  rfl
section
variable {q : Nat} {A M : Int → Int → Int} (F : FI q A M)
include F
theorem FI.dlt : ∀ {n : Nat} {u v : List Int},Wd q n u → Wd q n v → 0 ≤ dotL A M u v ∧ dotL A M u v < q
 | _,[],_,_,_=>⟨Int.le_refl 0,F.z⟩
 | _,_::_,[],_,_=>⟨Int.le_refl 0,F.z⟩
 | 0,x::u,y::v,hu,_=>by have:=hu.1;simp at this
 | n + 1,x::u,y::v,hu,hv=>by
  obtain ⟨x0,x1⟩:=hu.2 x (.head _)
  obtain ⟨y0,y1⟩:=hv.2 y (.head _)
  obtain ⟨m0,m1⟩:=F.ml x y x0 x1 y0 y1
  obtain ⟨d0,d1⟩:=FI.dlt (n:=n) (u:=u) (v:=v) ⟨by simpa using hu.1,fun z hz=>hu.2 z (.tail _ hz)⟩ ⟨by simpa using hv.1,fun z hz=>hv.2 z (.tail _ hz)⟩
  exact F.al _ _ m0 m1 d0 d1
theorem FI.dcomm : ∀ {n : Nat} {u v : List Int},Wd q n u → Wd q n v → dotL A M u v = dotL A M v u
 | _,[],[],_,_=>rfl
 | _,[],_::_,_,_=>rfl
 | _,_::_,[],_,_=>rfl
 | 0,x::u,y::v,hu,_=>by have:=hu.1;simp at this
 | n + 1,x::u,y::v,hu,hv=>by
  obtain ⟨x0,x1⟩:=hu.2 x (.head _)
  obtain ⟨y0,y1⟩:=hv.2 y (.head _)
  rw [dotL,dotL,F.mc x y x0 x1 y0 y1,FI.dcomm (n:=n) (u:=u) (v:=v) ⟨by simpa using hu.1,fun z hz=>hu.2 z (.tail _ hz)⟩ ⟨by simpa using hv.1,fun z hz=>hv.2 z (.tail _ hz)⟩]
theorem FI.swap4 {a b c d : Int} (a0 : 0 ≤ a) (a1 : a < q) (b0 : 0 ≤ b) (b1 : b < q) (c0 : 0 ≤ c) (c1 : c < q) (d0 : 0 ≤ d) (d1 : d < q) : A (A a b) (A c d) = A (A a c) (A b d):=by
 obtain ⟨e0,e1⟩:=F.al c d c0 c1 d0 d1
 obtain ⟨f0,f1⟩:=F.al b d b0 b1 d0 d1
 rw [F.aa a b _ a0 a1 b0 b1 e0 e1,← F.aa b c d b0 b1 c0 c1 d0 d1,F.ac b c b0 b1 c0 c1,F.aa c b d c0 c1 b0 b1 d0 d1,← F.aa a c _ a0 a1 c0 c1 f0 f1]
theorem FI.axw {n : Nat} {a : Int} (a0 : 0 ≤ a) (a1 : a < q) {r u : List Int} (hr : Wd q n r) (hu : Wd q n u) : Wd q n (axp A M a r u):=by
 refine ⟨by rw [axp,List.length_zipWith,hr.1,hu.1];omega,fun x hx=>?_⟩
 obtain ⟨i,hi⟩:=List.getElem?_of_mem hx
 rw [axp,List.getElem?_zipWith] at hi
 cases h1 : u[i]? with
 | none=>rw [h1] at hi;simp at hi
 | some y =>
  cases h2 : r[i]? with
  | none=>rw [h1,h2] at hi;simp at hi
  | some z =>
   rw [h1,h2] at hi
   simp at hi
   subst hi
   obtain ⟨y0,y1⟩:=hu.2 y (List.mem_of_getElem? h1)
   obtain ⟨z0,z1⟩:=hr.2 z (List.mem_of_getElem? h2)
   obtain ⟨m0,m1⟩:=F.ml a z a0 a1 z0 z1
   exact F.al _ _ y0 y1 m0 m1
theorem FI.daxp {a : Int} (a0 : 0 ≤ a) (a1 : a < q) : ∀ {n : Nat} {d r u : List Int},Wd q n d → Wd q n r → Wd q n u → dotL A M d (axp A M a r u) = A (dotL A M d u) (M a (dotL A M d r))
 | 0,d,r,u,hd,hr,hu=>by
  have e1:=List.length_eq_zero_iff.1 hd.1
  subst e1
  show (0 : Int) = A 0 (M a 0)
  rw [F.m0 a0 a1,F.a0 0 (Int.le_refl 0) F.z]
 | n + 1,[],_,_,hd,_,_=>by have:=hd.1;simp at this
 | n + 1,_::_,[],_,_,hr,_=>by have:=hr.1;simp at this
 | n + 1,_::_,_::_,[],_,_,hu=>by have:=hu.1;simp at this
 | n + 1,x::d,y::r,z::u,hd,hr,hu=>by
  have hd' : Wd q n d:=⟨by simpa using hd.1,fun w hw=>hd.2 w (.tail _ hw)⟩
  have hr' : Wd q n r:=⟨by simpa using hr.1,fun w hw=>hr.2 w (.tail _ hw)⟩
  have hu' : Wd q n u:=⟨by simpa using hu.1,fun w hw=>hu.2 w (.tail _ hw)⟩
  obtain ⟨x0,x1⟩:=hd.2 x (.head _)
  obtain ⟨y0,y1⟩:=hr.2 y (.head _)
  obtain ⟨z0,z1⟩:=hu.2 z (.head _)
  have ih:=FI.daxp a0 a1 hd' hr' hu'
  obtain ⟨p0,p1⟩:=F.dlt hd' hu'
  obtain ⟨s0,s1⟩:=F.dlt hd' hr'
  obtain ⟨m0,m1⟩:=F.ml a y a0 a1 y0 y1
  obtain ⟨b0,b1⟩:=F.ml x z x0 x1 z0 z1
  obtain ⟨c0,c1⟩:=F.ml x y x0 x1 y0 y1
  obtain ⟨k0,k1⟩:=F.ml a _ a0 a1 c0 c1
  obtain ⟨l0,l1⟩:=F.ml a _ a0 a1 s0 s1
  show A (M x (A z (M a y))) (dotL A M d (axp A M a r u)) = A (A (M x z) (dotL A M d u)) (M a (A (M x y) (dotL A M d r)))
  have e1 : M x (M a y) = M a (M x y):=by rw [← F.ma x a y x0 x1 a0 a1 y0 y1,F.mc x a x0 x1 a0 a1,F.ma a x y a0 a1 x0 x1 y0 y1]
  rw [ih,F.md x z _ x0 x1 z0 z1 m0 m1,e1,F.md a _ _ a0 a1 c0 c1 s0 s1]
  exact F.swap4 b0 b1 k0 k1 p0 p1 l0 l1
end
set_option maxRecDepth 100000
set_option linter.unusedVariables false
set_option linter.unusedSimpArgs false
theorem itY_add (Y : Vz → Vz) (w : Vz) : ∀ a b : Nat,itY Y (a + b) w = itY Y a (itY Y b w)
 | 0,b=>by rw [Nat.zero_add];rfl
 | a + 1,b=>by rw [show a + 1 + b = (a + b) + 1 by omega];show Y (itY Y (a + b) w) = Y (itY Y a (itY Y b w));rw [itY_add Y w a b]
theorem itY_lin {Y : Vz → Vz} (h : Lin Y) : ∀ k,Lin (itY Y k)
 | 0=>fun _ _ _ _=>rfl
 | k + 1=>fun a b u v=>by
  show Y (itY Y k fun j=>a * u j + b * v j) = fun j=>a * Y (itY Y k u) j + b * Y (itY Y k v) j
  rw [itY_lin h k a b u v,h]
theorem evL_set {Y : Vz → Vz} (h : Lin Y) (w : Vz) (v : Int) : ∀ (r : List Int) (k : Nat),k < r.length → evL Y (r.set k v) w = fun j=>evL Y r w j + (v - r.getD k 0) * itY Y k w j
 | [],k,hk=>by simp at hk
 | a::r,0,_=>by
  funext j
  show v * w j + Y (evL Y r w) j = a * w j + Y (evL Y r w) j + (v - a) * w j
  grind
 | a::r,k + 1,hk=>by
  have ih:=evL_set h w v r k (by simpa using hk)
  funext j
  show a * w j + Y (evL Y (r.set k v) w) j = a * w j + Y (evL Y r w) j + (v - r.getD k 0) * Y (itY Y k w) j
  have e : (fun j=>evL Y r w j + (v - r.getD k 0) * itY Y k w j) = fun j=>1 * evL Y r w j + (v - r.getD k 0) * itY Y k w j:=by funext j;rw [Int.one_mul]
  rw [ih,e,h]
  grind
theorem evL_it {Y : Vz → Vz} (h : Lin Y) (w : Vz) (k : Nat) : ∀ g : List Int,itY Y k (evL Y g w) = fun j=>evL Y g (itY Y k w) j:=fun g=>by
 induction k with
 | zero=>rfl
 | succ k ih =>
  show Y (itY Y k (evL Y g w)) = _
  rw [ih]
  show Y (evL Y g (itY Y k w)) = fun j=>evL Y g (Y (itY Y k w)) j
  rw [evL_Y h]
def stepR (p : Nat) (e : Int) (g : List Int) (k : Nat) : Nat → List Int → List Int
 | 0,r=>r
 | n + 1,r=>(stepR p e g k n r).set (k + n) (((stepR p e g k n r).getD (k + n) 0 + e * g.getD n 0) % p)
theorem stepR_len (p : Nat) (e : Int) (g : List Int) (k : Nat) (r : List Int) : ∀ n,(stepR p e g k n r).length = r.length
 | 0=>rfl
 | n + 1=>by rw [stepR,List.length_set,stepR_len p e g k r n]
theorem stepR_out (p : Nat) (e : Int) (g : List Int) (k : Nat) (r : List Int) {i : Nat} : ∀ n,k + n ≤ i → (stepR p e g k n r).getD i 0 = r.getD i 0
 | 0,_=>rfl
 | n + 1,h=>by
  rw [stepR,List.getD_eq_getElem?_getD,List.getElem?_set,if_neg (by omega),← List.getD_eq_getElem?_getD,stepR_out p e g k r n (by omega)]
theorem stepR_rng {p : Nat} (hp : 0 < p) (e : Int) (g : List Int) (k : Nat) {r : List Int} (hr : ∀ x ∈ r,0 ≤ x ∧ x < p) : ∀ n,∀ x ∈ stepR p e g k n r,0 ≤ x ∧ x < p
 | 0=>hr
 | n + 1=>fun x hx=>by
  rw [stepR] at hx
  rcases List.mem_or_eq_of_mem_set hx with h | rfl
  ·exact stepR_rng hp e g k hr n x h
  ·exact ⟨Int.emod_nonneg _ (by omega),Int.emod_lt_of_pos _ (by omega)⟩
theorem stepR_ev {p : Nat} {Y : Vz → Vz} (h : Lin Y) (w : Vz) (e : Int) (g : List Int) (k : Nat) {r : List Int} : ∀ n,n ≤ g.length → k + n ≤ r.length →
  cg p fun j=>evL Y (stepR p e g k n r) w j - (evL Y r w j + e * evL Y (g.take n) (itY Y k w) j)
 | 0,_,_=>fun j=>by
  show (p : Int) ∣ evL Y r w j - (evL Y r w j + e * 0)
  exact ⟨0,by omega⟩
 | n + 1,hn,hk=>fun j=>by
  have ih : (p : Int) ∣ evL Y (stepR p e g k n r) w j - (evL Y r w j + e * evL Y (g.take n) (itY Y k w) j):=stepR_ev (p:=p) h w e g k (r:=r) n (by omega) (by omega) j
  have hl : k + n < (stepR p e g k n r).length:=by rw [stepR_len];omega
  have e1:=congrFun (evL_set h w (((stepR p e g k n r).getD (k + n) 0 + e * g.getD n 0) % p) (stepR p e g k n r) (k + n) hl) j
  have e2 : evL Y (g.take (n + 1)) (itY Y k w) j = evL Y (g.take n) (itY Y k w) j + g.getD n 0 * itY Y (k + n) w j:=by
   rw [List.take_succ_eq_append_getElem (by omega),evL_snoc h]
   show _ + _ * itY Y (g.take n).length (itY Y k w) j = _
   rw [List.length_take,Nat.min_eq_left (by omega),← itY_add,Nat.add_comm n k,List.getD_eq_getElem?_getD,List.getElem?_eq_getElem (by omega)];rfl
  show (p : Int) ∣ evL Y ((stepR p e g k n r).set (k + n) _) w j - _
  rw [e1,e2]
  generalize (stepR p e g k n r).getD (k + n) 0 = x at *
  generalize g.getD n 0 = y at *
  generalize itY Y (k + n) w j = z at *
  generalize evL Y (stepR p e g k n r) w j = u at *
  generalize evL Y (g.take n) (itY Y k w) j = v at *
  have hm:=Int.emod_add_mul_ediv (x + e * y) p
  generalize (x + e * y) / (p : Int) = t at *
  have e3 : u + ((x + e * y) % p - x) * z - (evL Y r w j + e * (v + y * z)) = (u - (evL Y r w j + e * v)) + p * (-t * z):=by
   have : (x + e * y) % p = x + e * y - p * t:=by omega
   rw [this];grind
  rw [e3]
  exact Int.dvd_add ih ⟨_,rfl⟩
theorem top_it {g : List Int} (h : 1 ≤ g.length) (k : Nat) : itY (Xg g) (k + g.length) oneV = fun j=>-evL (Xg g) g (itY (Xg g) k oneV) j:=by
 have hY:=Xg_lin g
 rw [itY_add,it_top h,← ev_one (Nat.le_refl g.length)]
 have : (fun j=>-evL (Xg g) g oneV j) = fun j=>(-1) * evL (Xg g) g oneV j:=by funext j;omega
 rw [this,(itY_lin hY k).mul,evL_it hY]
 funext j
 show -1 * evL (Xg g) g (itY (Xg g) k oneV) j = -evL (Xg g) g (itY (Xg g) k oneV) j
 omega
theorem take_snoc {r : List Int} {i : Nat} (h : i < r.length) : r.take (i + 1) = r.take i++[r.getD i 0]:=by
 rw [List.take_succ_eq_append_getElem h,List.getD_eq_getElem?_getD,List.getElem?_eq_getElem h];rfl
theorem stepR_take (p : Nat) (e : Int) (g : List Int) (k : Nat) {r : List Int} {i : Nat} : ∀ n,k + n ≤ i → (stepR p e g k n r).take i = stepR p e g k n (r.take i)
 | 0,_=>rfl
 | n + 1,h=>by
  rw [stepR,stepR,List.take_set,stepR_take p e g k n (by omega)]
  congr 3
  rw [← stepR_take p e g k n (by omega),List.getD_eq_getElem?_getD,List.getD_eq_getElem?_getD,List.getElem?_take,if_pos (by omega)]
theorem red_step {p : Nat} {g r : List Int} {i : Nat} (hg : 1 ≤ g.length) (hi : g.length ≤ i) (hr : i < r.length) :
  cg p fun j=>evL (Xg g) ((stepR p (p - r.getD i 0) g (i - g.length) g.length r).take i) oneV j - evL (Xg g) (r.take (i + 1)) oneV j:=by
 have hY:=Xg_lin g
 rw [stepR_take _ _ _ _ _ (by omega)]
 have h1:=stepR_ev (p:=p) hY oneV (p - r.getD i 0) g (i - g.length) (r:=r.take i) g.length (Nat.le_refl _) (by rw [List.length_take];omega)
 have ht:=top_it hg (i - g.length)
 rw [Nat.sub_add_cancel hi] at ht
 have h2 : evL (Xg g) (r.take (i + 1)) oneV = fun j=>evL (Xg g) (r.take i) oneV j - r.getD i 0 * evL (Xg g) g (itY (Xg g) (i - g.length) oneV) j:=by
  rw [take_snoc hr,evL_snoc hY,List.length_take,Nat.min_eq_left (by omega),ht]
  funext j;grind
 rw [h2]
 rw [List.take_length] at h1
 intro j
 have h3 : (p : Int) ∣ _ - (_ + (p - r.getD i 0) * evL (Xg g) g (itY (Xg g) (i - g.length) oneV) j):=h1 j
 have h4:=Int.dvd_add h3 (⟨evL (Xg g) g (itY (Xg g) (i - g.length) oneV) j,rfl⟩ : (p : Int) ∣ p * evL (Xg g) g (itY (Xg g) (i - g.length) oneV) j)
 refine dvd_eq h4 ?_
 show _ = _ - (_ - r.getD i 0 * _)
 grind
def mulR (p m : Nat) (a b : List Int) : Nat → List Int
 | 0=>List.replicate (2 * m - 1) 0
 | i + 1=>stepR p (a.getD i 0) b i m (mulR p m a b i)
theorem mulR_len (p m : Nat) (a b : List Int) : ∀ i,(mulR p m a b i).length = 2 * m - 1
 | 0=>by simp [mulR]
 | i + 1=>by rw [mulR,stepR_len,mulR_len p m a b i]
theorem mulR_rng {p : Nat} (hp : 0 < p) (m : Nat) (a b : List Int) : ∀ i,∀ x ∈ mulR p m a b i,0 ≤ x ∧ x < p
 | 0=>fun x hx=>by rw [(List.mem_replicate.1 hx).2];omega
 | i + 1=>stepR_rng hp _ _ _ (mulR_rng hp m a b i) m
theorem evL_zeros {Y : Vz → Vz} (h : Lin Y) (w : Vz) : ∀ n,evL Y (List.replicate n 0) w = fun _=>0
 | 0=>rfl
 | n + 1=>by
  funext j
  show 0 * w j + Y (evL Y (List.replicate n 0) w) j = 0
  rw [evL_zeros h w n,h.zero];simp
theorem mulR_ev {p m : Nat} {g a b : List Int} (hb : b.length = m) (ha : a.length = m) : ∀ i,i ≤ m → cg p fun j=>evL (Xg g) (mulR p m a b i) oneV j - evL (Xg g) (a.take i) (evL (Xg g) b oneV) j
 | 0,_=>fun j=>by
  rw [mulR,evL_zeros (Xg_lin g)]
  exact ⟨0,by simp [evL]⟩
 | i + 1,hi=>fun j=>by
  have hY:=Xg_lin g
  have ih : (p : Int) ∣ evL (Xg g) (mulR p m a b i) oneV j - evL (Xg g) (a.take i) (evL (Xg g) b oneV) j:=mulR_ev hb ha i (by omega) j
  have h1 : (p : Int) ∣ evL (Xg g) (stepR p (a.getD i 0) b i m (mulR p m a b i)) oneV j - (evL (Xg g) (mulR p m a b i) oneV j + a.getD i 0 * evL (Xg g) (b.take m) (itY (Xg g) i oneV) j):=stepR_ev (p:=p) hY oneV (a.getD i 0) b i (r:=mulR p m a b i) m (by omega) (by rw [mulR_len];omega) j
  have h2:=Int.dvd_add h1 ih
  rw [← hb,List.take_length,hb] at h2
  refine dvd_eq h2 ?_
  show _ = evL (Xg g) (stepR p (a.getD i 0) b i m (mulR p m a b i)) oneV j - evL (Xg g) (a.take (i + 1)) (evL (Xg g) b oneV) j
  rw [take_snoc (by omega),evL_snoc hY,List.length_take,Nat.min_eq_left (by omega)]
  have h3:=congrFun (evL_it hY oneV i b) j
  show _ = _ - (_ + a.getD i 0 * itY (Xg g) i (evL (Xg g) b oneV) j)
  rw [h3]
  omega
def redL (p : Nat) (g r : List Int) : Nat → List Int
 | 0=>r
 | n + 1=>stepR p (p - (redL p g r n).getD (r.length - 1 - n) 0) g (r.length - 1 - n - g.length) g.length (redL p g r n)
theorem redL_len (p : Nat) (g r : List Int) : ∀ n,(redL p g r n).length = r.length
 | 0=>rfl
 | n + 1=>by rw [redL,stepR_len,redL_len p g r n]
theorem redL_rng {p : Nat} (hp : 0 < p) (g : List Int) {r : List Int} (hr : ∀ x ∈ r,0 ≤ x ∧ x < p) : ∀ n,∀ x ∈ redL p g r n,0 ≤ x ∧ x < p
 | 0=>hr
 | n + 1=>stepR_rng hp _ _ _ (redL_rng hp g hr n) _
theorem redL_ev {p : Nat} {g r : List Int} (hg : 1 ≤ g.length) : ∀ n,n + g.length ≤ r.length → cg p fun j=>evL (Xg g) ((redL p g r n).take (r.length - n)) oneV j - evL (Xg g) r oneV j
 | 0,_=>fun j=>by
  rw [redL,Nat.sub_zero,List.take_length]
  exact ⟨0,by show evL (Xg g) r oneV j - evL (Xg g) r oneV j = _;omega⟩
 | n + 1,hn=>fun j=>by
  have ih : (p : Int) ∣ evL (Xg g) ((redL p g r n).take (r.length - n)) oneV j - evL (Xg g) r oneV j:=redL_ev hg n (by omega) j
  have h1 : (p : Int) ∣ evL (Xg g) ((stepR p (p - (redL p g r n).getD (r.length - 1 - n) 0) g (r.length - 1 - n - g.length) g.length (redL p g r n)).take (r.length - 1 - n)) oneV j - evL (Xg g) ((redL p g r n).take (r.length - 1 - n + 1)) oneV j:=red_step (p:=p) hg (r:=redL p g r n) (i:=r.length - 1 - n) (by omega) (by rw [redL_len];omega) j
  rw [show r.length - 1 - n + 1 = r.length - n by omega] at h1
  refine dvd_eq (Int.dvd_add h1 ih) ?_
  show _ = evL (Xg g) ((redL p g r (n + 1)).take (r.length - (n + 1))) oneV j - _
  rw [show r.length - (n + 1) = r.length - 1 - n by omega,redL]
  omega
theorem toI_len (l : List Nat) : (toI l).length = l.length:=List.length_map _
theorem mul_digs {p : Nat} (hp : 0 < p) {f : List Int} (hf : 1 ≤ f.length) (x y : Nat) :
  (redL p f (mulR p f.length (toI (dig p f.length x)) (toI (dig p f.length y)) f.length) (f.length - 1)).take f.length = toI ((List.range f.length).map fun j=>(mulV f (rep p f.length x) (rep p f.length y) j % p).toNat):=by
 generalize hm : f.length = m at *
 have la : (toI (dig p m x)).length = m:=by rw [toI_len,dig_len]
 have lb : (toI (dig p m y)).length = m:=by rw [toI_len,dig_len]
 have l1:=mulR_len p m (toI (dig p m x)) (toI (dig p m y)) m
 have r1:=mulR_rng hp m (toI (dig p m x)) (toI (dig p m y)) m
 have c1:=mulR_ev (p:=p) (g:=f) lb la m (Nat.le_refl m)
 rw [List.take_of_length_le (Nat.le_of_eq la)] at c1
 generalize mulR p m (toI (dig p m x)) (toI (dig p m y)) m = r at *
 have c2:=redL_ev (p:=p) (g:=f) (r:=r) (by omega) (m - 1) (by omega)
 have r2:=redL_rng hp f r1 (m - 1)
 have l2:=redL_len p f r (m - 1)
 rw [l1,show 2 * m - 1 - (m - 1) = m by omega] at c2
 generalize redL p f r (m - 1) = s at *
 have lt : (s.take m).length = m:=by rw [List.length_take];omega
 have key : ∀ j,j < m → (p : Int) ∣ (s.take m).getD j 0 - mulV f (rep p m x) (rep p m y) j:=fun j hj=>by
  have h3 : evL (Xg f) (s.take m) oneV = vec (s.take m):=ev_one (by omega)
  have h4 : evL (Xg f) (toI (dig p m y)) oneV = vec (toI (dig p m y)):=ev_one (by omega)
  have h5 : (List.range f.length).map (rep p m x) = toI (dig p m x):=by
   refine List.ext_getElem? fun i=>?_
   rw [List.getElem?_map,hm]
   by_cases hi : i < m
   ·rw [List.getElem?_range hi,List.getElem?_eq_getElem (by omega)]
    show some (vec (toI (dig p m x)) i) = _
    rw [vec,List.getD_eq_getElem?_getD,List.getElem?_eq_getElem (by omega)];rfl
   ·rw [List.getElem?_eq_none (by simpa using hi),List.getElem?_eq_none (by omega)];rfl
  have a1 : (p : Int) ∣ evL (Xg f) r oneV j - evL (Xg f) (toI (dig p m x)) (evL (Xg f) (toI (dig p m y)) oneV) j:=c1 j
  have a2 : (p : Int) ∣ evL (Xg f) (s.take m) oneV j - evL (Xg f) r oneV j:=c2 j
  have a3:=Int.dvd_add a2 a1
  rw [h3,h4] at a3
  refine dvd_eq a3 ?_
  rw [mulV,h5]
  show _ = vec (s.take m) j - evL (Xg f) (toI (dig p m x)) (vec (toI (dig p m y))) j
  omega
 refine List.ext_getElem? fun j=>?_
 rw [toI,List.getElem?_map,List.getElem?_map]
 by_cases hj : j < m
 ·rw [List.getElem?_range hj,List.getElem?_eq_getElem (by omega)]
  have h6:=key j hj
  rw [List.getD_eq_getElem?_getD,List.getElem?_eq_getElem (by omega)] at h6
  obtain ⟨b0,b1⟩:=r2 _ (List.mem_of_mem_take (List.getElem_mem (l:=s.take m) (n:=j) (by omega)))
  have h7:=(Int.emod_eq_emod_iff_emod_sub_eq_zero).2 (Int.emod_eq_zero_of_dvd h6)
  simp only [Option.getD_some] at h7
  rw [Int.emod_eq_of_lt b0 b1] at h7
  have h8:=Int.emod_nonneg (mulV f (rep p m x) (rep p m y) j) (show (p : Int) ≠ 0 by omega)
  simp only [Option.map_some,Option.some.injEq]
  omega
 ·rw [List.getElem?_eq_none (by omega),List.getElem?_eq_none (by simpa using hj)];rfl
theorem cg_div {p : Nat} {g h : List Int} (hl : g.length = h.length) (hgh : ∀ j,(p : Int) ∣ g.getD j 0 - h.getD j 0) {w : Vz} : ∀ F : List Int,cg p fun j=>evL (Xg g) F w j - evL (Xg h) F w j
 | []=>fun j=>⟨0,by simp [evL]⟩
 | a::F=>fun j=>by
  have ih:=cg_div hl hgh (w:=w) F
  show (p : Int) ∣ (a * w j + Xg g (evL (Xg g) F w) j) - (a * w j + Xg h (evL (Xg h) F w) j)
  have e1 : (fun j=>evL (Xg g) F w j - evL (Xg h) F w j) = fun j=>1 * evL (Xg g) F w j + (-1) * evL (Xg h) F w j:=by funext j;omega
  have h1:=cg_lin (Xg_lin g) ih
  rw [e1,Xg_lin g] at h1
  have h2 : (p : Int) ∣ 1 * Xg g (evL (Xg g) F w) j + (-1) * Xg g (evL (Xg h) F w) j:=h1 j
  have h3 : (p : Int) ∣ Xg g (evL (Xg h) F w) j - Xg h (evL (Xg h) F w) j:=by
   simp only [Xg,hl]
   by_cases hj : j < h.length
   ·rw [if_pos hj,if_pos hj]
    refine dvd_eq (Int.dvd_mul_of_dvd_left (c:=-evL (Xg h) F w (h.length - 1)) (hgh j)) ?_
    grind
   ·rw [if_neg hj,if_neg hj];exact ⟨0,by omega⟩
  exact dvd_eq (Int.dvd_add h2 h3) (by omega)
def irrP (p : Nat) (md : List Nat) : Prop:=∀ d,1 ≤ d → 2 * d ≤ md.length → ∀ v,v < p ^ d → ¬ cg p (evL (Xg (toI (dig p d v))) (toI md++[1]) oneV)
theorem irr_splits {p : Nat} (hp : 0 < p) {md : List Nat} (h : irrP p md) : ¬ splits p (toI md):=by
 rintro ⟨g,s,h1,h2,h3,h4,h5⟩
 rw [toI_len] at h3
 have key : ∀ g : List Int,1 ≤ g.length → 2 * g.length ≤ md.length → ¬ cg p (evL (Xg g) (toI md++[1]) oneV):=fun g h1 h2 hc=>by
  let l : List Nat:=g.map fun x=>(x % (p : Int)).toNat
  have hl : ∀ d ∈ l,d < p:=fun d hd=>by
   obtain ⟨x,_,rfl⟩:=List.mem_map.1 hd
   have:=Int.emod_lt_of_pos x (show (0 : Int) < p by omega)
   omega
  have ll : l.length = g.length:=List.length_map _
  have hv:=valP_lt hp hl
  have e:=dig_valP hp hl
  rw [ll] at hv e
  refine h g.length h1 h2 (valP p l) hv ?_
  rw [e]
  have h6 : ∀ j,(p : Int) ∣ (toI l).getD j 0 - g.getD j 0:=fun j=>by
   rw [toI,List.getD_eq_getElem?_getD,List.getD_eq_getElem?_getD,List.getElem?_map,List.getElem?_map]
   cases hg : g[j]? with
   | none=>exact ⟨0,by simp⟩
   | some x =>
    simp only [Option.map_some,Option.getD_some]
    have h7:=Int.emod_nonneg x (show (p : Int) ≠ 0 by omega)
    have h8:=Int.emod_add_mul_ediv x p
    exact ⟨-(x / p),by rw [Int.mul_neg];omega⟩
  have h9:=cg_div (by rw [toI_len];exact ll) h6 (w:=oneV) (toI md++[1])
  intro j
  have h10 : (p : Int) ∣ evL (Xg (toI l)) (toI md++[1]) oneV j - evL (Xg g) (toI md++[1]) oneV j:=h9 j
  exact dvd_eq (Int.dvd_add h10 (hc j)) (by omega)
 by_cases hle : 2 * g.length ≤ md.length
 ·exact key g h1 hle h4
 ·exact key s h2 (by omega) h5
def lsum : List (List Int) → (List Int → Int) → Int
 | [],_=>0
 | u::L,g=>g u + lsum L g
theorem lsum_app (g : List Int → Int) : ∀ (L K : List (List Int)),lsum (L++K) g = lsum L g + lsum K g
 | [],K=>by simp [lsum]
 | u::L,K=>by rw [List.cons_append,lsum,lsum,lsum_app g L K];omega
theorem lsum_map (f : List Int → List Int) (g : List Int → Int) : ∀ L : List (List Int),lsum (L.map f) g = lsum L (fun u=>g (f u))
 | []=>rfl
 | u::L=>by rw [List.map_cons,lsum,lsum,lsum_map f g L]
theorem lsum_congr {f g : List Int → Int} : ∀ {L : List (List Int)},(∀ u ∈ L,f u = g u) → lsum L f = lsum L g
 | [],_=>rfl
 | u::L,h=>by rw [lsum,lsum,h u (.head _),lsum_congr fun v hv=>h v (.tail _ hv)]
theorem lsum_mul (c : Int) (g : List Int → Int) : ∀ L : List (List Int),lsum L (fun u=>c * g u) = c * lsum L g
 | []=>by simp [lsum]
 | u::L=>by rw [lsum,lsum,lsum_mul c g L,Int.mul_add]
theorem lsum_add (f g : List Int → Int) : ∀ L : List (List Int),lsum L (fun u=>f u + g u) = lsum L f + lsum L g
 | []=>rfl
 | u::L=>by rw [lsum,lsum,lsum,lsum_add f g L];omega
theorem lsum_const (c : Int) : ∀ L : List (List Int),lsum L (fun _=>c) = c * L.length
 | []=>by simp [lsum]
 | u::L=>by rw [lsum,lsum_const c L,List.length_cons];simp only [Int.natCast_add,Int.natCast_one];grind
theorem lsum_flat (F : Nat → List (List Int)) (g : List Int → Int) : ∀ n,lsum ((List.range n).flatMap F) g = sm n (fun a=>lsum (F a) g)
 | 0=>rfl
 | n + 1=>by rw [List.range_succ,List.flatMap_append,lsum_app,lsum_flat F g n,sm];simp
theorem lsum_filter (p : List Int → Bool) (g : List Int → Int) : ∀ L : List (List Int),lsum (L.filter p) g = lsum L (fun u=>if p u = true then g u else 0)
 | []=>rfl
 | u::L=>by
  rw [List.filter_cons,lsum,← lsum_filter p g L]
  by_cases h : p u = true
  ·rw [if_pos h,if_pos h,lsum]
  ·rw [if_neg h,if_neg h];omega
theorem lsum_sm (N : Nat) (f : Nat → List Int → Int) : ∀ L : List (List Int),lsum L (fun u=>sm N (fun i=>f i u)) = sm N (fun i=>lsum L (f i))
 | []=>(sm_zero N).symm
 | u::L=>by rw [lsum,lsum_sm N f L,← sm_add];rfl
theorem lsum_sumW {q : Nat} (f : List Int → List Int → Int) : ∀ (n : Nat) (L : List (List Int)),lsum L (fun u=>sumW q n (fun d=>f d u)) = sumW q n (fun d=>lsum L (f d))
 | n,[]=>by
  show 0 = sumW q n (fun _=>0)
  have:=sumW_mul (q:=q) 0 n (fun _=>0)
  simp only [Int.zero_mul] at this
  exact this.symm
 | n,u::L=>by rw [lsum,lsum_sumW f n L,← sumW_add];rfl
theorem lsum_nonneg {g : List Int → Int} : ∀ {L : List (List Int)},(∀ u ∈ L,0 ≤ g u) → 0 ≤ lsum L g
 | [],_=>Int.le_refl 0
 | u::L,h=>by
  have h1:=h u (.head _)
  have h2:=lsum_nonneg (L:=L) fun v hv=>h v (.tail _ hv)
  rw [lsum];omega
theorem lsum_mem {g : List Int → Int} : ∀ {L : List (List Int)},(∀ u ∈ L,0 ≤ g u) → ∀ u ∈ L,g u ≤ lsum L g
 | v::L,h,u,hu=>by
  have h1:=h v (.head _)
  have h2:=lsum_nonneg (L:=L) fun w hw=>h w (.tail _ hw)
  rw [lsum]
  rcases List.mem_cons.1 hu with rfl | hu
  ·omega
  ·have:=lsum_mem (fun w hw=>h w (.tail _ hw)) u hu;omega
abbrev zW (n : Nat) : List Int:=List.replicate n 0
def extL (q : Nat) (A M : Int → Int → Int) (L : List (List Int)) (r : List Int) : List (List Int):=(List.range q).flatMap fun a : Nat=>L.map fun u=>axp A M a r u
def spanS (q most : Nat) (A M : Int → Int → Int) : List (List Int) → List (List Int) → Option (List (List Int))
 | [],L=>some L
 | r::rs,L=>if r ∈ L then spanS q most A M rs L else if most / q < L.length then none else spanS q most A M rs (extL q A M L r)
def orthB (A M : Int → Int → Int) (rows : List (List Int)) (d : List Int) : Bool:=rows.all fun r=>decide (dotL A M d r = 0)
theorem orth_iff {A M : Int → Int → Int} {rows : List (List Int)} {d : List Int} : orthB A M rows d = true ↔ ∀ r ∈ rows,dotL A M d r = 0:=by
 rw [orthB,List.all_eq_true]
 exact ⟨fun h r hr=>of_decide_eq_true (h r hr),fun h r hr=>decide_eq_true (h r hr)⟩
theorem zW_wd {q n : Nat} (hq : 2 ≤ q) : Wd q n (zW n):=⟨by simp,fun x hx=>by rw [(List.mem_replicate.1 hx).2];omega⟩
section
variable {q : Nat} {A M : Int → Int → Int} (F : FI q A M)
include F
theorem FI.dz : ∀ {n : Nat} {d : List Int},Wd q n d → dotL A M d (zW n) = 0
 | 0,d,h=>by rw [List.length_eq_zero_iff.1 h.1];rfl
 | n + 1,[],h=>by have:=h.1;simp at this
 | n + 1,x::d,h=>by
  obtain ⟨x0,x1⟩:=h.2 x (.head _)
  show A (M x 0) (dotL A M d (zW n)) = 0
  rw [F.m0 x0 x1,FI.dz (n:=n) (d:=d) ⟨by simpa using h.1,fun z hz=>h.2 z (.tail _ hz)⟩,F.a0 0 (Int.le_refl 0) F.z]
theorem FI.dz' {n : Nat} {d : List Int} (h : Wd q n d) : dotL A M (zW n) d = 0:=by rw [F.dcomm (zW_wd F.q2) h,F.dz h]
theorem FI.ax0 : ∀ {n : Nat} {r u : List Int},Wd q n r → Wd q n u → axp A M 0 r u = u
 | 0,r,u,hr,hu=>by
  have e1:=List.length_eq_zero_iff.1 hr.1
  have e2:=List.length_eq_zero_iff.1 hu.1
  subst e1;subst e2;rfl
 | n + 1,[],_,h,_=>by have:=h.1;simp at this
 | n + 1,_::_,[],_,h=>by have:=h.1;simp at this
 | n + 1,y::r,x::u,hr,hu=>by
  obtain ⟨x0,x1⟩:=hu.2 x (.head _)
  obtain ⟨y0,y1⟩:=hr.2 y (.head _)
  show A x (M 0 y)::axp A M 0 r u = x::u
  rw [F.mc 0 y (Int.le_refl 0) F.z y0 y1,F.m0 y0 y1,F.a0 x x0 x1,FI.ax0 (n:=n) (r:=r) (u:=u) ⟨by simpa using hr.1,fun z hz=>hr.2 z (.tail _ hz)⟩ ⟨by simpa using hu.1,fun z hz=>hu.2 z (.tail _ hz)⟩]
structure SpI (q n : Nat) (A M : Int → Int → Int) (rows L : List (List Int)) : Prop where
 wd : ∀ u ∈ L,Wd q n u
 z : zW n ∈ L
 orth : ∀ d,Wd q n d → (∀ r ∈ rows,dotL A M d r = 0) → ∀ u ∈ L,dotL A M d u = 0
 sum : ∀ (d : List Int) (t : Int),Wd q n d → 0 ≤ t → t < q → lsum L (fun c=>kap0 q (A t (dotL A M d c))) = if orthB A M rows d = true then kap0 q t * L.length else 0
omit F in
theorem SpI.pos {n : Nat} {rows L : List (List Int)} (h : SpI q n A M rows L) : 0 < L.length:=List.length_pos_of_mem h.z
theorem spI_start (n : Nat) : SpI q n A M [] [zW n] where
 wd:=fun u hu=>by rw [List.mem_singleton.1 hu];exact zW_wd F.q2
 z:=.head _
 orth:=fun d hd _ u hu=>by rw [List.mem_singleton.1 hu];exact F.dz hd
 sum:=fun d t hd t0 t1=>by
  rw [if_pos (by rfl),lsum,lsum,F.dz hd,F.a0 t t0 t1];simp
omit F in
theorem orth_snoc {rows : List (List Int)} {r d : List Int} : orthB A M (rows++[r]) d = (orthB A M rows d && decide (dotL A M d r = 0)):=by
 rw [orthB,List.all_append];simp [orthB]
omit F in
theorem spI_skip {n : Nat} {rows L : List (List Int)} {r : List Int} (h : SpI q n A M rows L) (hr : r ∈ L) : SpI q n A M (rows++[r]) L where
 wd:=h.wd
 z:=h.z
 orth:=fun d hd ho u hu=>h.orth d hd (fun r' hr'=>ho r' (List.mem_append_left _ hr')) u hu
 sum:=fun d t hd t0 t1=>by
  rw [h.sum d t hd t0 t1,orth_snoc]
  cases ho : orthB A M rows d with
  | false=>simp
  | true=>rw [decide_eq_true (h.orth d hd (orth_iff.1 ho) r hr)];simp
omit F in
theorem ext_mem {L : List (List Int)} {r u : List Int} (h : u ∈ extL q A M L r) : ∃ (a : Nat) (v : List Int),a < q ∧ v ∈ L ∧ u = axp A M a r v:=by
 rw [extL,List.mem_flatMap] at h
 obtain ⟨a,ha,h⟩:=h
 obtain ⟨v,hv,e⟩:=List.mem_map.1 h
 exact ⟨a,v,List.mem_range.1 ha,hv,e.symm⟩
omit F in
theorem ext_len (L : List (List Int)) (r : List Int) : (extL q A M L r).length = q * L.length:=by
 have key : ∀ n,((List.range n).flatMap fun a : Nat=>L.map fun u=>axp A M a r u).length = n * L.length:=by
  intro n
  induction n with
  | zero=>simp
  | succ n ih=>rw [List.range_succ,List.flatMap_append,List.length_append,ih];simp [Nat.add_mul]
 exact key q
theorem spI_ext {n : Nat} {rows L : List (List Int)} {r : List Int} (h : SpI q n A M rows L) (hr : Wd q n r) : SpI q n A M (rows++[r]) (extL q A M L r) where
 wd:=fun u hu=>by
  obtain ⟨a,v,ha,hv,rfl⟩:=ext_mem hu
  exact F.axw (by omega) (by omega) hr (h.wd v hv)
 z:=by
  rw [extL,List.mem_flatMap]
  refine ⟨0,List.mem_range.2 (by have:=F.q2;omega),List.mem_map.2 ⟨zW n,h.z,?_⟩⟩
  exact F.ax0 hr (zW_wd F.q2)
 orth:=fun d hd ho u hu=>by
  obtain ⟨a,v,ha,hv,rfl⟩:=ext_mem hu
  rw [F.daxp (by omega) (by omega) hd hr (h.wd v hv),h.orth d hd (fun r' hr'=>ho r' (List.mem_append_left _ hr')) v hv,ho r (List.mem_append_right _ (.head _)),F.m0 (by omega) (by omega),F.a0 0 (Int.le_refl 0) F.z]
 sum:=fun d t hd t0 t1=>by
  obtain ⟨s0,s1⟩:=F.dlt hd hr
  have e1 : lsum (extL q A M L r) (fun c=>kap0 q (A t (dotL A M d c))) = sm q (fun a=>lsum L (fun u=>kap0 q (A (A t (M a (dotL A M d r))) (dotL A M d u)))):=by
   rw [extL,lsum_flat]
   refine sm_congr fun a ha=>?_
   rw [lsum_map]
   refine lsum_congr fun u hu=>?_
   obtain ⟨u0,u1⟩:=F.dlt hd (h.wd u hu)
   obtain ⟨m0,m1⟩:=F.ml a (dotL A M d r) (by omega) (by omega) s0 s1
   rw [F.daxp (by omega) (by omega) hd hr (h.wd u hu),F.ac _ _ u0 u1 m0 m1,F.aa t _ _ t0 t1 m0 m1 u0 u1]
  have e2 : sm q (fun a=>lsum L (fun u=>kap0 q (A (A t (M a (dotL A M d r))) (dotL A M d u)))) = sm q (fun a=>if orthB A M rows d = true then kap0 q (A t (M a (dotL A M d r))) * L.length else 0):=sm_congr fun a ha=>by
   obtain ⟨m0,m1⟩:=F.ml a (dotL A M d r) (by omega) (by omega) s0 s1
   obtain ⟨b0,b1⟩:=F.al t _ t0 t1 m0 m1
   exact h.sum d _ hd b0 b1
  rw [e1,e2,orth_snoc,ext_len]
  cases ho : orthB A M rows d with
  | false=>simp [sm_zero]
  | true =>
   have e3 : sm q (fun a=>if true = true then kap0 q (A t (M a (dotL A M d r))) * (L.length : Int) else 0) = L.length * sm q (fun a=>kap0 q (A t (M a (dotL A M d r)))):=by
    rw [← sm_mul];exact sm_congr fun a _=>by rw [if_pos rfl,Int.mul_comm]
   rw [e3,F.line t0 t1 s0 s1]
   by_cases hs : dotL A M d r = 0
   ·rw [if_pos hs,decide_eq_true hs,Int.natCast_mul];simp;grind
   ·rw [if_neg hs,decide_eq_false hs];simp
theorem spI_span {most n : Nat} : ∀ {rs L rows K : List (List Int)},SpI q n A M rows L → (∀ r ∈ rs,Wd q n r) → spanS q most A M rs L = some K → SpI q n A M (rows++rs) K
 | [],L,rows,K,h,_,e=>by
  rw [spanS,Option.some.injEq] at e
  subst e
  rw [List.append_nil];exact h
 | r::rs,L,rows,K,h,hr,e=>by
  rw [spanS] at e
  rw [show rows++r::rs = (rows++[r])++rs by simp]
  by_cases hm : r ∈ L
  ·rw [if_pos hm] at e
   exact spI_span (spI_skip h hm) (fun x hx=>hr x (.tail _ hx)) e
  ·rw [if_neg hm] at e
   by_cases hb : most / q < L.length
   ·rw [if_pos hb] at e;cases e
   ·rw [if_neg hb] at e
    exact spI_span (spI_ext F h (hr r (.head _))) (fun x hx=>hr x (.tail _ hx)) e
omit F in
def unitW (n i : Nat) : List Int:=(zW n).set i 1
omit F in
theorem unit_eq {n i : Nat} (h : i < n) : unitW n i = zW i++1::zW (n - i - 1):=by
 refine List.ext_getElem? fun j=>?_
 rw [unitW,List.getElem?_set]
 by_cases e : i = j
 ·subst e
  rw [if_pos rfl,if_pos (by simpa using h),List.getElem?_append_right (by simp)];simp
 ·rw [if_neg e,List.getElem?_replicate]
  by_cases hj : j < i
  ·rw [if_pos (by omega),List.getElem?_append_left (by simpa using hj),List.getElem?_replicate,if_pos hj]
  ·rw [List.getElem?_append_right (by simp;omega),List.length_replicate]
   obtain ⟨k,rfl⟩ : ∃ k,j = i + 1 + k:=⟨j - i - 1,by omega⟩
   rw [show i + 1 + k - i = k + 1 by omega,List.getElem?_cons_succ,List.getElem?_replicate]
   by_cases hk : i + 1 + k < n
   ·rw [if_pos hk,if_pos (by omega)]
   ·rw [if_neg hk,if_neg (by omega)]
structure AlI (q n i : Nat) (L : List (List Int)) : Prop where
 fo : ∀ u ∈ L,∃ w,Wd q i w ∧ u = w++zW (n - i)
 sum : ∀ g,lsum L g = sumW q i (fun w=>g (w++zW (n - i)))
omit F in
theorem alI_start (n : Nat) : AlI q n 0 [zW n] where
 fo:=fun u hu=>⟨[],⟨rfl,fun x hx=>by cases hx⟩,by rw [List.mem_singleton.1 hu];rfl⟩
 sum:=fun g=>by rw [lsum,lsum,sumW];simp
theorem ax_unit {n i : Nat} (h : i < n) {a : Int} (a0 : 0 ≤ a) (a1 : a < q) {w : List Int} (hw : Wd q i w) : axp A M a (unitW n i) (w++zW (n - i)) = w++[a]++zW (n - (i + 1)):=by
 have hz:=F.z
 have hq:=F.q2
 rw [unit_eq h]
 have e1 : zW (n - i) = 0::zW (n - (i + 1)):=by
  rw [show n - i = (n - (i + 1)) + 1 by omega];rfl
 have e2 : ∀ k,axp A M a (zW k) (zW k) = zW k:=by
  intro k
  induction k with
  | zero=>rfl
  | succ k ih =>
   show A 0 (M a 0)::axp A M a (zW k) (zW k) = 0::zW k
   rw [ih,F.m0 a0 a1,F.a0 0 (Int.le_refl 0) hz]
 have e3 : ∀ w : List Int,Wd q w.length w → axp A M a (zW w.length) w = w:=by
  intro w
  induction w with
  | nil=>intro _;rfl
  | cons x w ih =>
   intro hw
   obtain ⟨x0,x1⟩:=hw.2 x (.head _)
   show A x (M a 0)::axp A M a (zW w.length) w = x::w
   rw [ih ⟨rfl,fun y hy=>hw.2 y (.tail _ hy)⟩,F.m0 a0 a1,F.a0 x x0 x1]
 have e4 : axp A M a (zW i++1::zW (n - i - 1)) (w++zW (n - i)) = axp A M a (zW i) w++axp A M a (1::zW (n - i - 1)) (zW (n - i)):=List.zipWith_append (by simp [hw.1])
 have hw' : Wd q w.length w:=⟨rfl,hw.2⟩
 have e5:=e3 w hw'
 rw [hw.1] at e5
 rw [e4,e5,e1,show n - i - 1 = n - (i + 1) by omega]
 show w++(A 0 (M a 1)::axp A M a (zW (n - (i + 1))) (zW (n - (i + 1)))) = _
 rw [e2,F.m1 a a0 a1,F.ac 0 a (Int.le_refl 0) hz a0 a1,F.a0 a a0 a1]
 simp
theorem alI_ext {n i : Nat} (hi : i < n) {L : List (List Int)} (h : AlI q n i L) : unitW n i ∉ L ∧ AlI q n (i + 1) (extL q A M L (unitW n i)):=by
 refine ⟨fun hm=>?_,fun u hu=>?_,fun g=>?_⟩
 ·obtain ⟨w,hw,e⟩:=h.fo _ hm
  rw [unit_eq hi] at e
  have h1 : (zW i++1::zW (n - i - 1))[i]? = (w++zW (n - i))[i]?:=by rw [e]
  rw [List.getElem?_append_right (by simp),List.getElem?_append_right (by rw [hw.1];exact Nat.le_refl _),hw.1,List.length_replicate,Nat.sub_self,List.getElem?_replicate,if_pos (by omega)] at h1
  simp at h1
 ·obtain ⟨a,v,ha,hv,rfl⟩:=ext_mem hu
  obtain ⟨w,hw,rfl⟩:=h.fo v hv
  refine ⟨w++[(a : Int)],⟨by rw [List.length_append,hw.1];rfl,fun x hx=>?_⟩,ax_unit F hi (by omega) (by omega) hw⟩
  rcases List.mem_append.1 hx with hx | hx
  ·exact hw.2 x hx
  ·rw [List.mem_singleton.1 hx];omega
 ·rw [extL,lsum_flat,sumW_snoc]
  refine sm_congr fun a ha=>?_
  rw [lsum_map,h.sum]
  exact sumW_congr fun w hw=>by rw [ax_unit F hi (by omega) (by omega) hw]
theorem alI_span {most n : Nat} : ∀ (k i : Nat),i + k = n → ∀ {L K : List (List Int)},AlI q n i L → spanS q most A M ((List.range' i k).map (unitW n)) L = some K → AlI q n n K
 | 0,i,hi,L,K,h,e=>by
  rw [List.range'_zero,List.map_nil,spanS,Option.some.injEq] at e
  subst e
  obtain rfl : i = n:=by omega
  exact h
 | k + 1,i,hi,L,K,h,e=>by
  obtain ⟨h1,h2⟩:=alI_ext F (show i < n by omega) h
  rw [List.range'_succ,List.map_cons,spanS,if_neg h1] at e
  by_cases hb : most / q < L.length
  ·rw [if_pos hb] at e;cases e
  ·rw [if_neg hb] at e
   exact alI_span k (i + 1) (by omega) h2 e
omit F in
theorem al_wd {n : Nat} {L : List (List Int)} (h : AlI q n n L) : (∀ u ∈ L,Wd q n u) ∧ ∀ g,lsum L g = sumW q n g:=by
 refine ⟨fun u hu=>?_,fun g=>?_⟩
 ·obtain ⟨w,hw,rfl⟩:=h.fo u hu
  rw [Nat.sub_self];simpa using hw
 ·rw [h.sum,Nat.sub_self];simp
theorem mac_gen {n : Nat} {rows L K : List (List Int)} (h : SpI q n A M rows L) (hK : AlI q n n K) {P Q : List Int → Int} (hPQ : ∀ c,Wd q n c → sumW q n (fun d=>kap0 q (dotL A M d c) * P d) = ((q : Int) - 1) * Q c) :
  (L.length : Int) * lsum (K.filter (orthB A M rows)) P = lsum L Q:=by
 have hq:=F.q2
 have e1 : lsum L (fun c=>sumW q n (fun d=>kap0 q (dotL A M d c) * P d)) = ((q : Int) - 1) * lsum L Q:=by
  rw [← lsum_mul];exact lsum_congr fun c hc=>hPQ c (h.wd c hc)
 have e2 : lsum L (fun c=>sumW q n (fun d=>kap0 q (dotL A M d c) * P d)) = ((q : Int) - 1) * (L.length * lsum (K.filter (orthB A M rows)) P):=by
  rw [lsum_sumW,lsum_filter,(al_wd hK).2,← sumW_mul,← sumW_mul]
  refine sumW_congr fun d hd=>?_
  have hs:=h.sum d 0 hd (Int.le_refl 0) F.z
  have e3 : lsum L (fun u=>kap0 q (dotL A M d u) * P d) = P d * lsum L (fun c=>kap0 q (A 0 (dotL A M d c))):=by
   rw [← lsum_mul]
   refine lsum_congr fun u hu=>?_
   obtain ⟨u0,u1⟩:=F.dlt hd (h.wd u hu)
   rw [F.ac 0 _ (Int.le_refl 0) F.z u0 u1,F.a0 _ u0 u1,Int.mul_comm]
  rw [e3,hs]
  split
  ·rw [kap0,if_pos rfl];grind
  ·simp
 have:=e1.symm.trans e2
 exact (Int.mul_eq_mul_left_iff (show (q : Int) - 1 ≠ 0 by omega)).1 this.symm
end
set_option maxRecDepth 100000
set_option linter.unusedVariables false
set_option linter.unusedSimpArgs false
def wt : List Int → Nat
 | []=>0
 | x::u=>(if x = 0 then 0 else 1) + wt u
theorem wt_le : ∀ u : List Int,wt u ≤ u.length
 | []=>Nat.le_refl 0
 | x::u=>by have:=wt_le u;rw [wt,List.length_cons];split <;> omega
theorem wt_zW : ∀ n,wt (zW n) = 0
 | 0=>rfl
 | n + 1=>by show (if (0 : Int) = 0 then 0 else 1) + wt (zW n) = 0;rw [if_pos rfl,wt_zW n]
theorem dist_zW : ∀ (n : Nat) (u : List Int),u.length = n → dist u (zW n) = wt u
 | 0,u,h=>by rw [List.length_eq_zero_iff.1 h];rfl
 | n + 1,[],h=>by simp at h
 | n + 1,x::u,h=>by
  show (if x = 0 then 0 else 1) + dist u (zW n) = (if x = 0 then 0 else 1) + wt u
  rw [dist_zW n u (by simpa using h)]
def cntW (L : List (List Int)) (j : Nat) : Int:=lsum L (fun u=>if wt u = j then 1 else 0)
theorem lsum_wt {n : Nat} {L : List (List Int)} (hL : ∀ u ∈ L,u.length = n) (f : Nat → Int) : lsum L (fun u=>f (wt u)) = sm (n + 1) (fun i=>f i * cntW L i):=by
 have e : lsum L (fun u=>f (wt u)) = lsum L (fun u=>sm (n + 1) (fun i=>if wt u = i then f i else 0)):=lsum_congr fun u hu=>by
  have:=wt_le u
  rw [hL u hu] at this
  exact (sm_pick (by omega) f).symm
 rw [e,lsum_sm]
 refine sm_congr fun i _=>?_
 rw [cntW,← lsum_mul]
 exact lsum_congr fun u _=>by split <;> simp
section
variable {q : Nat} {A M : Int → Int → Int} (F : FI q A M)
include F
theorem FI.place {n : Nat} {c0 : Int} {c : List Int} (x0 : 0 ≤ c0) (x1 : c0 < q) (hc : Wd q n c) {P P0 P1 : List Int → Int} {Q0 Q1 : Int} (hP : ∀ a d,Wd q n d → P (a::d) = if a = 0 then P0 d else P1 d)
  (h0 : ∀ t : Int,0 ≤ t → t < q → sumW q n (fun d=>kap0 q (A t (dotL A M d c)) * P0 d) = kap0 q t * Q0) (h1 : ∀ t : Int,0 ≤ t → t < q → sumW q n (fun d=>kap0 q (A t (dotL A M d c)) * P1 d) = kap0 q t * Q1)
  (t : Int) (t0 : 0 ≤ t) (t1 : t < q) : sumW q (n + 1) (fun d=>kap0 q (A t (dotL A M d (c0::c))) * P d) = kap0 q t * (Q0 - Q1 + if c0 = 0 then q * Q1 else 0):=by
 have hz:=F.z
 have e1 : sumW q (n + 1) (fun d=>kap0 q (A t (dotL A M d (c0::c))) * P d) = sm q (fun a=>kap0 q (A t (M a c0)) * Q1 + if 0 = a then kap0 q t * (Q0 - Q1) else 0):=by
  rw [sumW]
  refine sm_congr fun a ha=>?_
  obtain ⟨m0,m1⟩:=F.ml a c0 (by omega) (by omega) x0 x1
  obtain ⟨b0,b1⟩:=F.al t _ t0 t1 m0 m1
  have e2 : sumW q n (fun w=>kap0 q (A t (dotL A M ((a : Int)::w) (c0::c))) * P ((a : Int)::w)) = sumW q n (fun w=>kap0 q (A (A t (M a c0)) (dotL A M w c)) * if (a : Int) = 0 then P0 w else P1 w):=sumW_congr fun w hw=>by
   obtain ⟨u0,u1⟩:=F.dlt hw hc
   rw [hP _ _ hw]
   show kap0 q (A t (A (M a c0) (dotL A M w c))) * _ = _
   rw [F.aa t _ _ t0 t1 m0 m1 u0 u1]
  rw [e2]
  by_cases h : a = 0
  ·subst h
   have em : A t (M ((0 : Nat) : Int) c0) = t:=by rw [F.mc _ c0 (by omega) (by omega) x0 x1];show A t (M c0 0) = t;rw [F.m0 x0 x1,F.a0 t t0 t1]
   rw [em,if_pos rfl]
   simp only [show ((0 : Nat) : Int) = 0 from rfl,if_pos]
   rw [h0 t t0 t1];grind
  ·rw [if_neg (fun e=>h e.symm)]
   simp only [show ¬ (a : Int) = 0 by omega,if_neg,not_false_eq_true]
   rw [h1 _ b0 b1];omega
 have e3 : sm q (fun a=>kap0 q (A t (M a c0)) * Q1) = Q1 * (if c0 = 0 then q * kap0 q t else 0):=by
  rw [← F.line t0 t1 x0 x1,← sm_mul];exact sm_congr fun a _=>Int.mul_comm _ _
 rw [e1,sm_add,e3,sm_pick (by omega) (fun _=>kap0 q t * (Q0 - Q1))]
 split <;> grind
theorem FI.wtK : ∀ {n : Nat} {c : List Int},Wd q n c → ∀ (j : Nat) (t : Int),0 ≤ t → t < q → sumW q n (fun d=>kap0 q (A t (dotL A M d c)) * if wt d = j then 1 else 0) = kap0 q t * kr ((q : Int) - 1) n j (wt c)
 | 0,c,hc,j,t,t0,t1=>by
  rw [List.length_eq_zero_iff.1 hc.1]
  show kap0 q (A t 0) * (if 0 = j then 1 else 0) = _
  rw [F.a0 t t0 t1]
  cases j with
  | zero=>rfl
  | succ j=>rfl
 | n + 1,[],hc,_,_,_,_=>by have:=hc.1;simp at this
 | n + 1,c0::c,hc,j,t,t0,t1=>by
  obtain ⟨x0,x1⟩:=hc.2 c0 (.head _)
  have hc' : Wd q n c:=⟨by simpa using hc.1,fun z hz=>hc.2 z (.tail _ hz)⟩
  have ih:=FI.wtK hc'
  have hw : wt c ≤ n:=by have:=wt_le c;rw [hc'.1] at this;exact this
  have h:=F.place (P:=fun d=>if wt d = j then 1 else 0) (P0:=fun d=>if wt d = j then 1 else 0) (P1:=fun d=>bf (fun j=>if wt d = j then 1 else 0) j) (Q0:=kr ((q : Int) - 1) n j (wt c)) (Q1:=bf (fun k=>kr ((q : Int) - 1) n k (wt c)) j) x0 x1 hc' (fun a d _=>by
    by_cases ha : a = 0
    ·rw [if_pos ha];show (if (if a = 0 then 0 else 1) + wt d = j then (1 : Int) else 0) = _;rw [if_pos ha,Nat.zero_add]
    ·rw [if_neg ha];show (if (if a = 0 then 0 else 1) + wt d = j then (1 : Int) else 0) = _;rw [if_neg ha]
     cases j with
     | zero=>rw [if_neg (by omega)];rfl
     | succ j =>
      show _ = if wt d = j then 1 else 0
      by_cases e : wt d = j
      ·rw [if_pos e,if_pos (by omega)]
      ·rw [if_neg e,if_neg (by omega)]) (fun t t0 t1=>ih j t t0 t1) (fun t t0 t1=>by
    cases j with
    | zero =>
     have:=sumW_mul (q:=q) 0 n (fun _=>0)
     simp only [Int.zero_mul] at this
     simp only [bf,Int.mul_zero];exact this
    | succ j=>exact ih j t t0 t1) t t0 t1
  rw [h]
  congr 1
  by_cases hc0 : c0 = 0
  ·rw [if_pos hc0,wt,if_pos hc0,Nat.zero_add,kr_in _ hw];grind
  ·rw [if_neg hc0,wt,if_neg hc0,Nat.add_comm 1,kr_out];omega
theorem mac_wt {n : Nat} {rows L K : List (List Int)} (h : SpI q n A M rows L) (hK : AlI q n n K) (j : Nat) :
  (L.length : Int) * cntW (K.filter (orthB A M rows)) j = lsum L (fun c=>kr ((q : Int) - 1) n j (wt c)) :=
 mac_gen F h hK fun c hc=>by
  have:=F.wtK hc j 0 (Int.le_refl 0) F.z
  have e : sumW q n (fun d=>kap0 q (dotL A M d c) * if wt d = j then 1 else 0) = sumW q n (fun d=>kap0 q (A 0 (dotL A M d c)) * if wt d = j then 1 else 0):=sumW_congr fun d hd=>by
   obtain ⟨u0,u1⟩:=F.dlt hd hc
   rw [F.ac 0 _ (Int.le_refl 0) F.z u0 u1,F.a0 _ u0 u1]
  rw [e,this,kap0,if_pos rfl]
end
set_option maxRecDepth 100000
set_option linter.unusedVariables false
set_option linter.unusedSimpArgs false
def annih (S : List Nat) (j : Nat) : Int:=match S with
 | []=>1
 | i::S=>((i : Int) - j) * annih S j
theorem annih_zero {S : List Nat} {j : Nat} (h : j ∈ S) : annih S j = 0:=by
 induction S with
 | nil=>cases h
 | cons i S ih =>
  rw [annih]
  rcases List.mem_cons.1 h with rfl | h
  ·simp
  ·rw [ih h,Int.mul_zero]
theorem band_annih {a : Int} (ha : a + 1 ≠ 0) (n : Nat) : ∀ S : List Nat,band a n S.length (annih S)
 | []=>band_congr (fun k _=>kr_zero a n k) (band_kr a n 0)
 | i::S=>by
  have ih:=band_annih ha n S
  refine band_congr (f:=fun k=>(i : Int) * annih S k + (-1) * ((k : Int) * annih S k)) (fun k _=>by rw [annih];grind) ?_
  exact band_add (band_mul _ (band_le ih (by simp))) (band_mul _ (band_step ha ih))
theorem sumW_zero {q : Nat} (n : Nat) : sumW q n (fun _=>0) = 0:=by
 have e9:=sumW_mul (q:=q) 0 n (fun _=>0)
 simp only [Int.zero_mul] at e9
 exact e9
theorem sumW_point {q : Nat} (c : Int) : ∀ {n : Nat} {d : List Int},Wd q n d → sumW q n (fun w=>if w = d then c else 0) = c
 | 0,d,hd=>by rw [List.length_eq_zero_iff.1 hd.1];show (if ([] : List Int) = [] then c else 0) = c;rw [if_pos rfl]
 | n + 1,[],hd=>by have:=hd.1;simp at this
 | n + 1,x::d,hd=>by
  obtain ⟨x0,x1⟩:=hd.2 x (.head _)
  have ih:=sumW_point c (n:=n) (d:=d) ⟨by simpa using hd.1,fun z hz=>hd.2 z (.tail _ hz)⟩
  rw [sumW]
  have e6 : sm q (fun a=>sumW q n (fun w=>if (a : Int)::w = x::d then c else 0)) = sm q (fun a=>if x.toNat = a then (fun _=>c) a else 0):=sm_congr fun a _=>by
   by_cases e : x.toNat = a
   ·rw [if_pos e]
    have hx : (a : Int) = x:=by omega
    have e7 : sumW q n (fun w=>if (a : Int)::w = x::d then c else 0) = sumW q n (fun w=>if w = d then c else 0):=sumW_congr fun w _=>by
     by_cases e8 : w = d
     ·rw [if_pos e8,if_pos (by rw [e8,hx])]
     ·rw [if_neg e8,if_neg fun e9=>e8 (List.cons.inj e9).2]
    rw [e7,ih]
   ·rw [if_neg e]
    refine Eq.trans ?_ (sumW_zero (q:=q) n)
    exact sumW_congr fun w _=>if_neg fun e8 : (a : Int)::w = x::d=>by have:=(List.cons.inj e8).1;omega
  rw [e6,sm_pick (by omega) (fun _=>c)]
section
variable {q : Nat} {A M : Int → Int → Int} (F : FI q A M)
include F
theorem FI.neg : ∀ {n : Nat} {y : List Int},Wd q n y → ∃ v,Wd q n v ∧ ∀ c,Wd q n c → wt (axp A M 1 c v) = dist c y
 | 0,y,hy=>⟨[],⟨rfl,fun x hx=>by cases hx⟩,fun c hc=>by
   rw [List.length_eq_zero_iff.1 hy.1,List.length_eq_zero_iff.1 hc.1];rfl⟩
 | n + 1,[],hy=>by have:=hy.1;simp at this
 | n + 1,y0::y,hy=>by
  have hq:=F.q2
  obtain ⟨a0,a1⟩:=hy.2 y0 (.head _)
  obtain ⟨w,⟨w0,w1⟩,e⟩:=F.an y0 a0 a1
  obtain ⟨v,hv,hd⟩:=FI.neg (n:=n) (y:=y) ⟨by simpa using hy.1,fun z hz=>hy.2 z (.tail _ hz)⟩
  refine ⟨w::v,⟨by rw [List.length_cons,hv.1],fun x hx=>?_⟩,fun c hc=>?_⟩
  ·rcases List.mem_cons.1 hx with rfl | hx
   ·exact ⟨w0,w1⟩
   ·exact hv.2 x hx
  ·cases c with
   | nil=>have:=hc.1;simp at this
   | cons c0 c =>
    obtain ⟨b0,b1⟩:=hc.2 c0 (.head _)
    have ih:=hd c ⟨by simpa using hc.1,fun z hz=>hc.2 z (.tail _ hz)⟩
    show (if A w (M 1 c0) = 0 then 0 else 1) + wt (axp A M 1 c v) = (if c0 = y0 then 0 else 1) + dist c y
    rw [ih,F.mc 1 c0 (by omega) (by omega) b0 b1,F.m1 c0 b0 b1]
    have e2 : A w y0 = 0:=by rw [F.ac w y0 w0 w1 a0 a1];exact e
    by_cases h : c0 = y0
    ·subst h;rw [if_pos e2,if_pos rfl]
    ·rw [if_neg h,if_neg fun h2=>h (F.cancel w0 w1 b0 b1 a0 a1 (h2.trans e2.symm))]
omit F in
theorem wt_pos {n : Nat} : ∀ {u : List Int},u.length = n → wt u = 0 → u = zW n:=by
 intro u hu h
 induction u generalizing n with
 | nil=>subst hu;rfl
 | cons x u ih =>
  subst hu
  rw [wt] at h
  by_cases hx : x = 0
  ·subst hx
   rw [if_pos rfl,Nat.zero_add] at h
   rw [ih rfl h];simp [zW,List.replicate_succ]
  ·rw [if_neg hx] at h;omega
omit F in
theorem cntW_mem {L : List (List Int)} {u : List Int} (h : u ∈ L) : 1 ≤ cntW L (wt u):=by
 have:=lsum_mem (g:=fun v=>if wt v = wt u then (1 : Int) else 0) (L:=L) (fun v _=>by split <;> decide) u h
 simp only [if_pos] at this
 exact this
end
set_option maxRecDepth 100000
set_option linter.unusedVariables false
set_option linter.unusedSimpArgs false
section
variable {q : Nat} {A M : Int → Int → Int} (F : FI q A M)
include F
theorem FI.one : (0 : Int) ≤ 1 ∧ (1 : Int) < q:=by have:=F.q2;omega
theorem FI.zl {x : Int} (x0 : 0 ≤ x) (x1 : x < q) : A 0 x = x:=by
 rw [F.ac 0 x (Int.le_refl 0) F.z x0 x1,F.a0 x x0 x1]
end
set_option maxRecDepth 100000
set_option linter.unusedVariables false
set_option linter.unusedSimpArgs false
def sumM (q : Nat) : List Bool → (List Int → Int) → Int
 | [],g=>g []
 | true::m,g=>sumM q m (fun w=>g (0::w))
 | false::m,g=>sm q (fun a=>sumM q m (fun w=>g ((a : Int)::w)))
def wtM : List Bool → List Int → Nat
 | b::m,x::c=>(if b = true then 0 else if x = 0 then 0 else 1) + wtM m c
 | _,_=>0
def nF : List Bool → Nat
 | []=>0
 | b::m=>(if b = true then 0 else 1) + nF m
def onM : List Bool → List Int → Bool
 | b::m,x::c=>(!b || decide (x ≠ 0)) && onM m c
 | _,_=>true
theorem wtM_le : ∀ (m : List Bool) (c : List Int),wtM m c ≤ nF m
 | [],[]=>Nat.le_refl 0
 | [],_::_=>Nat.le_refl 0
 | _::_,[]=>Nat.zero_le _
 | b::m,x::c=>by
  have:=wtM_le m c
  rw [wtM,nF]
  by_cases hb : b = true
  ·rw [if_pos hb,if_pos hb];omega
  ·rw [if_neg hb,if_neg hb];split <;> omega
theorem wtM_wt : ∀ (m : List Bool) (c : List Int),wtM m c ≤ wt c
 | [],[]=>Nat.zero_le _
 | [],_::_=>Nat.zero_le _
 | _::_,[]=>Nat.zero_le _
 | b::m,x::c=>by
  have:=wtM_wt m c
  rw [wtM,wt]
  by_cases hb : b = true
  ·rw [if_pos hb];split <;> omega
  ·rw [if_neg hb];omega
def offM : List Bool → List Int → Prop
 | b::m,x::c=>(b = true → x = 0) ∧ offM m c
 | _,_=>True
theorem sumM_congr {q : Nat} (hq : 0 < q) : ∀ {m : List Bool} {f g : List Int → Int},(∀ w,Wd q m.length w → offM m w → f w = g w) → sumM q m f = sumM q m g
 | [],f,g,h=>h [] ⟨rfl,fun x hx=>by cases hx⟩ trivial
 | true::m,f,g,h=>show sumM q m (fun w=>f (0::w)) = sumM q m (fun w=>g (0::w)) from sumM_congr hq fun w hw ho=>h (0::w) ⟨by rw [List.length_cons,hw.1];rfl,fun x hx=>by
   rcases List.mem_cons.1 hx with rfl | hx
   ·omega
   ·exact hw.2 x hx⟩ (show (true = true → (0 : Int) = 0) ∧ offM m w from ⟨fun _=>rfl,ho⟩)
 | false::m,f,g,h=>sm_congr fun a ha=>sumM_congr hq fun w hw ho=>h ((a : Int)::w) ⟨by rw [List.length_cons,hw.1];rfl,fun x hx=>by
   rcases List.mem_cons.1 hx with rfl | hx
   ·omega
   ·exact hw.2 x hx⟩ (show (false = true → (a : Int) = 0) ∧ offM m w from ⟨fun e=>(by cases e),ho⟩)
theorem sumM_mul {q : Nat} (c : Int) : ∀ (m : List Bool) (f : List Int → Int),sumM q m (fun w=>c * f w) = c * sumM q m f
 | [],_=>rfl
 | true::m,f=>sumM_mul c m _
 | false::m,f=>by
  rw [sumM,sumM,← sm_mul]
  exact sm_congr fun a _=>sumM_mul c m _
theorem sumM_add {q : Nat} : ∀ (m : List Bool) (f g : List Int → Int),sumM q m (fun w=>f w + g w) = sumM q m f + sumM q m g
 | [],_,_=>rfl
 | true::m,f,g=>sumM_add m _ _
 | false::m,f,g=>by
  rw [sumM,sumM,sumM,← sm_add]
  exact sm_congr fun a _=>sumM_add m _ _
theorem sumM_sm {q : Nat} (N : Nat) : ∀ (m : List Bool) (f : Nat → List Int → Int),sumM q m (fun w=>sm N (fun i=>f i w)) = sm N (fun i=>sumM q m (f i))
 | [],_=>rfl
 | true::m,f=>sumM_sm N m fun i w=>f i (0::w)
 | false::m,f=>by
  rw [sumM,sm_congr fun a _=>sumM_sm N m (fun i w=>f i ((a : Int)::w)),sm_swap]
  rfl
theorem sumM_zero {q : Nat} (m : List Bool) : sumM q m (fun _=>0) = 0:=by
 have e9:=sumM_mul (q:=q) 0 m (fun _=>0)
 simp only [Int.zero_mul] at e9
 exact e9
theorem lsum_sumM {q : Nat} (f : List Int → List Int → Int) (m : List Bool) : ∀ L : List (List Int),lsum L (fun u=>sumM q m (fun d=>f d u)) = sumM q m (fun d=>lsum L (f d))
 | []=>(sumM_zero m).symm
 | u::L=>by rw [lsum,lsum_sumM f m L,← sumM_add];rfl
theorem sumM_origin {q : Nat} (hq : 0 < q) (c : Int) : ∀ m : List Bool,sumM q m (fun d=>if d = zW m.length then c else 0) = c
 | []=>by show (if ([] : List Int) = [] then c else 0) = c;rw [if_pos rfl]
 | true::m=>by
  have ih:=sumM_origin hq c m
  show sumM q m (fun w=>if (0 : Int)::w = zW (m.length + 1) then c else 0) = c
  refine Eq.trans (sumM_congr hq fun w _ _=>?_) ih
  show (if (0 : Int)::w = 0::zW m.length then c else 0) = _
  by_cases e8 : w = zW m.length
  ·rw [if_pos e8,if_pos (by rw [e8])]
  ·rw [if_neg e8,if_neg fun e9 : (0 : Int)::w = 0::zW m.length=>e8 (List.cons.inj e9).2]
 | false::m=>by
  have ih:=sumM_origin hq c m
  have e6 : sm q (fun a=>sumM q m (fun w=>if (a : Int)::w = zW (m.length + 1) then c else 0)) = sm q (fun a=>if 0 = a then (fun _=>c) a else 0):=sm_congr fun a _=>by
   by_cases e : 0 = a
   ·subst e
    rw [if_pos rfl]
    refine Eq.trans (sumM_congr hq fun w _ _=>?_) ih
    show (if (0 : Int)::w = 0::zW m.length then c else 0) = _
    by_cases e8 : w = zW m.length
    ·rw [if_pos e8,if_pos (by rw [e8])]
    ·rw [if_neg e8,if_neg fun e9 : (0 : Int)::w = 0::zW m.length=>e8 (List.cons.inj e9).2]
   ·rw [if_neg e]
    refine Eq.trans ?_ (sumM_zero (q:=q) m)
    exact sumM_congr hq fun w _ _=>if_neg fun e8 : (a : Int)::w = 0::zW m.length=>by have:=(List.cons.inj e8).1;omega
  show sm q (fun a=>sumM q m (fun w=>if (a : Int)::w = zW (m.length + 1) then c else 0)) = c
  rw [e6,sm_pick hq (fun _=>c)]
theorem off_wt : ∀ {m : List Bool} {d : List Int},d.length = m.length → offM m d → wt d ≤ nF m
 | [],[],_,_=>Nat.le_refl 0
 | [],_::_,h,_=>by simp at h
 | _::_,[],h,_=>by simp at h
 | b::m,x::d,h,ho=>by
  have ih:=off_wt (m:=m) (d:=d) (by simpa using h) ho.2
  rw [wt,nF]
  cases b with
  | true=>rw [if_pos (ho.1 rfl),if_pos rfl];omega
  | false=>rw [if_neg (show ¬ false = true by decide)];split <;> omega
theorem wtM_low : ∀ {m : List Bool} {c : List Int},c.length = m.length → wt c + nF m ≤ wtM m c + m.length ∧ (wt c + nF m = wtM m c + m.length ↔ onM m c = true)
 | [],[],_=>⟨Nat.le_refl _,fun _=>rfl,fun _=>rfl⟩
 | [],_::_,h=>by simp at h
 | _::_,[],h=>by simp at h
 | b::m,x::c,h=>by
  obtain ⟨i1,i2⟩:=wtM_low (m:=m) (c:=c) (by simpa using h)
  rw [wt,nF,wtM,List.length_cons,onM,Bool.and_eq_true,← i2]
  cases b with
  | true =>
   simp only [if_true,Bool.not_true,Bool.false_or,decide_eq_true_eq]
   by_cases hx : x = 0
   ·rw [if_pos hx]
    exact ⟨by omega,fun e=>by omega,fun e=>absurd hx e.1⟩
   ·rw [if_neg hx]
    exact ⟨by omega,fun e=>⟨hx,by omega⟩,fun e=>by omega⟩
  | false =>
   rw [if_neg (show ¬ false = true by decide),if_neg (show ¬ false = true by decide)]
   refine ⟨by split <;> omega,fun e=>⟨rfl,by split at e <;> omega⟩,fun e=>by split <;> omega⟩
theorem exact_annih {a : Int} (ha : 1 ≤ a) (n : Nat) : ∀ S : List Nat,S.length ≤ n → uT a n (annih S) S.length ≠ 0
 | [],_=>by
  have h:=uT_kr a n 0 0
  rw [if_pos rfl,uT_congr (g:=annih []) (fun k _=>kr_zero a n k)] at h
  show uT a n (annih []) 0 ≠ 0
  rw [h,Int.pow_zero,binom_zero]
  have:=Int.pow_pos (m:=n) (show 0 < a + 1 by omega)
  intro h0
  rw [Int.one_mul] at h0
  simp at h0
  omega
 | i::S,hl=>by
  have hl : S.length + 1 ≤ n:=hl
  have ih:=exact_annih ha n S (by omega)
  have hb:=band_annih (a:=a) (by omega) n S
  have h:=uT_step a (n:=n) (x:=S.length + 1) (by omega) (annih S)
  rw [hb (S.length + 1) (by omega),hb (S.length + 1 + 1) (by omega),Nat.add_sub_cancel] at h
  have e : uT a n (annih (i::S)) (S.length + 1) = (i : Int) * uT a n (annih S) (S.length + 1) + (-1) * uT a n (fun k=>(k : Int) * annih S k) (S.length + 1):=by
   rw [← uT_mul,← uT_mul,← uT_add]
   exact uT_congr (fun k _=>by rw [annih];grind) _
  rw [List.length_cons,e,hb (S.length + 1) (by omega)]
  intro h0
  have h1 : uT a n (fun k=>(k : Int) * annih S k) (S.length + 1) = 0:=by omega
  rw [h1] at h
  have h2 : a * ((n : Int) - ((S.length + 1 : Nat) : Int) + 1) * uT a n (annih S) S.length = 0:=by omega
  rcases Int.mul_eq_zero.1 h2 with h3 | h3
  ·rcases Int.mul_eq_zero.1 h3 with h4 | h4 <;> omega
  ·exact ih h3
section
variable {q : Nat} {A M : Int → Int → Int} (F : FI q A M)
include F
theorem FI.wtKM : ∀ {m : List Bool} {c : List Int},Wd q m.length c → ∀ (j : Nat) (t : Int),0 ≤ t → t < q → sumM q m (fun d=>kap0 q (A t (dotL A M d c)) * if wt d = j then 1 else 0) = kap0 q t * kr ((q : Int) - 1) (nF m) j (wtM m c)
 | [],c,hc,j,t,t0,t1=>by
  rw [List.length_eq_zero_iff.1 hc.1]
  show kap0 q (A t 0) * (if 0 = j then 1 else 0) = _
  rw [F.a0 t t0 t1]
  cases j with
  | zero=>rfl
  | succ j=>rfl
 | _::_,[],hc,_,_,_,_=>by have:=hc.1;simp at this
 | true::m,c0::c,hc,j,t,t0,t1=>by
  obtain ⟨x0,x1⟩:=hc.2 c0 (.head _)
  have hc' : Wd q m.length c:=⟨by simpa using hc.1,fun z hz=>hc.2 z (.tail _ hz)⟩
  have ih:=FI.wtKM hc' j t t0 t1
  rw [nF,wtM,if_pos rfl,if_pos rfl,Nat.zero_add,Nat.zero_add,← ih]
  have hq:=F.q2
  refine (show sumM q m (fun d=>kap0 q (A t (dotL A M (0::d) (c0::c))) * if wt (0::d) = j then 1 else 0) = _ from sumM_congr (q:=q) (by omega) fun d hd _=>?_)
  obtain ⟨u0,u1⟩:=F.dlt hd hc'
  show kap0 q (A t (A (M 0 c0) (dotL A M d c))) * (if (if (0 : Int) = 0 then 0 else 1) + wt d = j then 1 else 0) = _
  rw [F.mc 0 c0 (Int.le_refl 0) F.z x0 x1,F.m0 x0 x1,F.zl u0 u1,if_pos rfl,Nat.zero_add]
 | false::m,c0::c,hc,j,t,t0,t1=>by
  obtain ⟨x0,x1⟩:=hc.2 c0 (.head _)
  have hc' : Wd q m.length c:=⟨by simpa using hc.1,fun z hz=>hc.2 z (.tail _ hz)⟩
  have hq:=F.q2
  have ih:=FI.wtKM hc'
  have hz:=F.z
  have hw : wtM m c ≤ nF m:=by
   exact wtM_le m c
  have ihb : ∀ t : Int,0 ≤ t → t < q → sumM q m (fun d=>kap0 q (A t (dotL A M d c)) * bf (fun k=>if wt d = k then 1 else 0) j) = kap0 q t * bf (fun k=>kr ((q : Int) - 1) (nF m) k (wtM m c)) j:=fun t t0 t1=>by
   cases j with
   | zero=>simp only [bf,Int.mul_zero];exact sumM_zero m
   | succ j=>exact ih j t t0 t1
  generalize hQ0 : kr ((q : Int) - 1) (nF m) j (wtM m c) = Q0 at *
  generalize hQ1 : bf (fun k=>kr ((q : Int) - 1) (nF m) k (wtM m c)) j = Q1 at *
  have e1 : sumM q (false::m) (fun d=>kap0 q (A t (dotL A M d (c0::c))) * if wt d = j then 1 else 0) = sm q (fun a=>kap0 q (A t (M a c0)) * Q1 + if 0 = a then kap0 q t * (Q0 - Q1) else 0):=by
   rw [sumM]
   refine sm_congr fun a ha=>?_
   obtain ⟨m0,m1⟩:=F.ml a c0 (by omega) (by omega) x0 x1
   obtain ⟨b0,b1⟩:=F.al t _ t0 t1 m0 m1
   by_cases h : a = 0
   ·subst h
    have em : A t (M ((0 : Nat) : Int) c0) = t:=by rw [F.mc _ c0 (by omega) (by omega) x0 x1];show A t (M c0 0) = t;rw [F.m0 x0 x1,F.a0 t t0 t1]
    rw [em,if_pos rfl]
    have e2 : sumM q m (fun w=>kap0 q (A t (dotL A M (((0 : Nat) : Int)::w) (c0::c))) * if wt (((0 : Nat) : Int)::w) = j then 1 else 0) = sumM q m (fun w=>kap0 q (A t (dotL A M w c)) * if wt w = j then 1 else 0):=sumM_congr (by omega) fun w hw' _=>by
     obtain ⟨u0,u1⟩:=F.dlt hw' hc'
     show kap0 q (A t (A (M 0 c0) (dotL A M w c))) * (if (if (0 : Int) = 0 then 0 else 1) + wt w = j then 1 else 0) = _
     rw [F.mc 0 c0 (Int.le_refl 0) F.z x0 x1,F.m0 x0 x1,F.zl u0 u1,if_pos rfl,Nat.zero_add]
    rw [e2,ih j t t0 t1,hQ0];grind
   ·rw [if_neg (fun e=>h e.symm)]
    have e2 : sumM q m (fun w=>kap0 q (A t (dotL A M ((a : Int)::w) (c0::c))) * if wt ((a : Int)::w) = j then 1 else 0) = sumM q m (fun w=>kap0 q (A (A t (M a c0)) (dotL A M w c)) * bf (fun k=>if wt w = k then 1 else 0) j):=sumM_congr (by omega) fun w hw' _=>by
     obtain ⟨u0,u1⟩:=F.dlt hw' hc'
     show kap0 q (A t (A (M a c0) (dotL A M w c))) * (if (if (a : Int) = 0 then 0 else 1) + wt w = j then 1 else 0) = _
     rw [F.aa t _ _ t0 t1 m0 m1 u0 u1,if_neg (show ¬ (a : Int) = 0 by omega)]
     congr 1
     cases j with
     | zero=>rw [if_neg (by omega)];rfl
     | succ j =>
      show _ = if wt w = j then 1 else 0
      by_cases e : wt w = j
      ·rw [if_pos e,if_pos (by omega)]
      ·rw [if_neg e,if_neg (by omega)]
    rw [e2,ihb _ b0 b1];omega
  have e3 : sm q (fun a=>kap0 q (A t (M a c0)) * Q1) = Q1 * (if c0 = 0 then q * kap0 q t else 0):=by
   rw [← F.line t0 t1 x0 x1,← sm_mul];exact sm_congr fun a _=>Int.mul_comm _ _
  rw [e1,sm_add,e3,sm_pick (by omega) (fun _=>kap0 q t * (Q0 - Q1)),nF,wtM,if_neg (show ¬ false = true by decide),if_neg (show ¬ false = true by decide),Nat.add_comm 1 (nF m)]
  by_cases hc0 : c0 = 0
  ·rw [if_pos hc0,if_pos hc0,Nat.zero_add,kr_in _ hw,hQ0,hQ1];grind
  ·rw [if_neg hc0,if_neg hc0,Nat.add_comm 1,kr_out,hQ0,hQ1];grind
theorem FI.wtGM {m : List Bool} {c : List Int} (hc : Wd q m.length c) (G : Nat → Int) : sumM q m (fun d=>kap0 q (dotL A M d c) * G (wt d)) = ((q : Int) - 1) * sm (nF m + 1) (fun j=>G j * kr ((q : Int) - 1) (nF m) j (wtM m c)):=by
 have hq:=F.q2
 have e1 : sumM q m (fun d=>kap0 q (dotL A M d c) * G (wt d)) = sumM q m (fun d=>sm (nF m + 1) (fun j=>G j * (kap0 q (A 0 (dotL A M d c)) * if wt d = j then 1 else 0))):=sumM_congr (by omega) fun d hd ho=>by
  obtain ⟨u0,u1⟩:=F.dlt hd hc
  have hw:=off_wt hd.1 ho
  rw [F.zl u0 u1,sm_congr (g:=fun j=>if wt d = j then kap0 q (dotL A M d c) * G j else 0) fun j _=>by split <;> grind,sm_pick (by omega) (fun j=>kap0 q (dotL A M d c) * G j)]
 rw [e1,sumM_sm,← sm_mul]
 refine sm_congr fun j _=>?_
 rw [sumM_mul,F.wtKM hc j 0 (Int.le_refl 0) F.z,kap0,if_pos rfl];grind
omit F in
theorem al_mem {n : Nat} {K : List (List Int)} (hK : AlI q n n K) {d : List Int} (hd : Wd q n d) : d ∈ K:=by
 have:=(al_wd hK).2 (fun w=>if w = d then 1 else 0)
 refine Classical.byContradiction fun hn=>?_
 have e5 : lsum K (fun w=>if w = d then (1 : Int) else 0) = 0:=by
  have : lsum K (fun w=>if w = d then (1 : Int) else 0) = lsum K (fun _=>0):=lsum_congr fun w hw=>if_neg fun e=>hn (by rw [← e];exact hw)
  rw [this,lsum_const,Int.zero_mul]
 rw [e5,sumW_point 1 hd] at this
 omega
theorem mask_sum {n : Nat} {rows L K : List (List Int)} (h : SpI q n A M rows L) (hr : ∀ r ∈ rows,Wd q n r) (hK : AlI q n n K) {m : List Bool} (hm : m.length = n) {G : Nat → Int} (hG : ∀ j,1 ≤ j → j ≤ nF m → cntW (K.filter (orthB A M rows)) j ≠ 0 → G j = 0) :
  lsum L (fun c=>sm (nF m + 1) (fun j=>G j * kr ((q : Int) - 1) (nF m) j (wtM m c))) = L.length * G 0:=by
 have hq:=F.q2
 have e1 : lsum L (fun c=>sumM q m (fun d=>kap0 q (dotL A M d c) * G (wt d))) = ((q : Int) - 1) * lsum L (fun c=>sm (nF m + 1) (fun j=>G j * kr ((q : Int) - 1) (nF m) j (wtM m c))):=by
  rw [← lsum_mul]
  exact lsum_congr fun c hc=>F.wtGM (by rw [hm];exact h.wd c hc) G
 have e2 : lsum L (fun c=>sumM q m (fun d=>kap0 q (dotL A M d c) * G (wt d))) = ((q : Int) - 1) * (L.length * G 0):=by
  rw [lsum_sumM]
  refine Eq.trans (sumM_congr (by omega) fun d hd ho=>?_) (sumM_origin (q:=q) (by omega) (((q : Int) - 1) * (L.length * G 0)) m)
  rw [hm] at hd
  have hs:=h.sum d 0 hd (Int.le_refl 0) F.z
  have e4 : lsum L (fun c=>kap0 q (dotL A M d c) * G (wt d)) = G (wt d) * lsum L (fun c=>kap0 q (A 0 (dotL A M d c))):=by
   rw [← lsum_mul]
   refine lsum_congr fun c hc=>?_
   obtain ⟨u0,u1⟩:=F.dlt hd (h.wd c hc)
   rw [F.zl u0 u1,Int.mul_comm]
  rw [e4,hs,hm]
  by_cases hz : d = zW n
  ·subst hz
   have ho' : orthB A M rows (zW n) = true:=orth_iff.2 fun r hr'=>F.dz' (hr r hr')
   rw [if_pos rfl,if_pos ho',wt_zW,kap0,if_pos rfl];grind
  ·rw [if_neg hz]
   by_cases ho' : orthB A M rows d = true
   ·have hmem : d ∈ K.filter (orthB A M rows):=List.mem_filter.2 ⟨al_mem hK hd,ho'⟩
    have hw1 : 1 ≤ wt d:=Nat.pos_of_ne_zero fun e=>hz (wt_pos hd.1 e)
    have hw2:=off_wt (by rw [hd.1,hm]) ho
    have hc:=cntW_mem hmem
    rw [hG _ hw1 hw2 (by omega),Int.zero_mul]
   ·rw [if_neg ho',Int.mul_zero]
 exact (Int.mul_eq_mul_left_iff (show (q : Int) - 1 ≠ 0 by omega)).1 (e1.symm.trans e2)
def cntM (L : List (List Int)) (m : List Bool) (d : Nat) : Int:=lsum L (fun c=>if wt c = d ∧ onM m c = true then 1 else 0)
theorem assmus {n : Nat} {rows L K : List (List Int)} (h : SpI q n A M rows L) (hr : ∀ r ∈ rows,Wd q n r) (hK : AlI q n n K) {d t : Nat} (ht : t < d) (hd : d ≤ n) (hmin : ∀ j,1 ≤ j → j < d → cntW L j = 0) {S : List Nat} (hS : ∀ j,1 ≤ j → j ≤ n - t → cntW (K.filter (orthB A M rows)) j ≠ 0 → j ∈ S) (hSl : S.length = d - t)
  {m m' : List Bool} (hm : m.length = n) (hm' : m'.length = n) (hf : nF m = n - t) (hf' : nF m' = n - t) : cntM L m d = cntM L m' d:=by
 have hq:=F.q2
 have ex:=exact_annih (a:=(q : Int) - 1) (by omega) (n - t) S (by omega)
 have bd:=band_annih (a:=(q : Int) - 1) (by omega) (n - t) S
 rw [hSl] at ex bd
 let Φ : Nat → Int:=fun x=>sm (n - t + 1) (fun j=>annih S j * kr ((q : Int) - 1) (n - t) j x)
 have zero : ∀ x,x ≤ n - t → d - t < x → Φ x = 0:=fun x hx hx2=>by
  have h1:=ham_sum (q:=q) hx (annih S)
  rw [bd _ hx2] at h1
  have hw : ((q : Int) - 1) ^ x * (binom (n - t) x : Int) ≠ 0:=by
   have h2:=binom_pos hx
   have h3 : 0 < ((q : Int) - 1) ^ x:=Int.pow_pos (by omega)
   have:=Int.mul_pos h3 (show (0 : Int) < (binom (n - t) x : Int) by omega)
   omega
  exact (Int.mul_eq_zero.1 h1).resolve_left hw
 have top : Φ (d - t) ≠ 0:=fun e=>by
  have h1:=ham_sum (q:=q) (show d - t ≤ n - t by omega) (annih S)
  have e : sm (n - t + 1) (fun j=>annih S j * kr ((q : Int) - 1) (n - t) j (d - t)) = 0:=e
  rw [e,Int.mul_zero] at h1
  exact ex h1.symm
 have key : ∀ m : List Bool,m.length = n → nF m = n - t → cntW L 0 * Φ 0 + cntM L m d * Φ (d - t) = L.length * annih S 0:=fun m hm hf=>by
  have h1:=mask_sum F h hr hK hm (G:=annih S) (fun j j1 j2 hc=>annih_zero (hS j j1 (by omega) hc))
  rw [← h1,cntW,cntM,Int.mul_comm,← lsum_mul,Int.mul_comm,← lsum_mul,← lsum_add,hf]
  refine lsum_congr fun c hc=>?_
  have hcw:=h.wd c hc
  obtain ⟨l1,l2⟩:=wtM_low (m:=m) (c:=c) (by rw [hcw.1,hm])
  rw [hm,hf] at l1 l2
  have hle : wtM m c ≤ n - t:=by
   have:=wtM_le m c;omega
  show Φ 0 * (if wt c = 0 then 1 else 0) + Φ (d - t) * (if wt c = d ∧ onM m c = true then 1 else 0) = Φ (wtM m c)
  by_cases h0 : wt c = 0
  ·have hz : wtM m c = 0:=by
    have:=wtM_wt m c;omega
   rw [if_pos h0,if_neg (by omega),hz];grind
  ·have hge : d ≤ wt c:=Nat.le_of_not_lt fun hlt=>by
    have:=hmin (wt c) (by omega) hlt
    have:=cntW_mem hc
    omega
   rw [if_neg h0]
   by_cases hon : wt c = d ∧ onM m c = true
   ·rw [if_pos hon]
    have:=l2.2 hon.2
    rw [show wtM m c = d - t by omega];grind
   ·rw [if_neg hon,zero (wtM m c) hle]
    ·grind
    ·refine Classical.byContradiction fun hn=>hon ?_
     have e : wt c + (n - t) = wtM m c + n:=by omega
     exact ⟨by omega,l2.1 e⟩
 have k1:=key m hm hf
 have k2:=key m' hm' hf'
 have k3 : cntM L m d * Φ (d - t) = cntM L m' d * Φ (d - t):=by omega
 exact (Int.mul_eq_mul_right_iff top).1 k3
end
set_option maxRecDepth 100000
set_option linter.unusedVariables false
set_option linter.unusedSimpArgs false
section
variable {q : Nat} {A M : Int → Int → Int} (F : FI q A M)
theorem wd_ext {n : Nat} {u v : List Int} (hu : u.length = n) (hv : v.length = n) (h : ∀ (i : Nat) (x y : Int),u[i]? = some x → v[i]? = some y → x = y) : u = v:=by
 refine List.ext_getElem (by rw [hu,hv]) fun i h1 h2=>?_
 exact h i _ _ (List.getElem?_eq_getElem h1) (List.getElem?_eq_getElem h2)
theorem axp_get {n : Nat} {a : Int} {r u : List Int} (hr : Wd q n r) (hu : Wd q n u) {i : Nat} {x : Int} (h : (axp A M a r u)[i]? = some x) : ∃ y z,u[i]? = some y ∧ r[i]? = some z ∧ x = A y (M a z) ∧ (0 ≤ y ∧ y < q) ∧ 0 ≤ z ∧ z < q:=by
 rw [axp,List.getElem?_zipWith] at h
 cases h1 : u[i]? with
 | none=>rw [h1] at h;simp at h
 | some y =>
  cases h2 : r[i]? with
  | none=>rw [h1,h2] at h;simp at h
  | some z =>
   rw [h1,h2] at h
   exact ⟨y,z,rfl,rfl,by simpa using h.symm,hu.2 y (List.mem_of_getElem? h1),hr.2 z (List.mem_of_getElem? h2)⟩
include F
theorem FI.inv6 {s : Int} (s0 : 0 ≤ s) (s1 : s < q) (hs : s ≠ 0) : ∃ y : Int,(0 ≤ y ∧ y < q) ∧ M s y = 1:=by
 have hq:=F.q2
 have h1:=inj_all (q:=q) (φ:=fun x=>(M s x).toNat) (fun x hx=>by have:=F.ml s x s0 s1 (by omega) (by omega);omega) (fun x y hx hy e=>by
  have a1:=F.ml s x s0 s1 (by omega) (by omega)
  have a2:=F.ml s y s0 s1 (by omega) (by omega)
  have:=F.mcancel s0 s1 hs (show (0 : Int) ≤ x by omega) (show (x : Int) < q by omega) (show (0 : Int) ≤ y by omega) (show (y : Int) < q by omega) (by omega)
  omega) (y:=1) (by omega)
 refine Classical.byContradiction fun hn=>?_
 have h2 : sm q (fun x=>if (M s x).toNat = 1 then (1 : Int) else 0) = sm q (fun _=>0):=sm_congr fun x hx=>if_neg fun e=>by
  have a1:=F.ml s x s0 s1 (by omega) (by omega)
  exact hn ⟨x,⟨by omega,by omega⟩,by omega⟩
 rw [h2,sm_zero] at h1
 omega
theorem FI.ax_add {n : Nat} {a b : Int} (a0 : 0 ≤ a) (a1 : a < q) (b0 : 0 ≤ b) (b1 : b < q) {r u : List Int} (hr : Wd q n r) (hu : Wd q n u) : axp A M b r (axp A M a r u) = axp A M (A a b) r u:=by
 have w1:=F.axw a0 a1 hr hu
 obtain ⟨s0,s1⟩:=F.al a b a0 a1 b0 b1
 refine wd_ext (F.axw b0 b1 hr w1).1 (F.axw s0 s1 hr hu).1 fun i x y hx hy=>?_
 obtain ⟨x1,z1,e1,e2,rfl,r1,r2⟩:=axp_get hr w1 hx
 obtain ⟨y1,z2,e3,e4,rfl,r3,r4⟩:=axp_get hr hu hy
 obtain ⟨y2,z3,e5,e6,rfl,r5,r6⟩:=axp_get hr hu e1
 obtain rfl:=Option.some.inj (e2.symm.trans e4)
 obtain rfl:=Option.some.inj (e2.symm.trans e6)
 obtain rfl:=Option.some.inj (e3.symm.trans e5)
 obtain ⟨m0,m1⟩:=F.ml a z1 a0 a1 r2.1 r2.2
 obtain ⟨m2,m3⟩:=F.ml b z1 b0 b1 r2.1 r2.2
 rw [F.aa y1 _ _ r3.1 r3.2 m0 m1 m2 m3,F.mc (A a b) z1 s0 s1 r2.1 r2.2,F.md z1 a b r2.1 r2.2 a0 a1 b0 b1,F.mc z1 a r2.1 r2.2 a0 a1,F.mc z1 b r2.1 r2.2 b0 b1]
theorem FI.ax_mix {n : Nat} {a b c : Int} (a0 : 0 ≤ a) (a1 : a < q) (b0 : 0 ≤ b) (b1 : b < q) (c0 : 0 ≤ c) (c1 : c < q) {r u v : List Int} (hr : Wd q n r) (hu : Wd q n u) (hv : Wd q n v) :
  axp A M c (axp A M a r u) (axp A M b r v) = axp A M (A b (M c a)) r (axp A M c u v):=by
 have w1:=F.axw a0 a1 hr hu
 have w2:=F.axw b0 b1 hr hv
 have w3:=F.axw c0 c1 hu hv
 obtain ⟨p0,p1⟩:=F.ml c a c0 c1 a0 a1
 obtain ⟨s0,s1⟩:=F.al b _ b0 b1 p0 p1
 refine wd_ext (F.axw c0 c1 w1 w2).1 (F.axw s0 s1 hr w3).1 fun i x y hx hy=>?_
 obtain ⟨v1,u1,e1,e2,rfl,r1,r2⟩:=axp_get w1 w2 hx
 obtain ⟨w,z,e3,e4,rfl,r3,r4⟩:=axp_get hr w3 hy
 obtain ⟨v2,z1,e5,e6,rfl,r5,r6⟩:=axp_get hr hv e1
 obtain ⟨u2,z2,e7,e8,rfl,r7,r8⟩:=axp_get hr hu e2
 obtain ⟨v3,u3,e9,e10,rfl,r9,r10⟩:=axp_get hu hv e3
 obtain rfl:=Option.some.inj (e4.symm.trans e6)
 obtain rfl:=Option.some.inj (e4.symm.trans e8)
 obtain rfl:=Option.some.inj (e5.symm.trans e9)
 obtain rfl:=Option.some.inj (e7.symm.trans e10)
 obtain ⟨m0,m1⟩:=F.ml a z a0 a1 r4.1 r4.2
 obtain ⟨m2,m3⟩:=F.ml b z b0 b1 r4.1 r4.2
 obtain ⟨m4,m5⟩:=F.ml c u2 c0 c1 r7.1 r7.2
 obtain ⟨m6,m7⟩:=F.ml c _ c0 c1 m0 m1
 rw [F.md c u2 _ c0 c1 r7.1 r7.2 m0 m1,F.swap4 r5.1 r5.2 m2 m3 m4 m5 m6 m7,← F.ma c a z c0 c1 a0 a1 r4.1 r4.2,F.mc (A b (M c a)) z s0 s1 r4.1 r4.2,F.md z b _ r4.1 r4.2 b0 b1 p0 p1,F.mc z b r4.1 r4.2 b0 b1,F.mc z _ r4.1 r4.2 p0 p1]
theorem FI.ax_sc {n : Nat} {a c : Int} (a0 : 0 ≤ a) (a1 : a < q) (c0 : 0 ≤ c) (c1 : c < q) {r : List Int} (hr : Wd q n r) : axp A M c (axp A M a r (zW n)) (zW n) = axp A M (M c a) r (zW n):=by
 have hz:=zW_wd (n:=n) F.q2
 have h:=F.ax_mix a0 a1 (Int.le_refl 0) F.z c0 c1 hr hz hz
 rw [F.ax0 hr hz] at h
 obtain ⟨p0,p1⟩:=F.ml c a c0 c1 a0 a1
 rw [h,F.ac 0 _ (Int.le_refl 0) F.z p0 p1,F.a0 _ p0 p1]
 congr 1
 refine wd_ext (F.axw c0 c1 hz hz).1 hz.1 fun i x y hx hy=>?_
 obtain ⟨v1,u1,e1,e2,rfl,r1,r2⟩:=axp_get hz hz hx
 have t1:=(List.mem_replicate.1 (List.mem_of_getElem? e1)).2
 have t2:=(List.mem_replicate.1 (List.mem_of_getElem? e2)).2
 have t3:=(List.mem_replicate.1 (List.mem_of_getElem? hy)).2
 rw [t1,t2,t3,F.m0 c0 c1,F.a0 0 (Int.le_refl 0) F.z]
theorem FI.ax_one {n : Nat} {r : List Int} (hr : Wd q n r) : axp A M 1 r (zW n) = r:=by
 have hz:=zW_wd (n:=n) F.q2
 have hq:=F.q2
 refine wd_ext (F.axw (by omega) (by omega) hr hz).1 hr.1 fun i x y hx hy=>?_
 obtain ⟨v1,u1,e1,e2,rfl,r1,r2⟩:=axp_get hr hz hx
 obtain rfl:=Option.some.inj (e2.symm.trans hy)
 rw [(List.mem_replicate.1 (List.mem_of_getElem? e1)).2,F.mc 1 u1 (by omega) (by omega) r2.1 r2.2,F.m1 u1 r2.1 r2.2,F.ac 0 u1 (Int.le_refl 0) F.z r2.1 r2.2,F.a0 u1 r2.1 r2.2]
theorem FI.ax_self {n : Nat} {m1 : Int} (h0 : 0 ≤ m1) (h1 : m1 < q) (hm : A 1 m1 = 0) {u : List Int} (hu : Wd q n u) : axp A M m1 u u = zW n:=by
 have hz:=zW_wd (n:=n) F.q2
 have hq:=F.q2
 have e:=F.ax_add (a:=1) (by omega) (by omega) h0 h1 hu hz
 rw [F.ax_one hu,hm,F.ax0 hu hz] at e
 exact e
theorem FI.ax_inj {n : Nat} {a : Int} (a0 : 0 ≤ a) (a1 : a < q) {r u v : List Int} (hr : Wd q n r) (hu : Wd q n u) (hv : Wd q n v) (h : axp A M a r u = axp A M a r v) : u = v:=by
 obtain ⟨b,⟨b0,b1⟩,e⟩:=F.an a a0 a1
 have e1:=F.ax_add a0 a1 b0 b1 hr hu
 have e2:=F.ax_add a0 a1 b0 b1 hr hv
 rw [e,F.ax0 hr hu] at e1
 rw [e,F.ax0 hr hv] at e2
 rw [← e1,← e2,h]
omit F in
structure LinI (q n : Nat) (A M : Int → Int → Int) (L : List (List Int)) : Prop where
 wd : ∀ u ∈ L,Wd q n u
 z : zW n ∈ L
 nd : L.Nodup
 cl : ∀ a : Int,0 ≤ a → a < q → ∀ r ∈ L,∀ u ∈ L,axp A M a r u ∈ L
theorem linI_start (n : Nat) : LinI q n A M [zW n] where
 wd:=fun u hu=>by rw [List.mem_singleton.1 hu];exact zW_wd F.q2
 z:=.head _
 nd:=by simp
 cl:=fun a a0 a1 r hr u hu=>by
  have hz:=zW_wd (n:=n) F.q2
  rw [List.mem_singleton.1 hr,List.mem_singleton.1 hu,List.mem_singleton]
  have h:=F.ax_sc (Int.le_refl 0) F.z a0 a1 hz
  rw [F.ax0 hz hz,F.m0 a0 a1,F.ax0 hz hz] at h
  exact h
theorem lin_absorb {n : Nat} {L : List (List Int)} (h : LinI q n A M L) {r u v : List Int} (hr : Wd q n r) (hu : u ∈ L) (hv : v ∈ L) {a b : Int} (a0 : 0 ≤ a) (a1 : a < q) (b0 : 0 ≤ b) (b1 : b < q) (hab : a ≠ b) (e : axp A M a r u = axp A M b r v) : r ∈ L:=by
 have hq:=F.q2
 have wu:=h.wd u hu
 have wv:=h.wd v hv
 have hz:=zW_wd (n:=n) F.q2
 obtain ⟨nb,⟨n0,n1⟩,en⟩:=F.an b b0 b1
 obtain ⟨e0,e1⟩:=F.al a nb a0 a1 n0 n1
 have hne : A a nb ≠ 0:=fun h0=>hab (by
  have h1 : A nb a = A nb b:=by rw [F.ac nb a n0 n1 a0 a1,F.ac nb b n0 n1 b0 b1,h0,en]
  exact F.cancel n0 n1 a0 a1 b0 b1 h1)
 have h1 : axp A M (A a nb) r u = v:=by
  rw [← F.ax_add a0 a1 n0 n1 hr wu,e,F.ax_add b0 b1 n0 n1 hr wv,en,F.ax0 hr wv]
 obtain ⟨m1,⟨m0,m1l⟩,em⟩:=F.an 1 (by omega) (by omega)
 have h2 : axp A M m1 u v ∈ L:=h.cl m1 m0 m1l u hu v hv
 have h3 : axp A M m1 u v = axp A M (A a nb) r (zW n):=by
  have hx:=F.ax_mix (a:=0) (b:=A a nb) (c:=m1) (Int.le_refl 0) F.z e0 e1 m0 m1l hr wu wu
  rw [F.ax0 hr wu,h1,F.ax_self m0 m1l em wu,F.m0 m0 m1l,F.a0 _ e0 e1] at hx
  exact hx
 obtain ⟨y,⟨y0,y1⟩,ey⟩:=F.inv6 e0 e1 hne
 have h4:=h.cl y y0 y1 _ h2 _ h.z
 rw [h3,F.ax_sc e0 e1 y0 y1 hr,F.mc y _ y0 y1 e0 e1,ey,F.ax_one hr] at h4
 exact h4
theorem linI_ext {n : Nat} {L : List (List Int)} {r : List Int} (h : LinI q n A M L) (hr : Wd q n r) (hn : r ∉ L) : LinI q n A M (extL q A M L r) where
 wd:=fun u hu=>by
  obtain ⟨a,v,ha,hv,rfl⟩:=ext_mem hu
  exact F.axw (by omega) (by omega) hr (h.wd v hv)
 z:=by
  rw [extL,List.mem_flatMap]
  refine ⟨0,List.mem_range.2 (by have:=F.q2;omega),List.mem_map.2 ⟨zW n,h.z,?_⟩⟩
  exact F.ax0 hr (zW_wd F.q2)
 nd:=by
  rw [extL,List.Nodup,List.pairwise_flatMap]
  constructor
  ·intro a ha
   have ha:=List.mem_range.1 ha
   rw [List.pairwise_map]
   refine List.Pairwise.imp_of_mem (fun {u v} hu hv hne e=>hne ?_) h.nd
   exact F.ax_inj (by omega) (by omega) hr (h.wd u hu) (h.wd v hv) e
  ·refine List.Pairwise.imp_of_mem (fun {a b} ha hb hne x hx y hy e=>?_) (List.nodup_range (n:=q))
   have ha:=List.mem_range.1 ha
   have hb:=List.mem_range.1 hb
   obtain ⟨u,hu,rfl⟩:=List.mem_map.1 hx
   obtain ⟨v,hv,rfl⟩:=List.mem_map.1 hy
   exact hn (lin_absorb F h hr hu hv (by omega) (by omega) (by omega) (by omega) (show (a : Int) ≠ b from fun h=>hne (by omega)) e)
 cl:=fun c c0 c1 x hx y hy=>by
  obtain ⟨a,u,ha,hu,rfl⟩:=ext_mem hx
  obtain ⟨b,v,hb,hv,rfl⟩:=ext_mem hy
  rw [F.ax_mix (by omega) (by omega) (by omega) (by omega) c0 c1 hr (h.wd u hu) (h.wd v hv)]
  obtain ⟨p0,p1⟩:=F.ml c a c0 c1 (by omega) (by omega)
  obtain ⟨s0,s1⟩:=F.al b _ (by omega) (by omega) p0 p1
  rw [extL,List.mem_flatMap]
  refine ⟨(A b (M c a)).toNat,List.mem_range.2 (by omega),List.mem_map.2 ⟨_,h.cl c c0 c1 u hu v hv,?_⟩⟩
  rw [Int.toNat_of_nonneg s0]
theorem linI_span {most n : Nat} : ∀ {rs L K : List (List Int)},LinI q n A M L → (∀ r ∈ rs,Wd q n r) → spanS q most A M rs L = some K → LinI q n A M K
 | [],L,K,h,_,e=>by
  rw [spanS,Option.some.injEq] at e;subst e;exact h
 | r::rs,L,K,h,hr,e=>by
  rw [spanS] at e
  by_cases hm : r ∈ L
  ·rw [if_pos hm] at e
   exact linI_span h (fun x hx=>hr x (.tail _ hx)) e
  ·rw [if_neg hm] at e
   by_cases hb : most / q < L.length
   ·rw [if_pos hb] at e;cases e
   ·rw [if_neg hb] at e
    exact linI_span (linI_ext F h (hr r (.head _)) hm) (fun x hx=>hr x (.tail _ hx)) e
end
set_option maxRecDepth 100000
set_option linter.unusedVariables false
set_option linter.unusedSimpArgs false
def toP (L : List (List Nat)) : Nat → Nat
 | 0=>0
 | k + 1=>toP L k + val (L.getD k default)
theorem toP_all (L : List (List Nat)) : toP L L.length = sumV L:=by
 have key : ∀ k,k ≤ L.length → toP L k = sumV (L.take k):=by
  intro k
  induction k with
  | zero=>intro _;simp [toP,sumV]
  | succ k ih =>
   intro hk
   have hz : L[k]? = some (L.getD k default):=by rw [List.getD,List.getElem?_eq_getElem (by omega)];rfl
   rw [toP,ih (by omega),sumV_take_succ hz]
 rw [key _ (Nat.le_refl _),List.take_length]
def duS (q n : Nat) (L : List (List Nat)) (j : Nat) : Int:=sm (n + 1) fun i=>(val (L.getD i default) : Int) * kr ((q : Int) - 1) n j i
def duZ (q n : Nat) (L : List (List Nat)) (j : Nat) : Zs:=szP (fun i=>(false,val (L.getD i default))) (fun i=>tz q n i j) (n + 1)
theorem duZ_iv {q n : Nat} (hq : 1 ≤ q) (L : List (List Nat)) (j : Nat) : iv (duZ q n L j) = duS q n L j:=by
 rw [duZ,szP_iv,duS]
 refine sm_congr fun i hi=>?_
 rw [tz_iv hq i (by omega)];rfl
def duOk (q n : Nat) (L : List (List Nat)) (j : Nat) : Prop:=0 ≤ duS q n L j ∧ (duS q n L j).natAbs % toP L (n + 1) = 0
instance (q n : Nat) (L : List (List Nat)) (j : Nat) : Decidable (duOk q n L j):=by unfold duOk;infer_instance
def duV (q n : Nat) (L : List (List Nat)) (j : Nat) : Nat:=(duS q n L j).natAbs / toP L (n + 1)
theorem duZ_abs {q n : Nat} (hq : 1 ≤ q) (L : List (List Nat)) (j : Nat) : (duZ q n L j).2 = (duS q n L j).natAbs:=by rw [← duZ_iv hq,iv_abs]
theorem duZ_neg {q n : Nat} (hq : 1 ≤ q) (L : List (List Nat)) (j : Nat) : ((duZ q n L j).1 = true ∧ 0 < (duZ q n L j).2) ↔ duS q n L j < 0:=by
 rw [← duZ_iv hq,iv]
 generalize duZ q n L j = z
 obtain ⟨g,m⟩:=z
 cases g <;> simp [sg] <;> omega
theorem mk_num {s : Int} {t : Nat} (ht : 0 < t) : (mkRat s t).num = s / (Nat.gcd s.natAbs t : Int):=by
 have hne : t ≠ 0:=by omega
 rw [Nat.gcd_comm]
 simp [Rat.num_mkRat,hne]
theorem mk_den {s : Int} {t : Nat} (ht : 0 < t) : (mkRat s t).den = t / Nat.gcd s.natAbs t:=by
 have hne : t ≠ 0:=by omega
 rw [Nat.gcd_comm]
 simp [Rat.den_mkRat,hne]
theorem rat_whole {s : Int} {t : Nat} (ht : 0 < t) : (¬ (mkRat s t).num < 0 ∧ (mkRat s t).den = 1) ↔ (0 ≤ s ∧ s.natAbs % t = 0):=by
 have hg : 0 < Nat.gcd s.natAbs t:=Nat.gcd_pos_of_pos_right _ ht
 rw [mk_num ht,mk_den ht]
 have hd1 : Nat.gcd s.natAbs t ∣ t:=Nat.gcd_dvd_right _ _
 have hd0 : Nat.gcd s.natAbs t ∣ s.natAbs:=Nat.gcd_dvd_left _ _
 constructor
 ·rintro ⟨h1,h2⟩
  have h3 : Nat.gcd s.natAbs t = t:=by
   have:=Nat.div_mul_cancel hd1
   rw [h2,Nat.one_mul] at this
   exact this
  refine ⟨?_,?_⟩
  ·rcases Int.lt_or_le s 0 with h | h
   ·exact absurd (Int.ediv_neg_of_neg_of_pos h (by omega)) h1
   ·exact h
  ·rw [h3] at hd0
   exact Nat.mod_eq_zero_of_dvd hd0
 ·rintro ⟨h1,h2⟩
  have h3 : Nat.gcd s.natAbs t = t:=Nat.gcd_eq_right (Nat.dvd_of_mod_eq_zero h2)
  rw [h3]
  refine ⟨?_,Nat.div_self ht⟩
  have:=Int.ediv_nonneg h1 (show (0 : Int) ≤ (t : Int) by omega)
  omega
theorem rat_num {s : Int} {t : Nat} (ht : 0 < t) (h1 : 0 ≤ s) (h2 : s.natAbs % t = 0) : (mkRat s t).num.natAbs = s.natAbs / t:=by
 have h3 : Nat.gcd s.natAbs t = t:=Nat.gcd_eq_right (Nat.dvd_of_mod_eq_zero h2)
 rw [mk_num ht,h3]
 have e4 : s = (s.natAbs : Int):=by omega
 generalize s.natAbs = m at e4 ⊢
 subst e4
 rw [← Int.natCast_ediv,Int.natAbs_natCast]
def quoL (L : List (List Nat)) (T : Nat) : List Rt3:=L.map fun l=>rt (mkRat (val l : Int) T)
theorem quo_tr {q n : Nat} {L : List (List Nat)} {T : Nat} (hT : 0 < T) (hl : L.length = n + 1) (j : Nat) : trP (quoL L T) (fun i=>kr ((q : Int) - 1) n j i) (n + 1) = mkRat (duS q n L j) T:=by
 have hne : ((T : Nat) : Rat) ≠ 0:=by
  intro h
  have h1 : (((T : Nat) : Int) : Rat) = 0:=h
  have:=congrArg Rat.num h1
  rw [Rat.num_intCast] at this
  have h2 : (0 : Rat).num = 0:=rfl
  rw [h2] at this
  omega
 have key : ∀ k,k ≤ n + 1 → trP (quoL L T) (fun i=>kr ((q : Int) - 1) n j i) k = ((sm k (fun i=>(val (L.getD i default) : Int) * kr ((q : Int) - 1) n j i) : Int) : Rat) * ((T : Nat) : Rat)⁻¹:=by
  intro k
  induction k with
  | zero=>intro _;show (0 : Rat) = ((0 : Int) : Rat) * _;rw [show ((0 : Int) : Rat) = 0 from rfl,Rat.zero_mul]
  | succ k ih =>
   intro hk
   have hz : L[k]? = some (L.getD k default):=by rw [List.getD,List.getElem?_eq_getElem (by omega)];rfl
   have hq : qAt (quoL L T) k = ((val (L.getD k default) : Int) : Rat) * ((T : Nat) : Rat)⁻¹:=by
    have : (quoL L T).getD k default = rt (mkRat (val (L.getD k default) : Int) T):=by
     rw [quoL,List.getD,List.getElem?_map,hz];rfl
    rw [qAt,this,vq_rt,Rat.mkRat_eq_div,Rat.div_def]
   rw [trP,ih (by omega),hq,sm,Rat.intCast_add,Rat.intCast_mul]
   grind
 rw [key _ (Nat.le_refl _),Rat.mkRat_eq_div,Rat.div_def];rfl
theorem drop_cons {α : Type} {W : List α} {k : Nat} {z : α} (hz : W[k]? = some z) : W.drop k = z::W.drop (k + 1):=by
 obtain ⟨h,rfl⟩:=List.getElem?_eq_some_iff.1 hz
 exact List.drop_eq_getElem_cons h
def distP (u v : List Int) : Nat → Nat
 | 0=>0
 | k + 1=>distP u v k + (if u.getD k default = v.getD k default then 0 else 1)
theorem distP_le (u v : List Int) : ∀ k,distP u v k ≤ k
 | 0=>Nat.le_refl 0
 | k + 1=>by have:=distP_le u v k;rw [distP];split <;> omega
theorem distP_cons (x y : Int) (u v : List Int) : ∀ k,distP (x::u) (y::v) (k + 1) = (if x = y then 0 else 1) + distP u v k:=by
 intro k
 induction k with
 | zero=>simp [distP]
 | succ k ih =>
  rw [distP,ih,distP]
  simp only [List.getD_cons_succ]
  omega
theorem distP_all : ∀ (u v : List Int),u.length = v.length → distP u v u.length = dist u v:=by
 intro u
 induction u with
 | nil=>intro v _;rfl
 | cons x u ih =>
  intro v h
  cases v with
  | nil=>simp at h
  | cons y v =>
   rw [List.length_cons,distP_cons,dist,ih v (by simpa using h)]
def blkN (n : Nat) : Int → Nat → List Int → Option Nat
 | _,m,[]=>some m
 | last,m,p::l=>if p ≤ last ∨ (n : Int) ≤ p then none else blkN n p (m ||| 1 * 2 ^ p.toNat) l
theorem blkN_bit {n : Nat} : ∀ {l : List Int} {last : Int} {m M : Nat},-1 ≤ last → blkN n last m l = some M → ∀ i : Nat,M.testBit i = (m.testBit i || decide ((i : Int) ∈ l))
 | [],last,m,M,_,h,i=>by
  rw [blkN,Option.some.injEq] at h;subst h;simp
 | p::l,last,m,M,h0,h,i=>by
  rw [blkN] at h
  by_cases hc : p ≤ last ∨ (n : Int) ≤ p
  ·rw [if_pos hc] at h;cases h
  ·rw [if_neg hc] at h
   have hp : 0 ≤ p:=by omega
   rw [blkN_bit (by omega) h i,Nat.one_mul,Nat.testBit_or,Nat.testBit_two_pow,Bool.or_assoc]
   congr 1
   by_cases e : p.toNat = i
   ·have e2 : (i : Int) = p:=by omega
    simp [e,e2]
   ·have e2 : (i : Int) ≠ p:=by omega
    simp [e,e2]
theorem sub_bit {m s : Nat} : m &&& s = s ↔ ∀ i,s.testBit i = true → m.testBit i = true:=by
 constructor
 ·intro h i hi
  have:=congrArg (fun x=>x.testBit i) h
  simp only [Nat.testBit_and,hi,Bool.and_true] at this
  exact this
 ·intro h
  refine Nat.eq_of_testBit_eq fun i=>?_
  rw [Nat.testBit_and]
  cases hs : s.testBit i with
  | false=>simp
  | true=>rw [h i hs];rfl
def blksN (n : Nat) : List (List Int) → Option (List Nat)
 | []=>some []
 | l::L=>match blkN n (-1) 0 l,blksN n L with
  | some m,some ms=>some (m::ms)
  | _,_=>none
theorem blksN_snoc {n : Nat} {l : List Int} {m : Nat} (hm : blkN n (-1) 0 l = some m) : ∀ {L : List (List Int)} {ms : List Nat},blksN n L = some ms → blksN n (L++[l]) = some (ms++[m])
 | [],ms,h=>by
  rw [blksN,Option.some.injEq] at h;subst h
  simp [blksN,hm]
 | x::L,ms,h=>by
  rw [blksN] at h
  cases h1 : blkN n (-1) 0 x with
  | none=>rw [h1] at h;cases h
  | some a =>
   cases h2 : blksN n L with
   | none=>rw [h1,h2] at h;cases h
   | some bs =>
    rw [h1,h2] at h
    have e : a::bs = ms:=by simpa using h
    subst e
    rw [List.cons_append,blksN,h1,blksN_snoc hm h2];rfl
theorem blksN_none {n : Nat} {l : List Int} (hm : blkN n (-1) 0 l = none) : ∀ {L : List (List Int)},l ∈ L → blksN n L = none
 | x::L,h=>by
  rw [blksN]
  rcases List.mem_cons.1 h with rfl | h
  ·rw [hm]
  ·rw [blksN_none hm h]
   cases blkN n (-1) 0 x <;> rfl
theorem blksN_len {n : Nat} : ∀ {L : List (List Int)} {ms : List Nat},blksN n L = some ms → ms.length = L.length
 | [],ms,h=>by rw [blksN,Option.some.injEq] at h;subst h;rfl
 | l::L,ms,h=>by
  rw [blksN] at h
  cases h1 : blkN n (-1) 0 l with
  | none=>rw [h1] at h;cases h
  | some a =>
   cases h2 : blksN n L with
   | none=>rw [h1,h2] at h;cases h
   | some bs =>
    rw [h1,h2] at h
    have e : a::bs = ms:=by simpa using h
    subst e
    rw [List.length_cons,List.length_cons,blksN_len h2]
open Go Go.Fw
theorem S_nat_short {pa : Option Addr} {n ca : Nat} {l : List Nat} : Ctr Try.prog 52 [.slice pa n ca] [] [slF U32 pa n ca l]
  (fun v Φ β=>v = .slice pa (trim l).length (trim l).length ∧ Φ = [slF U32 pa (trim l).length (trim l).length (trim l)] ∧ β = []):=by
 refine Ctr_of_j' (F:=F_nat_short) rfl fun C=>?_
 refine j_len 0 rfl fun hn hb hc=>?_
 subst hn
 have hb' : l.length * 4 ≤ 140737488355328:=hb
 refine j_nf [_,_] rfl (j_run it 1 rfl (by simp) ?_)
 refine j_nf [_,_] rfl (j_run it 1 rfl (by simp) ?_)
 refine j_step rfl (x_len sl48 rfl ?_)
 refine j_run it 1 rfl (by simp) ?_
 refine j_nf [_,_,_] rfl ?_
 refine j_loopN (X:=Nat) (fun k=>[(0,.slice pa l.length ca),(3,.int .i64 k)]) (fun _=>[]) (fun _=>[slF U32 pa l.length ca l]) (fun k=>k ≤ l.length ∧ trim (l.take k) = trim l) (fun k=>k) l.length [0] rfl ⟨Nat.le_refl _,by rw [List.take_length]⟩ (by repeat (first | exact Fr.sub_nil _ | refine Fr.sub_cons rfl ?_)) rfl rfl ?_
 intro k ⟨hk,ht⟩ ih
 -- the end,once
 have done : trim (l.take k) = l.take k → J F_nat_short C [.c [1,1,1]] [(0,.slice pa l.length ca),(3,.int .i64 k)] [] [slF U32 pa l.length ca l]
   (Gives C fun v Φ β=>v = .slice pa (trim l).length (trim l).length ∧ Φ = [slF U32 pa (trim l).length (trim l).length (trim l)] ∧ β = []):=by
  intro he
  have e : trim l = l.take k:=by rw [← ht,he]
  have e2 : (trim l).length = k:=by rw [e,List.length_take];omega
  refine j_nf [_,_] rfl (j_run it 3 rfl (by simp) ?_)
  refine j_step rfl (x_slice_hm 0 (k) (k) rfl rfl rfl rfl sl48 (by omega) (by omega) (by omega) (by omega) (by omega) ?_)
  refine j_run it 1 rfl (by simp) ?_
  refine j_nf [_] rfl ?_
  refine j_gives [0] rfl rfl rfl ⟨?_,?_,rfl⟩
  ·rw [e2];rfl
  ·rw [e2,e]
 refine j_nf [_,_,_,_,_,_] rfl (j_run it 3 rfl (by simp) ?_)
 refine j_split_dec (t:=8) rfl (fun h1=>?_) (fun h1=>?_)
 ·refine j_run it 3 rfl ⟨⟨by omega,by omega⟩,trivial,trivial,trivial⟩ ?_
  refine j_gstep rfl rfl (x_idx 0 ((k) - 1) rfl rfl rfl sl48 (by omega) (by omega) fun z1 hz1 b1 o1=>?_)
  refine j_gstep rfl rfl (x_ld_nat 0 rfl rfl ld78 fun ⟨r1,r2⟩=>?_)
  refine j_run it 2 rfl (by simp) ?_
  refine j_nf [_,_,_,_,_] rfl (j_if rfl rfl (fun h2=>?_) (fun h2=>?_))
  ·have hz : z1 = 0:=by omega
   subst hz
   refine j_nf [_,_,_,_,_] rfl (j_run it 3 rfl ⟨trivial,⟨by omega,by omega⟩,trivial,trivial⟩ ?_)
   refine j_nfn 2 [.lp [1,1,0,0,0],.blk 0,.c [1,1,1]] rfl ?_
   refine j_to [1] (by exact fcc rfl (fii rfl (by omega) (fzz _))) rfl rfl (ih (k - 1) (by omega) ⟨by omega,by rw [← trim_take_zero hz1];rw [show k - 1 + 1 = k by omega];exact ht⟩)
  ·refine j_nfn 1 [.c [1,1,1]] rfl ?_
   refine j_to [1] (by exact fra rfl) rfl rfl (done (by have:=trim_take_ne hz1 (by omega);rwa [show k - 1 + 1 = k by omega] at this))
 ·refine j_run it 7 rfl (by simp) ?_
  refine j_nf [_,_,_,_,_] rfl ?_
  refine j_false rfl rfl ?_
  refine j_nfn 1 [.c [1,1,1]] rfl ?_
  refine j_to [0] (by exact fra rfl) rfl rfl (done (by rw [show k = 0 by omega];rfl))
theorem S_nat_Trim {pa : Option Addr} {n ca : Nat} {l : List Nat} : Ctr Try.prog 51 [.slice pa n ca] [] [slF U32 pa n ca l] (Sv U32 (trim l)):=by
 refine Ctr_of_j' (F:=F_nat_Trim) rfl fun C=>?_
 refine j_len 0 rfl fun hn hb hc=>?_
 subst hn
 have hb' : l.length * 4 ≤ 140737488355328:=hb
 have:=trim_length_le l
 refine j_nf [_,_] rfl (j_run it 1 rfl (by simp) ?_)
 refine j_nf [_,_] rfl (j_run it 1 rfl (by simp) ?_)
 refine j_step rfl (x_call [0] rfl (S_nat_short) rfl ?_)
 rintro _ _ _ ⟨rfl,rfl,rfl⟩
 simp only [List.cons_append,List.nil_append]
 refine j_nil el48 ?_
 refine j_step rfl (x_app_sl 0 0 rfl rfl rfl rfl sl48 zo48e rfl (by first | exact GrOk.nil _ | assumption | exact .inr ⟨_,rfl,Nat.le_refl _,by omega,rfl⟩) (by omega) _ by48e (by omega) fun bo1 cap1 cs1 vss1 hg1 ht1=>?_)
 refine j_run it 1 rfl (by simp) ?_
 refine j_nf [_] rfl ?_
 simp only [Nat.zero_add] at hg1 ht1 ⊢
 refine j_pub 0 0 rfl rfl hg1 (by simpa using ht1) rfl (by show _ * 4 ≤ _;omega) ?_
 refine j_giv [0] rfl rfl rfl ⟨_,_,rfl,rfl,rfl⟩
theorem val_two (n : Nat) : val [n % 4294967296,n / 4294967296] = n:=by simp only [val];omega
theorem S_nat_Of {n : Nat} (hn : n < 18446744073709551616) : Ctr Try.prog 24 [.int .u64 n] [] [] (Sv U32 (limbs n)):=by
 refine Ctr_of_j' (F:=F_nat_Of) rfl fun C=>?_
 refine j_nf [_,_] rfl (j_run it 1 rfl (by simp) ?_)
 refine j_nf [_,_] rfl (j_run it 1 rfl (by simp) ?_)
 refine j_step rfl (x_conv_u32 it rfl rfl rfl ?_)
 refine j_run it 3 rfl ⟨⟨by omega,by omega⟩,trivial,trivial,trivial⟩ ?_
 refine j_step rfl (x_lit sl48 zo48e rfl rfl rfl rfl (by decide) (by decide) rfl fun b1=>?_)
 refine j_pub_made (n:=2) (kd:=.u32) 4 [n % 4294967296,n / 4294967296] 0 rfl rfl (by simp [InR];omega) (by decide) (by decide) ?_
 refine j_step rfl (x_call [0] rfl (S_nat_Trim) rfl ?_)
 rintro _ _ _ ⟨pa1,ca1,rfl,rfl,rfl⟩
 simp only [List.cons_append,List.nil_append]
 refine j_run it 1 rfl (by simp) ?_
 refine j_nf [_] rfl ?_
 rw [trim_eq (l:=[n % 4294967296,n / 4294967296]) (by simp;omega),val_two]
 refine j_giv [0] rfl rfl rfl ⟨_,_,rfl,rfl,rfl⟩
set_option maxHeartbeats 1000000
theorem S_nat_plus {pa pb : Option Addr} {n m ca cb : Nat} {a b : List Nat} (ha : a.length ≤ 1099511627776) (hb : b.length ≤ 1099511627776) :
  Ctr Try.prog 81 [.slice pa n ca,.slice pb m cb] [] [slF U32 pa n ca a,slF U32 pb m cb b] (Sv U32 (limbs (val a + val b))):=by
 refine Ctr_of_j' (F:=F_nat_plus) rfl fun C=>?_
 refine j_len 0 rfl fun hn _ _=>?_
 refine j_len 1 rfl fun hm _ _=>?_
 subst hn;subst hm
 have core : ∀ (a b : List Nat) (pa pb : Option Addr) (ca cb : Nat),a.length ≤ 1099511627776 → b.length ≤ a.length →
   J F_nat_plus C [.c [1,1]] [(0,.slice pa a.length ca),(1,.slice pb b.length cb)] [] [slF U32 pa a.length ca a,slF U32 pb b.length cb b] (Gives C (Sv U32 (limbs (val a + val b)))):=by
  clear ha hb
  intro a b pa pb ca cb ha hab
  refine j_range 0 rfl fun hra=>?_
  refine j_range 1 rfl fun hrb=>?_
  refine j_nf [_,_] rfl (j_run it 1 rfl (by simp) ?_)
  refine j_step rfl (x_len sl48 rfl ?_)
  refine j_run it 1 rfl ⟨⟨by omega,by omega⟩,trivial⟩ ?_
  refine j_step rfl (x_make_nat ((a.length) + 1) _ rfl rfl sl48 zo48e by48e (by omega) (by omega) (by omega) fun b1=>?_)
  refine j_run it 1 rfl (by simp) ?_
  refine j_nf [_,_] rfl (j_run it 1 rfl (by simp) ?_)
  refine j_nf [_,_,_] rfl (j_run it 1 rfl (by simp) ?_)
  refine j_step rfl (x_len sl48 rfl ?_)
  refine j_run it 1 rfl (by simp) ?_
  refine j_nf [_,_,_] rfl ?_
  refine j_loopN (X:=Nat × Nat × List Nat) (fun x=>[(0,.slice pa a.length ca),(1,.slice pb b.length cb),(5,.slice (some ⟨b1,0,none⟩) (a.length + 1) (a.length + 1)),(6,.int .u64 x.2.1),(21,.int .i64 a.length),(22,.int .i64 x.1)])
   (fun x=>[(some b1,78,natCells .u32 x.2.2)]) (fun _=>[slF U32 pa a.length ca a,slF U32 pb b.length cb b])
   (fun x=>x.1 ≤ a.length ∧ x.2.2.length = a.length + 1 ∧ x.2.1 ≤ 1 ∧ (∀ y ∈ x.2.2,y < 4294967296) ∧ val (x.2.2.take x.1) + 4294967296 ^ x.1 * x.2.1 = val (a.take x.1) + val (b.take x.1))
   (fun x=>a.length - x.1) (0,0,List.replicate (a.length + 1) 0) [0,1] rfl ⟨Nat.zero_le _,by simp,by simp,rep_lt (by decide),by simp [val]⟩ (by repeat (first | exact Fr.sub_nil _ | refine Fr.sub_cons rfl ?_)) rfl rfl ?_
  rintro ⟨k,c,out⟩ ⟨hk,hl,hc,ho,hv⟩ ih
  simp only at hk hl hc ho hv ih ⊢
  by_cases hkl : k < a.length
  ·by_cases hkb : k < b.length
   ·refine j_nf [_,_,_,_,_] rfl (j_run it 1 rfl (by simp) ?_)
    refine j_nf [_,_,_,_,_] rfl (j_if rfl rfl (fun h1=>?_) (fun h1=>by exfalso;omega))
    refine j_nf [_,_,_,_,_,_,_] rfl (j_run it 2 rfl (by simp) ?_)
    refine j_nf [_,_,_,_,_,_,_] rfl (j_run it 2 rfl (by simp) ?_)
    refine j_step rfl (x_idx 0 (k) rfl rfl rfl sl48 rfl (by omega) fun z1 hz1 b2 o1=>?_)
    refine j_step rfl (x_ld_nat 0 rfl rfl ld78 fun ⟨r1,r2⟩=>?_)
    refine j_run it 4 rfl ⟨trivial,⟨by omega,by omega⟩,trivial,⟨by omega,by omega⟩,trivial⟩ ?_
    refine j_nf [_,_,_,_,_,_,_,_] rfl (j_run it 2 rfl (by simp) ?_)
    refine j_step rfl (x_len sl48 rfl ?_)
    refine j_run it 1 rfl (by simp) ?_
    refine j_nf [_,_,_,_,_,_,_] rfl (j_if rfl rfl (fun h2=>?_) (fun h2=>by exfalso;omega))
    refine j_nf [_,_,_,_,_,_,_] rfl (j_run it 3 rfl (by simp) ?_)
    refine j_step rfl (x_idx 2 (k) rfl rfl rfl sl48 rfl (by omega) fun z2 hz2 b3 o2=>?_)
    refine j_step rfl (x_ld_nat 0 rfl rfl ld78 fun ⟨r3,r4⟩=>?_)
    refine j_run it 3 rfl ⟨trivial,⟨by omega,by omega⟩,⟨by omega,by omega⟩,trivial⟩ ?_
    refine j_nf [_,_,_,_,_,_,_] rfl (j_run it 3 rfl (by simp) ?_)
    refine j_step rfl (x_conv_u32 it rfl rfl rfl ?_)
    refine j_step rfl (x_idx_own (k) (k) rfl rfl sl48 rfl (by omega) (Nat.mul_one _) ?_)
    refine j_step rfl (x_bst_nat 0 ((((z1) + (c)) + (z2)) % 4294967296) rfl rfl rfl ld78 (by first | rfl | omega) (by first | omega | (simp;omega)) ?_)
    refine j_nf [_,_,_,_,_,_] rfl (j_run it 3 rfl (by simp) ?_)
    refine j_nf [_,_,_,_] rfl (j_run it 2 rfl ⟨trivial,⟨by omega,by omega⟩,trivial⟩ ?_)
    refine j_nfn 1 [.lp (pL 500),.blk 0,.c [1,1,1,1,1]] rfl ?_
    have hz1':=hra z1 (List.mem_of_getElem? hz1)
    have hz2':=hrb z2 (List.mem_of_getElem? hz2)
    simp only [InR] at hz1' hz2'
    refine j_to [2,3] (by exact fra rfl) rfl rfl (ih (k + 1,(z1 + c + z2) / 4294967296,out.set k ((z1 + c + z2) % 4294967296)) (by simp only;omega) ⟨by simp only;omega,by simpa using hl,by simp only;omega,set_lt ho (by omega),by
     simp only
     rw [val_set_take (by omega),Nat.pow_succ,val_take_succ hz1,val_take_succ hz2];exact carry_step hv rfl⟩)
   ·refine j_nf [_,_,_,_,_] rfl (j_run it 1 rfl (by simp) ?_)
    refine j_nf [_,_,_,_,_] rfl (j_if rfl rfl (fun h1=>?_) (fun h1=>by exfalso;omega))
    refine j_nf [_,_,_,_,_,_,_] rfl (j_run it 2 rfl (by simp) ?_)
    refine j_nf [_,_,_,_,_,_,_] rfl (j_run it 2 rfl (by simp) ?_)
    refine j_step rfl (x_idx 0 (k) rfl rfl rfl sl48 rfl (by omega) fun z1 hz1 b2 o1=>?_)
    refine j_step rfl (x_ld_nat 0 rfl rfl ld78 fun ⟨r1,r2⟩=>?_)
    refine j_run it 4 rfl ⟨trivial,⟨by omega,by omega⟩,trivial,⟨by omega,by omega⟩,trivial⟩ ?_
    refine j_nf [_,_,_,_,_,_,_,_] rfl (j_run it 2 rfl (by simp) ?_)
    refine j_step rfl (x_len sl48 rfl ?_)
    refine j_run it 1 rfl (by simp) ?_
    refine j_nf [_,_,_,_,_,_,_] rfl (j_if rfl rfl (fun h2=>by exfalso;omega) (fun h2=>?_))
    refine j_nf [_,_,_,_,_,_,_] rfl (j_run it 3 rfl (by simp) ?_)
    refine j_step rfl (x_conv_u32 it rfl rfl rfl ?_)
    refine j_step rfl (x_idx_own (k) (k) rfl rfl sl48 rfl (by omega) (Nat.mul_one _) ?_)
    refine j_step rfl (x_bst_nat 0 (((z1) + (c)) % 4294967296) rfl rfl rfl ld78 (by first | rfl | omega) (by first | omega | (simp;omega)) ?_)
    refine j_nf [_,_,_,_,_,_] rfl (j_run it 3 rfl (by simp) ?_)
    refine j_nf [_,_,_,_] rfl (j_run it 2 rfl ⟨trivial,⟨by omega,by omega⟩,trivial⟩ ?_)
    refine j_nfn 1 [.lp (pL 500),.blk 0,.c [1,1,1,1,1]] rfl ?_
    have hz1':=hra z1 (List.mem_of_getElem? hz1)
    simp only [InR] at hz1'
    refine j_to [1,2] (by exact fra rfl) rfl rfl (ih (k + 1,(z1 + c) / 4294967296,out.set k ((z1 + c) % 4294967296)) (by simp only;omega) ⟨by simp only;omega,by simpa using hl,by simp only;omega,set_lt ho (by omega),by
     simp only
     rw [val_set_take (by omega),Nat.pow_succ,val_take_succ hz1,take_ge (l:=b) (by omega)];exact carry_step (y:=0) hv rfl⟩)
  ·refine j_nf [_,_,_,_,_] rfl (j_run it 1 rfl (by simp) ?_)
   refine j_nf [_,_,_,_,_] rfl (j_if rfl rfl (fun h1=>by exfalso;omega) (fun h1=>?_))
   refine j_nf [_,_] rfl (j_run it 2 rfl (by simp) ?_)
   refine j_step rfl (x_len sl48 rfl ?_)
   refine j_run it 2 rfl ⟨⟨by omega,by omega⟩,trivial,trivial⟩ ?_
   refine j_step rfl (x_idx_own (a.length) (a.length) rfl rfl sl48 rfl (by omega) (Nat.mul_one _) ?_)
   refine j_step rfl (x_bst_nat 0 (c) rfl rfl rfl ld78 (by first | rfl | omega) (by first | omega | (simp;omega)) ?_)
   refine j_nf [_,_] rfl (j_run it 1 rfl (by simp) ?_)
   refine j_pub32 (n:=a.length + 1) 0 rfl (by simp [*]) (by first | assumption | exact set_all (by assumption) (by omega) | (simp;omega)) (by omega) ?_
   refine j_step rfl (x_call [0] rfl (S_nat_short) rfl ?_)
   rintro _ _ _ ⟨rfl,rfl,rfl⟩
   simp only [List.cons_append,List.nil_append]
   refine j_run it 1 rfl (by simp) ?_
   refine j_nf [_] rfl ?_
   have e : k = a.length:=by omega
   have fin : trim (out.set a.length c) = limbs (val a + val b):=by
    subst e
    rw [List.take_length,List.take_of_length_le hab] at hv
    rw [trim_eq (set_lt ho (by omega)),← hv,← val_set_take (by omega),List.take_of_length_le (by simp;omega)]
   rw [fin]
   refine j_giv [0] rfl rfl rfl ⟨_,_,rfl,rfl,rfl⟩
 by_cases hab : a.length < b.length
 ·refine j_nf [_,_] rfl (j_run it 1 rfl (by simp) ?_)
  refine j_nf [_,_,_] rfl (j_run it 1 rfl (by simp) ?_)
  refine j_step rfl (x_len sl48 rfl ?_)
  refine j_run it 1 rfl (by simp) ?_
  refine j_step rfl (x_len sl48 rfl ?_)
  refine j_run it 1 rfl (by simp) ?_
  refine j_nf [_,_] rfl (j_if rfl rfl (fun h1=>?_) (fun h1=>by exfalso;omega))
  refine j_nf [_,_] rfl (j_run it 4 rfl (by simp) ?_)
  refine j_nfn 1 [.c [1,1]] rfl ?_
  rw [Nat.add_comm]
  refine j_to [1,0] (by exact fra rfl) rfl rfl (core b a pb pa cb ca hb (by omega))
 ·refine j_nf [_,_] rfl (j_run it 1 rfl (by simp) ?_)
  refine j_nf [_,_,_] rfl (j_run it 1 rfl (by simp) ?_)
  refine j_step rfl (x_len sl48 rfl ?_)
  refine j_run it 1 rfl (by simp) ?_
  refine j_step rfl (x_len sl48 rfl ?_)
  refine j_run it 1 rfl (by simp) ?_
  refine j_nf [_,_] rfl (j_if rfl rfl (fun h1=>by exfalso;omega) (fun h1=>?_))
  refine j_nfn 1 [.c [1,1]] rfl ?_
  refine j_to [0,1] (by exact fra rfl) rfl rfl (core a b pa pb ca cb ha (by omega))
theorem rows_range {P : Program} {F : Fun P} {C : Cx} {S : List It} {σ : Fr} {β : List Blk} {Γ : List Fact} {R : Value → World → Prop} {pa : Option Addr} {n ca : Nat} {ls : List (List Nat)} (k : Nat) (hk : nth Γ k = some (slF NatE pa n ca ls))
  (h : (∀ l ∈ ls,∀ x ∈ l,x < 4294967296) → J F C S σ β Γ R) : J F C S σ β Γ R :=
 j_know (fun w A hG l hl x hx=>by
  obtain ⟨_,_,_,hs⟩:=hG _ (fact_mem hk)
  rcases hs with rfl | ⟨b,o,_,_,hel⟩
  ·cases hl
  ·obtain ⟨i,hi⟩:=List.getElem?_of_mem hl
   obtain ⟨vs,_,pa',ca',_,_,_,hr⟩:=hel i l hi
   rcases hr with rfl | ⟨b',o',_,_,hel'⟩
   ·cases hx
   ·obtain ⟨j,hj⟩:=List.getElem?_of_mem hx
    obtain ⟨vs,_,_,hR⟩:=hel' j x hj
    simp only [InR] at hR;omega) h
theorem S_nat_Add {pa : Option Addr} {n ca : Nat} {ls : List (List Nat)} (hn : ls.length ≤ 65536) (hL : ∀ l ∈ ls,l.length ≤ 1073741824) : Ctr Try.prog 61 [.slice pa n ca] [] [slF NatE pa n ca ls] (Sv U32 (limbs (sumV ls))):=by
 refine Ctr_of_j' (F:=F_nat_Add) rfl fun C=>?_
 refine j_len 0 rfl fun hl _ _=>?_
 subst hl
 refine rows_range 0 rfl fun hr=>?_
 have hs:=sum_len hr hL hn
 refine j_nf [_,_] rfl (j_run it 1 rfl (by simp) ?_)
 refine j_nf [_,_] rfl (j_run it 1 rfl (by simp) ?_)
 refine j_nf [_,_,_] rfl (j_run it 1 rfl (by simp) ?_)
 refine j_step rfl (x_len sl36 rfl ?_)
 refine j_run it 1 rfl (by simp) ?_
 refine j_nf [_,_,_] rfl ?_
 refine j_add (slF U32 none (limbs (sumV (ls.take 0))).length 0 (limbs (sumV (ls.take 0)))) (fun w A _=>by rw [show sumV (ls.take 0) = 0 from rfl,limbs_zero];exact slF_nil _ _ _ _ _) ?_
 refine j_loopN (X:=Nat × Option Addr × Nat) (fun x=>[(3,.slice x.2.1 (limbs (sumV (ls.take x.1))).length x.2.2),(6,.slice pa ls.length ca),(7,.int .i64 ls.length),(8,.int .i64 x.1)])
  (fun x=>[]) (fun x=>[slF U32 x.2.1 (limbs (sumV (ls.take x.1))).length x.2.2 (limbs (sumV (ls.take x.1))),slF NatE pa ls.length ca ls])
  (fun x=>x.1 ≤ ls.length) (fun x=>ls.length - x.1) (0,none,0) [0,1] rfl (Nat.zero_le _) (by
   rw [show (limbs (sumV (ls.take (0,(none : Option Addr),0).1))).length = 0 by rw [show sumV (ls.take 0) = 0 from rfl,limbs_zero];rfl]
   repeat (first | exact Fr.sub_nil _ | refine Fr.sub_cons rfl ?_)) rfl rfl ?_
 rintro ⟨k,ps,cs⟩ hk ih
 simp only at hk ih ⊢
 have hsk:=hs k
 by_cases hkl : k < ls.length
 ·have side : ∀ z,ls[k]? = some z → (trim z).length ≤ 1099511627776:=fun z hz=>by have:=trim_length_le z;have:=hL z (List.mem_of_getElem? hz);omega
  refine j_nf [_,_,_,_,_] rfl (j_run it 1 rfl (by simp) ?_)
  refine j_nf [_,_,_,_,_] rfl (j_if rfl rfl (fun h1=>?_) (fun h1=>by exfalso;omega))
  refine j_nf [_,_,_,_,_,_,_] rfl (j_step rfl (x_idx 1 (k) rfl rfl rfl sl36 rfl (by omega) fun z1 hz1 b1 o1=>?_))
  refine j_step rfl (x_ld_sl 0 rfl rfl ld48 fun pa1 ca1=>?_)
  refine j_run it 1 rfl (by simp) ?_
  refine j_nf [_,_,_,_,_,_] rfl (j_run it 2 rfl (by simp) ?_)
  refine j_step rfl (x_call [0] rfl (S_nat_short) rfl ?_)
  rintro _ _ _ ⟨rfl,rfl,rfl⟩
  simp only [List.cons_append,List.nil_append]
  refine j_step rfl (x_call [3,0] rfl (S_nat_plus (by omega) (by exact side _ (by assumption))) rfl ?_)
  rintro _ _ _ ⟨pa2,ca2,rfl,rfl,rfl⟩
  simp only [List.cons_append,List.nil_append]
  refine j_run it 1 rfl (by simp) ?_
  refine j_nf [_,_,_,_] rfl (j_run it 2 rfl ⟨trivial,⟨by omega,by omega⟩,trivial⟩ ?_)
  refine j_nfn 1 [.lp (pL 116),.blk 0,.c [1,1,1]] rfl ?_
  have e : val (limbs (sumV (ls.take k))) + val (trim z1) = sumV (ls.take (k + 1)):=by rw [val_limbs,val_trim,sumV_take_succ hz1]
  rw [e]
  refine j_to [0,5] (by exact fra rfl) rfl rfl (ih (k + 1,pa2,ca2) (by simp only;omega) (by simp only;omega))
 ·refine j_nf [_,_,_,_,_] rfl (j_run it 1 rfl (by simp) ?_)
  refine j_nf [_,_,_,_,_] rfl (j_if rfl rfl (fun h1=>by exfalso;omega) (fun h1=>?_))
  refine j_nf [_,_] rfl (j_run it 1 rfl (by simp) ?_)
  refine j_step rfl (x_call [0] rfl (S_nat_Trim) rfl ?_)
  rintro _ _ _ ⟨pa1,ca1,rfl,rfl,rfl⟩
  simp only [List.cons_append,List.nil_append]
  refine j_run it 1 rfl (by simp) ?_
  refine j_nf [_] rfl ?_
  have e : ls.take k = ls:=List.take_of_length_le (by omega)
  rw [e,trim_limbs]
  refine j_giv [0] rfl rfl rfl ⟨_,_,rfl,rfl,rfl⟩
theorem drop_set_ge {l : List Nat} {k z m : Nat} (h : k < m) : (l.set k z).drop m = l.drop m:=by rw [List.drop_set_of_lt h]
theorem get_of_drop {l l' : List Nat} {k z : Nat} (h : l.drop k = l'.drop k) (hz : l[k]? = some z) : l'[k]? = some z:=by
 have:=congrArg (fun x=>x[0]?) h
 simpa [List.getElem?_drop,hz] using this.symm
theorem drop_more {l l' : List Nat} {k : Nat} (h : l.drop k = l'.drop k) : l.drop (k + 1) = l'.drop (k + 1):=by
 have:=congrArg (List.drop 1) h
 simpa [List.drop_drop,Nat.add_comm] using this
theorem mul_step {i j c x y z : Nat} {out v0 b : List Nat} (h : val (out.take (i + j)) + 4294967296 ^ (i + j) * c = val (v0.take (i + j)) + 4294967296 ^ i * (x * val (b.take j)))
  (hz : v0[i + j]? = some z) (hy : b[j]? = some y) (ho : i + j < out.length) :
  val ((out.set (i + j) ((x * y + z + c) % 4294967296)).take (i + (j + 1))) + 4294967296 ^ (i + (j + 1)) * ((x * y + z + c) / 4294967296) = val (v0.take (i + (j + 1))) + 4294967296 ^ i * (x * val (b.take (j + 1))):=by
 rw [show i + (j + 1) = (i + j) + 1 by omega,val_set_take ho,Nat.pow_succ,val_take_succ hz,val_take_succ hy,carry_step (x:=z) (y:=x * y) h (by omega),Nat.mul_add,Nat.mul_add,Nat.pow_add]
 simp only [Nat.mul_assoc,Nat.mul_left_comm]
theorem mul_row {i x : Nat} {a : List Nat} {c : Nat} {out : List Nat} {vb lb : Nat} (h : val (out.take (i + lb)) + 4294967296 ^ (i + lb) * c = val (a.take i) * vb + 4294967296 ^ i * (x * vb)) (hx : a[i]? = some x) (ho : i + lb < out.length) :
  val ((out.set (i + lb) c).take (i + 1 + lb)) = val (a.take (i + 1)) * vb:=by
 rw [show i + 1 + lb = i + lb + 1 by omega,val_set_take ho,h,val_take_succ hx,Nat.add_mul,Nat.mul_assoc]
theorem S_nat_times {pa pb : Option Addr} {n m ca cb : Nat} {a b : List Nat} (ha : a.length ≤ 1099511627776) (hb : b.length ≤ 1099511627776) :
  Ctr Try.prog 50 [.slice pa n ca,.slice pb m cb] [] [slF U32 pa n ca a,slF U32 pb m cb b] (Sv U32 (limbs (val a * val b))):=by
 refine Ctr_of_j' (F:=F_nat_times) rfl fun C=>?_
 refine j_len 0 rfl fun hn _ _=>?_
 refine j_len 1 rfl fun hm _ _=>?_
 subst hn;subst hm
 refine j_range 0 rfl fun hra=>?_
 refine j_range 1 rfl fun hrb=>?_
 simp only [InR] at hra hrb
 refine j_nf [_,_] rfl (j_run it 1 rfl (by simp) ?_)
 refine j_nf [_,_] rfl (j_run it 1 rfl (by simp) ?_)
 refine j_step rfl (x_len sl48 rfl ?_)
 refine j_run it 1 rfl (by simp) ?_
 refine j_step rfl (x_len sl48 rfl ?_)
 refine j_run it 1 rfl ⟨⟨by omega,by omega⟩,trivial⟩ ?_
 refine j_step rfl (x_make_nat ((a.length) + (b.length)) _ rfl rfl sl48 zo48e by48e (by omega) (by omega) (by omega) fun b1=>?_)
 refine j_run it 1 rfl (by simp) ?_
 refine j_nf [_,_,_] rfl (j_run it 1 rfl (by simp) ?_)
 refine j_step rfl (x_len sl48 rfl ?_)
 refine j_run it 1 rfl (by simp) ?_
 refine j_nf [_,_,_] rfl ?_
 refine j_loopN (X:=Nat × List Nat) (fun x=>[(0,.slice pa a.length ca),(1,.slice pb b.length cb),(5,.slice (some ⟨b1,0,none⟩) (a.length + b.length) (a.length + b.length)),(18,.slice pa a.length ca),(19,.int .i64 a.length),(20,.int .i64 x.1)])
  (fun x=>[(some b1,78,natCells .u32 x.2)]) (fun _=>[slF U32 pa a.length ca a,slF U32 pb b.length cb b])
  (fun x=>x.1 ≤ a.length ∧ x.2.length = a.length + b.length ∧ (∀ y ∈ x.2,y < 4294967296) ∧ val (x.2.take (x.1 + b.length)) = val (a.take x.1) * val b)
  (fun x=>a.length - x.1) (0,List.replicate (a.length + b.length) 0) [0,1] rfl ⟨Nat.zero_le _,by simp,rep_lt (by decide),by simp [val,val_replicate]⟩ (by repeat (first | exact Fr.sub_nil _ | refine Fr.sub_cons rfl ?_)) rfl rfl ?_
 rintro ⟨i,v0⟩ ⟨hi,hl,ho,hv⟩ ih
 simp only at hi hl ho hv ih ⊢
 by_cases hil : i < a.length
 ·refine j_nf [_,_,_,_,_] rfl (j_run it 1 rfl (by simp) ?_)
  refine j_nf [_,_,_,_,_] rfl (j_if rfl rfl (fun h1=>?_) (fun h1=>by exfalso;omega))
  refine j_nf [_,_,_,_,_,_,_] rfl (j_run it 1 rfl (by simp) ?_)
  refine j_step rfl (x_idx 0 (i) rfl rfl rfl sl48 rfl (by omega) fun z1 hz1 b2 o1=>?_)
  refine j_step rfl (x_ld_nat 0 rfl rfl ld78 fun ⟨r1,r2⟩=>?_)
  refine j_run it 2 rfl (by simp) ?_
  refine j_nf [_,_,_,_,_,_,_] rfl (j_run it 1 rfl (by simp) ?_)
  refine j_nf [_,_,_,_,_,_,_,_] rfl (j_run it 1 rfl (by simp) ?_)
  refine j_step rfl (x_len sl48 rfl ?_)
  refine j_run it 1 rfl (by simp) ?_
  refine j_nf [_,_,_,_,_,_,_,_] rfl ?_
  refine j_loopN (X:=Nat × Nat × List Nat) (fun x=>[(0,.slice pa a.length ca),(1,.slice pb b.length cb),(5,.slice (some ⟨b1,0,none⟩) (a.length + b.length) (a.length + b.length)),(18,.slice pa a.length ca),(19,.int .i64 a.length),(20,.int .i64 i),(6,.int .i64 i),(7,.int .u32 z1),(8,.int .u64 x.2.1),(25,.slice pb b.length cb),(26,.int .i64 b.length),(27,.int .i64 x.1)])
   (fun x=>[(some b1,78,natCells .u32 x.2.2)]) (fun _=>[slF U32 pa a.length ca a,slF U32 pb b.length cb b])
   (fun x=>x.1 ≤ b.length ∧ x.2.2.length = a.length + b.length ∧ x.2.1 < 4294967296 ∧ (∀ y ∈ x.2.2,y < 4294967296) ∧ val (x.2.2.take (i + x.1)) + 4294967296 ^ (i + x.1) * x.2.1 = val (v0.take (i + x.1)) + 4294967296 ^ i * (z1 * val (b.take x.1)) ∧ x.2.2.drop (i + x.1) = v0.drop (i + x.1))
   (fun x=>b.length - x.1) (0,0,v0) [1,2] rfl ⟨Nat.zero_le _,hl,Nat.zero_lt_succ _,ho,by simp [val],rfl⟩ (by repeat (first | exact Fr.sub_nil _ | refine Fr.sub_cons rfl ?_)) rfl rfl ?_
  rintro ⟨j,c,out⟩ ⟨hj,hl',hc,ho',hv',hd⟩ ih'
  simp only at hj hl' hc ho' hv' hd ih' ⊢
  by_cases hjl : j < b.length
  ·refine j_nf [_,_,_,_,_,_,_,_,_,_] rfl (j_run it 1 rfl (by simp) ?_)
   refine j_nf [_,_,_,_,_,_,_,_,_,_] rfl (j_if rfl rfl (fun h2=>?_) (fun h2=>by exfalso;omega))
   refine j_nf [_,_,_,_,_,_,_,_,_,_,_,_] rfl (j_run it 1 rfl (by simp) ?_)
   refine j_step rfl (x_idx 1 (j) rfl rfl rfl sl48 rfl (by omega) fun z2 hz2 b3 o2=>?_)
   refine j_step rfl (x_ld_nat 0 rfl rfl ld78 fun ⟨r3,r4⟩=>?_)
   refine j_run it 2 rfl (by simp) ?_
   refine j_nf [_,_,_,_,_,_,_,_,_,_,_,_] rfl (j_run it 9 rfl ⟨⟨by omega,by omega⟩,trivial,trivial,trivial,⟨Int.mul_nonneg (by omega) (by omega),mul64_1 (by omega) (by omega) (by omega) (by omega)⟩,⟨by omega,by omega⟩,trivial,⟨by omega,by omega⟩,trivial,trivial⟩ ?_)
   refine j_step rfl (x_idx_own ((i) + (j)) ((i) + (j)) rfl rfl sl48 (by omega) (by omega) (Nat.mul_one _) ?_)
   refine j_step rfl (x_bld_natR 0 rfl rfl ld78 (by assumption) (by first | omega | (simp;omega)) fun z3 hz3 hlt1=>?_)
   refine j_run it 5 rfl ⟨trivial,⟨mul64_nnn (by omega) (by omega) (by omega) (by omega),mul64_3 (by omega) (by omega) (by omega) (by omega) (by omega) (by omega)⟩,trivial,⟨mul64_nn (by omega) (by omega) (by omega),mul64_2 (by omega) (by omega) (by omega) (by omega) (by omega)⟩,⟨by omega,by omega⟩,trivial⟩ ?_
   refine j_nf [_,_,_,_,_,_,_,_,_,_,_,_] rfl (j_run it 5 rfl ⟨trivial,⟨by omega,by omega⟩,trivial,trivial,trivial,trivial⟩ ?_)
   refine j_step rfl (x_conv_u32 it rfl rfl rfl ?_)
   refine j_step rfl (x_idx_own ((i) + (j)) ((i) + (j)) rfl rfl sl48 (by omega) (by omega) (Nat.mul_one _) ?_)
   refine j_step rfl (x_bst_nat 0 (((((z1) * (z2)) + (z3)) + (c)) % 4294967296) rfl rfl rfl ld78 (by first | rfl | omega) (by first | omega | (simp;omega)) ?_)
   refine j_nf [_,_,_,_,_,_,_,_,_,_,_] rfl (j_run it 3 rfl (by simp) ?_)
   refine j_nf [_,_,_,_,_,_,_,_,_] rfl (j_run it 2 rfl ⟨trivial,⟨by omega,by omega⟩,trivial⟩ ?_)
   refine j_nfn 1 [.lp (pL 119604),.blk 2,.c (pL 14951),.blk 1,.c (pL 935),.lp (pL 116),.blk 0,.c [1,1,1]] rfl ?_
   have e3:=get_of_drop hd hz3
   refine j_to [1,2] (by exact fra rfl) rfl rfl (ih' (j + 1,(z1 * z2 + z3 + c) / 4294967296,out.set (i + j) ((z1 * z2 + z3 + c) % 4294967296)) (by simp only;omega) ⟨by simp only;omega,by simpa using hl',by
     have:=Nat.mul_le_mul (show z1 ≤ 4294967295 by omega) (show z2 ≤ 4294967295 by omega)
     simp only;omega,set_lt ho' (by omega),mul_step hv' e3 hz2 (by omega),by
     simp only
     rw [drop_set_ge (by omega),← Nat.add_assoc];exact drop_more hd⟩)
  ·refine j_nf [_,_,_,_,_,_,_,_,_,_] rfl (j_run it 1 rfl (by simp) ?_)
   refine j_nf [_,_,_,_,_,_,_,_,_,_] rfl (j_if rfl rfl (fun h2=>by exfalso;omega) (fun h2=>?_))
   refine j_nf [_,_,_,_,_,_] rfl (j_run it 3 rfl (by simp) ?_)
   refine j_step rfl (x_len sl48 rfl ?_)
   refine j_run it 3 rfl ⟨⟨by omega,by omega⟩,trivial,⟨by omega,by omega⟩,trivial⟩ ?_
   refine j_step rfl (x_idx_own ((i) + (b.length)) ((i) + (b.length)) rfl rfl sl48 (by omega) (by omega) (Nat.mul_one _) ?_)
   refine j_step rfl (x_bst_nat 0 (c) rfl rfl rfl ld78 (by first | rfl | omega) (by first | omega | (simp;omega)) ?_)
   refine j_nf [_,_,_,_] rfl (j_run it 2 rfl ⟨trivial,⟨by omega,by omega⟩,trivial⟩ ?_)
   refine j_nfn 1 [.lp (pL 116),.blk 0,.c [1,1,1]] rfl ?_
   have e : j = b.length:=by omega
   subst e
   refine j_to [0,1] (by exact fra rfl) rfl rfl (ih (i + 1,out.set (i + b.length) c) (by simp only;omega) ⟨by simp only;omega,by simpa using hl',set_lt ho' hc,by
     simp only
     exact mul_row (by rw [List.take_length,hv] at hv';exact hv') hz1 (by omega)⟩)
 ·refine j_nf [_,_,_,_,_] rfl (j_run it 1 rfl (by simp) ?_)
  refine j_nf [_,_,_,_,_] rfl (j_if rfl rfl (fun h1=>by exfalso;omega) (fun h1=>?_))
  refine j_nf [_,_] rfl (j_run it 1 rfl (by simp) ?_)
  refine j_pub32 (n:=a.length + b.length) 0 rfl (by simp [*]) (by first | assumption | exact set_all (by assumption) (by omega) | (simp;omega)) (by omega) ?_
  refine j_step rfl (x_call [0] rfl (S_nat_short) rfl ?_)
  rintro _ _ _ ⟨rfl,rfl,rfl⟩
  simp only [List.cons_append,List.nil_append]
  refine j_run it 1 rfl (by simp) ?_
  refine j_nf [_] rfl ?_
  have e : i = a.length:=by omega
  subst e
  rw [List.take_length,List.take_of_length_le (by omega)] at hv
  rw [trim_eq ho,hv]
  refine j_giv [0] rfl rfl rfl ⟨_,_,rfl,rfl,rfl⟩
theorem S_nat_Mul {pa : Option Addr} {n ca : Nat} {ls : List (List Nat)} (hL : lenS ls ≤ 1073741824) : Ctr Try.prog 94 [.slice pa n ca] [] [slF NatE pa n ca ls] (Sv U32 (limbs (prodV ls))):=by
 refine Ctr_of_j' (F:=F_nat_Mul) rfl fun C=>?_
 refine j_len 0 rfl fun hl hb _=>?_
 subst hl
 have hb' : ls.length * 24 ≤ 140737488355328:=hb
 refine rows_range 0 rfl fun hr=>?_
 have hs:=prod_len hr
 refine j_nf [_,_] rfl (j_run it 1 rfl (by simp) ?_)
 refine j_nf [_,_] rfl (j_step rfl (x_lit sl48 zo48e rfl rfl rfl rfl (by decide) (by decide) rfl fun b1=>?_))
 refine j_pub_made (n:=1) (kd:=.u32) 4 [1] 0 rfl rfl (by simp [InR]) (by decide) (by decide) ?_
 refine j_run it 1 rfl (by simp) ?_
 refine j_nf [_,_,_] rfl (j_run it 1 rfl (by simp) ?_)
 refine j_step rfl (x_len sl36 rfl ?_)
 refine j_run it 1 rfl (by simp) ?_
 refine j_nf [_,_,_] rfl ?_
 have e0 : limbs (prodV (ls.take 0)) = [1]:=limbs_one
 refine j_loopN (X:=Nat × Option Addr × Nat) (fun x=>[(3,.slice x.2.1 (limbs (prodV (ls.take x.1))).length x.2.2),(7,.slice pa ls.length ca),(8,.int .i64 ls.length),(9,.int .i64 x.1)])
  (fun x=>[]) (fun x=>[slF U32 x.2.1 (limbs (prodV (ls.take x.1))).length x.2.2 (limbs (prodV (ls.take x.1))),slF NatE pa ls.length ca ls])
  (fun x=>x.1 ≤ ls.length) (fun x=>ls.length - x.1) (0,some ⟨b1,0,none⟩,1) [0,1] rfl (Nat.zero_le _) (by
   simp only [e0]
   repeat (first | exact Fr.sub_nil _ | refine Fr.sub_cons rfl ?_)) rfl (by simp only [e0];rfl) ?_
 rintro ⟨k,ps,cs⟩ hk ih
 simp only at hk ih ⊢
 have hsk:=hs k
 by_cases hkl : k < ls.length
 ·have side : ∀ z,ls[k]? = some z → (trim z).length ≤ 1099511627776:=fun z hz=>by have:=trim_length_le z;have:=lenS_mem (List.mem_of_getElem? hz);omega
  refine j_nf [_,_,_,_,_] rfl (j_run it 1 rfl (by simp) ?_)
  refine j_nf [_,_,_,_,_] rfl (j_if rfl rfl (fun h1=>?_) (fun h1=>by exfalso;omega))
  refine j_nf [_,_,_,_,_,_,_] rfl (j_step rfl (x_idx 1 (k) rfl rfl rfl sl36 rfl (by omega) fun z1 hz1 b2 o1=>?_))
  refine j_step rfl (x_ld_sl 0 rfl rfl ld48 fun pa1 ca1=>?_)
  refine j_run it 1 rfl (by simp) ?_
  refine j_nf [_,_,_,_,_,_] rfl (j_run it 2 rfl (by simp) ?_)
  refine j_step rfl (x_call [0] rfl (S_nat_short) rfl ?_)
  rintro _ _ _ ⟨rfl,rfl,rfl⟩
  simp only [List.cons_append,List.nil_append]
  refine j_step rfl (x_call [3,0] rfl (S_nat_times (by omega) (by exact side _ (by assumption))) rfl ?_)
  rintro _ _ _ ⟨pa2,ca2,rfl,rfl,rfl⟩
  simp only [List.cons_append,List.nil_append]
  refine j_run it 1 rfl (by simp) ?_
  refine j_nf [_,_,_,_] rfl (j_run it 2 rfl ⟨trivial,⟨by omega,by omega⟩,trivial⟩ ?_)
  refine j_nfn 1 [.lp (pL 116),.blk 0,.c [1,1,1]] rfl ?_
  simp only [val_limbs,val_trim,← prodV_take_succ hz1]
  refine j_to [0,5] (by exact fra rfl) rfl rfl (ih (k + 1,pa2,ca2) (by simp only;omega) (by simp only;omega))
 ·refine j_nf [_,_,_,_,_] rfl (j_run it 1 rfl (by simp) ?_)
  refine j_nf [_,_,_,_,_] rfl (j_if rfl rfl (fun h1=>by exfalso;omega) (fun h1=>?_))
  refine j_nf [_,_] rfl (j_run it 1 rfl (by simp) ?_)
  refine j_step rfl (x_call [0] rfl (S_nat_Trim) rfl ?_)
  rintro _ _ _ ⟨pa1,ca1,rfl,rfl,rfl⟩
  simp only [List.cons_append,List.nil_append]
  refine j_run it 1 rfl (by simp) ?_
  refine j_nf [_] rfl ?_
  have e : ls.take k = ls:=List.take_of_length_le (by omega)
  rw [e,trim_limbs]
  refine j_giv [0] rfl rfl rfl ⟨_,_,rfl,rfl,rfl⟩
theorem S_nat_digit {pa : Option Addr} {n ca : Nat} {a : List Nat} {b : Nat} (hb : 0 < b) (hbB : b < 4294967296) :
  Ctr Try.prog 49 [.slice pa n ca,.int .u32 b] [] [slF U32 pa n ca a]
   (fun v Φ β=>∃ pa ca,v = .tuple #[.slice pa (limbs (val a / b)).length ca,.int .u32 (val a % b : Nat)] ∧ Φ = [slF U32 pa (limbs (val a / b)).length ca (limbs (val a / b))] ∧ β = []):=by
 refine Ctr_of_j' (F:=F_nat_digit) rfl fun C=>?_
 refine j_len 0 rfl fun hn hby _=>?_
 subst hn
 have hby' : a.length * 4 ≤ 140737488355328:=hby
 refine j_range 0 rfl fun hra=>?_
 simp only [InR] at hra
 refine j_nf [_,_] rfl (j_run it 2 rfl (by simp) ?_)
 refine j_nf [_,_] rfl (j_run it 1 rfl (by simp) ?_)
 refine j_step rfl (x_len sl48 rfl ?_)
 refine j_step rfl (x_make_nat (a.length) _ rfl rfl sl48 zo48e by48e (by omega) (by omega) (by omega) fun b1=>?_)
 refine j_run it 1 rfl (by simp) ?_
 refine j_nf [_,_] rfl (j_run it 1 rfl (by simp) ?_)
 refine j_nf [_,_,_] rfl (j_run it 1 rfl (by simp) ?_)
 refine j_step rfl (x_len sl48 rfl ?_)
 refine j_run it 2 rfl ⟨trivial,⟨by omega,by omega⟩,trivial⟩ ?_
 refine j_nf [_,_,_] rfl ?_
 refine j_loopN (X:=Nat × Nat × List Nat) (fun x=>[(0,.slice pa a.length ca),(1,.int .u32 b),(6,.slice (some ⟨b1,0,none⟩) a.length a.length),(7,.int .u64 x.2.1),(8,.int .i64 ((x.1 : Int) - 1))])
  (fun x=>[(some b1,78,natCells .u32 x.2.2)]) (fun _=>[slF U32 pa a.length ca a])
  (fun x=>x.1 ≤ a.length ∧ x.2.2.length = a.length ∧ x.2.1 < b ∧ (∀ y ∈ x.2.2,y < 4294967296) ∧ val (a.drop x.1) = val (x.2.2.drop x.1) * b + x.2.1)
  (fun x=>x.1) (a.length,0,List.replicate a.length 0) [0] rfl ⟨Nat.le_refl _,by simp,hb,rep_lt (by decide),by simp [val]⟩ (by repeat (first | exact Fr.sub_nil _ | refine Fr.sub_cons rfl ?_)) rfl rfl ?_
 rintro ⟨k,r,out⟩ ⟨hk,hl,hr,ho,hv⟩ ih
 simp only at hk hl hr ho hv ih ⊢
 by_cases hk0 : 0 < k
 ·refine j_nf [_,_,_,_,_,_] rfl (j_run it 2 rfl (by simp) ?_)
  refine j_nf [_,_,_,_,_] rfl (j_if rfl rfl (fun h1=>?_) (fun h1=>by exfalso;omega))
  refine j_nf [_,_,_,_,_,_,_] rfl (j_run it 4 rfl ⟨trivial,trivial,⟨by omega,by omega⟩,trivial,trivial⟩ ?_)
  refine j_step rfl (x_idx 0 ((k) - 1) rfl rfl rfl sl48 (by omega) (by omega) fun z1 hz1 b2 o1=>?_)
  refine j_step rfl (x_ld_nat 0 rfl rfl ld78 fun ⟨r1,r2⟩=>?_)
  refine j_run it 1 rfl ⟨⟨by omega,by omega⟩,trivial⟩ ?_
  refine j_step rfl (x_or_shl (r) (z1) rfl rfl (by first | rfl | omega) (by first | rfl | omega) (by omega) (by omega) ?_)
  refine j_run it 1 rfl (by simp) ?_
  refine j_nf [_,_,_,_,_,_,_] rfl (j_run it 6 rfl ⟨⟨by omega,by omega,by omega,by omega⟩,⟨by omega,by omega⟩,trivial,trivial,trivial,trivial,trivial⟩ ?_)
  refine j_step rfl (x_conv_u32 it rfl rfl rfl ?_)
  refine j_step rfl (x_idx_own ((k) - 1) ((k) - 1) rfl rfl sl48 (by omega) (by omega) (Nat.mul_one _) ?_)
  refine j_step rfl (x_bst_nat 0 (((r * 4294967296 + z1) / (b)) % 4294967296) rfl rfl rfl ld78 (by first | rfl | omega) (by first | omega | (simp;omega)) ?_)
  refine j_nf [_,_,_,_,_,_] rfl (j_run it 5 rfl ⟨trivial,⟨by omega,by omega⟩,⟨by omega,by omega⟩,trivial,trivial,trivial⟩ ?_)
  refine j_nf [_,_,_,_] rfl (j_run it 3 rfl ⟨trivial,⟨by omega,by omega⟩,trivial,trivial⟩ ?_)
  refine j_nfn 1 [.lp (pL 244),.blk 0,.c [1,1,1,1]] rfl ?_
  have hz:=(hra z1 (List.mem_of_getElem? hz1)).2
  have hq:=div_lt' (x:=z1) hr (by omega)
  refine j_to [1] (by exact fcc rfl (fcc rfl (fcc rfl (fcc rfl (fii rfl (by omega) (fzz _)))))) rfl rfl (ih (k - 1,(r * 4294967296 + z1) % b,out.set (k - 1) ((r * 4294967296 + z1) / b % 4294967296)) (by simp only;omega) ⟨by simp only;omega,by simpa using hl,Nat.mod_lt _ hb,set_lt ho (by omega),by
   simp only
   rw [Nat.mod_eq_of_lt hq]
   have e : k - 1 + 1 = k:=by omega
   have hz1' : a[k - 1]? = some z1:=by first | exact hz1 | simpa using hz1
   rw [val_drop hz1',val_set_drop (by omega),e]
   exact div_step hv hb⟩)
 ·refine j_nf [_,_,_,_,_,_] rfl (j_run it 2 rfl (by simp) ?_)
  refine j_nf [_,_,_,_,_] rfl (j_if rfl rfl (fun h1=>by exfalso;omega) (fun h1=>?_))
  refine j_nf [_,_] rfl (j_run it 1 rfl (by simp) ?_)
  refine j_pub32 (n:=a.length) 0 rfl (by simp [*]) (by first | assumption | exact set_all (by assumption) (by omega) | (simp;omega)) (by omega) ?_
  refine j_step rfl (x_call [0] rfl (S_nat_short) rfl ?_)
  rintro _ _ _ ⟨rfl,rfl,rfl⟩
  simp only [List.cons_append,List.nil_append]
  refine j_run it 4 rfl ⟨trivial,trivial,⟨by omega,by omega⟩,trivial,trivial⟩ ?_
  refine j_nf [_] rfl ?_
  have e : k = 0:=by omega
  subst e
  simp only [List.drop_zero] at hv
  have h1 : val a / b = val out:=by rw [hv,Nat.mul_comm,Nat.mul_add_div hb,Nat.div_eq_of_lt hr,Nat.add_zero]
  have h2 : val a % b = r:=by rw [hv,Nat.mul_comm,Nat.mul_add_mod,Nat.mod_eq_of_lt hr]
  rw [trim_eq ho,← h1]
  refine j_giv [0] rfl rfl rfl ⟨_,_,by rw [h2];rfl,rfl,rfl⟩
end Go.Proofs.Ytmhcfhddmkhaiaa
