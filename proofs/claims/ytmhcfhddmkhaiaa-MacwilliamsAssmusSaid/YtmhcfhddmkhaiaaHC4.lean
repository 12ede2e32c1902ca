/-
Contracts of bits.Len32 and nat.Bits. The division of long numbers, limb by limb (Knuth's algorithm D): the arithmetic of one step. The division of long numbers: how many digits a shifted number has, and what the whole division comes to. Contracts of nat.Cmp and nat.Sub. The contract of nat.step, first part: what is done when the guess was too great by one. The contract of nat.shift. The contract of nat.step, second part: multiplied and taken away. The contract of nat.step. The contract of nat.long, and of bits.LeadingZeros32. The contracts of nat.DivMod and nat.Gcd. Contracts of the document's numbers: Trim, Of, limb, Same, Zero. Contracts of macwilliams.shape, the document's Shape, and the law's long. Contracts of nat.Pow, for small bases and exponents. Contracts of nat.Binomial. Contracts of macwilliams.Power and Moment. Contracts of macwilliams.Moment. The contract of nat.Trim, where the caller goes on writing in what it gets. The contract of nat.Sub. The contracts of rational.one, canonical, Trim, Neg, Sign. The contracts of rational.plus, Add, Sub, Cmp, Mul. The contracts of rational.Sub, Cmp, Mul. The program's numbers with a sign: plus, minus, times, small, ratio. The program's table of Krawtchouk numbers. The document's sum. The document's product. The document's power. The document's Cmp and Sub. The document's shift.
-/
import Derived.Test.YtmhcfhddmkhaiaaHC3
set_option linter.unusedVariables false
set_option linter.unusedSimpArgs false
namespace Go.Proofs.Ytmhcfhddmkhaiaa
open Go Go.Fw
set_option maxRecDepth 100000
set_option linter.unusedVariables false
set_option linter.unusedSimpArgs false
set_option maxHeartbeats 1000000
theorem S_bits_Len32 {x : Nat} (hx : x < 4294967296) : Ctr Try.prog 64 [.int .u32 x] [] [] (Rv (.int .i64 (blen x)) []):=by
 refine Ctr_of_j' (F:=F_bits_Len32) rfl fun C=>?_
 have last : ∀ (y c : Nat),y < 256 → c ≤ 24 → c + blen y = blen x → J F_bits_Len32 C [.c [1,1,1]] [(0,.int .u32 y),(2,.int .i64 c)] [] [] (Gives C (Rv (.int .i64 (blen x)) [])):=by
  intro y c hy hc he
  refine j_nf [_,_] rfl (j_run it 3 rfl ⟨⟨by omega,by omega⟩,trivial,trivial,trivial⟩ ?_)
  refine j_step rfl (x_char y rfl rfl rfl rfl (tab_get (by decide +kernel) hy) ?_)
  have e : (UInt8.ofNat (blen y)).toNat = blen y:=by
   have:=blen_le (n:=y) (k:=8) (by simpa using hy)
   simp only [UInt8.toNat_ofNat'];omega
  rw [e]
  have h8:=blen_le (n:=y) (k:=8) (by simpa using hy)
  refine j_run it 3 rfl ⟨trivial,⟨by omega,by omega⟩,⟨by omega,by omega⟩,trivial⟩ ?_
  refine j_nf [_] rfl ?_
  refine j_giv [] rfl rfl rfl ⟨by rw [← he];rfl,rfl,rfl⟩
 have mid : ∀ (y c : Nat),y < 65536 → c ≤ 16 → c + blen y = blen x → J F_bits_Len32 C [.c [1,1]] [(0,.int .u32 y),(2,.int .i64 c)] [] [] (Gives C (Rv (.int .i64 (blen x)) [])):=by
  intro y c hy hc he
  by_cases h : 256 ≤ y
  ·refine j_nf [_,_,_] rfl (j_run it 2 rfl (by simp) ?_)
   refine j_nf [_,_] rfl (j_if rfl rfl (fun h1=>?_) (fun h1=>by exfalso;omega))
   refine j_nf [_,_,_] rfl (j_run it 1 rfl (by simp) ?_)
   refine j_step rfl (x_shr_nat (y) 8 rfl rfl (by first | rfl | omega) (by first | rfl | omega) (by first | decide | (simp only [IntKind.bits];omega)) ?_)
   refine j_run it 1 rfl (by simp) ?_
   refine j_nf [_,_] rfl (j_run it 3 rfl ⟨trivial,⟨by omega,by omega⟩,trivial,trivial⟩ ?_)
   refine j_nfn 1 [.c [1,1,1]] rfl ?_
   refine j_to [] (by exact fra rfl) rfl rfl (last (y / 2 ^ 8) (c + 8) (by omega) (by omega) (by rw [← he,blen_div 8 y (by omega)];omega))
  ·refine j_nf [_,_,_] rfl (j_run it 2 rfl (by simp) ?_)
   refine j_nf [_,_] rfl (j_if rfl rfl (fun h1=>by exfalso;omega) (fun h1=>?_))
   refine j_nfn 1 [.c [1,1,1]] rfl ?_
   refine j_to [] (by exact fra rfl) rfl rfl (last y c (by omega) (by omega) he)
 by_cases h : 65536 ≤ x
 ·refine j_nf [_,_] rfl (j_run it 1 rfl (by simp) ?_)
  refine j_nf [_,_,_] rfl (j_run it 2 rfl (by simp) ?_)
  refine j_nf [_,_] rfl (j_if rfl rfl (fun h1=>?_) (fun h1=>by exfalso;omega))
  refine j_nf [_,_,_] rfl (j_run it 1 rfl (by simp) ?_)
  refine j_step rfl (x_shr_nat (x) 16 rfl rfl (by first | rfl | omega) (by first | rfl | omega) (by first | decide | (simp only [IntKind.bits];omega)) ?_)
  refine j_run it 1 rfl (by simp) ?_
  refine j_nf [_,_] rfl (j_run it 1 rfl (by simp) ?_)
  refine j_nfn 1 [.c [1,1]] rfl ?_
  refine j_to [] (by exact fra rfl) rfl rfl (mid (x / 2 ^ 16) 16 (by omega) (by omega) (by rw [blen_div 16 x (by omega)];omega))
 ·refine j_nf [_,_] rfl (j_run it 1 rfl (by simp) ?_)
  refine j_nf [_,_,_] rfl (j_run it 2 rfl (by simp) ?_)
  refine j_nf [_,_] rfl (j_if rfl rfl (fun h1=>by exfalso;omega) (fun h1=>?_))
  refine j_nfn 1 [.c [1,1]] rfl ?_
  refine j_to [] (by exact fra rfl) rfl rfl (mid x 0 (by omega) (by omega) (by omega))
theorem S_nat_Bits {pa : Option Addr} {n ca : Nat} {l : List Nat} : Ctr Try.prog 36 [.slice pa n ca] [] [slF U32 pa n ca l] (Rv (.int .i64 (bitsL l)) []):=by
 refine Ctr_of_j' (F:=F_nat_Bits) rfl fun C=>?_
 refine j_len 0 rfl fun hn hb _=>?_
 subst hn
 have hb' : l.length * 4 ≤ 140737488355328:=hb
 refine j_range 0 rfl fun hr=>?_
 simp only [InR] at hr
 have hl:=trim_length_le l
 by_cases h0 : (trim l).length = 0
 ·refine j_nf [_,_] rfl (j_run it 1 rfl (by simp) ?_)
  refine j_nf [_,_] rfl (j_run it 1 rfl (by simp) ?_)
  refine j_step rfl (x_call [0] rfl (S_nat_short) rfl ?_)
  rintro _ _ _ ⟨rfl,rfl,rfl⟩
  simp only [List.cons_append,List.nil_append]
  refine j_run it 1 rfl (by simp) ?_
  refine j_nf [_,_,_] rfl (j_run it 1 rfl (by simp) ?_)
  refine j_step rfl (x_len sl48 rfl ?_)
  refine j_run it 1 rfl (by simp) ?_
  refine j_nf [_,_] rfl (j_if rfl rfl (fun h1=>?_) (fun h1=>by exfalso;omega))
  refine j_nf [_,_,_] rfl (j_run it 1 rfl (by simp) ?_)
  refine j_nf [_,_] rfl ?_
  refine j_giv [] rfl rfl rfl ⟨by rw [bitsL_nil h0];rfl,rfl,rfl⟩
 ·have side : ∀ z,(trim l)[(trim l).length - 1]? = some z → z < 4294967296:=fun z hz=>by have:=hr z (mem_trim (List.mem_of_getElem? hz));omega
  have side2 : ∀ z,(trim l)[(trim l).length - 1]? = some z → blen z ≤ 32:=fun z hz=>blen_le (by have:=side z hz;simpa using this)
  refine j_nf [_,_] rfl (j_run it 1 rfl (by simp) ?_)
  refine j_nf [_,_] rfl (j_run it 1 rfl (by simp) ?_)
  refine j_step rfl (x_call [0] rfl (S_nat_short) rfl ?_)
  rintro _ _ _ ⟨rfl,rfl,rfl⟩
  simp only [List.cons_append,List.nil_append]
  refine j_run it 1 rfl (by simp) ?_
  refine j_nf [_,_,_] rfl (j_run it 1 rfl (by simp) ?_)
  refine j_step rfl (x_len sl48 rfl ?_)
  refine j_run it 1 rfl (by simp) ?_
  refine j_nf [_,_] rfl (j_if rfl rfl (fun h1=>by exfalso;omega) (fun h1=>?_))
  refine j_nf [_,_] rfl (j_run it 1 rfl (by simp) ?_)
  refine j_step rfl (x_len sl48 rfl ?_)
  refine j_run it 4 rfl ⟨trivial,trivial,⟨by omega,by omega⟩,⟨by omega,by omega⟩,trivial⟩ ?_
  refine j_step rfl (x_len sl48 rfl ?_)
  refine j_run it 1 rfl ⟨⟨by omega,by omega⟩,trivial⟩ ?_
  refine j_step rfl (x_idx 0 (((trim l).length) - 1) rfl rfl rfl sl48 (by omega) (by omega) fun z1 hz1 b1 o1=>?_)
  refine j_step rfl (x_ld_nat 0 rfl rfl ld78 fun ⟨r1,r2⟩=>?_)
  refine j_step rfl (x_call [] rfl (S_bits_Len32 (by omega)) rfl ?_)
  rintro _ _ _ ⟨rfl,rfl,rfl⟩
  simp only [List.cons_append,List.nil_append] --ok
  have hs2:=side2 z1 hz1
  refine j_run it 2 rfl ⟨trivial,⟨by omega,by omega⟩,trivial⟩ ?_
  refine j_nf [_] rfl ?_
  refine j_giv [] rfl rfl rfl ⟨by
   rw [bitsL_top hz1]
   show Value.int .i64 _ = Value.int .i64 _
   congr 1;omega,rfl,rfl⟩
theorem val_top3 {l : List Nat} {k x y z : Nat} (hl : l.length = k + 3) (hx : l[k]? = some x) (hy : l[k + 1]? = some y) (hz : l[k + 2]? = some z) : val l = val (l.take k) + 4294967296 ^ k * (x + 4294967296 * (y + 4294967296 * z)):=by
 rw [val_take_drop l k (by omega),val_drop hx,val_drop hy,val_drop hz,List.drop_of_length_le (by omega)]
 rfl
theorem val_top2 {l : List Nat} {k x y : Nat} (hl : l.length = k + 2) (hx : l[k]? = some x) (hy : l[k + 1]? = some y) : val l = val (l.take k) + 4294967296 ^ k * (x + 4294967296 * y):=by
 rw [val_take_drop l k (by omega),val_drop hx,val_drop hy,List.drop_of_length_le (by omega)]
 rfl
section
variable {P U V ul vl U0 U1 U2 V1 V2 q r : Nat}
theorem kn_low (hU : U = ul + P * (U2 + 4294967296 * (U1 + 4294967296 * U0))) (hul : ul < P) : U < P * (U2 + 4294967296 * (U1 + 4294967296 * U0) + 1):=by
 rw [Nat.mul_succ];omega
theorem kn_high (hV : V = vl + P * (V2 + 4294967296 * V1)) (hvl : vl < P) : V ≤ P * (V2 + 4294967296 * V1 + 1):=by
 rw [Nat.mul_succ];omega
theorem kn_mul (hU : U = ul + P * (U2 + 4294967296 * (U1 + 4294967296 * U0))) (hul : ul < P) (hV : V = vl + P * (V2 + 4294967296 * V1)) (h : q * V ≤ U) : q * (V2 + 4294967296 * V1) ≤ U2 + 4294967296 * (U1 + 4294967296 * U0):=by
 have h1:=kn_low hU hul
 have h2 : P * (q * (V2 + 4294967296 * V1)) ≤ q * V:=by rw [hV,← Nat.mul_assoc,Nat.mul_comm P q,Nat.mul_assoc];exact Nat.mul_le_mul_left _ (Nat.le_add_left _ _)
 have h3 : P * (q * (V2 + 4294967296 * V1)) < P * (U2 + 4294967296 * (U1 + 4294967296 * U0) + 1):=Nat.lt_of_le_of_lt (Nat.le_trans h2 h) h1
 have:=Nat.lt_of_mul_lt_mul_left h3
 omega
theorem kn_first (hU : U = ul + P * (U2 + 4294967296 * (U1 + 4294967296 * U0))) (hul : ul < P) (hV : V = vl + P * (V2 + 4294967296 * V1)) (hV1 : 0 < V1) (hU2 : U2 < 4294967296) (hq : q * V ≤ U) : q ≤ (U1 + 4294967296 * U0) / V1:=by
 have h:=kn_mul hU hul hV hq
 rw [Nat.le_div_iff_mul_le hV1]
 have e : q * (V2 + 4294967296 * V1) = q * V2 + 4294967296 * (q * V1):=by rw [Nat.mul_add,Nat.mul_left_comm]
 rw [e] at h
 have : 4294967296 * (q * V1) < 4294967296 * (U1 + 4294967296 * U0 + 1):=by omega
 have:=Nat.lt_of_mul_lt_mul_left this
 omega
theorem kn_less (hU : U = ul + P * (U2 + 4294967296 * (U1 + 4294967296 * U0))) (hul : ul < P) (hV : V = vl + P * (V2 + 4294967296 * V1)) (htop : q * V1 + r = U1 + 4294967296 * U0) (hq : q * V ≤ U) : q * V2 ≤ r * 4294967296 + U2:=by
 have h:=kn_mul hU hul hV hq
 have e : q * (V2 + 4294967296 * V1) = q * V2 + 4294967296 * (q * V1):=by rw [Nat.mul_add,Nat.mul_left_comm]
 rw [e,← htop] at h
 omega
theorem kn_end (hU : U = ul + P * (U2 + 4294967296 * (U1 + 4294967296 * U0))) (hV : V = vl + P * (V2 + 4294967296 * V1)) (hvl : vl < P) (htop : (q + 1) * V1 + r = U1 + 4294967296 * U0) (hq : q + 1 < 4294967296) (hV1 : 1 ≤ V1) (h : (q + 1) * V2 ≤ r * 4294967296 + U2) : q * V ≤ U:=by
 have h1 : q * V ≤ P * (q * (V2 + 4294967296 * V1 + 1)):=by
  rw [← Nat.mul_assoc,Nat.mul_comm P q,Nat.mul_assoc];exact Nat.mul_le_mul_left _ (kn_high hV hvl)
 have e2 : q * (V2 + 4294967296 * V1 + 1) = q * V2 + 4294967296 * (q * V1) + q:=by rw [Nat.mul_succ,Nat.mul_add,Nat.mul_left_comm]
 have e3 : (q + 1) * V2 = q * V2 + V2:=Nat.succ_mul _ _
 have e4 : (q + 1) * V1 = q * V1 + V1:=Nat.succ_mul _ _
 rw [e3] at h
 rw [e4] at htop
 have h3 : q * (V2 + 4294967296 * V1 + 1) ≤ U2 + 4294967296 * (U1 + 4294967296 * U0):=by rw [e2];omega
 have h4:=Nat.mul_le_mul_left P h3
 omega
theorem kn_top (hU : U = ul + P * (U2 + 4294967296 * (U1 + 4294967296 * U0))) (hV : V = vl + P * (V2 + 4294967296 * V1)) (hvl : vl < P) (hV2 : V2 < 4294967296) (h : U < 4294967296 * V) : U0 ≤ V1:=by
 rcases Nat.lt_or_ge V1 U0 with h1 | h1
 ·exfalso
  have h2:=kn_high hV hvl
  have h3 : P * (V2 + 4294967296 * V1 + 1) ≤ P * (4294967296 * U0):=Nat.mul_le_mul_left _ (by omega)
  have h4 : P * (4294967296 * (4294967296 * U0)) ≤ P * (U2 + 4294967296 * (U1 + 4294967296 * U0)):=Nat.mul_le_mul_left _ (by omega)
  have h5 : P * (4294967296 * (4294967296 * U0)) = 4294967296 * (P * (4294967296 * U0)):=Nat.mul_left_comm _ _ _
  omega
 ·exact h1
end
theorem mulsub_step {A U P c b q y u p d : Nat} {W : Nat} (h : A + q * W = U + P * (c + b)) (hb : b ≤ 1) (hu : u < 4294967296) (hp : p = q * y + c) (hd : d = ((u + 18446744073709551616 - p % 4294967296) % 18446744073709551616 + 18446744073709551616 - b) % 18446744073709551616) :
  A + P * (d % 4294967296) + q * (W + P * y) = U + P * u + P * 4294967296 * (p / 4294967296 + d / 9223372036854775808) ∧ d / 9223372036854775808 ≤ 1:=by
 have e : d % 4294967296 + p % 4294967296 + b = u + 4294967296 * (d / 9223372036854775808) ∧ d / 9223372036854775808 ≤ 1:=by omega
 refine ⟨?_,e.2⟩
 have e1:=e.1
 have e2 : P * (d % 4294967296) + P * (q * y) + P * (c + b) = P * u + P * 4294967296 * (p / 4294967296 + d / 9223372036854775808):=by
  have e3 : d % 4294967296 + q * y + (c + b) = u + 4294967296 * (p / 4294967296 + d / 9223372036854775808):=by clear hd h;omega
  rw [Nat.mul_assoc,← Nat.mul_add,← Nat.mul_add,← Nat.mul_add,e3]
 have e4 : q * (W + P * y) = q * W + P * (q * y):=by rw [Nat.mul_add,Nat.mul_left_comm]
 have e5 : P * (c + b) = P * c + P * b:=Nat.mul_add _ _ _
 rw [e4]
 clear hd hp e1 e
 omega
theorem kn_right {u V q R Q U P uk c b : Nat} (hU : U = u + P * uk) (h : R + q * V = u + P * (c + b)) (hle : c + b ≤ uk) (hQ : Q = U / V) (hQq : Q ≤ q) (hV : 0 < V) : q = Q ∧ R + P * (uk - (c + b)) = U % V:=by
 have e : R + P * (uk - (c + b)) + q * V = U:=by
  have : P * uk = P * (uk - (c + b)) + P * (c + b):=by rw [← Nat.mul_add];congr 1;omega
  omega
 have hq : q ≤ Q:=by rw [hQ,Nat.le_div_iff_mul_le hV];omega
 have hqQ : q = Q:=by omega
 refine ⟨hqQ,?_⟩
 have h2:=Nat.div_add_mod U V
 rw [← hQ,← hqQ,Nat.mul_comm] at h2
 omega
theorem kn_wrong {u V q R Q U P uk c b : Nat} (hU : U = u + P * uk) (h : R + q * V = u + P * (c + b)) (hlt : uk < c + b) (hR : R < P) (hQ : Q = U / V) (hQ1 : q ≤ Q + 1) (hV : 0 < V) : q = Q + 1 ∧ R + V + P * uk = U % V + P * (c + b):=by
 have e : R + q * V + P * uk = U + P * (c + b):=by omega
 have h1 : P * (uk + 1) ≤ P * (c + b):=Nat.mul_le_mul_left _ hlt
 have hgt : U < q * V:=by rw [Nat.mul_succ] at h1;omega
 have h2:=Nat.div_add_mod U V
 rw [← hQ,Nat.mul_comm] at h2
 have hq : q = Q + 1:=by
  rcases Nat.lt_or_ge Q q with h | h
  ·omega
  ·have:=Nat.mul_le_mul_right V h
   omega
 refine ⟨hq,?_⟩
 rw [hq,Nat.succ_mul] at e
 omega
theorem shr_digit {x y z n : Nat} (hn : n < 32) : ((x + 4294967296 * (y + 4294967296 * z)) / 2 ^ n) % 4294967296 = ((x + 4294967296 * y) / 2 ^ n) % 4294967296:=by
 have hB : (4294967296 : Nat) = 2 ^ n * 2 ^ (32 - n):=by rw [← Nat.pow_add,show n + (32 - n) = 32 by omega]
 have e : x + 4294967296 * (y + 4294967296 * z) = (x + 4294967296 * y) + 2 ^ n * (4294967296 * (2 ^ (32 - n) * z)):=by
  have : 2 ^ n * (4294967296 * (2 ^ (32 - n) * z)) = 4294967296 * (4294967296 * z):=by
   rw [Nat.mul_left_comm,← Nat.mul_assoc (2 ^ n),← hB]
  rw [this];omega
 rw [e,Nat.add_mul_div_left _ _ (Nat.pow_pos (by decide)),Nat.add_mul_mod_self_left]
theorem two_parts {a b P x y : Nat} (h : a + P * x = b + P * y) (ha : a < P) (hb : b < P) : a = b ∧ x = y:=by
 have hP : 0 < P:=by omega
 have e1 : (a + P * x) % P = a:=by rw [Nat.add_mul_mod_self_left,Nat.mod_eq_of_lt ha]
 have e2 : (b + P * y) % P = b:=by rw [Nat.add_mul_mod_self_left,Nat.mod_eq_of_lt hb]
 have e3 : a = b:=by rw [← e1,h,e2]
 refine ⟨e3,?_⟩
 have : P * x = P * y:=by omega
 exact Nat.eq_of_mul_eq_mul_left hP this
theorem kn_back {w R V U P uk c b cy : Nat} (h1 : w + P * cy = R + V) (h2 : R + V + P * uk = U % V + P * (c + b)) (hw : w < P) (hV : V ≤ P) (hV0 : 0 < V) : w = U % V ∧ cy + uk = c + b:=by
 have h3 : w + P * (cy + uk) = U % V + P * (c + b):=by rw [Nat.mul_add];omega
 exact two_parts h3 hw (Nat.lt_of_lt_of_le (Nat.mod_lt _ hV0) hV)
theorem prod_fits {q z c : Nat} (hq : q < 4294967296) (hz : z < 4294967296) (hc : c < 4294967296) : (q * z + c) / 4294967296 < 4294967296 ∧ q * z + c < 18446744073709551616:=by
 have h : q * z ≤ 4294967295 * 4294967295:=Nat.mul_le_mul (by omega) (by omega)
 omega
set_option maxRecDepth 100000
set_option linter.unusedVariables false
set_option linter.unusedSimpArgs false
theorem blen_lt (n : Nat) : n < 2 ^ blen n:=by
 induction n using Nat.strongRecOn with
 | _ n ih =>
  by_cases h : n = 0
  ·subst h;rw [blen_zero];decide
  ·rw [blen_pos h,Nat.pow_succ]
   have:=ih (n / 2) (by omega)
   omega
theorem blen_ge {n : Nat} (h : n ≠ 0) : 2 ^ (blen n - 1) ≤ n:=by
 induction n using Nat.strongRecOn with
 | _ n ih =>
  rw [blen_pos h,Nat.add_sub_cancel]
  by_cases h1 : n / 2 = 0
  ·rw [h1,blen_zero];show 1 ≤ n;omega
  ·have:=ih (n / 2) (by omega) h1
   have e : blen (n / 2) = (blen (n / 2) - 1) + 1:=by have:=blen_pos h1;omega
   rw [e,Nat.pow_succ]
   omega
theorem norm_limb {t : Nat} (h0 : t ≠ 0) (ht : t < 4294967296) : 2147483648 ≤ t * 2 ^ (32 - blen t) ∧ (t + 1) * 2 ^ (32 - blen t) ≤ 4294967296:=by
 have h1:=blen_lt t
 have h2:=blen_ge h0
 have h3 : blen t ≤ 32:=blen_le (by simpa using ht)
 have h4 : 1 ≤ blen t:=by have:=blen_pos h0;omega
 constructor
 ·have:=Nat.mul_le_mul_right (2 ^ (32 - blen t)) h2
  rw [← Nat.pow_add,show blen t - 1 + (32 - blen t) = 31 by omega] at this
  exact this
 ·have:=Nat.mul_le_mul_right (2 ^ (32 - blen t)) (show t + 1 ≤ 2 ^ blen t from h1)
  rw [← Nat.pow_add,show blen t + (32 - blen t) = 32 by omega] at this
  exact this
theorem top_split {l : List Nat} {k t : Nat} (hl : l.length = k + 1) (ht : l[k]? = some t) : val l = val (l.take k) + 4294967296 ^ k * t:=by
 have h:=val_take_succ ht
 rwa [List.take_of_length_le (by omega)] at h
theorem norm_div {b : List Nat} {k t : Nat} (hb : ∀ x ∈ b,x < 4294967296) (hl : b.length = k + 1) (ht : b[k]? = some t) (h0 : t ≠ 0) :
  (limbs (val b * 2 ^ (32 - blen t))).length = k + 1 ∧ ∃ w,(limbs (val b * 2 ^ (32 - blen t)))[k]? = some w ∧ 2147483648 ≤ w:=by
 have htl:=hb t (List.mem_of_getElem? ht)
 obtain ⟨h1,h2⟩:=norm_limb h0 htl
 have hv:=top_split hl ht
 have hlow:=take_lt (k:=k) hb (by omega)
 generalize hS : 2 ^ (32 - blen t) = s at *
 have hup : val b * s < 4294967296 ^ (k + 1):=by
  have h3 : val b < 4294967296 ^ k * (t + 1):=by rw [Nat.mul_succ];omega
  have h4 : 4294967296 ^ k * (t + 1) * s ≤ 4294967296 ^ k * 4294967296:=by rw [Nat.mul_assoc];exact Nat.mul_le_mul_left _ h2
  have hs : 0 < s:=by rw [← hS];exact Nat.pow_pos (by decide)
  have h5 : val b * s < 4294967296 ^ k * (t + 1) * s:=Nat.mul_lt_mul_of_pos_right h3 hs
  rw [Nat.pow_succ]
  omega
 have hdn : 4294967296 ^ k * 2147483648 ≤ val b * s:=by
  have h3 : 4294967296 ^ k * (t * s) ≤ val b * s:=by rw [← Nat.mul_assoc];exact Nat.mul_le_mul_right _ (by omega)
  exact Nat.le_trans (Nat.mul_le_mul_left _ h1) h3
 have hle:=limbs_length_le hup
 have hge : k + 1 ≤ (limbs (val b * s)).length:=by
  rcases Nat.lt_or_ge (limbs (val b * s)).length (k + 1) with h | h
  ·have h3:=limbs_le_length (n:=val b * s) (k:=k) (by omega)
   have : 4294967296 ^ k * 1 ≤ 4294967296 ^ k * 2147483648:=Nat.mul_le_mul_left _ (by decide)
   omega
  ·exact h
 have hlen : (limbs (val b * s)).length = k + 1:=by omega
 refine ⟨hlen,(limbs (val b * s))[k],by simp [hlen],?_⟩
 have hx : (limbs (val b * s))[k]? = some (limbs (val b * s))[k]:=by simp [hlen]
 have h3:=top_split hlen hx
 rw [val_limbs] at h3
 have h4:=take_lt (k:=k) (limbs_lt (val b * s)) (by omega)
 generalize (limbs (val b * s))[k] = w at *
 rcases Nat.lt_or_ge w 2147483648 with h | h
 ·have : 4294967296 ^ k * (w + 1) ≤ 4294967296 ^ k * 2147483648:=Nat.mul_le_mul_left _ h
  rw [Nat.mul_succ] at this
  omega
 ·exact h
theorem drop_zero {l : List Nat} {k : Nat} (h : val l < 4294967296 ^ k) : val (l.drop k) = 0:=by
 rcases Nat.le_total l.length k with h1 | h1
 ·rw [List.drop_of_length_le h1];rfl
 ·have e:=val_take_drop l k h1
  rcases Nat.eq_zero_or_pos (val (l.drop k)) with h2 | h2
  ·exact h2
  ·have : 4294967296 ^ k * 1 ≤ 4294967296 ^ k * val (l.drop k):=Nat.mul_le_mul_left _ h2
   omega
theorem drop_div {l : List Nat} (hl : ∀ x ∈ l,x < 4294967296) (k : Nat) (hk : k ≤ l.length) : val (l.drop k) = val l / 4294967296 ^ k:=by
 have e:=val_take_drop l k hk
 have h:=take_lt hl hk
 rw [e,Nat.add_mul_div_left _ _ (Nat.pow_pos (by decide)),Nat.div_eq_of_lt h,Nat.zero_add]
theorem long_start {A V n la k m : Nat} {uu : List Nat} (huu : ∀ x ∈ uu,x < 4294967296) (hlen : uu.length = la + 1) (hU : val uu = A * 2 ^ n) (hA : A < 4294967296 ^ la) (hV : 4294967296 ^ k * 2 ^ n ≤ V) (hm : m + k = la) (hml : m ≤ uu.length) : val (uu.drop m) < V:=by
 rw [drop_div huu m hml,hU]
 refine Nat.lt_of_lt_of_le ?_ hV
 rw [Nat.div_lt_iff_lt_mul (Nat.pow_pos (by decide))]
 have h1 : A * 2 ^ n < 4294967296 ^ la * 2 ^ n:=Nat.mul_lt_mul_of_pos_right hA (Nat.pow_pos (by decide))
 have e : 4294967296 ^ k * 2 ^ n * 4294967296 ^ m = 4294967296 ^ la * 2 ^ n:=by rw [← hm,Nat.pow_add];simp only [Nat.mul_comm,Nat.mul_left_comm,Nat.mul_assoc]
 rw [e];exact h1
theorem long_step {P V pre mid Q N q r : Nat} (he : pre + P * mid + P * 4294967296 * V * Q = N) (hq : q = mid / V) (hr : r = mid % V) : pre + P * r + P * V * (q + 4294967296 * Q) = N:=by
 have h:=Nat.div_add_mod mid V
 rw [← hq,← hr] at h
 rw [← h] at he
 rw [← he,Nat.mul_add,Nat.mul_add]
 simp only [Nat.mul_comm,Nat.mul_left_comm,Nat.mul_assoc]
 omega
theorem long_end {U V Q A B s : Nat} (h : U + V * Q = A * s) (hV : V = B * s) (hU : U < V) (hs : 0 < s) : Q = A / B ∧ U = (A % B) * s:=by
 have e1 : A * s / V = Q:=by
  rw [← h,Nat.add_mul_div_left _ _ (by omega),Nat.div_eq_of_lt hU,Nat.zero_add]
 have e2 : A * s % V = U:=by
  rw [← h,Nat.add_mul_mod_self_left,Nat.mod_eq_of_lt hU]
 subst hV
 rw [Nat.mul_div_mul_right _ _ hs] at e1
 rw [Nat.mul_mod_mul_right] at e2
 exact ⟨e1.symm,e2.symm⟩
theorem rem_digit {l : List Nat} {i x y n : Nat} (hl : ∀ z ∈ l,z < 4294967296) (hx : l[i]? = some x) (hy : l[i + 1]? = some y) (hn : n < 32) : val l / 2 ^ n % 4294967296 ^ (i + 1) = val l / 2 ^ n % 4294967296 ^ i + 4294967296 ^ i * ((x + 4294967296 * y) / 2 ^ n % 4294967296):=by
 have hi : i < l.length:=(List.getElem?_eq_some_iff.1 hx).1
 have e : val l / 2 ^ n / 4294967296 ^ i = (x + 4294967296 * (y + 4294967296 * val (l.drop (i + 2)))) / 2 ^ n:=by
  rw [Nat.div_div_eq_div_mul,Nat.mul_comm,← Nat.div_div_eq_div_mul,← drop_div hl i (by omega),val_drop hx,val_drop hy]
 rw [Nat.pow_succ,Nat.mod_mul,e,shr_digit hn]
theorem limbs_top {n k : Nat} (h : (limbs n).length = k + 1) : ∃ t,(limbs n)[k]? = some t ∧ t ≠ 0:=by
 have ht : (limbs n)[k]? = some (limbs n)[k]:=by simp [h]
 refine ⟨_,ht,fun h0=>?_⟩
 have h3:=top_split h ht
 rw [h0,Nat.mul_zero,Nat.add_zero,val_limbs] at h3
 have h4:=take_lt (k:=k) (limbs_lt n) (by omega)
 have:=limbs_length_le (n:=n) (k:=k) (by omega)
 omega
open Go Go.Fw
set_option maxHeartbeats 1000000
theorem S_nat_Cmp {pa pb : Option Addr} {n m ca cb : Nat} {a b : List Nat} :
  Ctr Try.prog 23 [.slice pa n ca,.slice pb m cb] [] [slF U32 pa n ca a,slF U32 pb m cb b] (Rv (.int .i64 (cmpN (val a) (val b))) []):=by
 refine Ctr_of_j' (F:=F_nat_Cmp) rfl fun C=>?_
 refine j_len 0 rfl fun hn hba _=>?_
 refine j_len 1 rfl fun hm hbb _=>?_
 subst hn;subst hm
 have hba' : a.length * 4 ≤ 140737488355328:=hba
 have hbb' : b.length * 4 ≤ 140737488355328:=hbb
 refine j_range 0 rfl fun hra=>?_
 refine j_range 1 rfl fun hrb=>?_
 have hra' : ∀ x ∈ a,x < 4294967296:=fun x hx=>by have:=hra x hx;simp only [InR] at this;omega
 have hrb' : ∀ x ∈ b,x < 4294967296:=fun x hx=>by have:=hrb x hx;simp only [InR] at this;omega
 have ea:=trim_eq hra'
 have eb:=trim_eq hrb'
 have la:=trim_length_le a
 have lb:=trim_length_le b
 by_cases hA : (trim a).length < (trim b).length
 ·have : val a < val b:=lt_of_len (by rw [← ea,← eb];exact hA)
  rw [cmpN_lt this]
  refine j_nf [_,_] rfl ?_
  refine j_run it 1 rfl (by simp) ?_
  refine j_nf [_,_] rfl ?_
  refine j_run it 1 rfl (by simp) ?_
  refine j_step rfl (x_call [0] rfl (S_nat_short) rfl ?_)
  rintro _ _ _ ⟨rfl,rfl,rfl⟩
  simp only [List.cons_append,List.nil_append]
  refine j_run it 1 rfl (by simp) ?_
  refine j_step rfl (x_call [2] rfl (S_nat_short) rfl ?_)
  rintro _ _ _ ⟨rfl,rfl,rfl⟩
  simp only [List.cons_append,List.nil_append]
  refine j_run it 2 rfl (by simp) ?_
  refine j_nf [_,_,_] rfl ?_
  refine j_run it 1 rfl (by simp) ?_
  refine j_step rfl (x_len sl48 rfl ?_)
  refine j_run it 1 rfl (by simp) ?_
  refine j_step rfl (x_len sl48 rfl ?_)
  refine j_run it 1 rfl (by simp) ?_
  refine j_nf [_,_] rfl ?_
  refine j_ifn rfl rfl (fun h1=>?_) (fun h1=>by exfalso;omega)
  refine j_nf [_,_,_,_] rfl ?_
  refine j_run it 1 rfl (by simp) ?_
  refine j_step rfl (x_len sl48 rfl ?_)
  refine j_run it 1 rfl (by simp) ?_
  refine j_step rfl (x_len sl48 rfl ?_)
  refine j_run it 1 rfl (by simp) ?_
  refine j_nf [_,_,_] rfl ?_
  refine j_if rfl rfl (fun h2=>?_) (fun h2=>by exfalso;omega)
  refine j_nf [_,_,_,_] rfl ?_
  refine j_run it 1 rfl (by simp) ?_
  refine j_nf [_,_,_] rfl ?_
  refine j_giv [] rfl rfl rfl ⟨rfl,rfl,rfl⟩
 by_cases hB : (trim b).length < (trim a).length
 ·have : val b < val a:=lt_of_len (by rw [← ea,← eb];exact hB)
  rw [cmpN_gt this]
  refine j_nf [_,_] rfl ?_
  refine j_run it 1 rfl (by simp) ?_
  refine j_nf [_,_] rfl ?_
  refine j_run it 1 rfl (by simp) ?_
  refine j_step rfl (x_call [0] rfl (S_nat_short) rfl ?_)
  rintro _ _ _ ⟨rfl,rfl,rfl⟩
  simp only [List.cons_append,List.nil_append]
  refine j_run it 1 rfl (by simp) ?_
  refine j_step rfl (x_call [2] rfl (S_nat_short) rfl ?_)
  rintro _ _ _ ⟨rfl,rfl,rfl⟩
  simp only [List.cons_append,List.nil_append]
  refine j_run it 2 rfl (by simp) ?_
  refine j_nf [_,_,_] rfl ?_
  refine j_run it 1 rfl (by simp) ?_
  refine j_step rfl (x_len sl48 rfl ?_)
  refine j_run it 1 rfl (by simp) ?_
  refine j_step rfl (x_len sl48 rfl ?_)
  refine j_run it 1 rfl (by simp) ?_
  refine j_nf [_,_] rfl ?_
  refine j_ifn rfl rfl (fun h1=>?_) (fun h1=>by exfalso;omega)
  refine j_nf [_,_,_,_] rfl ?_
  refine j_run it 1 rfl (by simp) ?_
  refine j_step rfl (x_len sl48 rfl ?_)
  refine j_run it 1 rfl (by simp) ?_
  refine j_step rfl (x_len sl48 rfl ?_)
  refine j_run it 1 rfl (by simp) ?_
  refine j_nf [_,_,_] rfl ?_
  refine j_if rfl rfl (fun h2=>by exfalso;omega) (fun h2=>?_)
  refine j_nf [_,_,_] rfl ?_
  refine j_run it 1 rfl (by simp) ?_
  refine j_nf [_,_] rfl ?_
  refine j_giv [] rfl rfl rfl ⟨rfl,rfl,rfl⟩
 have hta : ∀ x ∈ trim a,x < 4294967296:=fun x hx=>hra' x (mem_trim hx)
 have htb : ∀ x ∈ trim b,x < 4294967296:=fun x hx=>hrb' x (mem_trim hx)
 have va : val (trim a) = val a:=val_trim a
 have vb : val (trim b) = val b:=val_trim b
 refine j_nf [_,_] rfl ?_
 refine j_run it 1 rfl (by simp) ?_
 refine j_nf [_,_] rfl ?_
 refine j_run it 1 rfl (by simp) ?_
 refine j_step rfl (x_call [0] rfl (S_nat_short) rfl ?_)
 rintro _ _ _ ⟨rfl,rfl,rfl⟩
 simp only [List.cons_append,List.nil_append]
 refine j_run it 1 rfl (by simp) ?_
 refine j_step rfl (x_call [2] rfl (S_nat_short) rfl ?_)
 rintro _ _ _ ⟨rfl,rfl,rfl⟩
 simp only [List.cons_append,List.nil_append]
 refine j_run it 2 rfl (by simp) ?_
 refine j_nf [_,_,_] rfl ?_
 refine j_run it 1 rfl (by simp) ?_
 refine j_step rfl (x_len sl48 rfl ?_)
 refine j_run it 1 rfl (by simp) ?_
 refine j_step rfl (x_len sl48 rfl ?_)
 refine j_run it 1 rfl (by simp) ?_
 refine j_nf [_,_] rfl ?_
 refine j_ifn rfl rfl (fun h1=>by exfalso;omega) (fun h1=>?_)
 refine j_nf [_,_,_] rfl ?_
 refine j_run it 1 rfl (by simp) ?_
 refine j_step rfl (x_len sl48 rfl ?_)
 refine j_run it 2 rfl ⟨trivial,⟨by omega,by omega⟩,trivial⟩ ?_
 refine j_nf [_,_,_] rfl ?_
 refine j_loopG (X:=Nat) [0,1] [0,1,2,3] (fun k=>[(5,.int .i64 ((k : Int) - 1))]) (fun _=>[]) (fun _=>[]) (fun k=>k ≤ (trim a).length ∧ (trim a).drop k = (trim b).drop k) (fun k=>k) (trim a).length [] rfl rfl rfl ⟨Nat.le_refl _,by rw [List.drop_length,List.drop_of_length_le (by omega)]⟩ (by repeat (first | exact Fr.sub_nil _ | refine Fr.sub_cons rfl ?_)) rfl rfl ?_
 intro k ⟨hk,hd⟩ ih
 simp only [List.cons_append,List.nil_append] at ih ⊢
 by_cases hkl : 0 < k
 ·obtain ⟨j,rfl⟩ : ∃ j,k = j + 1:=⟨k - 1,by omega⟩
  have hx:=get_some (l:=trim a) (i:=j) (dflt:=default) (by omega)
  have hy:=get_some (l:=trim b) (i:=j) (dflt:=default) (by omega)
  generalize hgx : (trim a).getD j default = x at hx
  generalize hgy : (trim b).getD j default = y at hy
  rw [show (((j + 1 : Nat) : Int) - 1) = (j : Int) by omega]
  refine j_nf [_,_,_,_,_,_] rfl ?_
  refine j_run it 2 rfl (by simp) ?_
  refine j_nf [_,_,_,_,_] rfl ?_
  refine j_if rfl rfl (fun h2=>?_) (fun h2=>by exfalso;omega)
  refine j_nf [_,_,_,_,_,_,_,_] rfl ?_
  (apply j_drawK it mx 9;(· rfl);(· rfl))
  (apply lxk_run 2;(· rfl);(· simp))
  (apply lxk_pt;(· rfl);(· exact d_x fun _=>x_idx 1 (j) rfl rfl rfl sl48 rfl (by omega) fun z1 hz1 b1 o1=>(dk_ptD default hz1 0 rfl));intro b1 o1)
  (apply lxk_eq;(· rfl);(· exact d_x fun _=>x_ld_nat 0 rfl rfl ld78 fun ⟨r1,r2⟩=>dk_eq))
  (apply lxk_run 2;(· rfl);(· simp))
  (apply lxk_pt;(· rfl);(· exact d_x fun _=>x_idx 0 (j) rfl rfl rfl sl48 rfl (by omega) fun z1 hz1 b2 o2=>(dk_ptD default hz1 0 rfl));intro b2 o2)
  (apply lxk_eq;(· rfl);(· exact d_x fun _=>x_ld_nat 0 rfl rfl ld78 fun ⟨r1,r2⟩=>dk_eq))
  (apply lxk_run 1;(· rfl);(· simp))
  refine lxk_end rfl ?_
  simp only [List.map_cons,List.map_nil,List.cons_append,List.nil_append]
  refine j_nf [_,_,_,_,_,_,_] rfl ?_
  refine j_if rfl rfl (fun h3=>?_) (fun h3=>?_)
  ·rw [hgx,hgy] at h3
   have : val a < val b:=by rw [← va,← vb];exact lt_of_top hta (by rw [hd]) hx hy (by omega)
   rw [cmpN_lt this]
   refine j_nf [_,_,_,_,_,_,_,_] rfl ?_
   refine j_run it 1 rfl (by simp) ?_
   refine j_nf [_,_,_,_,_,_,_] rfl ?_
   refine j_giv [] rfl rfl rfl ⟨rfl,rfl,rfl⟩
  ·refine j_nf [_,_,_,_,_,_,_] rfl ?_
   (apply j_drawK it mx 9;(· rfl);(· rfl))
   (apply lxk_run 2;(· rfl);(· simp))
   (apply lxk_pt;(· rfl);(· exact d_x fun _=>x_idx 3 (j) rfl rfl rfl sl48 rfl (by omega) fun z1 hz1 b3 o3=>(dk_ptD default hz1 0 rfl));intro b3 o3)
   (apply lxk_eq;(· rfl);(· exact d_x fun _=>x_ld_nat 0 rfl rfl ld78 fun ⟨r1,r2⟩=>dk_eq))
   (apply lxk_run 2;(· rfl);(· simp))
   (apply lxk_pt;(· rfl);(· exact d_x fun _=>x_idx 2 (j) rfl rfl rfl sl48 rfl (by omega) fun z1 hz1 b4 o4=>(dk_ptD default hz1 0 rfl));intro b4 o4)
   (apply lxk_eq;(· rfl);(· exact d_x fun _=>x_ld_nat 0 rfl rfl ld78 fun ⟨r1,r2⟩=>dk_eq))
   (apply lxk_run 1;(· rfl);(· simp))
   refine lxk_end rfl ?_
   simp only [List.map_cons,List.map_nil,List.cons_append,List.nil_append]
   refine j_nf [_,_,_,_,_,_] rfl ?_
   refine j_if rfl rfl (fun h4=>?_) (fun h4=>?_)
   ·rw [hgx,hgy] at h4
    have : val b < val a:=by rw [← va,← vb];exact lt_of_top htb (by rw [hd]) hy hx (by omega)
    rw [cmpN_gt this]
    refine j_nf [_,_,_,_,_,_,_] rfl ?_
    refine j_run it 1 rfl (by simp) ?_
    refine j_nf [_,_,_,_,_,_] rfl ?_
    refine j_giv [] rfl rfl rfl ⟨rfl,rfl,rfl⟩
   ·rw [hgx,hgy] at h3 h4
    have hxy : x = y:=by omega
    subst hxy
    refine j_nf [_,_,_,_] rfl ?_
    refine j_run it 3 rfl ⟨trivial,⟨by omega,by omega⟩,trivial,trivial⟩ ?_
    refine j_nfn 1 [.lp (pL 244),.blk 0,.c [1,1,1,1]] rfl ?_
    refine j_to [4,5,6,7] (by exact fra rfl) rfl rfl (ih j (by omega) ⟨by omega,drop_step hd hx hy⟩)
 ·have e0 : k = 0:=by omega
  subst e0
  have e : trim a = trim b:=by simpa using hd
  rw [cmpN_eq (by rw [← va,← vb,e])]
  refine j_nf [_,_,_,_,_,_] rfl ?_
  refine j_run it 2 rfl (by simp) ?_
  refine j_nf [_,_,_,_,_] rfl ?_
  refine j_if rfl rfl (fun h2=>by exfalso;omega) (fun h2=>?_)
  refine j_nf [_,_] rfl ?_
  refine j_run it 1 rfl (by simp) ?_
  refine j_nf [_] rfl ?_
  refine j_giv [] rfl rfl rfl ⟨rfl,rfl,rfl⟩
set_option maxHeartbeats 2000000
abbrev StepQ (b k U V : Nat) (pre post : List Nat) : Value → List Fact → List Blk → Prop:=fun w Φ β=>w = .int .u32 (U / V : Nat) ∧ Φ = [] ∧ ∃ u',u'.length = k + 3 ∧ (∀ x ∈ u',x < 4294967296) ∧ val u' = U % V ∧ β = [(some b,78,natCells .u32 (pre++u'++post))]
theorem step_back {C : Cx} {b o cap cb k q U V P R uk cc : Nat} {pb : Option Addr} {pre w0 post v : List Nat} (hpre : pre.length = o) (hl0 : w0.length = k + 3) (hvl : v.length = k + 2) (hcap : k + 3 ≤ cap) (hsz : v.length ≤ 1099511627776)
  (hs0 : ∀ x ∈ w0,x < 4294967296) (hv : ∀ x ∈ v,x < 4294967296) (hP : 4294967296 ^ v.length = P) (hV : val v = V) (hV0 : 0 < V) (hVP : V ≤ P) (hR : val (w0.take v.length) = R) (hmod : R + V + P * uk = U % V + P * cc) (huk : uk < cc) (hcc : cc ≤ 4294967296)
  (hg0 : w0[v.length]? = some (uk + 4294967296 - cc)) (hq : q = U / V + 1) (hqB : q < 4294967296) :
  J F_nat_step C [.c (pL 4095)] [(0,.slice (some ⟨b,o,none⟩) (k + 3) cap),(1,.slice pb v.length cb),(4,.int .u32 0),(5,.int .i64 v.length),(7,.int .u64 q)]
   [(some b,78,natCells .u32 (pre++w0++post))] [slF U32 pb v.length cb v] (Gives C (StepQ b k U V pre post)):=by
 refine j_nf [_,_] rfl ?_
 refine j_run it 1 rfl (by simp) ?_
 refine j_nf [_,_,_] rfl ?_
 refine j_run it 1 rfl (by simp) ?_
 refine j_step rfl (x_len sl48 rfl ?_)
 refine j_run it 1 rfl (by simp) ?_
 refine j_nf [_,_,_] rfl ?_
 refine j_loopG (X:=Nat × Nat × List Nat) [0,1,4,5,7,139] [0] (fun x=>[(10,.int .u64 x.2.1),(140,.int .i64 x.1)]) (fun x=>[(some b,78,natCells .u32 (pre++x.2.2++post))]) (fun _=>[])
  (fun x=>x.1 ≤ v.length ∧ x.2.2.length = k + 3 ∧ x.2.1 ≤ 1 ∧ (∀ z ∈ x.2.2,z < 4294967296) ∧ val (x.2.2.take x.1) + 4294967296 ^ x.1 * x.2.1 = val (w0.take x.1) + val (v.take x.1) ∧ x.2.2.drop x.1 = w0.drop x.1)
  (fun x=>v.length - x.1) (0,0,w0) [] rfl rfl rfl ⟨Nat.zero_le _,hl0,Nat.zero_le _,hs0,by simp [val],rfl⟩ (by repeat (first | exact Fr.sub_nil _ | refine Fr.sub_cons rfl ?_)) rfl rfl ?_
 rintro ⟨i,cy,w⟩ ⟨hi2,hl2,hc2,hw2,he2,hd2⟩ ih2
 simp only [List.cons_append,List.nil_append] at hi2 hl2 hc2 hw2 he2 hd2 ih2 ⊢
 have hdi2 : ∀ j,i ≤ j → w[j]? = w0[j]?:=fun j hj=>by
  have h:=congrArg (fun l : List Nat=>l[j - i]?) hd2
  simp only [List.getElem?_drop] at h
  rwa [show i + (j - i) = j by omega] at h
 by_cases hil2 : i < v.length
 ·obtain ⟨y,hy⟩ : ∃ y,w[i]? = some y:=⟨w[i],by simp⟩
  have hyl:=hw2 _ (List.mem_of_getElem? hy)
  have hx:=get_some (l:=v) (i:=i) (dflt:=default) hil2
  have hxl:=hv _ (List.mem_of_getElem? hx)
  refine j_nf [_,_,_,_,_] rfl ?_
  refine j_run it 1 rfl (by simp) ?_
  refine j_nf [_,_,_,_,_] rfl ?_
  refine j_if rfl rfl (fun h1=>?_) (fun h1=>by exfalso;omega)
  refine j_nf [_,_,_,_,_,_,_] rfl ?_
  refine j_run it 2 rfl (by simp) ?_
  refine j_nf [_,_,_,_,_,_,_] rfl ?_
  (apply j_drawK it mx 13;(· rfl);(· rfl))
  (apply lxk_run 2;(· rfl);(· simp))
  (apply lxk_eq;(· rfl);(· exact d_x fun _=>x_idx_ownO (i) _ rfl rfl sl48 rfl (by omega) rfl dk_eq))
  (apply lxk_eq;(· rfl);(· exact d_bld_mid 0 (i) rfl rfl ld78 (by omega) (by assumption)))
  (apply lxk_run 3;(· rfl);(· exact ⟨trivial,trivial,⟨by omega,by omega⟩,trivial⟩))
  (apply lxk_pt;(· rfl);(· exact d_x fun _=>x_idx 0 (i) rfl rfl rfl sl48 rfl (by omega) fun z1 hz1 b1 o1=>(dk_ptD default hz1 0 rfl));intro b1 o1)
  (apply lxk_eq;(· rfl);(· exact d_x fun _=>x_ld_nat 0 rfl rfl ld78 fun ⟨r1,r2⟩=>dk_eq))
  (apply lxk_run 4;(· rfl);(· exact ⟨⟨by omega,by omega⟩,trivial,⟨by omega,by omega⟩,⟨by omega,by omega⟩,trivial⟩))
  refine lxk_end rfl ?_
  simp only [List.map_cons,List.map_nil,List.cons_append,List.nil_append]
  refine j_run it 1 rfl (by simp) ?_
  refine j_nf [_,_,_,_,_,_,_] rfl ?_
  refine j_run it 3 rfl (by simp) ?_
  refine j_step rfl (x_conv_u32 it rfl rfl rfl ?_)
  refine j_step rfl (x_idx_ownO (i) _ rfl rfl sl48 rfl (by omega) rfl ?_)
  refine j_step rfl (x_bst_mid 0 (i) ((((y) + (v.getD i default)) + (cy)) % 4294967296) rfl rfl rfl ld78 (by first | rfl | omega) (by omega) (by first | omega | (simp;omega)) ?_)
  refine j_nf [_,_,_,_,_,_] rfl ?_
  refine j_run it 3 rfl (by simp) ?_
  refine j_nf [_,_,_,_] rfl ?_
  refine j_run it 2 rfl ⟨trivial,⟨by omega,by omega⟩,trivial⟩ ?_
  refine j_nfn 1 [.lp (pL 131060),.blk 4,.c (pL 16383)] rfl ?_
  have hy0 : w0[i]? = some y:=by rw [← hdi2 i (Nat.le_refl _)];exact hy
  generalize v.getD i default = x at hx hxl ⊢
  refine j_to [1] (by exact fra rfl) rfl rfl (ih2 (i + 1,(y + x + cy) / 4294967296,w.set i ((y + x + cy) % 4294967296)) (by simp only;omega) ⟨by simp only;omega,by simpa using hl2,by simp only;omega,set_lt hw2 (by omega),by
   simp only
   rw [val_set_take (by omega),Nat.pow_succ,val_take_succ hy0,val_take_succ hx];exact carry_step he2 (by omega),by simp only;rw [List.drop_set_of_lt (by omega),← List.drop_drop,hd2,List.drop_drop]⟩)
 ·have ei : i = v.length:=by omega
  subst ei
  rw [List.take_length,hR,hV,hP] at he2
  have hwP:=take_lt (k:=v.length) hw2 (by omega)
  rw [hP] at hwP
  obtain ⟨hb1',hb2'⟩:=kn_back (c:=cc) (b:=0) he2 hmod hwP hVP hV0
  have hwn : w[v.length]? = some (uk + 4294967296 - cc):=by rw [hdi2 _ (Nat.le_refl _)];exact hg0
  have hcy : cy = 1:=by omega
  subst hcy
  have e3 : uk + 4294967296 - cc = 4294967295:=by omega
  rw [e3] at hwn
  refine j_nf [_,_,_,_,_] rfl ?_
  refine j_run it 1 rfl (by simp) ?_
  refine j_nf [_,_,_,_,_] rfl ?_
  refine j_if rfl rfl (fun h1=>by exfalso;omega) (fun h1=>?_)
  refine j_nf [_,_] rfl ?_
  refine j_run it 2 rfl (by simp) ?_
  refine j_step rfl (x_idx_ownO (v.length) _ rfl rfl sl48 rfl (by omega) rfl ?_)
  refine j_step rfl (x_bld_mid 0 (v.length) rfl rfl ld78 (by omega) (by assumption) (by first | omega | (simp;omega)) fun z1 hz1 hlt1=>?_)
  refine j_run it 2 rfl ⟨⟨by omega,by omega⟩,trivial,trivial⟩ ?_
  refine j_step rfl (x_add_u32 rfl rfl ?_)
  refine j_step rfl (x_idx_ownO (v.length) _ rfl rfl sl48 rfl (by omega) rfl ?_)
  refine j_step rfl (x_bst_mid 0 (v.length) (((z1) + (1)) % 4294967296) rfl rfl rfl ld78 (by first | rfl | omega) (by omega) (by first | omega | (simp;omega)) ?_)
  refine j_nf [_,_] rfl ?_
  refine j_run it 1 rfl (by simp) ?_
  refine j_step rfl (x_sub_u64 rfl rfl ?_)
  refine j_step rfl (x_conv_u32 it rfl rfl rfl ?_)
  refine j_run it 1 rfl (by simp) ?_
  refine j_nf [_] rfl ?_
  obtain rfl : z1 = 4294967295:=Option.some.inj (hz1.symm.trans hwn)
  refine j_gives [] rfl rfl rfl ⟨?_,rfl,w.set v.length 0,by simpa using hl2,set_lt hw2 (by decide),?_,rfl⟩
  ·have e : ((q : Int) - 1) % 18446744073709551616 % 4294967296 = ((U / V : Nat) : Int):=by
    generalize U / V = Q at hq ⊢
    omega
   show Value.int .u32 _ = _
   rw [e]
  ·have h:=val_set_take (l:=w) (k:=v.length) (z:=0) (by omega)
   rw [List.take_of_length_le (by simp;omega),Nat.mul_zero,Nat.add_zero] at h
   rw [h,hb1']
set_option maxHeartbeats 1000000
theorem or_low {x n c : Nat} (h : c < 2 ^ n) : x * 2 ^ n ||| c = x * 2 ^ n + c:=by
 rw [Nat.mul_comm,← Nat.two_pow_add_eq_or_of_lt h]
theorem shl_lt {x n : Nat} (hx : x < 4294967296) (hn : n < 32) : x * 2 ^ n + 2 ^ n ≤ 9223372036854775808 ∧ 1 ≤ 2 ^ n ∧ 2 ^ n ≤ 2147483648:=by
 have h1 : 2 ^ n ≤ 2 ^ 31:=Nat.pow_le_pow_right (by decide) (by omega)
 have h2 : (x + 1) * 2 ^ n ≤ 4294967296 * 2 ^ 31:=Nat.mul_le_mul (by omega) h1
 rw [Nat.succ_mul] at h2
 refine ⟨by omega,Nat.pow_pos (by decide),by omega⟩
abbrev Mv (e : TypeId) (l : List Nat) : Value → List Fact → List Blk → Prop:=fun v Φ β=>∃ b,v = .slice (some ⟨b,0,none⟩) l.length l.length ∧ Φ = [] ∧ β = [(some b,e,natCells .u32 l)]
theorem O_nat_shift {pa : Option Addr} {m ca n : Nat} {a : List Nat} (ha : a.length ≤ 1099511627776) (hn : n < 32) :
  Ctr Try.prog 99 [.slice pa m ca,.int .i64 n] [] [slF U32 pa m ca a] (fun v Φ β=>∃ l,l.length = a.length + 1 ∧ (∀ x ∈ l,x < 4294967296) ∧ val l = val a * 2 ^ n ∧ Mv 78 l v Φ β):=by
 refine Ctr_of_j' (F:=F_nat_shift) rfl fun C=>?_
 refine j_len 0 rfl fun hm hba _=>?_
 subst hm
 refine j_range 0 rfl fun hra=>?_
 have hra' : ∀ x ∈ a,x < 4294967296:=fun x hx=>by have:=hra x hx;simp only [InR] at this;omega
 refine j_nf [_,_] rfl ?_
 refine j_run it 1 rfl (by simp) ?_
 refine j_nf [_,_] rfl ?_
 refine j_run it 1 rfl (by simp) ?_
 refine j_step rfl (x_len sl48 rfl ?_)
 refine j_run it 1 rfl ⟨⟨by omega,by omega⟩,trivial⟩ ?_
 refine j_step rfl (x_make_nat ((a.length) + 1) _ rfl rfl sl48 zo48e by48e (by omega) (by omega) (by omega) fun b1=>?_)
 refine j_run it 1 rfl (by simp) ?_
 refine j_nf [_,_] rfl ?_
 refine j_run it 1 rfl (by simp) ?_
 refine j_nf [_,_,_] rfl ?_
 refine j_run it 1 rfl (by simp) ?_
 refine j_step rfl (x_len sl48 rfl ?_)
 refine j_run it 1 rfl (by simp) ?_
 refine j_nf [_,_,_] rfl ?_
 refine j_loopG (X:=Nat × Nat × List Nat) [0,1,4,5,14,15] [0] (fun x=>[(6,.int .u64 x.2.1),(16,.int .i64 x.1)]) (fun x=>[(some b1,78,natCells .u32 x.2.2)]) (fun _=>[])
  (fun x=>x.1 ≤ a.length ∧ x.2.2.length = a.length + 1 ∧ x.2.1 < 2 ^ n ∧ (∀ z ∈ x.2.2,z < 4294967296) ∧ val (x.2.2.take x.1) + 4294967296 ^ x.1 * x.2.1 = val (a.take x.1) * 2 ^ n)
  (fun x=>a.length - x.1) (0,0,List.replicate (a.length + 1) 0) [] rfl rfl rfl ⟨Nat.zero_le _,by simp,Nat.pow_pos (by decide),rep_lt (by decide),by simp [val]⟩ (by repeat (first | exact Fr.sub_nil _ | refine Fr.sub_cons rfl ?_)) rfl rfl ?_
 rintro ⟨k,c,out⟩ ⟨hk,hlo,hc,ho,he⟩ ih
 simp only [List.cons_append,List.nil_append] at hk hlo hc ho he ih ⊢
 by_cases hkl : k < a.length
 ·refine j_nf [_,_,_,_,_] rfl ?_
  refine j_run it 1 rfl (by simp) ?_
  refine j_nf [_,_,_,_,_] rfl ?_
  refine j_if rfl rfl (fun h1=>?_) (fun h1=>by exfalso;omega)
  refine j_nf [_,_,_,_,_,_,_] rfl ?_
  refine j_run it 1 rfl (by simp) ?_
  refine j_step rfl (x_idx 0 (k) rfl rfl rfl sl48 rfl (by omega) fun z1 hz1 b2 o1=>?_)
  refine j_step rfl (x_ld_nat 0 rfl rfl ld78 fun ⟨r1,r2⟩=>?_)
  refine j_run it 2 rfl (by simp) ?_
  refine j_nf [_,_,_,_,_,_,_] rfl ?_
  refine j_run it 3 rfl ⟨trivial,⟨by omega,by omega⟩,trivial,trivial⟩ ?_ --ok
  have hxl:=hra' _ (List.mem_of_getElem? hz1)
  obtain ⟨hs1,hs2,hs3⟩:=shl_lt hxl hn
  refine j_step rfl (x_shl_nat (z1) (n) rfl rfl (by first | rfl | omega) (by first | rfl | omega) (by first | decide | (simp only [IntKind.bits];omega)) (by first | assumption | (simp only [InR];omega)) ?_)
  refine j_run it 1 rfl (by simp) ?_
  refine j_step rfl (x_or_nat (z1 * 2 ^ n) (c) rfl rfl (by first | rfl | omega) (by first | rfl | omega) (by omega) (by omega) ?_)
  refine j_run it 1 rfl (by simp) ?_
  refine j_nf [_,_,_,_,_,_,_] rfl ?_
  refine j_run it 3 rfl (by simp) ?_
  refine j_step rfl (x_conv_u32 it rfl rfl rfl ?_)
  refine j_step rfl (x_idx_own (k) (k) rfl rfl sl48 rfl (by omega) (Nat.mul_one _) ?_)
  refine j_step rfl (x_bst_nat 0 ((z1 * 2 ^ n ||| c) % 4294967296) rfl rfl rfl ld78 (by first | rfl | omega) (by first | omega | (simp;omega)) ?_)
  refine j_nf [_,_,_,_,_,_] rfl ?_
  refine j_run it 3 rfl (by simp) ?_
  refine j_nf [_,_,_,_] rfl ?_
  refine j_run it 2 rfl ⟨trivial,⟨by omega,by omega⟩,trivial⟩ ?_
  refine j_nfn 1 [.lp (pL 244),.blk 0,.c [1,1,1,1]] rfl ?_
  rw [or_low hc]
  have hlt : z1 * 2 ^ n + c < 18446744073709551616:=by omega
  have hdiv : (z1 * 2 ^ n + c) / 4294967296 < 2 ^ n:=by
   rw [Nat.div_lt_iff_lt_mul (by decide)]
   have:=Nat.mul_le_mul_right (2 ^ n) hxl
   rw [Nat.succ_mul] at this
   omega
  refine j_to [1] (by exact fra rfl) rfl rfl (ih (k + 1,(z1 * 2 ^ n + c) / 4294967296,out.set k ((z1 * 2 ^ n + c) % 4294967296)) (by simp only;omega) ⟨by simp only;omega,by simpa using hlo,hdiv,set_lt ho (by omega),by
   simp only
   rw [val_set_take (by omega),Nat.pow_succ,val_take_succ hz1,Nat.add_mul]
   generalize hS : z1 * 2 ^ n + c = s
   have e : s % 4294967296 + 4294967296 * (s / 4294967296) = s:=by omega
   have e2 : 4294967296 ^ k * (s % 4294967296) + 4294967296 ^ k * 4294967296 * (s / 4294967296) = 4294967296 ^ k * (z1 * 2 ^ n) + 4294967296 ^ k * c:=by
    rw [Nat.mul_assoc,← Nat.mul_add,← Nat.mul_add,e,hS]
   rw [Nat.mul_assoc (4294967296 ^ k) z1]
   omega⟩)
 ·have e0 : k = a.length:=by omega
  subst e0
  have hs3 : 2 ^ n ≤ 2147483648:=(shl_lt (x:=0) (by decide) hn).2.2
  refine j_nf [_,_,_,_,_] rfl ?_
  refine j_run it 1 rfl (by simp) ?_
  refine j_nf [_,_,_,_,_] rfl ?_
  refine j_if rfl rfl (fun h1=>by exfalso;omega) (fun h1=>?_)
  refine j_nf [_,_] rfl ?_
  refine j_run it 2 rfl (by simp) ?_
  refine j_step rfl (x_len sl48 rfl ?_)
  refine j_run it 2 rfl ⟨⟨by omega,by omega⟩,trivial,trivial⟩ ?_
  refine j_step rfl (x_idx_own (a.length) (a.length) rfl rfl sl48 rfl (by omega) (Nat.mul_one _) ?_)
  refine j_step rfl (x_bst_nat 0 (c) rfl rfl rfl ld78 (by first | rfl | omega) (by first | omega | (simp;omega)) ?_)
  refine j_nf [_,_] rfl ?_
  refine j_run it 2 rfl (by simp) ?_
  refine j_nf [_] rfl ?_
  refine j_gives [] rfl rfl rfl ⟨out.set a.length c,by simpa using hlo,set_lt ho (by omega),?_,b1,by simp [resVal,hlo],rfl,rfl⟩
  rw [List.take_length] at he
  have h:=val_set_take (l:=out) (k:=a.length) (z:=c) (by omega)
  rw [List.take_of_length_le (by simp;omega)] at h
  rw [h,he]
set_option maxHeartbeats 2000000
theorem step_sub {C : Cx} {b o cap cb k q U0 : Nat} {pb : Option Addr} {pre u post v : List Nat} (hpre : pre.length = o) (hul : u.length = k + 3) (hvl : v.length = k + 2) (hcap : k + 3 ≤ cap) (hsz : u.length ≤ 1099511627776)
  (hu : ∀ x ∈ u,x < 4294967296) (hv : ∀ x ∈ v,x < 4294967296) (hU0 : u[v.length]? = some U0) (hv0 : 0 < val v) (hq : q < 4294967296) (hQ1 : val u / val v ≤ q) (hQ2 : q ≤ val u / val v + 1) :
  J F_nat_step C [.c (pL 127)] [(0,.slice (some ⟨b,o,none⟩) (k + 3) cap),(1,.slice pb v.length cb),(4,.int .u32 0),(5,.int .i64 v.length),(7,.int .u64 q)]
   [(some b,78,natCells .u32 (pre++u++post))] [slF U32 pb v.length cb v] (Gives C (StepQ b k (val u) (val v) pre post)):=by
 have lU0:=hu _ (List.mem_of_getElem? hU0)
 refine j_nf [_,_] rfl (j_run it 2 rfl (by simp) ?_)
 refine j_nf [_,_,_] rfl (j_run it 1 rfl (by simp) ?_)
 refine j_step rfl (x_len sl48 rfl ?_)
 refine j_run it 1 rfl (by simp) ?_
 refine j_nf [_,_,_] rfl ?_
 refine j_loopG (X:=Nat × Nat × Nat × List Nat) [0,1,4,5,7,85] [0] (fun x=>[(9,.int .u64 x.2.1),(10,.int .u64 x.2.2.1),(86,.int .i64 x.1)]) (fun x=>[(some b,78,natCells .u32 (pre++x.2.2.2++post))]) (fun _=>[])
  (fun x=>x.1 ≤ v.length ∧ x.2.2.2.length = k + 3 ∧ x.2.1 ≤ 1 ∧ x.2.2.1 < 4294967296 ∧ (∀ z ∈ x.2.2.2,z < 4294967296) ∧ val (x.2.2.2.take x.1) + q * val (v.take x.1) = val (u.take x.1) + 4294967296 ^ x.1 * (x.2.2.1 + x.2.1) ∧ x.2.2.2.drop x.1 = u.drop x.1)
  (fun x=>v.length - x.1) (0,0,0,u) [] rfl rfl rfl ⟨Nat.zero_le _,hul,Nat.zero_le _,Nat.zero_lt_succ _,hu,by simp [val],rfl⟩ (by repeat (first | exact Fr.sub_nil _ | refine Fr.sub_cons rfl ?_)) rfl rfl ?_
 rintro ⟨i,bw,c,u'⟩ ⟨hi,hl',hb1,hc,hu',he,hd⟩ ih
 simp only [List.cons_append,List.nil_append] at hi hl' hb1 hc hu' he hd ih ⊢
 have hdi : ∀ j,i ≤ j → u'[j]? = u[j]?:=fun j hj=>by
  have h:=congrArg (fun l : List Nat=>l[j - i]?) hd
  simp only [List.getElem?_drop] at h
  rwa [show i + (j - i) = j by omega] at h
 by_cases hil : i < v.length
 ·refine j_nf [_,_,_,_,_] rfl (j_run it 1 rfl (by simp) ?_)
  refine j_nf [_,_,_,_,_] rfl (j_if rfl rfl (fun h1=>?_) (fun h1=>by exfalso;omega))
  refine j_nf [_,_,_,_,_,_,_] rfl (j_run it 2 rfl (by simp) ?_)
  refine j_nf [_,_,_,_,_,_,_] rfl (j_run it 3 rfl (by simp) ?_)
  refine j_step rfl (x_idx 0 (i) rfl rfl rfl sl48 rfl (by omega) fun z1 hz1 b1 o1=>?_)
  refine j_step rfl (x_ld_nat 0 rfl rfl ld78 fun ⟨r1,r2⟩=>?_)
  refine j_run it 5 rfl ⟨trivial,⟨mul64_nn (by omega) (by omega) (by omega),mul64_2 (by omega) (by omega) (by omega) (by omega) (by omega)⟩,trivial,⟨Int.mul_nonneg (by omega) (by omega),mul64_1 (by omega) (by omega) (by omega) (by omega)⟩,⟨by omega,by omega⟩,trivial⟩ ?_
  refine j_nf [_,_,_,_,_,_,_] rfl (j_run it 3 rfl (by simp) ?_)
  refine j_nf [_,_,_,_,_,_,_] rfl (j_run it 2 rfl (by simp) ?_)
  refine j_step rfl (x_idx_ownO (i) _ rfl rfl sl48 rfl (by omega) rfl ?_)
  refine j_step rfl (x_bld_mid 0 (i) rfl rfl ld78 (by omega) (by assumption) (by first | omega | (simp;omega)) fun z2 hz2 hlt1=>?_)
  refine j_run it 2 rfl ⟨trivial,⟨by omega,by omega⟩,trivial⟩ ?_
  refine j_step rfl (x_conv_u32 it rfl rfl rfl ?_)
  refine j_run it 1 rfl ⟨⟨by omega,by omega⟩,trivial⟩ ?_
  refine j_step rfl (x_sub_u64 rfl rfl ?_)
  refine j_run it 1 rfl (by simp) ?_
  refine j_step rfl (x_sub_u64 rfl rfl ?_)
  refine j_run it 1 rfl (by simp) ?_
  refine j_nf [_,_,_,_,_,_,_] rfl (j_run it 3 rfl (by simp) ?_)
  refine j_step rfl (x_conv_u32 it rfl rfl rfl ?_)
  refine j_step rfl (x_idx_ownO (i) _ rfl rfl sl48 rfl (by omega) rfl ?_)
  refine j_step rfl (x_bst_mid 0 (i) ((((((z2) + 18446744073709551616 - ((((q) * (z1)) + (c)) % 4294967296)) % 18446744073709551616) + 18446744073709551616 - (bw)) % 18446744073709551616) % 4294967296) rfl rfl rfl ld78 (by first | rfl | omega) (by omega) (by first | omega | (simp;omega)) ?_)
  refine j_nf [_,_,_,_,_,_] rfl (j_run it 3 rfl (by simp) ?_)
  refine j_nf [_,_,_,_] rfl (j_run it 2 rfl ⟨trivial,⟨by omega,by omega⟩,trivial⟩ ?_)
  refine j_nfn 1 [.lp (pL 4084),.blk 2,.c (pL 511)] rfl ?_
  have hz2u : u[i]? = some z2:=by rw [← hdi i (Nat.le_refl _)];exact hz2
  have hz1v:=hv _ (List.mem_of_getElem? hz1)
  have hst:=mulsub_step (q:=q) (y:=z1) he hb1 hlt1 rfl rfl
  have hpf:=prod_fits hq hz1v hc
  generalize hD : ((z2 + 18446744073709551616 - (q * z1 + c) % 4294967296) % 18446744073709551616 + 18446744073709551616 - bw) % 18446744073709551616 = D at hst ⊢
  refine j_to [1] (by exact fii rfl (by dsimp only;omega) (fcc rfl (fcc rfl (fcc rfl (fcc rfl (fcc rfl (fcc rfl (fcc rfl (fcc rfl (fzz _)))))))))) rfl rfl (ih (i + 1,D / 9223372036854775808,(q * z1 + c) / 4294967296,u'.set i (D % 4294967296)) (by simp only;omega) ⟨by simp only;omega,by simpa using hl',hst.2,hpf.1,set_lt hu' (by omega),by
   simp only
   rw [val_set_take (by omega),Nat.pow_succ,val_take_succ hz1,val_take_succ hz2u];exact hst.1,by simp only;rw [List.drop_set_of_lt (by omega),← List.drop_drop,hd,List.drop_drop]⟩)
 ·have ei : i = v.length:=by omega
  subst ei
  rw [List.take_length] at he
  have hU0' : u'[v.length]? = some U0:=by rw [hdi _ (Nat.le_refl _)];exact hU0
  have eU : val u = val (u.take v.length) + 4294967296 ^ v.length * U0:=by
   have h:=val_take_succ hU0
   rwa [List.take_of_length_le (by omega)] at h
  have hR:=take_lt (k:=v.length) hu' (by omega)
  have hVP:=val_lt hv
  generalize hP : 4294967296 ^ v.length = P at *
  by_cases hok : c + bw ≤ U0
  ·obtain ⟨hqe,hmod⟩:=kn_right eU he hok rfl hQ1 hv0
   refine j_nf [_,_,_,_,_] rfl (j_run it 1 rfl (by simp) ?_)
   refine j_nf [_,_,_,_,_] rfl (j_if rfl rfl (fun h1=>by exfalso;omega) (fun h1=>?_))
   refine j_nf [_,_] rfl (j_run it 2 rfl (by simp) ?_)
   refine j_step rfl (x_idx_ownO (v.length) _ rfl rfl sl48 rfl (by omega) rfl ?_)
   refine j_step rfl (x_bld_mid 0 (v.length) rfl rfl ld78 (by omega) (by assumption) (by first | omega | (simp;omega)) fun z1 hz1 hlt1=>?_)
   refine j_run it 2 rfl ⟨trivial,⟨by omega,by omega⟩,trivial⟩ ?_
   refine j_step rfl (x_sub_u64 rfl rfl ?_)
   refine j_run it 1 rfl (by simp) ?_
   refine j_step rfl (x_sub_u64 rfl rfl ?_)
   refine j_run it 1 rfl (by simp) ?_
   refine j_nf [_,_] rfl (j_run it 3 rfl (by simp) ?_)
   refine j_step rfl (x_conv_u32 it rfl rfl rfl ?_)
   refine j_step rfl (x_idx_ownO (v.length) _ rfl rfl sl48 rfl (by omega) rfl ?_)
   refine j_step rfl (x_bst_mid 0 (v.length) ((((((z1) + 18446744073709551616 - (c)) % 18446744073709551616) + 18446744073709551616 - (bw)) % 18446744073709551616) % 4294967296) rfl rfl rfl ld78 (by first | rfl | omega) (by omega) (by first | omega | (simp;omega)) ?_)
   refine j_nf [_,_,_] rfl (j_run it 3 rfl (by simp) ?_)
   refine j_nf [_,_] rfl (j_if rfl rfl (fun h2=>?_) (fun h2=>?_))
   ·obtain rfl : z1 = U0:=Option.some.inj (hz1.symm.trans hU0')
    refine j_nf [_,_,_] rfl (j_run it 3 rfl ⟨trivial,⟨by omega,by omega⟩,trivial,trivial⟩ ?_)
    refine j_nf [_,_] rfl ?_
    have e1 : ((z1 + 18446744073709551616 - c) % 18446744073709551616 + 18446744073709551616 - bw) % 18446744073709551616 % 4294967296 = z1 - (c + bw):=by omega
    have e2 : ((q : Int)) = ((val u / val v : Nat) : Int):=by rw [hqe]
    refine j_gives [] rfl rfl rfl ⟨by rw [← e2];rfl,rfl,u'.set v.length (z1 - (c + bw)),by simpa using hl',set_lt hu' (by omega),?_,by rw [← e1];rfl⟩
    have h:=val_set_take (l:=u') (k:=v.length) (z:=z1 - (c + bw)) (by omega)
    rw [List.take_of_length_le (by simp;omega),hP] at h
    rw [h,hmod]
   ·exfalso
    obtain rfl : z1 = U0:=Option.some.inj (hz1.symm.trans hU0')
    omega
  ·obtain ⟨hqe,hmod⟩:=kn_wrong eU he (by omega) hR rfl hQ2 hv0
   refine j_nf [_,_,_,_,_] rfl (j_run it 1 rfl (by simp) ?_)
   refine j_nf [_,_,_,_,_] rfl (j_if rfl rfl (fun h1=>by exfalso;omega) (fun h1=>?_))
   refine j_nf [_,_] rfl (j_run it 2 rfl (by simp) ?_)
   refine j_step rfl (x_idx_ownO (v.length) _ rfl rfl sl48 rfl (by omega) rfl ?_)
   refine j_step rfl (x_bld_mid 0 (v.length) rfl rfl ld78 (by omega) (by assumption) (by first | omega | (simp;omega)) fun z1 hz1 hlt1=>?_)
   refine j_run it 2 rfl ⟨trivial,⟨by omega,by omega⟩,trivial⟩ ?_
   refine j_step rfl (x_sub_u64 rfl rfl ?_)
   refine j_run it 1 rfl (by simp) ?_
   refine j_step rfl (x_sub_u64 rfl rfl ?_)
   refine j_run it 1 rfl (by simp) ?_
   refine j_nf [_,_] rfl (j_run it 3 rfl (by simp) ?_)
   refine j_step rfl (x_conv_u32 it rfl rfl rfl ?_)
   refine j_step rfl (x_idx_ownO (v.length) _ rfl rfl sl48 rfl (by omega) rfl ?_)
   refine j_step rfl (x_bst_mid 0 (v.length) ((((((z1) + 18446744073709551616 - (c)) % 18446744073709551616) + 18446744073709551616 - (bw)) % 18446744073709551616) % 4294967296) rfl rfl rfl ld78 (by first | rfl | omega) (by omega) (by first | omega | (simp;omega)) ?_)
   refine j_nf [_,_,_] rfl (j_run it 3 rfl (by simp) ?_)
   refine j_nf [_,_] rfl (j_if rfl rfl (fun h2=>?_) (fun h2=>?_))
   ·exfalso
    obtain rfl : z1 = U0:=Option.some.inj (hz1.symm.trans hU0')
    omega
   ·obtain rfl : z1 = U0:=Option.some.inj (hz1.symm.trans hU0')
    have e1 : ((z1 + 18446744073709551616 - c) % 18446744073709551616 + 18446744073709551616 - bw) % 18446744073709551616 % 4294967296 = z1 + 4294967296 - (c + bw):=by omega
    rw [e1]
    refine j_nfn 1 [.c (pL 4095)] rfl ?_
    refine j_to [0] (by repeat (first | exact Fr.sub_nil _ | refine Fr.sub_cons rfl ?_)) rfl rfl (step_back (w0:=u'.set v.length (z1 + 4294967296 - (c + bw))) (cc:=c + bw) (uk:=z1) (R:=val (u'.take v.length)) (q:=q) hpre (by simpa using hl') hvl hcap (by omega) (set_lt hu' (by omega)) hv hP rfl hv0 (Nat.le_of_lt hVP) (by rw [List.take_set_of_le (Nat.le_refl _)]) hmod (by omega) (by omega) (by rw [List.getElem?_set_self (by omega)]) hqe hq)
theorem S_nat_step {b o cap : Nat} {pb : Option Addr} {m cb k : Nat} {pre u post v : List Nat} (hpre : pre.length = o) (hul : u.length = k + 3) (hvl : v.length = k + 2) (hcap : k + 3 ≤ cap) (hsz : u.length ≤ 1099511627776)
  (hu : ∀ x ∈ u,x < 4294967296) {V1 : Nat} (hV1 : v[k + 1]? = some V1) (hV1n : 2147483648 ≤ V1) (hUV : val u < 4294967296 * val v) :
  Ctr Try.prog 100 [.slice (some ⟨b,o,none⟩) (k + 3) cap,.slice pb m cb] [(some b,78,natCells .u32 (pre++u++post))] [slF U32 pb m cb v]
   (StepQ b k (val u) (val v) pre post):=by
 refine Ctr_of_j' (F:=F_nat_step) rfl fun C=>?_
 refine j_len 0 rfl fun hm hbb _=>?_
 subst hm
 refine j_range 0 rfl fun hrv=>?_
 have hv : ∀ x ∈ v,x < 4294967296:=fun x hx=>by have:=hrv x hx;simp only [InR] at this;omega
 obtain ⟨U0,hU0⟩ : ∃ x,u[v.length]? = some x:=⟨u[v.length],by simp⟩
 obtain ⟨U1,hU1⟩ : ∃ x,u[v.length - 1]? = some x:=⟨u[v.length - 1],by simp⟩
 obtain ⟨U2,hU2⟩ : ∃ x,u[v.length - 2]? = some x:=⟨u[v.length - 2],by simp⟩
 have hV2:=get_some (l:=v) (i:=v.length - 2) (dflt:=default) (by omega)
 have hV1' : v[v.length - 1]? = some V1:=by rw [hvl];exact hV1
 have lU0:=hu _ (List.mem_of_getElem? hU0)
 have lU1:=hu _ (List.mem_of_getElem? hU1)
 have lU2:=hu _ (List.mem_of_getElem? hU2)
 have lV1:=hv _ (List.mem_of_getElem? hV1)
 have lV2:=hv _ (List.mem_of_getElem? hV2)
 have hv0 : 0 < val v:=by
  rcases Nat.eq_zero_or_pos (val v) with h | h
  ·rw [h] at hUV;omega
  ·exact h
 have exit : ∀ q : Nat,q < 4294967296 → val u / val v ≤ q → q ≤ val u / val v + 1 → J F_nat_step C [.c (pL 127)] [(0,.slice (some ⟨b,o,none⟩) (k + 3) cap),(1,.slice pb v.length cb),(4,.int .u32 0),(5,.int .i64 v.length),(7,.int .u64 q)]
   [(some b,78,natCells .u32 (pre++u++post))] [slF U32 pb v.length cb v] (Gives C (StepQ b k (val u) (val v) pre post)) :=
  fun q h1 h2 h3=>step_sub hpre hul hvl hcap hsz hu hv hU0 hv0 h1 h2 h3
 refine j_nf [_,_] rfl ?_
 refine j_run it 1 rfl (by simp) ?_
 refine j_nf [_,_] rfl ?_
 refine j_run it 1 rfl (by simp) ?_
 refine j_step rfl (x_len sl48 rfl ?_)
 refine j_run it 1 rfl (by simp) ?_
 refine j_nf [_,_] rfl ?_
 (apply j_drawK it mx 13;(· rfl);(· rfl))
 (apply lxk_run 2;(· rfl);(· simp))
 (apply lxk_eq;(· rfl);(· exact d_x fun _=>x_idx_ownO (v.length) _ rfl rfl sl48 rfl (by omega) rfl dk_eq))
 (apply lxk_eq;(· rfl);(· exact d_bld_mid 0 (v.length) rfl rfl ld78 (by omega) (by assumption)))
 (apply lxk_run 4;(· rfl);(· exact ⟨trivial,trivial,⟨by omega,by omega⟩,⟨by omega,by omega⟩,trivial⟩))
 (apply lxk_eq (v:=Value.int IntKind.i64 ((((v.length) - 1 : Nat)) : Int));(· rfl);(· exact d_x fun _=>x_asN it _ rfl ⟨by omega,by omega⟩ (by omega) dk_eq))
 simp only [Nat.add_sub_cancel]
 (apply lxk_eq;(· rfl);(· exact d_x fun _=>x_idx_ownO (v.length - 1) _ rfl rfl sl48 rfl (by omega) rfl dk_eq))
 (apply lxk_eq;(· rfl);(· exact d_bld_mid 0 (v.length - 1) rfl rfl ld78 (by omega) (by assumption)))
 (apply lxk_run 1;(· rfl);(· exact ⟨⟨by omega,by omega⟩,trivial⟩))
 (apply lxk_eq;(· rfl);(· exact d_x fun _=>x_or_shl (U0) (U1) rfl rfl (by first | rfl | omega) (by first | rfl | omega) (by omega) (by omega) dk_eq))
 refine lxk_end rfl ?_
 simp only [List.map_cons,List.map_nil,List.cons_append,List.nil_append]
 refine j_run it 1 rfl (by simp) ?_
 refine j_nf [_,_] rfl ?_
 refine j_run it 4 rfl ⟨⟨by omega,by omega⟩,trivial,trivial,trivial,trivial⟩ ?_
 refine j_step rfl (x_idx 0 ((v.length) - 1) rfl rfl rfl sl48 (by omega) (by omega) fun z1 hz1 b1 o1=>?_)
 refine j_step rfl (x_ld_nat 0 rfl rfl ld78 fun ⟨r1,r2⟩=>?_)
 refine j_run it 1 rfl ⟨⟨by omega,by omega⟩,trivial⟩ ?_ --ok
 obtain rfl : z1 = V1:=Option.some.inj (hz1.symm.trans hV1')
 refine j_run it 2 rfl ⟨trivial,⟨by omega,by omega,by omega,by omega⟩,trivial⟩ ?_
 refine j_nf [_,_] rfl ?_
 refine j_run it 4 rfl ⟨⟨by omega,by omega⟩,trivial,trivial,trivial,trivial⟩ ?_
 refine j_step rfl (x_idx 1 ((v.length) - 1) rfl rfl rfl sl48 (by omega) (by omega) fun z2 hz2 b2 o2=>?_)
 refine j_step rfl (x_ld_nat 0 rfl rfl ld78 fun ⟨r3,r4⟩=>?_)
 refine j_run it 1 rfl ⟨⟨by omega,by omega⟩,trivial⟩ ?_ --ok
 obtain rfl : z2 = z1:=Option.some.inj (hz2.symm.trans hV1')
 have eU:=val_top3 (l:=u) (k:=v.length - 2) (by omega) hU2 (by rw [show v.length - 2 + 1 = v.length - 1 by omega];exact hU1) (by rw [show v.length - 2 + 2 = v.length by omega];exact hU0)
 have eV:=val_top2 (l:=v) (k:=v.length - 2) (by omega) hV2 (by rw [show v.length - 2 + 1 = v.length - 1 by omega];exact hV1')
 have hul':=take_lt (k:=v.length - 2) hu (by omega)
 have hvl':=take_lt (k:=v.length - 2) hv (by omega)
 generalize 4294967296 ^ (v.length - 2) = P at eU eV hul' hvl'
 have hU0V:=kn_top eU eV hvl' lV2 hUV
 have hz0 : 0 < z2:=by omega
 have hQB : val u / val v < 4294967296:=by rw [Nat.div_lt_iff_lt_mul hv0];exact hUV
 have hQV : val u / val v * val v ≤ val u:=Nat.div_mul_le_self _ _
 have hfirst : val u / val v ≤ (U1 + 4294967296 * U0) / z2:=kn_first eU hul' eV hz0 lU2 hQV
 have etop : U1 + 4294967296 * U0 = U0 * 4294967296 + U1:=by omega
 rw [etop] at hfirst
 have hdm : (U0 * 4294967296 + U1) / z2 * z2 + (U0 * 4294967296 + U1) % z2 = U0 * 4294967296 + U1:=by rw [Nat.mul_comm];exact Nat.div_add_mod _ _
 have hqb : (U0 * 4294967296 + U1) / z2 ≤ 8589934592:=by
  rw [Nat.div_le_iff_le_mul hz0]
  have : 8589934592 * 2147483648 ≤ 8589934592 * z2:=Nat.mul_le_mul_left _ hV1n
  omega
 have hrb : (U0 * 4294967296 + U1) % z2 < z2:=Nat.mod_lt _ hz0
 have less : ∀ q r,q * z2 + r = U0 * 4294967296 + U1 → val u / val v ≤ q → (4294967296 ≤ q ∨ r * 4294967296 + U2 < q * v.getD (v.length - 2) default) → val u / val v + 1 ≤ q:=by
  intro q r h1 h2 h3
  rcases Nat.lt_or_ge (val u / val v) q with h | h
  ·exact h
  ·exfalso
   have e : q = val u / val v:=by omega
   rcases h3 with h3 | h3
   ·omega
   ·have:=kn_less (q:=q) (r:=r) eU hul' eV (by rw [h1,etop]) (by rw [e];exact hQV)
    omega
 have last : ∀ q r,q * z2 + r = U0 * 4294967296 + U1 → val u / val v ≤ q → (4294967296 ≤ r ∨ (q < 4294967296 ∧ ¬ r * 4294967296 + U2 < q * v.getD (v.length - 2) default)) → q < 4294967296 ∧ q ≤ val u / val v + 1:=by
  intro q r h1 h2 h3
  have hqB : q < 4294967296:=by
   rcases h3 with h3 | h3
   ·have h4 : U0 * 4294967296 ≤ z2 * 4294967296:=Nat.mul_le_mul_right _ hU0V
    have h5 : q * z2 < 4294967296 * z2:=by omega
    exact Nat.lt_of_mul_lt_mul_right h5
   ·exact h3.1
  refine ⟨hqB,?_⟩
  rcases Nat.eq_zero_or_pos q with h | h
  ·rw [h];exact Nat.zero_le _
  ·obtain ⟨q',rfl⟩ : ∃ q',q = q' + 1:=⟨q - 1,by omega⟩
   have ht : (q' + 1) * v.getD (v.length - 2) default ≤ r * 4294967296 + U2:=by
    rcases h3 with h3 | h3
    ·have : (q' + 1) * v.getD (v.length - 2) default ≤ 4294967296 * 4294967296:=Nat.mul_le_mul (by omega) (by omega)
     have : 4294967296 * 4294967296 ≤ r * 4294967296:=Nat.mul_le_mul_right _ h3
     omega
    ·omega
   have:=kn_end (q:=q') eU eV hvl' (by rw [h1,etop]) hqB hz0 ht
   have:=(Nat.le_div_iff_mul_le hv0).2 this
   omega
 have next : ∀ q r z w : Nat,q * z + r = w → 1 ≤ q → (q - 1) * z + (r + z) = w:=by
  intro q r z w h1 h2
  obtain ⟨q',rfl⟩ : ∃ q',q = q' + 1:=⟨q - 1,by omega⟩
  rw [Nat.succ_mul] at h1
  rw [Nat.add_sub_cancel]
  omega
 refine j_run it 2 rfl ⟨trivial,⟨by omega,by omega⟩,trivial⟩ ?_
 refine j_nf [_,_,_] rfl ?_
 refine j_loopG (X:=Nat × Nat) [0,1,4,5] [0,1,2] (fun x=>[(7,.int .u64 x.1),(8,.int .u64 x.2)]) (fun x=>[(some b,78,natCells .u32 (pre++u++post))]) (fun _=>[])
  (fun x=>x.1 * z2 + x.2 = U0 * 4294967296 + U1 ∧ val u / val v ≤ x.1 ∧ x.1 ≤ 8589934592 ∧ x.2 < 8589934592)
  (fun x=>8589934592 - x.2) ((U0 * 4294967296 + U1) / z2,(U0 * 4294967296 + U1) % z2) [] rfl rfl rfl ⟨hdm,hfirst,hqb,by simp only;omega⟩ (by repeat (first | exact Fr.sub_nil _ | refine Fr.sub_cons rfl ?_ | refine Fr.sub_consI rfl (by simp) ?_)) rfl rfl ?_
 rintro ⟨q,r⟩ ⟨hqr,hQq,hq8,hr8⟩ ih
 simp only [List.cons_append,List.nil_append] at hqr hQq hq8 hr8 ih ⊢
 by_cases hr : r < 4294967296
 ·by_cases hqB : 4294967296 ≤ q
  ·have hl:=less q r hqr hQq (.inl hqB)
   refine j_nf [_,_,_,_,_,_] rfl ?_
   (apply j_drawK it mx 26;(· rfl);(· rfl))
   (apply lxk_run 1;(· rfl);(· simp))
   (apply lxk_eq;(· rfl);(· exact d_x fun _=>x_true it rfl (by trivial) (by omega) dk_eq))
   (apply lxk_run 2;(· rfl);(· simp))
   (apply lxk_eq;(· rfl);(· exact d_x fun _=>x_true it rfl (by trivial) (by omega) dk_eq))
   (apply lxk_run 18;(· rfl);(· simp))
   (apply lxk_run 3;(· rfl);(· simp))
   refine lxk_end rfl ?_
   simp only [List.map_cons,List.map_nil,List.cons_append,List.nil_append]
   refine j_nf [_,_,_,_,_] rfl ?_
   refine j_true rfl rfl ?_
   refine j_nf [_,_,_,_,_,_] rfl ?_
   refine j_run it 3 rfl ⟨trivial,⟨by omega,by omega⟩,trivial,trivial⟩ ?_
   refine j_nf [_,_,_,_,_] rfl ?_
   refine j_run it 4 rfl ⟨⟨by omega,by omega⟩,trivial,trivial,trivial,trivial⟩ ?_
   refine j_step rfl (x_idx 2 ((v.length) - 1) rfl rfl rfl sl48 (by omega) (by omega) fun z1 hz3 b3 o3=>?_)
   refine j_step rfl (x_ld_nat 0 rfl rfl ld78 fun ⟨r5,r6⟩=>?_)
   refine j_run it 3 rfl ⟨trivial,⟨by omega,by omega⟩,⟨by omega,by omega⟩,trivial⟩ ?_
   refine j_nfn 2 [.lp (pL 504),.blk 0,.c (pL 127)] rfl ?_
   obtain rfl : z1 = z2:=Option.some.inj (hz3.symm.trans hV1')
   refine j_to [1,2,3] (by exact fii rfl (by omega) (fcc rfl (fcc rfl (fcc rfl (fcc rfl (fcc rfl (fzz _))))))) rfl rfl (ih (q - 1,r + z1) (by simp only;omega) ⟨next q r z1 _ hqr (by omega),by simp only;omega,by simp only;omega,by simp only;omega⟩)
  ·by_cases ht : r * 4294967296 + U2 < q * v.getD (v.length - 2) default
   ·have hl:=less q r hqr hQq (.inr ht)
    refine j_nf [_,_,_,_,_,_] rfl ?_
    (apply j_drawK it mx 26;(· rfl);(· rfl))
    (apply lxk_run 1;(· rfl);(· simp))
    (apply lxk_eq;(· rfl);(· exact d_x fun _=>x_true it rfl (by trivial) (by omega) dk_eq))
    (apply lxk_run 2;(· rfl);(· simp))
    (apply lxk_eq;(· rfl);(· exact d_x fun _=>x_false it rfl (by trivial) (by omega) dk_eq))
    (apply lxk_run 5;(· rfl);(· exact ⟨⟨by omega,by omega⟩,trivial,trivial,trivial,trivial,trivial⟩))
    (apply lxk_pt;(· rfl);(· exact d_x fun _=>x_idx 2 ((v.length) - 2) rfl rfl rfl sl48 (by omega) (by omega) fun z1 hz3 b3 o3=>(dk_ptD default hz3 0 rfl));intro b3 o3)
    (apply lxk_eq;(· rfl);(· exact d_x fun _=>x_ld_nat 0 rfl rfl ld78 fun ⟨r5,r6⟩=>dk_eq))
    (apply lxk_run 7;(· rfl);(· exact ⟨⟨by omega,by omega⟩,trivial,trivial,⟨by omega,by omega⟩,trivial,⟨by omega,mul64_1 (by omega) (by omega) (by omega) (by omega)⟩,⟨by omega,by omega⟩,trivial⟩))
    (apply lxk_eq;(· rfl);(· exact d_x fun _=>x_idx_ownO ((v.length) - 2) _ rfl rfl sl48 (by omega) (by omega) rfl dk_eq))
    (apply lxk_eq;(· rfl);(· exact d_bld_mid 0 (v.length - 2) rfl rfl ld78 (by omega) (by assumption)))
    (apply lxk_run 1;(· rfl);(· exact ⟨⟨by omega,by omega⟩,trivial⟩))
    (apply lxk_eq;(· rfl);(· exact d_x fun _=>x_or_shl (r) (U2) rfl rfl (by first | rfl | omega) (by first | rfl | omega) (by omega) (by omega) dk_eq))
    (apply lxk_eq;(· rfl);(· exact d_x fun _=>x_true it rfl (by trivial) (by omega) dk_eq))
    (apply lxk_run 2;(· rfl);(· simp))
    refine lxk_end rfl ?_
    simp only [List.map_cons,List.map_nil,List.cons_append,List.nil_append]
    refine j_nf [_,_,_,_,_] rfl ?_
    refine j_true rfl rfl ?_
    refine j_nf [_,_,_,_,_,_] rfl ?_
    refine j_run it 1 rfl (by simp) ?_
    refine j_step rfl (x_sub_u64 rfl rfl ?_)
    refine j_run it 1 rfl (by simp) ?_
    refine j_nf [_,_,_,_,_] rfl ?_
    refine j_run it 4 rfl ⟨⟨by omega,by omega⟩,trivial,trivial,trivial,trivial⟩ ?_
    refine j_step rfl (x_idx 3 ((v.length) - 1) rfl rfl rfl sl48 (by omega) (by omega) fun z1 hz3 b4 o4=>?_)
    refine j_step rfl (x_ld_nat 0 rfl rfl ld78 fun ⟨r5,r6⟩=>?_)
    refine j_run it 3 rfl ⟨trivial,⟨by omega,by omega⟩,⟨by omega,by omega⟩,trivial⟩ ?_
    refine j_nfn 2 [.lp (pL 504),.blk 0,.c (pL 127)] rfl ?_
    obtain rfl : z1 = z2:=Option.some.inj (hz3.symm.trans hV1')
    have hq1 : 1 ≤ q:=Nat.le_trans (Nat.succ_le_succ (Nat.zero_le _)) hl
    refine j_to [2,3,4] (by exact fii rfl (by omega) (fcc rfl (fcc rfl (fcc rfl (fcc rfl (fcc rfl (fzz _))))))) rfl rfl (ih (q - 1,r + z1) (by simp only;omega) ⟨next q r z1 _ hqr hq1,Nat.le_sub_of_add_le hl,by simp only;omega,by simp only;omega⟩)
   ·obtain ⟨h1,h2⟩:=last q r hqr hQq (.inr ⟨by omega,ht⟩)
    refine j_nf [_,_,_,_,_,_] rfl ?_
    (apply j_drawK it mx 26;(· rfl);(· rfl))
    (apply lxk_run 1;(· rfl);(· simp))
    (apply lxk_eq;(· rfl);(· exact d_x fun _=>x_true it rfl (by trivial) (by omega) dk_eq))
    (apply lxk_run 2;(· rfl);(· simp))
    (apply lxk_eq;(· rfl);(· exact d_x fun _=>x_false it rfl (by trivial) (by omega) dk_eq))
    (apply lxk_run 5;(· rfl);(· exact ⟨⟨by omega,by omega⟩,trivial,trivial,trivial,trivial,trivial⟩))
    (apply lxk_pt;(· rfl);(· exact d_x fun _=>x_idx 2 ((v.length) - 2) rfl rfl rfl sl48 (by omega) (by omega) fun z1 hz3 b3 o3=>(dk_ptD default hz3 0 rfl));intro b3 o3)
    (apply lxk_eq;(· rfl);(· exact d_x fun _=>x_ld_nat 0 rfl rfl ld78 fun ⟨r5,r6⟩=>dk_eq))
    (apply lxk_run 7;(· rfl);(· exact ⟨⟨by omega,by omega⟩,trivial,trivial,⟨by omega,by omega⟩,trivial,⟨by omega,by omega⟩,⟨by omega,by omega⟩,trivial⟩))
    (apply lxk_eq;(· rfl);(· exact d_x fun _=>x_idx_ownO ((v.length) - 2) _ rfl rfl sl48 (by omega) (by omega) rfl dk_eq))
    (apply lxk_eq;(· rfl);(· exact d_bld_mid 0 (v.length - 2) rfl rfl ld78 (by omega) (by assumption)))
    (apply lxk_run 1;(· rfl);(· exact ⟨⟨by omega,by omega⟩,trivial⟩))
    (apply lxk_eq;(· rfl);(· exact d_x fun _=>x_or_shl (r) (U2) rfl rfl (by first | rfl | omega) (by first | rfl | omega) (by omega) (by omega) dk_eq))
    (apply lxk_eq;(· rfl);(· exact d_x fun _=>x_false it rfl (by trivial) (by omega) dk_eq))
    (apply lxk_run 2;(· rfl);(· simp))
    refine lxk_end rfl ?_
    simp only [List.map_cons,List.map_nil,List.cons_append,List.nil_append]
    refine j_nf [_,_,_,_,_] rfl ?_
    refine j_false rfl rfl ?_
    refine j_nfn 1 [.c (pL 127)] rfl ?_
    refine j_to [3] (by exact fra rfl) rfl rfl (exit q h1 hQq h2)
 ·obtain ⟨h1,h2⟩:=last q r hqr hQq (.inl (by omega))
  refine j_nf [_,_,_,_,_,_] rfl ?_
  (apply j_drawK it mx 26;(· rfl);(· rfl))
  (apply lxk_run 1;(· rfl);(· simp))
  (apply lxk_eq;(· rfl);(· exact d_x fun _=>x_false it rfl (by trivial) (by omega) dk_eq))
  (apply lxk_run 2;(· rfl);(· simp))
  (apply lxk_run 19;(· rfl);(· simp))
  (apply lxk_run 3;(· rfl);(· simp))
  refine lxk_end rfl ?_
  simp only [List.map_cons,List.map_nil,List.cons_append,List.nil_append]
  refine j_nf [_,_,_,_,_] rfl ?_
  refine j_false rfl rfl ?_
  refine j_nfn 1 [.c (pL 127)] rfl ?_
  refine j_to [2] (by exact fra rfl) rfl rfl (exit q h1 hQq h2)
set_option maxHeartbeats 4000000
theorem S_bits_LeadingZeros32 {x : Nat} (hx : x < 4294967296) : Ctr Try.prog 98 [.int .u32 x] [] [] (Rv (.int .i64 (32 - blen x : Int)) []):=by
 refine Ctr_of_j' (F:=F_bits_LeadingZeros32) rfl fun C=>?_
 have h : blen x ≤ 32:=blen_le (by simpa using hx)
 refine j_nf [_,_] rfl (j_run it 1 rfl (by simp) ?_)
 refine j_nf [_,_] rfl (j_run it 1 rfl (by simp) ?_)
 refine j_step rfl (x_call [] rfl (S_bits_Len32 (by omega)) rfl ?_)
 rintro _ _ _ ⟨rfl,rfl,rfl⟩
 simp only [List.cons_append,List.nil_append]
 refine j_run it 2 rfl ⟨trivial,⟨by omega,by omega⟩,trivial⟩ ?_
 refine j_nf [_] rfl ?_
 refine j_giv [] rfl rfl rfl ⟨rfl,rfl,rfl⟩
abbrev LongQ (A B : Nat) : Value → List Fact → List Blk → Prop:=fun v Φ β=>∃ lq lr p1 c1 p2 c2,v = .tuple #[.slice p1 lq.length c1,.slice p2 lr.length c2] ∧ Φ = [slF U32 p1 lq.length c1 lq,slF U32 p2 lr.length c2 lr] ∧ β = [] ∧ val lq = A / B ∧ val lr = A % B
theorem S_nat_long {pa pb : Option Addr} {n m ca cb k t : Nat} {a b : List Nat} (hal : a.length ≤ 1073741824) (hbl : b.length = k + 2) (hab : b.length ≤ a.length) (ht : b[k + 1]? = some t) (h0 : t ≠ 0) :
  Ctr Try.prog 85 [.slice pa n ca,.slice pb m cb] [] [slF U32 pa n ca a,slF U32 pb m cb b] (LongQ (val a) (val b)):=by
 refine Ctr_of_j' (F:=F_nat_long) rfl fun C=>?_
 refine j_len 0 rfl fun hn hba _=>?_
 refine j_len 1 rfl fun hm hbb _=>?_
 subst hn;subst hm
 refine j_range 0 rfl fun hra=>?_
 refine j_range 1 rfl fun hrb=>?_
 have ha : ∀ x ∈ a,x < 4294967296:=fun x hx=>by have:=hra x hx;simp only [InR] at this;omega
 have hb : ∀ x ∈ b,x < 4294967296:=fun x hx=>by have:=hrb x hx;simp only [InR] at this;omega
 have htB:=hb t (List.mem_of_getElem? ht)
 have h32 : blen t ≤ 32:=blen_le (by simpa using htB)
 have h1t : 1 ≤ blen t:=by have:=blen_pos h0;omega
 obtain ⟨hVl,w,hw,hwn⟩:=norm_div hb hbl ht h0
 have hn32 : 32 - blen t < 32:=by omega
 have e32 : (32 - (blen t : Int)) = ((32 - blen t : Nat) : Int):=by omega
 refine j_nf [_,_] rfl ?_
 refine j_run it 2 rfl (by simp) ?_
 refine j_nf [_,_] rfl ?_
 refine j_run it 2 rfl (by simp) ?_
 refine j_step rfl (x_len sl48 rfl ?_)
 refine j_run it 1 rfl ⟨⟨by omega,by omega⟩,trivial⟩ ?_
 refine j_step rfl (x_idx 1 ((b.length) - 1) rfl rfl rfl sl48 (by omega) (by omega) fun z1 hz1 b1 o1=>?_)
 refine j_step rfl (x_ld_nat 0 rfl rfl ld78 fun ⟨r1,r2⟩=>?_)
 obtain rfl : z1 = t:=Option.some.inj (hz1.symm.trans (by rw [hbl];exact ht))
 refine j_step rfl (x_call [] rfl (S_bits_LeadingZeros32 (by omega)) rfl ?_)
 rintro _ _ _ ⟨rfl,rfl,rfl⟩
 simp only [List.cons_append,List.nil_append]
 refine j_run it 1 rfl (by simp) ?_
 refine j_nf [_,_] rfl ?_
 rw [e32]
 generalize 32 - blen z1 = s at hVl hw hn32 ⊢
 refine j_run it 2 rfl (by simp) ?_
 refine j_step rfl (x_call [2] rfl (O_nat_shift (a:=b) (by omega) hn32) rfl ?_)
 rintro _ _ _ ⟨lv,hlv,hlvB,hlvV,b1,rfl,rfl,rfl⟩
 simp only [List.nil_append,List.cons_append]
 have evl : trim lv = limbs (val b * 2 ^ s):=by rw [trim_eq hlvB,hlvV]
 skip
 refine j_pub32 (n:=lv.length) 0 rfl rfl hlvB (by omega) ?_
 refine j_step rfl (x_call [0] rfl (S_nat_short) rfl ?_)
 rintro _ _ _ ⟨rfl,rfl,rfl⟩
 simp only [List.cons_append,List.nil_append]
 refine j_run it 1 rfl (by simp) ?_
 refine j_nf [_,_] rfl ?_
 refine j_run it 2 rfl (by simp) ?_
 rw [evl]
 generalize hvv : limbs (val b * 2 ^ s) = v at hVl hw ⊢
 have hvB : ∀ x ∈ v,x < 4294967296:=by rw [← hvv];exact limbs_lt _
 have hvV : val v = val b * 2 ^ s:=by rw [← hvv,val_limbs]
 refine j_step rfl (x_call [3] rfl (O_nat_shift (a:=a) (by omega) hn32) rfl ?_)
 rintro _ _ _ ⟨lu,hlu,hluB,hluV,b2,rfl,rfl,rfl⟩
 simp only [List.nil_append,List.cons_append]
 have hA:=val_lt ha
 have hs0 : 0 < 2 ^ s:=Nat.pow_pos (by decide)
 have hVlow : 4294967296 ^ (k + 1) * 2 ^ s ≤ val v:=by
  rw [hvV]
  refine Nat.mul_le_mul_right _ ?_
  have h:=top_split (k:=k + 1) hbl ht
  have : 4294967296 ^ (k + 1) * 1 ≤ 4294967296 ^ (k + 1) * z1:=Nat.mul_le_mul_left _ (by omega)
  omega
 have hV0 : 0 < val v:=Nat.lt_of_lt_of_le (Nat.mul_pos (Nat.pow_pos (by decide)) hs0) hVlow
 have hVB:=val_lt hvB
 have hst:=long_start (k:=k + 1) (m:=a.length - (k + 1)) hluB hlu hluV hA hVlow (by omega) (by omega)
 refine j_run it 1 rfl (by simp) ?_
 refine j_nf [_,_] rfl ?_
 refine j_run it 1 rfl (by simp) ?_
 refine j_step rfl (x_len sl48 rfl ?_)
 refine j_run it 1 rfl (by simp) ?_
 refine j_nf [_,_] rfl ?_
 refine j_run it 1 rfl (by simp) ?_
 refine j_step rfl (x_len sl48 rfl ?_)
 refine j_run it 2 rfl ⟨⟨by omega,by omega⟩,trivial,trivial⟩ ?_
 refine j_step rfl (x_make_nat ((lu.length) - (v.length)) _ rfl rfl sl48 zo48e by48e (by omega) (by omega) (by omega) fun b3=>?_)
 refine j_run it 1 rfl (by simp) ?_
 refine j_nf [_,_,_] rfl ?_
 refine j_run it 1 rfl (by simp) ?_
 refine j_step rfl (x_len sl48 rfl ?_)
 refine j_run it 4 rfl ⟨trivial,⟨by omega,by omega⟩,⟨by omega,by omega⟩,trivial,trivial⟩ ?_
 refine j_nf [_,_,_] rfl ?_
 refine j_loopG (X:=Nat × List Nat × List Nat) [4,5,6,7,8,9] [0,1,2,3,4] (fun x=>[(10,.int .i64 ((x.1 : Int) - 1))]) (fun x=>[(some b3,78,natCells .u32 x.2.1),(some b2,78,natCells .u32 x.2.2)]) (fun _=>[])
  (fun x=>x.1 ≤ a.length - (k + 1) ∧ x.2.1.length = a.length - (k + 1) ∧ (∀ z ∈ x.2.1,z < 4294967296) ∧ x.2.2.length = a.length + 1 ∧ (∀ z ∈ x.2.2,z < 4294967296) ∧ val (x.2.2.drop x.1) < val v ∧ val x.2.2 + 4294967296 ^ x.1 * val v * val (x.2.1.drop x.1) = val a * 2 ^ s)
  (fun x=>x.1) (a.length - (k + 1),List.replicate (lu.length - v.length) 0,lu) [] rfl rfl rfl ⟨Nat.le_refl _,by simp;omega,rep_lt (by decide),hlu,hluB,hst,by simp only;rw [List.drop_of_length_le (by simp;omega),hluV];simp [val]⟩ (by repeat (first | exact Fr.sub_nil _ | refine Fr.sub_cons rfl ?_ | refine Fr.sub_consI rfl (by dsimp only;omega) ?_)) rfl rfl ?_
 rintro ⟨i,quo,uu⟩ ⟨hi,hql,hqB,hul,huB,hud,he⟩ ih
 simp only [List.cons_append,List.nil_append] at hi hql hqB hul huB hud he ih ⊢
 by_cases hi0 : 0 < i
 ·obtain ⟨j,rfl⟩ : ∃ j,i = j + 1:=⟨i - 1,by omega⟩
  rw [show (((j + 1 : Nat) : Int) - 1) = (j : Int) by omega]
  refine j_nf [_,_,_,_,_,_] rfl ?_
  refine j_run it 2 rfl (by simp) ?_
  refine j_nf [_,_,_,_,_] rfl ?_
  refine j_if rfl rfl (fun h1=>?_) (fun h1=>by exfalso;omega)
  refine j_nf [_,_,_,_,_,_] rfl ?_
  refine j_run it 8 rfl ⟨⟨by omega,by omega⟩,⟨by omega,by omega⟩,trivial,trivial,trivial,trivial,trivial,trivial,trivial⟩ ?_
  refine j_step rfl (x_slice_own (j) (((j) + (v.length)) + 1) (j) rfl rfl rfl sl48 (by omega) (by omega) (by omega) (by omega) (by omega) (by omega) ?_)
  refine j_run it 1 rfl (by simp) ?_
  rw [show j + v.length + 1 - j = k + 3 by omega]
  obtain ⟨pre,mid,post,rfl,hpre,hmid⟩ : ∃ pre mid post,uu = pre++mid++post ∧ pre.length = j ∧ mid.length = k + 3 :=
   ⟨uu.take j,(uu.drop j).take (k + 3),(uu.drop j).drop (k + 3),by rw [List.append_assoc,List.take_append_drop,List.take_append_drop],by simp;omega,by simp;omega⟩
  have hmidB : ∀ x ∈ mid,x < 4294967296:=fun x hx=>huB x (by simp [hx])
  have hpost0 : val post = 0:=by
   have h1 : (pre++mid++post).drop (j + 1) = mid.drop 1++post:=by
    rw [List.append_assoc,← List.drop_drop,List.drop_append_of_le_length (by omega),List.drop_of_length_le (l:=pre) (by omega),List.nil_append,List.drop_append_of_le_length (by omega)]
   rw [h1] at hud
   have h2:=drop_zero (k:=k + 2) (Nat.lt_trans hud (by rw [hVl] at hVB;exact hVB))
   rw [List.drop_append_of_le_length (by simp;omega),List.drop_of_length_le (l:=mid.drop 1) (by simp;omega),List.nil_append] at h2
   exact h2
  have hval : ∀ mm : List Nat,mm.length = k + 3 → val (pre++mm++post) = val pre + 4294967296 ^ j * val mm:=fun mm hmm=>by
   rw [List.append_assoc,val_append,val_append,hpost0,Nat.mul_zero,Nat.add_zero,hpre]
  have hdropj : ∀ mm : List Nat,(pre++mm++post).drop j = mm++post:=fun mm=>by
   rw [List.append_assoc,List.drop_append_of_le_length (by omega),List.drop_of_length_le (l:=pre) (by omega),List.nil_append]
  have hUV : val mid < 4294967296 * val v:=by
   have h1 : val (mid++post) = val mid:=by rw [val_append,hpost0,Nat.mul_zero,Nat.add_zero]
   obtain ⟨x,hx⟩ : ∃ x,(pre++mid++post)[j]? = some x:=⟨(pre++mid++post)[j],by simp⟩
   have h2:=val_drop hx
   rw [hdropj,h1] at h2
   have:=huB x (List.mem_of_getElem? hx)
   omega
  refine j_step rfl (x_callB 1 [0] rfl rfl (S_nat_step (k:=k) (post:=post) hpre hmid hVl (by omega) (by omega) hmidB hw hwn hUV) rfl ?_)
  rintro _ _ _ ⟨rfl,rfl,mid',hm',hmB',hmV,rfl⟩
  simp only [List.nil_append,List.cons_append]
  refine j_step rfl (x_idx_own (j) (j) rfl rfl sl48 rfl (by omega) (Nat.mul_one _) ?_)
  refine j_step rfl (x_bst_nat 1 (val mid / val v) rfl rfl rfl ld78 (by first | rfl | omega) (by first | omega | (simp;omega)) ?_)
  refine j_nf [_,_,_,_] rfl ?_
  refine j_run it 3 rfl ⟨trivial,⟨by omega,by omega⟩,trivial,trivial⟩ ?_
  refine j_nfn 1 [.lp (pL 2036),.blk 0,.c (pL 255)] rfl ?_
  refine j_perm (List.Perm.swap _ _ _) ?_
  have hqd : val mid / val v < 4294967296:=by rw [Nat.div_lt_iff_lt_mul hV0];exact hUV
  refine j_to [0,1,2,3,4] (by exact fra rfl) rfl rfl (ih (j,quo.set j (val mid / val v),pre++mid'++post) (by simp only;omega) ⟨by simp only;omega,by simpa using hql,set_lt hqB hqd,by simp at hul ⊢;omega,fun x hx=>by
   simp only [List.mem_append] at hx
   rcases hx with (hx | hx) | hx
   ·exact huB x (by simp [hx])
   ·exact hmB' x hx
   ·exact huB x (by simp [hx]),by
   simp only
   rw [hdropj,val_append,hpost0,Nat.mul_zero,Nat.add_zero,hmV]
   exact Nat.mod_lt _ hV0,by
   simp only
   rw [hval mid' hm',val_set_drop (by omega)]
   rw [hval mid hmid,Nat.pow_succ] at he
   exact long_step he rfl hmV⟩)
 ·have hi00 : i = 0:=by omega
  subst hi00
  rw [List.drop_zero] at hud he
  rw [Nat.pow_zero,Nat.one_mul] at he
  obtain ⟨hQ,hR⟩:=long_end he hvV hud hs0
  refine j_nf [_,_,_,_,_,_] rfl ?_
  refine j_run it 2 rfl (by simp) ?_
  refine j_nf [_,_,_,_,_] rfl ?_
  refine j_if rfl rfl (fun h1=>by exfalso;omega) (fun h1=>?_)
  refine j_nf [_,_] rfl ?_
  refine j_run it 1 rfl (by simp) ?_
  refine j_step rfl (x_make_nat (v.length) _ rfl rfl sl48 zo48e by48e (by omega) (by omega) (by omega) fun b4=>?_)
  refine j_run it 1 rfl (by simp) ?_
  refine j_nf [_,_,_] rfl ?_
  refine j_run it 1 rfl (by simp) ?_
  refine j_step rfl (x_len sl48 rfl ?_)
  refine j_run it 1 rfl (by simp) ?_
  refine j_nf [_,_,_] rfl ?_
  refine j_loopG (X:=Nat × List Nat) [4,5,6,8,57] [0,1,2,3,4] (fun x=>[(58,.int .i64 x.1)]) (fun x=>[(some b4,78,natCells .u32 x.2),(some b3,78,natCells .u32 quo),(some b2,78,natCells .u32 uu)]) (fun _=>[])
   (fun x=>x.1 ≤ v.length ∧ x.2.length = v.length ∧ (∀ z ∈ x.2,z < 4294967296) ∧ val (x.2.take x.1) = val uu / 2 ^ s % 4294967296 ^ x.1)
   (fun x=>v.length - x.1) (0,List.replicate v.length 0) [] rfl rfl rfl ⟨Nat.zero_le _,by simp,rep_lt (by decide),by simp [val,Nat.mod_one]⟩ (by repeat (first | exact Fr.sub_nil _ | refine Fr.sub_cons rfl ?_)) rfl rfl ?_
  rintro ⟨i,rem⟩ ⟨hi2,hrl,hrB,hrv⟩ ih2
  simp only [List.cons_append,List.nil_append] at hi2 hrl hrB hrv ih2 ⊢
  by_cases hil : i < v.length
  ·obtain ⟨x,hx⟩ : ∃ x,uu[i]? = some x:=⟨uu[i],by simp⟩
   obtain ⟨y,hy⟩ : ∃ y,uu[i + 1]? = some y:=⟨uu[i + 1],by simp⟩
   have hxB:=huB x (List.mem_of_getElem? hx)
   have hyB:=huB y (List.mem_of_getElem? hy)
   refine j_nf [_,_,_,_,_] rfl ?_
   refine j_run it 1 rfl (by simp) ?_
   refine j_nf [_,_,_,_,_] rfl ?_
   refine j_if rfl rfl (fun h2=>?_) (fun h2=>by exfalso;omega)
   refine j_nf [_,_,_,_,_,_,_] rfl ?_
   refine j_run it 2 rfl (by simp) ?_
   refine j_nf [_,_,_,_,_,_] rfl ?_
   (apply j_drawK it mx 18;(· rfl);(· rfl))
   (apply lxk_run 4;(· rfl);(· simp))
   (apply lxk_eq;(· rfl);(· exact d_x fun _=>x_idx_own (i) (i) rfl rfl sl48 rfl (by omega) (Nat.mul_one _) dk_eq))
   (apply lxk_eq;(· rfl);(· exact d_bld_nat 2 rfl rfl ld78 (by assumption)))
   (apply lxk_run 4;(· rfl);(· exact ⟨⟨by omega,by omega⟩,trivial,trivial,⟨by omega,by omega⟩,trivial⟩))
   (apply lxk_eq;(· rfl);(· exact d_x fun _=>x_idx_own ((i) + 1) ((i) + 1) rfl rfl sl48 (by omega) (by omega) (Nat.mul_one _) dk_eq))
   (apply lxk_eq;(· rfl);(· exact d_bld_nat 2 rfl rfl ld78 (by assumption)))
   (apply lxk_run 2;(· rfl);(· exact ⟨⟨by omega,by omega⟩,⟨by omega,by omega⟩,trivial⟩))
   (apply lxk_eq;(· rfl);(· exact d_x fun _=>x_or_nat (x) ((y) * 4294967296) rfl rfl (by first | rfl | omega) (by first | rfl | omega) (by omega) (by omega) dk_eq))
   (apply lxk_run 1;(· rfl);(· simp))
   (apply lxk_eq;(· rfl);(· exact d_x fun _=>x_shr_nat (x ||| y * 4294967296) (s) rfl rfl (by first | rfl | omega) (by first | rfl | omega) (by first | decide | (simp only [IntKind.bits];omega)) dk_eq))
   (apply lxk_eq;(· rfl);(· exact d_x fun _=>x_conv_u32 it rfl rfl rfl dk_eq))
   refine lxk_end rfl ?_
   simp only [List.map_cons,List.map_nil,List.cons_append,List.nil_append]
   refine j_step rfl (x_idx_own (i) (i) rfl rfl sl48 rfl (by omega) (Nat.mul_one _) ?_)
   refine j_step rfl (x_bst_nat 0 (((x ||| y * 4294967296) / 2 ^ s) % 4294967296) rfl rfl rfl ld78 (by first | rfl | omega) (by first | omega | (simp;omega)) ?_)
   refine j_nf [_,_,_,_] rfl ?_
   refine j_run it 2 rfl ⟨trivial,⟨by omega,by omega⟩,trivial⟩ ?_
   refine j_nfn 1 [.lp (pL 8180),.blk 2,.c (pL 1023)] rfl ?_
   have eor : x ||| y * 4294967296 = x + 4294967296 * y:=by
    have h:=or_low (x:=y) (n:=32) (c:=x) hxB
    rw [show (2 : Nat) ^ 32 = 4294967296 from rfl] at h
    rw [Nat.or_comm,h];omega
   rw [eor]
   refine j_to [0,1,2,3,4] (by exact fra rfl) rfl rfl (ih2 (i + 1,rem.set i ((x + 4294967296 * y) / 2 ^ s % 4294967296)) (by simp only;omega) ⟨by simp only;omega,by simpa using hrl,set_lt hrB (Nat.mod_lt _ (by decide)),by
    simp only
    rw [val_set_take (by omega),hrv,rem_digit huB hx hy hn32]⟩)
  ·have ei : i = v.length:=by omega
   subst ei
   have hrv' : val rem = val a % val b:=by
    rw [← hrl,List.take_length,hrl,hR,Nat.mul_div_cancel _ hs0] at hrv
    rw [hrv]
    refine Nat.mod_eq_of_lt (Nat.lt_of_le_of_lt ?_ (Nat.lt_trans hud hVB))
    rw [hR]
    exact Nat.le_mul_of_pos_right _ hs0
   refine j_nf [_,_,_,_,_] rfl ?_
   refine j_run it 1 rfl (by simp) ?_
   refine j_nf [_,_,_,_,_] rfl ?_
   refine j_if rfl rfl (fun h2=>by exfalso;omega) (fun h2=>?_)
   refine j_nf [_,_] rfl ?_
   refine j_run it 4 rfl (by simp) ?_
   refine j_nf [_] rfl ?_
   refine j_pub32 (n:=v.length) 0 rfl hrl hrB (by omega) ?_
   refine j_pub32 (n:=lu.length - v.length) 0 rfl (by omega) hqB (by omega) ?_
   have e1 : lu.length - v.length = quo.length:=by omega
   rw [e1,← hrl]
   refine j_giv [0,1] rfl rfl rfl ⟨quo,rem,_,_,_,_,rfl,rfl,rfl,hQ,hrv'⟩
abbrev DivQ (A B : Nat) : Value → List Fact → List Blk → Prop:=fun v Φ β=>∃ p1 c1 p2 c2,v = .tuple #[.slice p1 (limbs (A / B)).length c1,.slice p2 (limbs (A % B)).length c2,.int .i64 0] ∧ Φ = [slF U32 p1 (limbs (A / B)).length c1 (limbs (A / B)),slF U32 p2 (limbs (A % B)).length c2 (limbs (A % B))] ∧ β = []
theorem S_nat_DivMod {pa pb : Option Addr} {n m ca cb : Nat} {a b : List Nat} (hal : a.length ≤ 1073741824) (hb0 : val b ≠ 0) :
  Ctr Try.prog 63 [.slice pa n ca,.slice pb m cb] [] [slF U32 pa n ca a,slF U32 pb m cb b] (DivQ (val a) (val b)):=by
 refine Ctr_of_j' (F:=F_nat_DivMod) rfl fun C=>?_
 refine j_len 0 rfl fun hn hba _=>?_
 refine j_len 1 rfl fun hm hbb _=>?_
 subst hn;subst hm
 have hba' : a.length * 4 ≤ 140737488355328:=hba
 have hbb' : b.length * 4 ≤ 140737488355328:=hbb
 refine j_range 0 rfl fun hra=>?_
 refine j_range 1 rfl fun hrb=>?_
 have ha : ∀ x ∈ a,x < 4294967296:=fun x hx=>by have:=hra x hx;simp only [InR] at this;omega
 have hb : ∀ x ∈ b,x < 4294967296:=fun x hx=>by have:=hrb x hx;simp only [InR] at this;omega
 have ea:=trim_eq ha
 have eb:=trim_eq hb
 have lla:=trim_length_le a
 have llb:=trim_length_le b
 have va : val (trim a) = val a:=val_trim a
 have vb : val (trim b) = val b:=val_trim b
 have hbne : 1 ≤ (trim b).length:=by
  rcases Nat.eq_zero_or_pos (trim b).length with h | h
  ·exfalso;have h2:=List.eq_nil_of_length_eq_zero h;rw [eb,limbs_nil] at h2;exact hb0 h2
  ·exact h
 by_cases hlt : val a < val b
 ·have hc : cmpN (val (trim a)) (val (trim b)) < 0:=by rw [va,vb,cmpN_lt hlt];decide
  have e1 : limbs (val a / val b) = []:=by rw [Nat.div_eq_of_lt hlt,limbs_zero]
  have e2 : limbs (val a % val b) = trim (trim a):=by rw [Nat.mod_eq_of_lt hlt,trim_trim,ea]
  refine j_nf [_,_] rfl (j_run it 3 rfl (by simp) ?_)
  refine j_nf [_,_] rfl (j_run it 1 rfl (by simp) ?_)
  refine j_step rfl (x_call [0] rfl (S_nat_short) rfl ?_)
  rintro _ _ _ ⟨rfl,rfl,rfl⟩
  simp only [List.cons_append,List.nil_append]
  refine j_run it 1 rfl (by simp) ?_
  refine j_step rfl (x_call [2] rfl (S_nat_short) rfl ?_)
  rintro _ _ _ ⟨rfl,rfl,rfl⟩
  simp only [List.cons_append,List.nil_append]
  refine j_run it 2 rfl (by simp) ?_
  refine j_nf [_,_,_,_] rfl (j_run it 1 rfl (by simp) ?_)
  refine j_step rfl (x_len sl48 rfl ?_)
  refine j_run it 2 rfl (by simp) ?_
  refine j_nf [_,_,_] rfl (j_if rfl rfl (fun h1=>by exfalso;omega) (fun h1=>?_))
  refine j_nf [_,_,_,_] rfl (j_run it 2 rfl (by simp) ?_)
  refine j_step rfl (x_call [1,0] rfl (S_nat_Cmp) rfl ?_)
  rintro _ _ _ ⟨rfl,rfl,rfl⟩
  simp only [List.cons_append,List.nil_append]
  refine j_run it 2 rfl (by simp) ?_
  refine j_nf [_,_,_] rfl (j_if rfl rfl (fun h2=>?_) (fun h2=>by exfalso;omega))
  refine j_nf [_,_,_,_] rfl (j_run it 1 rfl (by simp) ?_)
  refine j_step rfl (x_call [1] rfl (S_nat_Trim) rfl ?_)
  rintro _ _ _ ⟨pa1,ca1,rfl,rfl,rfl⟩
  simp only [List.cons_append,List.nil_append]
  refine j_run it 3 rfl (by simp) ?_
  refine j_nf [_,_,_] rfl ?_
  refine j_add (slF U32 none 0 0 []) (fun w A _=>slF_nil _ _ _ _ _) ?_
  refine j_giv [0,1] rfl rfl rfl ⟨none,0,pa1,ca1,by rw [e1,e2];rfl,by rw [e1,e2];rfl,rfl⟩
 ·have hc : ¬ cmpN (val (trim a)) (val (trim b)) < 0:=by rw [va,vb];unfold cmpN;split <;> (try split) <;> omega
  by_cases h1 : (trim b).length = 1
  ·obtain ⟨d,hd⟩ : ∃ d,trim b = [d]:=List.length_eq_one_iff.1 h1
   have hvd : val b = d:=by rw [← vb,hd];simp [val]
   have hd0 : 0 < d:=by omega
   have hdB : d < 4294967296:=hb d (mem_trim (by rw [hd];simp))
   have side : ∀ z,(trim b)[0]? = some z → z = d:=fun z hz=>by rw [hd] at hz;simpa using hz.symm
   refine j_nf [_,_] rfl (j_run it 3 rfl (by simp) ?_)
   refine j_nf [_,_] rfl (j_run it 1 rfl (by simp) ?_)
   refine j_step rfl (x_call [0] rfl (S_nat_short) rfl ?_)
   rintro _ _ _ ⟨rfl,rfl,rfl⟩
   simp only [List.cons_append,List.nil_append]
   refine j_run it 1 rfl (by simp) ?_
   refine j_step rfl (x_call [2] rfl (S_nat_short) rfl ?_)
   rintro _ _ _ ⟨rfl,rfl,rfl⟩
   simp only [List.cons_append,List.nil_append]
   refine j_run it 2 rfl (by simp) ?_
   refine j_nf [_,_,_,_] rfl (j_run it 1 rfl (by simp) ?_)
   refine j_step rfl (x_len sl48 rfl ?_)
   refine j_run it 2 rfl (by simp) ?_
   refine j_nf [_,_,_] rfl (j_if rfl rfl (fun h2=>by exfalso;omega) (fun h2=>?_))
   refine j_nf [_,_,_,_] rfl (j_run it 2 rfl (by simp) ?_)
   refine j_step rfl (x_call [1,0] rfl (S_nat_Cmp) rfl ?_)
   rintro _ _ _ ⟨rfl,rfl,rfl⟩
   simp only [List.cons_append,List.nil_append]
   refine j_run it 2 rfl (by simp) ?_
   refine j_nf [_,_,_] rfl (j_if rfl rfl (fun h3=>by exfalso;omega) (fun h3=>?_))
   refine j_nf [_,_,_,_] rfl (j_run it 1 rfl (by simp) ?_)
   refine j_step rfl (x_len sl48 rfl ?_)
   refine j_run it 2 rfl (by simp) ?_
   refine j_nf [_,_,_] rfl (j_if rfl rfl (fun h4=>?_) (fun h4=>by exfalso;omega))
   refine j_nf [_,_,_,_] rfl (j_run it 2 rfl (by simp) ?_)
   refine j_step rfl (x_idx 0 0 rfl rfl rfl sl48 (by omega) (by omega) fun z1 hz1 b1 o1=>?_)
   refine j_step rfl (x_ld_nat 0 rfl rfl ld78 fun ⟨r1,r2⟩=>?_)
   obtain rfl : z1 = d:=side z1 hz1
   have hm : val (trim a) % z1 < 4294967296:=Nat.lt_trans (Nat.mod_lt _ hd0) hdB
   have hm2 : val (trim a) % z1 < 18446744073709551616:=by omega
   refine j_step rfl (x_call [2] rfl (S_nat_digit (by omega) (by omega)) rfl ?_)
   rintro _ _ _ ⟨pa1,ca1,rfl,rfl,rfl⟩
   simp only [List.cons_append,List.nil_append]
   refine j_run it 5 rfl (by simp) ?_
   refine j_nf [_,_,_,_] rfl (j_run it 3 rfl ⟨⟨by omega,by omega⟩,trivial,trivial,trivial⟩ ?_)
   refine j_step rfl (x_call [] rfl (S_nat_Of (by omega)) rfl ?_)
   rintro _ _ _ ⟨pa2,ca2,rfl,rfl,rfl⟩
   simp only [List.cons_append,List.nil_append]
   refine j_run it 3 rfl (by simp) ?_
   refine j_nf [_,_,_] rfl ?_
   rw [va,← hvd]
   refine j_giv [1,0] rfl rfl rfl ⟨_,_,_,_,rfl,rfl,rfl⟩
  ·obtain ⟨k,hk⟩ : ∃ k,(trim b).length = k + 2:=⟨(trim b).length - 2,by omega⟩
   obtain ⟨t,ht,ht0⟩:=limbs_top (n:=val b) (k:=k + 1) (by rw [← eb];exact hk)
   rw [← eb] at ht
   have hab : (trim b).length ≤ (trim a).length:=by
    rw [eb,ea]
    exact limbs_mono (Nat.le_refl _) (by omega)
   refine j_nf [_,_] rfl (j_run it 3 rfl (by simp) ?_)
   refine j_nf [_,_] rfl (j_run it 1 rfl (by simp) ?_)
   refine j_step rfl (x_call [0] rfl (S_nat_short) rfl ?_)
   rintro _ _ _ ⟨rfl,rfl,rfl⟩
   simp only [List.cons_append,List.nil_append]
   refine j_run it 1 rfl (by simp) ?_
   refine j_step rfl (x_call [2] rfl (S_nat_short) rfl ?_)
   rintro _ _ _ ⟨rfl,rfl,rfl⟩
   simp only [List.cons_append,List.nil_append]
   refine j_run it 2 rfl (by simp) ?_
   refine j_nf [_,_,_,_] rfl (j_run it 1 rfl (by simp) ?_)
   refine j_step rfl (x_len sl48 rfl ?_)
   refine j_run it 2 rfl (by simp) ?_
   refine j_nf [_,_,_] rfl (j_if rfl rfl (fun h2=>by exfalso;omega) (fun h2=>?_))
   refine j_nf [_,_,_,_] rfl (j_run it 2 rfl (by simp) ?_)
   refine j_step rfl (x_call [1,0] rfl (S_nat_Cmp) rfl ?_)
   rintro _ _ _ ⟨rfl,rfl,rfl⟩
   simp only [List.cons_append,List.nil_append]
   refine j_run it 2 rfl (by simp) ?_
   refine j_nf [_,_,_] rfl (j_if rfl rfl (fun h3=>by exfalso;omega) (fun h3=>?_))
   refine j_nf [_,_,_,_] rfl (j_run it 1 rfl (by simp) ?_)
   refine j_step rfl (x_len sl48 rfl ?_)
   refine j_run it 2 rfl (by simp) ?_
   refine j_nf [_,_,_] rfl (j_if rfl rfl (fun h4=>by exfalso;omega) (fun h4=>?_))
   refine j_nf [_,_] rfl (j_run it 2 rfl (by simp) ?_)
   refine j_step rfl (x_call [1,0] rfl (S_nat_long (k:=k) (t:=t) (by omega) hk hab ht ht0) rfl ?_)
   rintro _ _ _ ⟨lq,lr,p1,c1,p2,c2,rfl,rfl,rfl,hq,hr⟩
   simp only [List.nil_append,List.cons_append]
   refine j_range 0 rfl fun hrq=>?_
   refine j_range 1 rfl fun hrr=>?_
   have eq:=trim_eq (l:=lq) (fun x hx=>by have:=hrq x hx;simp only [InR] at this;omega)
   have er:=trim_eq (l:=lr) (fun x hx=>by have:=hrr x hx;simp only [InR] at this;omega)
   rw [hq,va,vb] at eq
   rw [hr,va,vb] at er
   refine j_run it 5 rfl (by simp) ?_
   refine j_nf [_,_] rfl (j_run it 1 rfl (by simp) ?_)
   refine j_step rfl (x_call [0] rfl (S_nat_Trim) rfl ?_)
   rintro _ _ _ ⟨pa1,ca1,rfl,rfl,rfl⟩
   simp only [List.cons_append,List.nil_append]
   refine j_run it 1 rfl (by simp) ?_
   refine j_step rfl (x_call [2] rfl (S_nat_Trim) rfl ?_)
   rintro _ _ _ ⟨pa2,ca2,rfl,rfl,rfl⟩
   simp only [List.cons_append,List.nil_append]
   refine j_run it 3 rfl (by simp) ?_
   refine j_nf [_] rfl ?_
   rw [eq,er]
   refine j_giv [1,0] rfl rfl rfl ⟨_,_,_,_,rfl,rfl,rfl⟩
set_option maxHeartbeats 1000000
theorem S_codewrightref01_Trim {pa : Option Addr} {n ca : Nat} {l : List Nat} : Ctr Try.prog 48 [.slice pa n ca] [] [slF U32 pa n ca l] (Sv U32 (trim l)):=by
 refine Ctr_of_j' (F:=F_codewrightref01_Trim) rfl fun C=>?_
 refine j_len 0 rfl fun hn hb hc=>?_
 subst hn
 have hb' : l.length * 4 ≤ 140737488355328:=hb
 have done : ∀ k,k ≤ l.length → trim l = l.take k → J F_codewrightref01_Trim C [.c [1,1,1]] [(0,.slice pa l.length ca),(3,.int .i64 k)] [] [slF U32 pa l.length ca l] (Gives C (Sv U32 (trim l))):=by
  intro k hk he
  have hlk : (l.take k).length = k:=by rw [List.length_take];omega
  refine j_nf [_,_] rfl (j_step rfl (x_lit0 sl48 fun b1=>?_))
  refine j_run it 2 rfl (by simp) ?_
  refine j_step rfl (x_slice_h 0 (k) rfl rfl rfl sl48 (by omega) (by omega) ?_)
  refine j_step rfl (x_app_sl 0 0 rfl rfl rfl rfl sl48 zo48e rfl (by first | exact GrOk.nil _ | assumption | exact .inr ⟨_,rfl,Nat.le_refl _,by omega,rfl⟩) (by omega) _ by48e (by omega) fun bo1 cap1 cs1 vss1 hg1 ht1=>?_)
  refine j_run it 1 rfl (by simp) ?_
  refine j_nf [_] rfl ?_
  simp only [Nat.zero_add] at hg1 ht1 ⊢
  refine j_pub 0 0 rfl rfl hg1 (by simpa using ht1) hlk.symm (by show _ * 4 ≤ _;omega) ?_
  refine j_giv [0] rfl rfl rfl ⟨_,_,by rw [he,hlk];rfl,by rw [he,hlk],rfl⟩
 refine j_nf [_,_] rfl (j_run it 1 rfl (by simp) ?_)
 refine j_nf [_,_] rfl (j_run it 1 rfl (by simp) ?_)
 refine j_step rfl (x_len sl48 rfl ?_)
 refine j_run it 1 rfl (by simp) ?_
 refine j_nf [_,_,_] rfl ?_
 refine j_loopN (X:=Nat) (fun k=>[(0,.slice pa l.length ca),(3,.int .i64 k)]) (fun _=>[]) (fun _=>[slF U32 pa l.length ca l]) (fun k=>k ≤ l.length ∧ trim (l.take k) = trim l) (fun k=>k) l.length [0] rfl ⟨Nat.le_refl _,by rw [List.take_length]⟩ (by repeat (first | exact Fr.sub_nil _ | refine Fr.sub_cons rfl ?_)) rfl rfl ?_
 intro k ⟨hk,ht⟩ ih
 by_cases hk0 : 0 < k
 ·obtain ⟨z,hz⟩ : ∃ z,l[k - 1]? = some z:=⟨_,List.getElem?_eq_getElem (show k - 1 < l.length by omega)⟩
  have side : ∀ y,l[k - 1]? = some y → y = z:=fun y hy=>by rw [hz] at hy;exact (Option.some.inj hy).symm
  refine j_nf [_,_,_,_,_,_] rfl (j_run it 3 rfl (by simp) ?_)
  refine j_split_dec (t:=8) rfl (fun h1=>?_) (fun h1=>by exfalso;omega)
  refine j_run it 3 rfl ⟨⟨by omega,by omega⟩,trivial,trivial,trivial⟩ ?_
  refine j_gstep rfl rfl (x_idx 0 ((k) - 1) rfl rfl rfl sl48 (by omega) (by omega) fun z1 hz1 b1 o1=>?_)
  refine j_gstep rfl rfl (x_ld_nat 0 rfl rfl ld78 fun ⟨r1,r2⟩=>?_)
  refine j_run it 2 rfl (by simp) ?_
  refine j_nf [_,_,_,_,_] rfl (j_if rfl rfl (fun h2=>?_) (fun h2=>?_))
  ·have e:=side z1 hz1
   have hz0 : z1 = 0:=by omega
   subst hz0
   refine j_nf [_,_,_,_,_] rfl (j_run it 3 rfl ⟨trivial,⟨by omega,by omega⟩,trivial,trivial⟩ ?_)
   refine j_nfn 2 [.lp [1,1,0,0,0],.blk 0,.c [1,1,1]] rfl ?_
   refine j_to [1] (by exact fcc rfl (fii rfl (by omega) (fzz _))) rfl rfl (ih (k - 1) (by omega) ⟨by omega,by rw [← trim_take_zero hz1];rw [show k - 1 + 1 = k by omega];exact ht⟩)
  ·refine j_nfn 1 [.c [1,1,1]] rfl ?_
   refine j_to [1] (by exact fra rfl) rfl rfl (done k hk (by rw [← ht];have:=trim_take_ne hz1 (by omega);rwa [show k - 1 + 1 = k by omega] at this))
 ·refine j_nf [_,_,_,_,_,_] rfl (j_run it 3 rfl (by simp) ?_)
  refine j_split_dec (t:=8) rfl (fun h1=>by exfalso;omega) (fun h1=>?_)
  refine j_run it 7 rfl (by simp) ?_
  refine j_nf [_,_,_,_,_] rfl ?_
  refine j_false rfl rfl ?_
  refine j_nfn 1 [.c [1,1,1]] rfl ?_
  refine j_to [0] (by exact fra rfl) rfl rfl (done k hk (by rw [← ht,show k = 0 by omega];rfl))
theorem val_two' (n : Nat) : val [n % 4294967296,n / 4294967296] = n:=by simp only [val];omega
theorem S_codewrightref01_Of {n : Nat} (hn : n < 18446744073709551616) : Ctr Try.prog 21 [.int .u64 n] [] [] (Sv U32 (limbs n)):=by
 refine Ctr_of_j' (F:=F_codewrightref01_Of) rfl fun C=>?_
 refine j_nf [_,_] rfl (j_run it 1 rfl (by simp) ?_)
 refine j_nf [_,_] rfl (j_run it 6 rfl ⟨⟨by omega,by omega⟩,⟨by omega,by omega,by omega,by omega⟩,trivial,⟨by omega,by omega⟩,⟨by omega,by omega⟩,trivial,trivial⟩ ?_)
 refine j_step rfl (x_lit sl48 zo48e rfl rfl rfl rfl (by decide) (by decide) rfl fun b1=>?_)
 refine j_pub_made (n:=2) (kd:=IntKind.u32) 4 [((n) % 4294967296),((n) / 4294967296)] 0 rfl rfl (by first | (simp [InR];done) | (simp only [InR,List.mem_cons,List.not_mem_nil,or_false,forall_eq_or_imp,forall_eq];omega)) (by decide) (by decide) ?_
 refine j_step rfl (x_call [0] rfl (S_codewrightref01_Trim) rfl ?_)
 rintro _ _ _ ⟨pa1,ca1,rfl,rfl,rfl⟩
 simp only [List.cons_append,List.nil_append]
 refine j_run it 1 rfl (by simp) ?_
 refine j_nf [_] rfl ?_
 rw [trim_eq (l:=[n % 4294967296,n / 4294967296]) (by simp;omega),val_two']
 refine j_giv [0] rfl rfl rfl ⟨_,_,rfl,rfl,rfl⟩
theorem S_codewrightref01_limb {pa : Option Addr} {n ca i : Nat} {l : List Nat} : Ctr Try.prog 46 [.slice pa n ca,.int .i64 i] [] [slF U32 pa n ca l] (Rv (.int .u64 (l.getD i 0 : Nat)) []):=by
 refine Ctr_of_j' (F:=F_codewrightref01_limb) rfl fun C=>?_
 refine j_len 0 rfl fun hn hb hc=>?_
 subst hn
 by_cases hi : i < l.length
 ·refine j_nf [_,_] rfl (j_run it 1 rfl (by simp) ?_)
  refine j_nf [_,_,_] rfl (j_run it 2 rfl (by simp) ?_)
  refine j_step rfl (x_len sl48 rfl ?_)
  refine j_run it 1 rfl (by simp) ?_
  refine j_nf [_,_] rfl (j_if rfl rfl (fun h1=>?_) (fun h1=>by exfalso;omega))
  refine j_nf [_,_,_] rfl (j_run it 2 rfl (by simp) ?_)
  refine j_step rfl (x_idx 0 (i) rfl rfl rfl sl48 rfl (by omega) fun z1 hz1 b1 o1=>?_)
  refine j_step rfl (x_ld_nat 0 rfl rfl ld78 fun ⟨r1,r2⟩=>?_)
  refine j_run it 2 rfl ⟨trivial,⟨by omega,by omega⟩,trivial⟩ ?_
  refine j_nf [_,_] rfl ?_
  have e : l.getD i 0 = z1:=by rw [List.getD,hz1];rfl
  refine j_giv [] rfl rfl rfl ⟨by rw [e];rfl,rfl,rfl⟩
 ·refine j_nf [_,_] rfl (j_run it 1 rfl (by simp) ?_)
  refine j_nf [_,_,_] rfl (j_run it 2 rfl (by simp) ?_)
  refine j_step rfl (x_len sl48 rfl ?_)
  refine j_run it 1 rfl (by simp) ?_
  refine j_nf [_,_] rfl (j_if rfl rfl (fun h1=>by exfalso;omega) (fun h1=>?_))
  refine j_nf [_,_] rfl (j_run it 1 rfl (by simp) ?_)
  refine j_nf [_] rfl ?_
  have e : l.getD i 0 = 0:=by rw [List.getD,List.getElem?_eq_none (by omega)];rfl
  refine j_giv [] rfl rfl rfl ⟨by rw [e];rfl,rfl,rfl⟩
theorem S_codewrightref01_Zero {pa : Option Addr} {n ca : Nat} {l : List Nat} : Ctr Try.prog 38 [.slice pa n ca] [] [slF U32 pa n ca l] (Rv (.bool (decide (((trim l).length : Int) = 0))) []):=by
 refine Ctr_of_j' (F:=F_codewrightref01_Zero) rfl fun C=>?_
 refine j_nf [_,_] rfl (j_run it 1 rfl (by simp) ?_)
 refine j_nf [_,_] rfl (j_run it 1 rfl (by simp) ?_)
 refine j_step rfl (x_call [0] rfl (S_codewrightref01_Trim) rfl ?_)
 rintro _ _ _ ⟨pa1,ca1,rfl,rfl,rfl⟩
 simp only [List.cons_append,List.nil_append]
 refine j_step rfl (x_len sl48 rfl ?_)
 refine j_run it 2 rfl (by simp) ?_
 refine j_nf [_] rfl ?_
 refine j_giv [] rfl rfl rfl ⟨rfl,rfl,rfl⟩
theorem take_eq_step {a b : List Nat} {k : Nat} (h : a.take k = b.take k) (ha : k < a.length) (hb : k < b.length) (e : a.getD k default = b.getD k default) : a.take (k + 1) = b.take (k + 1):=by
 rw [List.take_add_one,List.take_add_one,h,List.getElem?_eq_getElem ha,List.getElem?_eq_getElem hb]
 rw [List.getD,List.getD,List.getElem?_eq_getElem ha,List.getElem?_eq_getElem hb] at e
 simp only [Option.getD_some] at e
 rw [e]
theorem S_codewrightref01_Same {pa pb : Option Addr} {n m ca cb : Nat} {a b : List Nat} : Ctr Try.prog 73 [.slice pa n ca,.slice pb m cb] [] [slF U32 pa n ca a,slF U32 pb m cb b] (Rv (.bool (decide (a = b))) []):=by
 refine Ctr_of_j' (F:=F_codewrightref01_Same) rfl fun C=>?_
 refine j_len 0 rfl fun hn hba _=>?_
 refine j_len 1 rfl fun hm _ _=>?_
 subst hn;subst hm
 have hba' : a.length * 4 ≤ 140737488355328:=hba
 by_cases hl : a.length = b.length
 ·refine j_nf [_,_] rfl ?_
  refine j_run it 1 rfl (by simp) ?_
  refine j_nf [_,_,_] rfl ?_
  refine j_run it 1 rfl (by simp) ?_
  refine j_step rfl (x_len sl48 rfl ?_)
  refine j_run it 1 rfl (by simp) ?_
  refine j_step rfl (x_len sl48 rfl ?_)
  refine j_run it 1 rfl (by simp) ?_
  refine j_nf [_,_] rfl ?_
  refine j_ifn rfl rfl (fun h1=>by exfalso;omega) (fun h1=>?_)
  refine j_nf [_,_,_] rfl ?_
  refine j_run it 1 rfl (by simp) ?_
  refine j_nf [_,_,_] rfl ?_
  refine j_loopN (X:=Nat) (fun k=>[(0,.slice pa a.length ca),(1,.slice pb b.length cb),(5,.int .i64 k)]) (fun _=>[]) (fun _=>[slF U32 pa a.length ca a,slF U32 pb b.length cb b]) (fun k=>k ≤ a.length ∧ a.take k = b.take k) (fun k=>a.length - k) 0 [0,1] rfl ⟨Nat.zero_le _,by simp⟩ (by repeat (first | exact Fr.sub_nil _ | refine Fr.sub_cons rfl ?_)) rfl rfl ?_
  intro k ⟨hk,ht⟩ ih
  by_cases hkl : k < a.length
  ·refine j_nf [_,_,_,_,_,_] rfl ?_
   refine j_run it 2 rfl (by simp) ?_
   refine j_step rfl (x_len sl48 rfl ?_)
   refine j_run it 1 rfl (by simp) ?_
   refine j_nf [_,_,_,_,_] rfl ?_
   refine j_if rfl rfl (fun h2=>?_) (fun h2=>by exfalso;omega)
   refine j_nf [_,_,_,_,_,_,_] rfl ?_
   (apply j_drawK it mx 9;(· rfl);(· rfl))
   (apply lxk_run 2;(· rfl);(· simp))
   (apply lxk_pt;(· rfl);(· exact d_x fun _=>x_idx 0 (k) rfl rfl rfl sl48 rfl (by omega) fun z1 hz1 b1 o1=>(dk_ptD default hz1 0 rfl));intro b1 o1)
   (apply lxk_eq;(· rfl);(· exact d_x fun _=>x_ld_nat 0 rfl rfl ld78 fun ⟨r1,r2⟩=>dk_eq))
   (apply lxk_run 2;(· rfl);(· simp))
   (apply lxk_pt;(· rfl);(· exact d_x fun _=>x_idx 1 (k) rfl rfl rfl sl48 rfl (by omega) fun z1 hz1 b2 o2=>(dk_ptD default hz1 0 rfl));intro b2 o2)
   (apply lxk_eq;(· rfl);(· exact d_x fun _=>x_ld_nat 0 rfl rfl ld78 fun ⟨r1,r2⟩=>dk_eq))
   (apply lxk_run 1;(· rfl);(· simp))
   refine lxk_end rfl ?_
   simp only [List.map_cons,List.map_nil,List.cons_append,List.nil_append]
   refine j_nf [_,_,_,_,_,_] rfl ?_
   refine j_ifn rfl rfl (fun h3=>?_) (fun h3=>?_)
   ·refine j_nf [_,_,_,_,_,_,_] rfl ?_
    refine j_run it 1 rfl (by simp) ?_
    refine j_nf [_,_,_,_,_,_] rfl ?_
    refine j_giv [] rfl rfl rfl ⟨by
     rw [decide_eq_false (fun e=>by subst e;omega)];rfl,rfl,rfl⟩
   ·refine j_nf [_,_,_,_] rfl ?_
    refine j_run it 3 rfl ⟨trivial,⟨by omega,by omega⟩,trivial,trivial⟩ ?_
    refine j_nfn 1 [.lp (pL 116),.blk 0,.c [1,1,1]] rfl ?_
    refine j_to [2,3] (by exact fra rfl) rfl rfl (ih (k + 1) (by omega) ⟨by omega,take_eq_step ht hkl (by omega) (by omega)⟩)
  ·refine j_nf [_,_,_,_,_,_] rfl ?_
   refine j_run it 2 rfl (by simp) ?_
   refine j_step rfl (x_len sl48 rfl ?_)
   refine j_run it 1 rfl (by simp) ?_
   refine j_nf [_,_,_,_,_] rfl ?_
   refine j_if rfl rfl (fun h2=>by exfalso;omega) (fun h2=>?_)
   refine j_nf [_,_] rfl ?_
   refine j_run it 1 rfl (by simp) ?_
   refine j_nf [_] rfl ?_
   have e : a = b:=by
    have e1 : k = a.length:=by omega
    rw [e1,List.take_length,hl,List.take_length] at ht
    exact ht
   refine j_giv [] rfl rfl rfl ⟨by rw [decide_eq_true e];rfl,rfl,rfl⟩
 ·refine j_nf [_,_] rfl ?_
  refine j_run it 1 rfl (by simp) ?_
  refine j_nf [_,_,_] rfl ?_
  refine j_run it 1 rfl (by simp) ?_
  refine j_step rfl (x_len sl48 rfl ?_)
  refine j_run it 1 rfl (by simp) ?_
  refine j_step rfl (x_len sl48 rfl ?_)
  refine j_run it 1 rfl (by simp) ?_
  refine j_nf [_,_] rfl ?_
  refine j_ifn rfl rfl (fun h1=>?_) (fun h1=>by exfalso;omega)
  refine j_nf [_,_,_] rfl ?_
  refine j_run it 1 rfl (by simp) ?_
  refine j_nf [_,_] rfl ?_
  refine j_giv [] rfl rfl rfl ⟨by rw [decide_eq_false (fun e=>hl (by rw [e]))];rfl,rfl,rfl⟩
def shapeOf (n : Nat) : Int:=if n < 1 ∨ 65 < n then 3 else 0
theorem S_macwilliams_shape {n : Nat} : Ctr Try.prog 80 [.int .i64 n] [] [] (Rv (.int .i64 (shapeOf n)) []):=by
 refine Ctr_of_j' (F:=F_macwilliams_shape) rfl fun C=>?_
 by_cases h1 : n < 1
 ·refine j_nf [_,_] rfl (j_run it 1 rfl (by simp) ?_)
  refine j_nf [_,_,_] rfl (j_run it 3 rfl (by simp) ?_)
  refine j_split_dec (t:=5) rfl (fun h2=>?_) (fun h2=>by exfalso;omega)
  refine j_run it 3 rfl (by simp) ?_
  refine j_nf [_,_] rfl ?_
  refine j_true rfl rfl ?_
  refine j_nf [_,_,_] rfl (j_run it 1 rfl (by simp) ?_)
  refine j_nf [_,_] rfl ?_
  refine j_giv [] rfl rfl rfl ⟨by rw [shapeOf,if_pos (.inl h1)];rfl,rfl,rfl⟩
 by_cases h2 : 65 < n
 ·refine j_nf [_,_] rfl (j_run it 1 rfl (by simp) ?_)
  refine j_nf [_,_,_] rfl (j_run it 3 rfl (by simp) ?_)
  refine j_split_dec (t:=5) rfl (fun h3=>by exfalso;omega) (fun h3=>?_)
  refine j_run it 3 rfl (by simp) ?_
  refine j_nf [_,_] rfl (j_if rfl rfl (fun h4=>?_) (fun h4=>by exfalso;omega))
  refine j_nf [_,_,_] rfl (j_run it 1 rfl (by simp) ?_)
  refine j_nf [_,_] rfl ?_
  refine j_giv [] rfl rfl rfl ⟨by rw [shapeOf,if_pos (.inr h2)];rfl,rfl,rfl⟩
 ·refine j_nf [_,_] rfl (j_run it 1 rfl (by simp) ?_)
  refine j_nf [_,_,_] rfl (j_run it 3 rfl (by simp) ?_)
  refine j_split_dec (t:=5) rfl (fun h3=>by exfalso;omega) (fun h3=>?_)
  refine j_run it 3 rfl (by simp) ?_
  refine j_nf [_,_] rfl (j_if rfl rfl (fun h4=>by exfalso;omega) (fun h4=>?_))
  refine j_nf [_,_] rfl (j_run it 1 rfl (by simp) ?_)
  refine j_nf [_] rfl ?_
  refine j_giv [] rfl rfl rfl ⟨by rw [shapeOf,if_neg (by omega)];rfl,rfl,rfl⟩
theorem S_codewrightref24_Shape {n : Nat} : Ctr Try.prog 40 [.int .i64 n] [] [] (Rv (.int .i64 (shapeOf n)) []):=by
 refine Ctr_of_j' (F:=F_codewrightref24_Shape) rfl fun C=>?_
 by_cases h1 : n < 1
 ·refine j_nf [_,_] rfl (j_run it 1 rfl (by simp) ?_)
  refine j_nf [_,_,_] rfl (j_run it 3 rfl (by simp) ?_)
  refine j_split_dec (t:=5) rfl (fun h2=>?_) (fun h2=>by exfalso;omega)
  refine j_run it 3 rfl (by simp) ?_
  refine j_nf [_,_] rfl ?_
  refine j_true rfl rfl ?_
  refine j_nf [_,_,_] rfl (j_run it 1 rfl (by simp) ?_)
  refine j_nf [_,_] rfl ?_
  refine j_giv [] rfl rfl rfl ⟨by rw [shapeOf,if_pos (.inl h1)];rfl,rfl,rfl⟩
 by_cases h2 : 65 < n
 ·refine j_nf [_,_] rfl (j_run it 1 rfl (by simp) ?_)
  refine j_nf [_,_,_] rfl (j_run it 3 rfl (by simp) ?_)
  refine j_split_dec (t:=5) rfl (fun h3=>by exfalso;omega) (fun h3=>?_)
  refine j_run it 3 rfl (by simp) ?_
  refine j_nf [_,_] rfl (j_if rfl rfl (fun h4=>?_) (fun h4=>by exfalso;omega))
  refine j_nf [_,_,_] rfl (j_run it 1 rfl (by simp) ?_)
  refine j_nf [_,_] rfl ?_
  refine j_giv [] rfl rfl rfl ⟨by rw [shapeOf,if_pos (.inr h2)];rfl,rfl,rfl⟩
 ·refine j_nf [_,_] rfl (j_run it 1 rfl (by simp) ?_)
  refine j_nf [_,_,_] rfl (j_run it 3 rfl (by simp) ?_)
  refine j_split_dec (t:=5) rfl (fun h3=>by exfalso;omega) (fun h3=>?_)
  refine j_run it 3 rfl (by simp) ?_
  refine j_nf [_,_] rfl (j_if rfl rfl (fun h4=>by exfalso;omega) (fun h4=>?_))
  refine j_nf [_,_] rfl (j_run it 1 rfl (by simp) ?_)
  refine j_nf [_] rfl ?_
  refine j_giv [] rfl rfl rfl ⟨by rw [shapeOf,if_neg (by omega)];rfl,rfl,rfl⟩
theorem pow_len {a n k : Nat} (h : a < 4294967296) (hn : n ≤ k) : (limbs (a ^ n)).length ≤ k + 1:=by
 refine limbs_length_le ?_
 have h1 : a ^ n ≤ 4294967296 ^ n:=Nat.pow_le_pow_left (by omega) n
 have h2 : 4294967296 ^ n ≤ 4294967296 ^ k:=Nat.pow_le_pow_right (by omega) hn
 have h3 : 0 < 4294967296 ^ k:=Nat.pow_pos (by omega)
 rw [Nat.pow_succ];omega
theorem S_nat_Pow {pa : Option Addr} {m ca n : Nat} {l : List Nat} (hl : val l < 4294967296) (hn : n ≤ 4000) : Ctr Try.prog 93 [.slice pa m ca,.int .i64 n] [] [slF U32 pa m ca l] (S2 U32 (limbs (val l ^ n)) 0):=by
 refine Ctr_of_j' (F:=F_nat_Pow) rfl fun C=>?_
 refine j_len 0 rfl fun hm _ _=>?_
 subst hm
 refine j_range 0 rfl fun hr=>?_
 have hrr : ∀ x ∈ l,x < 4294967296:=fun x hx=>by have:=hr x hx;simp only [InR] at this;omega
 have ht : trim l = limbs (val l):=trim_eq hrr
 have hbl:=bitsL_small ht hl
 have h32 : blen (val l) ≤ 32:=blen_le (by simpa using hl)
 rw [← hbl] at h32
 have hmul : ((bitsL l : Int) - 1) * n ≤ 124000:=by
  have:=Int.mul_le_mul (show (bitsL l : Int) - 1 ≤ 31 by omega) (show (n : Int) ≤ 4000 by omega) (by omega) (by decide)
  omega
 have hmul0 : 0 < bitsL l → 0 ≤ ((bitsL l : Int) - 1) * n:=fun h=>Int.mul_nonneg (by omega) (by omega)
 by_cases h0 : n = 0
 ·subst h0
  have hone : (limbs (val l ^ 0)) = [1]:=by rw [Nat.pow_zero,limbs_one]
  refine j_nf [_,_] rfl (j_run it 2 rfl (by simp) ?_)
  refine j_nf [_,_,_] rfl (j_run it 2 rfl (by simp) ?_)
  refine j_nf [_,_] rfl (j_if rfl rfl (fun h1=>by exfalso;omega) (fun h1=>?_))
  refine j_nf [_,_] rfl (j_run it 1 rfl (by simp) ?_)
  refine j_step rfl (x_call [0] rfl (S_nat_Bits) rfl ?_)
  rintro _ _ _ ⟨rfl,rfl,rfl⟩
  simp only [List.cons_append,List.nil_append]
  refine j_run it 1 rfl (by simp) ?_
  refine j_nf [_,_,_,_] rfl (j_run it 7 rfl (by simp) ?_)
  refine j_nf [_,_,_] rfl ?_
  refine j_true rfl rfl ?_
  refine j_nf [_,_,_,_] rfl (j_step rfl (x_lit sl48 zo48e rfl rfl rfl rfl (by decide) (by decide) rfl fun b1=>?_))
  refine j_run it 2 rfl (by simp) ?_
  refine j_nf [_,_,_] rfl ?_
  refine j_pub_made (n:=1) (kd:=.u32) 4 [1] 0 rfl rfl (by simp [InR]) (by decide) (by decide) ?_
  refine j_giv [0] rfl rfl rfl ⟨_,_,by rw [hone];rfl,by rw [hone];rfl,rfl⟩
 by_cases h1 : val l = 1
 ·have hone : (limbs (val l ^ n)) = [1]:=by rw [h1,Nat.one_pow,limbs_one]
  have hb1 : bitsL l = 1:=by rw [hbl];exact blen_eq_one.2 h1
  refine j_nf [_,_] rfl (j_run it 2 rfl (by simp) ?_)
  refine j_nf [_,_,_] rfl (j_run it 2 rfl (by simp) ?_)
  refine j_nf [_,_] rfl (j_if rfl rfl (fun h2=>by exfalso;omega) (fun h2=>?_))
  refine j_nf [_,_] rfl (j_run it 1 rfl (by simp) ?_)
  refine j_step rfl (x_call [0] rfl (S_nat_Bits) rfl ?_)
  rintro _ _ _ ⟨rfl,rfl,rfl⟩
  simp only [List.cons_append,List.nil_append]
  refine j_run it 1 rfl (by simp) ?_
  refine j_nf [_,_,_,_] rfl (j_run it 3 rfl (by simp) ?_)
  refine j_split_dec (t:=16) rfl (fun h3=>by exfalso;omega) (fun h3=>?_)
  refine j_run it 4 rfl (by simp) ?_
  refine j_nf [_,_,_] rfl (j_if rfl rfl (fun h4=>?_) (fun h4=>by exfalso;omega))
  refine j_nf [_,_,_,_] rfl (j_step rfl (x_lit sl48 zo48e rfl rfl rfl rfl (by decide) (by decide) rfl fun b1=>?_))
  refine j_run it 2 rfl (by simp) ?_
  refine j_nf [_,_,_] rfl ?_
  refine j_pub_made (n:=1) (kd:=.u32) 4 [1] 0 rfl rfl (by simp [InR]) (by decide) (by decide) ?_
  refine j_giv [0] rfl rfl rfl ⟨_,_,by rw [hone];rfl,by rw [hone];rfl,rfl⟩
 have hb1 : bitsL l ≠ 1:=by rw [hbl];exact fun h=>h1 (blen_eq_one.1 h)
 by_cases h2 : val l = 0
 ·have hz : (limbs (val l ^ n)) = []:=by rw [h2,Nat.zero_pow (by omega),limbs_zero]
  have hb0 : bitsL l = 0:=by rw [hbl];exact blen_eq_zero.2 h2
  refine j_nf [_,_] rfl (j_run it 2 rfl (by simp) ?_)
  refine j_nf [_,_,_] rfl (j_run it 2 rfl (by simp) ?_)
  refine j_nf [_,_] rfl (j_if rfl rfl (fun h3=>by exfalso;omega) (fun h3=>?_))
  refine j_nf [_,_] rfl (j_run it 1 rfl (by simp) ?_)
  refine j_step rfl (x_call [0] rfl (S_nat_Bits) rfl ?_)
  rintro _ _ _ ⟨rfl,rfl,rfl⟩
  simp only [List.cons_append,List.nil_append]
  refine j_run it 1 rfl (by simp) ?_
  refine j_nf [_,_,_,_] rfl (j_run it 3 rfl (by simp) ?_)
  refine j_split_dec (t:=16) rfl (fun h4=>by exfalso;omega) (fun h4=>?_)
  refine j_run it 4 rfl (by simp) ?_
  refine j_nf [_,_,_] rfl (j_if rfl rfl (fun h5=>by exfalso;omega) (fun h5=>?_))
  refine j_nf [_,_,_,_] rfl (j_run it 3 rfl (by simp) ?_)
  refine j_nf [_,_,_] rfl (j_if rfl rfl (fun h6=>?_) (fun h6=>by exfalso;omega))
  refine j_nf [_,_,_,_] rfl (j_run it 2 rfl (by simp) ?_)
  refine j_nf [_,_,_] rfl ?_
  refine j_add (slF U32 none 0 0 []) (fun w A _=>slF_nil _ _ _ _ _) ?_
  refine j_giv [0] rfl rfl rfl ⟨_,_,by rw [hz];rfl,by rw [hz];rfl,rfl⟩
 have hb0 : bitsL l ≠ 0:=by rw [hbl];exact fun h=>h2 (blen_eq_zero.1 h)
 have hm0:=hmul0 (by omega)
 have hW:=pow_len hl (show n ≤ 4000 from hn)
 refine j_nf [_,_] rfl (j_run it 2 rfl (by simp) ?_)
 refine j_nf [_,_,_] rfl (j_run it 2 rfl (by simp) ?_)
 refine j_nf [_,_] rfl (j_if rfl rfl (fun h3=>by exfalso;omega) (fun h3=>?_))
 refine j_nf [_,_] rfl (j_run it 1 rfl (by simp) ?_)
 refine j_step rfl (x_call [0] rfl (S_nat_Bits) rfl ?_)
 rintro _ _ _ ⟨rfl,rfl,rfl⟩
 simp only [List.cons_append,List.nil_append]
 refine j_run it 1 rfl (by simp) ?_
 refine j_nf [_,_,_,_] rfl (j_run it 3 rfl (by simp) ?_)
 refine j_split_dec (t:=16) rfl (fun h4=>by exfalso;omega) (fun h4=>?_)
 refine j_run it 4 rfl (by simp) ?_
 refine j_nf [_,_,_] rfl (j_if rfl rfl (fun h5=>by exfalso;omega) (fun h5=>?_))
 refine j_nf [_,_,_,_] rfl (j_run it 3 rfl (by simp) ?_)
 refine j_nf [_,_,_] rfl (j_if rfl rfl (fun h6=>by exfalso;omega) (fun h6=>?_))
 refine j_nf [_,_,_,_] rfl (j_run it 3 rfl (by simp) ?_)
 refine j_split_dec (t:=27) rfl (fun h7=>by exfalso;omega) (fun h7=>?_)
 refine j_run it 7 rfl ⟨trivial,trivial,trivial,⟨by omega,by omega⟩,trivial,⟨by omega,by omega⟩,trivial,trivial⟩ ?_
 refine j_nf [_,_,_] rfl (j_if rfl rfl (fun h8=>by exfalso;omega) (fun h8=>?_))
 refine j_nf [_,_] rfl (j_step rfl (x_lit sl48 zo48e rfl rfl rfl rfl (by decide) (by decide) rfl fun b1=>?_))
 refine j_run it 1 rfl (by simp) ?_
 refine j_step rfl (x_call [0] rfl (S_nat_short) rfl ?_)
 rintro _ _ _ ⟨rfl,rfl,rfl⟩
 simp only [List.cons_append,List.nil_append]
 refine j_run it 2 rfl (by simp) ?_
 refine j_nf [_,_,_] rfl ?_
 refine j_pub_made (n:=1) (kd:=.u32) 4 [1] 0 rfl rfl (by simp [InR]) (by decide) (by decide) ?_
 rw [ht]
 have e1 : limbs 1 = [1]:=limbs_one
 refine j_loopN (X:=Nat × Nat × Nat × (Option Addr × Nat) × (Option Addr × Nat)) (fun x=>[(1,.int .i64 x.1),(7,.slice x.2.2.2.1.1 (limbs x.2.1).length x.2.2.2.1.2),(8,.slice x.2.2.2.2.1 (limbs x.2.2.1).length x.2.2.2.2.2)])
  (fun _=>[]) (fun x=>[slF U32 x.2.2.2.1.1 (limbs x.2.1).length x.2.2.2.1.2 (limbs x.2.1),slF U32 x.2.2.2.2.1 (limbs x.2.2.1).length x.2.2.2.2.2 (limbs x.2.2.1)])
  (fun x=>1 ≤ x.1 ∧ x.1 ≤ 4000 ∧ 1 ≤ x.2.1 ∧ 1 ≤ x.2.2.1 ∧ x.2.1 * x.2.2.1 ^ x.1 = val l ^ n) (fun x=>x.1) (n,1,val l,(some ⟨b1,0,none⟩,1),(pa,(limbs (val l)).length)) [0,1] rfl
  ⟨by simp only;omega,hn,Nat.le_refl _,by simp only;omega,by simp⟩ (by simp only [e1];repeat (first | exact Fr.sub_nil _ | refine Fr.sub_cons rfl ?_)) rfl (by simp only [e1];rfl) ?_
 rintro ⟨k,o,s,⟨po,co⟩,⟨ps,cs⟩⟩ ⟨hk1,hk2,ho,hs,hv⟩ ih
 simp only at hk1 hk2 ho hs hv ih ⊢
 obtain ⟨hoW,hsW,hosW⟩:=pow_bounds hv ho hs hk1
 have lo:=limbs_mono hW hoW
 have ls:=limbs_mono hW hsW
 have los:=limbs_mono hW hosW
 have lx : (limbs (val (limbs o) * val (limbs s))).length ≤ 4001:=by rw [val_limbs,val_limbs];exact los
 have hss : 1 ≤ s * s:=Nat.mul_pos hs hs
 by_cases hodd : k % 2 = 1
 ·by_cases hk : k = 1
  ·have hend : o * s = val l ^ n:=by rw [← hv,hk,Nat.pow_one]
   refine j_nf [_,_,_,_,_,_,_] rfl (j_run it 1 rfl (by simp) ?_)
   refine j_step rfl (x_and_one (k) rfl rfl (by first | rfl | omega) (by omega) ?_)
   refine j_run it 1 rfl (by simp) ?_
   refine j_nf [_,_,_,_,_,_] rfl (j_if rfl rfl (fun h9=>?_) (fun h9=>by exfalso;omega))
   refine j_nf [_,_,_,_,_,_] rfl (j_run it 2 rfl (by simp) ?_)
   refine j_step rfl (x_call [0,1] rfl (S_nat_times (by omega) (by omega)) rfl ?_)
   rintro _ _ _ ⟨pa1,ca1,rfl,rfl,rfl⟩
   simp only [List.cons_append,List.nil_append]
   refine j_run it 1 rfl (by simp) ?_
   refine j_nf [_,_,_,_,_,_] rfl (j_run it 3 rfl (by simp) ?_)
   refine j_nf [_,_,_,_,_,_,_] rfl (j_run it 2 rfl (by simp) ?_)
   refine j_nf [_,_,_,_,_,_] rfl (j_if rfl rfl (fun h10=>?_) (fun h10=>by exfalso;omega))
   refine j_nf [_,_,_] rfl (j_run it 1 rfl (by simp) ?_)
   refine j_step rfl (x_len sl48 rfl ?_)
   refine j_run it 1 rfl (by simp) ?_
   refine j_nf [_,_] rfl (j_if rfl rfl (fun h11=>by exfalso;omega) (fun h11=>?_))
   refine j_nf [_,_] rfl (j_run it 1 rfl (by simp) ?_)
   refine j_step rfl (x_call [0] rfl (S_nat_Trim) rfl ?_)
   rintro _ _ _ ⟨pa2,ca2,rfl,rfl,rfl⟩
   simp only [List.cons_append,List.nil_append]
   refine j_run it 2 rfl (by simp) ?_
   refine j_nf [_] rfl ?_
   simp only [val_limbs,trim_limbs,hend]
   refine j_giv [0] rfl rfl rfl ⟨_,_,rfl,rfl,rfl⟩
  ·refine j_nf [_,_,_,_,_,_,_] rfl (j_run it 1 rfl (by simp) ?_)
   refine j_step rfl (x_and_one (k) rfl rfl (by first | rfl | omega) (by omega) ?_)
   refine j_run it 1 rfl (by simp) ?_
   refine j_nf [_,_,_,_,_,_] rfl (j_if rfl rfl (fun h9=>?_) (fun h9=>by exfalso;omega))
   refine j_nf [_,_,_,_,_,_] rfl (j_run it 2 rfl (by simp) ?_)
   refine j_step rfl (x_call [0,1] rfl (S_nat_times (by omega) (by omega)) rfl ?_)
   rintro _ _ _ ⟨pa1,ca1,rfl,rfl,rfl⟩
   simp only [List.cons_append,List.nil_append]
   refine j_run it 1 rfl (by simp) ?_
   refine j_nf [_,_,_,_,_,_] rfl (j_run it 3 rfl (by simp) ?_)
   refine j_nf [_,_,_,_,_,_,_] rfl (j_run it 2 rfl (by simp) ?_)
   refine j_nf [_,_,_,_,_,_] rfl (j_if rfl rfl (fun h10=>by exfalso;omega) (fun h10=>?_))
   refine j_nf [_,_,_,_,_] rfl (j_run it 2 rfl (by simp) ?_)
   refine j_step rfl (x_call [2,2] rfl (S_nat_times (by omega) (by omega)) rfl ?_)
   rintro _ _ _ ⟨pa2,ca2,rfl,rfl,rfl⟩
   simp only [List.cons_append,List.nil_append]
   refine j_run it 1 rfl (by simp) ?_
   refine j_nfn 2 [.lp (pL 504),.blk 1,.c (pL 127)] rfl ?_
   simp only [val_limbs]
   refine j_to [1,0] (by exact fra rfl) rfl rfl (ih (k / 2,o * s,s * s,(pa1,ca1),(pa2,ca2)) (by simp only;omega) ⟨by simp only;omega,by simp only;omega,Nat.mul_pos ho hs,hss,pow_odd hv hodd⟩)
 ·refine j_nf [_,_,_,_,_,_,_] rfl (j_run it 1 rfl (by simp) ?_)
  refine j_step rfl (x_and_one (k) rfl rfl (by first | rfl | omega) (by omega) ?_)
  refine j_run it 1 rfl (by simp) ?_
  refine j_nf [_,_,_,_,_,_] rfl (j_if rfl rfl (fun h9=>by exfalso;omega) (fun h9=>?_))
  refine j_nf [_,_,_,_,_,_] rfl (j_run it 3 rfl (by simp) ?_)
  refine j_nf [_,_,_,_,_,_,_] rfl (j_run it 2 rfl (by simp) ?_)
  refine j_nf [_,_,_,_,_,_] rfl (j_if rfl rfl (fun h10=>by exfalso;omega) (fun h10=>?_))
  refine j_nf [_,_,_,_,_] rfl (j_run it 2 rfl (by simp) ?_)
  refine j_step rfl (x_call [1,1] rfl (S_nat_times (by omega) (by omega)) rfl ?_)
  rintro _ _ _ ⟨pa1,ca1,rfl,rfl,rfl⟩
  simp only [List.cons_append,List.nil_append]
  refine j_run it 1 rfl (by simp) ?_
  refine j_nfn 2 [.lp (pL 504),.blk 1,.c (pL 127)] rfl ?_
  simp only [val_limbs]
  refine j_to [1,0] (by exact fra rfl) rfl rfl (ih (k / 2,o,s * s,(po,co),(pa1,ca1)) (by simp only;omega) ⟨by simp only;omega,by simp only;omega,ho,hss,pow_even hv (by omega)⟩)
theorem S_nat_Binomial {n k : Nat} (hn : n ≤ 4096) : Ctr Try.prog 22 [.int .i64 n,.int .i64 k] [] [] (S2 U32 (limbs (binom n k)) 0):=by
 refine Ctr_of_j' (F:=F_nat_Binomial) rfl fun C=>?_
 have e1 : limbs (binom n 0) = [1]:=by rw [binom_zero,limbs_one]
 by_cases hkn : n < k
 ·have hz : limbs (binom n k) = []:=by rw [binom_gt n k hkn,limbs_zero]
  refine j_nf [_,_] rfl (j_run it 2 rfl (by simp) ?_)
  refine j_nf [_,_,_] rfl (j_run it 6 rfl (by simp) ?_)
  refine j_nf [_,_] rfl (j_if rfl rfl (fun h1=>by exfalso;omega) (fun h1=>?_))
  refine j_nf [_,_,_] rfl (j_run it 7 rfl (by simp) ?_)
  refine j_nf [_,_] rfl (j_if rfl rfl (fun h2=>?_) (fun h2=>by exfalso;omega))
  refine j_nf [_,_,_] rfl (j_run it 2 rfl (by simp) ?_)
  refine j_nf [_,_] rfl ?_
  refine j_add (slF U32 none 0 0 []) (fun w A _=>slF_nil _ _ _ _ _) ?_
  refine j_giv [0] rfl rfl rfl ⟨_,_,by rw [hz];rfl,by rw [hz];rfl,rfl⟩
 have hk : k ≤ n:=by omega
 refine j_nf [_,_] rfl (j_run it 2 rfl (by simp) ?_)
 refine j_nf [_,_,_] rfl (j_run it 6 rfl (by simp) ?_)
 refine j_nf [_,_] rfl (j_if rfl rfl (fun h1=>by exfalso;omega) (fun h1=>?_))
 refine j_nf [_,_,_] rfl (j_run it 7 rfl (by simp) ?_)
 refine j_nf [_,_] rfl (j_if rfl rfl (fun h2=>by exfalso;omega) (fun h2=>?_))
 refine j_nf [_,_] rfl (j_step rfl (x_lit sl48 zo48e rfl rfl rfl rfl (by decide) (by decide) rfl fun b1=>?_))
 refine j_run it 1 rfl (by simp) ?_
 refine j_nf [_,_,_] rfl ?_
 refine j_pub_made (n:=1) (kd:=.u32) 4 [1] 0 rfl rfl (by simp [InR]) (by decide) (by decide) ?_
 obtain ⟨M,hM,hMk,hMb⟩ : ∃ M : Nat,(if ((n : Int) - k) < k then ((n : Int) - k) else (k : Int)) = M ∧ M ≤ n ∧ binom n M = binom n k:=by
  refine ⟨if n - k < k then n - k else k,?_,?_,binom_min hk⟩
  ·split <;> split <;> omega
  ·split <;> omega
 refine j_run it 4 rfl ⟨⟨by omega,by omega⟩,trivial,trivial,trivial,trivial⟩ ?_
 refine j_step rfl (x_min rfl rfl ?_)
 refine j_run it 1 rfl (by simp) ?_
 refine j_nf [_,_,_] rfl ?_
 refine j_loopN (X:=Nat × Option Addr × Nat) (fun x=>[(0,.int .i64 n),(6,.slice x.2.1 (limbs (binom n x.1)).length x.2.2),(26,.int .i64 M),(27,.int .i64 x.1)])
  (fun _=>[]) (fun x=>[slF U32 x.2.1 (limbs (binom n x.1)).length x.2.2 (limbs (binom n x.1))])
  (fun x=>x.1 ≤ M) (fun x=>M - x.1) (0,some ⟨b1,0,none⟩,1) [0] rfl (Nat.zero_le _) (by simp only [e1];repeat (first | exact Fr.sub_nil _ | refine Fr.sub_cons rfl ?_ | refine Fr.sub_consI rfl (by first | omega | exact hM) ?_)) rfl (by simp only [e1];rfl) ?_
 rintro ⟨i,pa,ca⟩ hi ih
 simp only at hi ih ⊢
 have hlen:=binom_len hn i
 by_cases hiM : i < M
 ·refine j_nf [_,_,_,_,_] rfl (j_run it 1 rfl (by simp) ?_)
  refine j_nf [_,_,_,_,_] rfl (j_if rfl rfl (fun h3=>?_) (fun h3=>by exfalso;omega))
  refine j_nf [_,_,_,_,_,_,_] rfl (j_run it 2 rfl (by simp) ?_)
  refine j_nf [_,_,_,_,_,_] rfl (j_run it 5 rfl ⟨⟨by omega,by omega⟩,⟨by omega,by omega⟩,trivial,trivial,trivial,trivial⟩ ?_)
  refine j_step rfl (x_lit sl48 zo48e rfl rfl rfl rfl (by decide) (by decide) rfl fun b2=>?_) --ok
  rw [show ((n : Int) - i) = ((n - i : Nat) : Int) by omega]
  refine j_pub_made (n:=1) (kd:=.u32) 4 [n - i] 0 rfl rfl (by simp [InR];omega) (by decide) (by decide) ?_
  have v1 : val (limbs (binom n i)) * val [n - i] = binom n i * (n - i):=by rw [val_limbs];simp [val]
  refine j_step rfl (x_call [1,0] rfl (S_nat_times (by omega) (by simp)) rfl ?_)
  rintro _ _ _ ⟨pa1,ca1,rfl,rfl,rfl⟩
  simp only [List.cons_append,List.nil_append]
  refine j_run it 3 rfl ⟨⟨by omega,by omega⟩,⟨by omega,by omega⟩,trivial,trivial⟩ ?_
  refine j_recast (t:=40) ((((i) + 1) : Nat) : Int) rfl (by omega) ?_
  refine j_step rfl (x_call [0] rfl (S_nat_digit (by omega) (by omega)) rfl ?_)
  rintro _ _ _ ⟨pa2,ca2,rfl,rfl,rfl⟩
  simp only [List.cons_append,List.nil_append]
  refine j_run it 4 rfl (by simp) ?_
  refine j_nf [_,_,_,_] rfl (j_run it 2 rfl ⟨trivial,⟨by omega,by omega⟩,trivial⟩ ?_)
  refine j_nfn 1 [.lp (pL 500),.blk 0,.c [1,1,1,1,1]] rfl ?_ --ok
  rw [v1,show ((i : Int) + 1) = ((i + 1 : Nat) : Int) by omega]
  skip
  simp only [val_limbs,binom_next (show i ≤ n by omega)]
  refine j_to [0] (by exact fra rfl) rfl rfl (ih (i + 1,pa2,ca2) (by simp only;omega) (by simp only;omega))
 ·refine j_nf [_,_,_,_,_] rfl (j_run it 1 rfl (by simp) ?_)
  refine j_nf [_,_,_,_,_] rfl (j_if rfl rfl (fun h3=>by exfalso;omega) (fun h3=>?_))
  refine j_nf [_,_] rfl (j_run it 1 rfl (by simp) ?_)
  refine j_step rfl (x_call [0] rfl (S_nat_Trim) rfl ?_)
  rintro _ _ _ ⟨pa1,ca1,rfl,rfl,rfl⟩
  simp only [List.cons_append,List.nil_append]
  refine j_run it 2 rfl (by simp) ?_
  refine j_nf [_] rfl ?_
  have e : i = M:=by omega
  rw [trim_limbs,e,hMb]
  refine j_giv [0] rfl rfl rfl ⟨_,_,rfl,rfl,rfl⟩
set_option maxHeartbeats 400000
theorem O_nat_Trim {pa : Option Addr} {n ca : Nat} {l : List Nat} : Ctr Try.prog 51 [.slice pa n ca] [] [slF U32 pa n ca l] (Ov 78 (trim l)):=by
 refine Ctr_of_j' (F:=F_nat_Trim) rfl fun C=>?_
 refine j_len 0 rfl fun hn hb _=>?_
 subst hn
 have hb' : l.length * 4 ≤ 140737488355328:=hb
 have hl:=trim_length_le l
 refine j_nf [_,_] rfl (j_run it 1 rfl (by simp) ?_)
 refine j_nf [_,_] rfl (j_run it 1 rfl (by simp) ?_)
 refine j_step rfl (x_call [0] rfl (S_nat_short) rfl ?_)
 rintro _ _ _ ⟨rfl,rfl,rfl⟩
 simp only [List.cons_append,List.nil_append]
 refine j_nil el48 ?_
 refine j_step rfl (x_app_sl 0 0 rfl rfl rfl rfl sl48 zo48e rfl (by first | exact GrOk.nil _ | assumption | exact .inr ⟨_,rfl,Nat.le_refl _,by omega,rfl⟩) (by omega) _ by48e (by omega) fun bo1 cap1 cs1 vss1 hg1 ht1=>?_)
 refine j_run it 1 rfl (by simp) ?_
 refine j_nf [_] rfl ?_
 refine j_flat 0 rfl fun hfl=>?_
 simp only [Nat.zero_add,Nat.zero_mul,List.take_zero,List.nil_append,hfl] at ht1
 have e : cs1 = natCells .u32 (trim l)++cs1.drop (trim l).length:=by
  have h:=List.take_append_drop (trim l).length cs1
  rw [show (trim l).length = (trim l).length * (encNat .u32 4).size from (Nat.mul_one _).symm] at h
  rw [ht1] at h
  exact h.symm.trans (by rw [show (trim l).length * (encNat .u32 4).size = (trim l).length from Nat.mul_one _])
 rw [Nat.zero_add] at hg1
 refine j_gives [] rfl rfl rfl ⟨bo1,cap1,cs1.drop (trim l).length,by simp [resVal],by rw [← e];exact hg1,rfl,by rw [← e];rfl⟩
set_option maxHeartbeats 1000000
theorem S_nat_Sub {pa pb : Option Addr} {n m ca cb : Nat} {a b : List Nat} (hab : val b ≤ val a) :
  Ctr Try.prog 97 [.slice pa n ca,.slice pb m cb] [] [slF U32 pa n ca a,slF U32 pb m cb b] (S2 U32 (limbs (val a - val b)) 0):=by
 refine Ctr_of_j' (F:=F_nat_Sub) rfl fun C=>?_
 refine j_len 0 rfl fun hn hba _=>?_
 refine j_len 1 rfl fun hm hbb _=>?_
 subst hn;subst hm
 have hba' : a.length * 4 ≤ 140737488355328:=hba
 have hbb' : b.length * 4 ≤ 140737488355328:=hbb
 refine j_range 0 rfl fun hra=>?_
 refine j_range 1 rfl fun hrb=>?_
 have hra' : ∀ x ∈ a,x < 4294967296:=fun x hx=>by have:=hra x hx;simp only [InR] at this;omega
 have hrb' : ∀ x ∈ b,x < 4294967296:=fun x hx=>by have:=hrb x hx;simp only [InR] at this;omega
 have ht : ∀ x ∈ trim a,x < 4294967296:=fun x hx=>hra' x (mem_trim hx)
 have hv : val (trim a) = val a:=val_trim a
 have hl:=trim_length_le a
 have hc : 0 ≤ cmpN (val a) (val b):=by unfold cmpN;split <;> (try split) <;> omega
 refine j_nf [_,_] rfl (j_run it 2 rfl (by simp) ?_)
 refine j_nf [_,_,_] rfl (j_run it 2 rfl (by simp) ?_)
 refine j_step rfl (x_call [0,1] rfl (S_nat_Cmp) rfl ?_)
 rintro _ _ _ ⟨rfl,rfl,rfl⟩
 simp only [List.cons_append,List.nil_append]
 refine j_run it 1 rfl (by simp) ?_
 refine j_nf [_,_] rfl (j_if rfl rfl (fun h1=>by exfalso;omega) (fun h1=>?_))
 refine j_nf [_,_] rfl (j_run it 1 rfl (by simp) ?_)
 refine j_step rfl (x_call [0] rfl O_nat_Trim rfl ?_)
 rintro _ _ _ ⟨bo,cap,rest,rfl,hg,rfl,rfl⟩
 simp only [List.nil_append,List.cons_append]
 generalize trim a = l at ht hv hl hg ⊢
 refine j_run it 1 rfl (by simp) ?_
 refine j_nf [_,_] rfl (j_run it 1 rfl (by simp) ?_)
 refine j_nf [_,_,_] rfl (j_run it 1 rfl (by simp) ?_)
 refine j_step rfl (x_len sl48 rfl ?_)
 refine j_run it 1 rfl (by simp) ?_
 refine j_nf [_,_,_] rfl ?_
 refine j_loopG (X:=Nat × Nat × List Nat) [1,4,5,6,17] [0,1] (fun x=>[(7,.int .u64 x.2.1),(18,.int .i64 x.1)]) (fun x=>[(bo,78,natCells .u32 x.2.2++rest)]) (fun _=>[])
  (fun x=>x.1 ≤ l.length ∧ x.2.2.length = l.length ∧ x.2.1 ≤ 1 ∧ (∀ z ∈ x.2.2,z < 4294967296) ∧ val (x.2.2.take x.1) + val (b.take x.1) = val (l.take x.1) + 4294967296 ^ x.1 * x.2.1 ∧ x.2.2.drop x.1 = l.drop x.1)
  (fun x=>l.length - x.1) (0,0,l) [] rfl rfl rfl ⟨Nat.zero_le _,rfl,Nat.zero_le _,ht,by simp [val],rfl⟩ (by repeat (first | exact Fr.sub_nil _ | refine Fr.sub_cons rfl ?_)) rfl rfl ?_
 rintro ⟨k,c,out⟩ ⟨hk,hlo,hc1,ho,he,hd⟩ ih
 simp only [List.cons_append,List.nil_append] at hk hlo hc1 ho he hd ih ⊢
 by_cases hkl : k < l.length
 ·obtain ⟨b',rfl⟩ : ∃ b',bo = some b':=by
   rcases hg with ⟨_,h0,_⟩ | ⟨b',h,_⟩
   ·omega
   ·exact ⟨b',h⟩
  have hdk : out[k]? = l[k]?:=by
   have h:=congrArg (fun l : List Nat=>l[0]?) hd
   simpa using h
  have hdk1 : out.drop (k + 1) = l.drop (k + 1):=by rw [← List.drop_drop,hd,List.drop_drop]
  by_cases hkb : k < b.length
  ·refine j_nf [_,_,_,_,_] rfl (j_run it 1 rfl (by simp) ?_)
   refine j_nf [_,_,_,_,_] rfl (j_if rfl rfl (fun h2=>?_) (fun h2=>by exfalso;omega))
   refine j_nf [_,_,_,_,_,_,_] rfl (j_run it 2 rfl (by simp) ?_)
   refine j_nf [_,_,_,_,_,_,_] rfl (j_run it 2 rfl (by simp) ?_)
   refine j_step rfl (x_idx_own (k) (k) rfl rfl sl48 rfl (by omega) (Nat.mul_one _) ?_)
   refine j_step rfl (x_bld_natA 0 rfl rfl ld78 (by assumption) (by first | omega | (simp;omega)) fun z1 hz1 hlt1=>?_)
   refine j_run it 2 rfl ⟨trivial,⟨by omega,by omega⟩,trivial⟩ ?_
   refine j_step rfl (x_sub_u64 rfl rfl ?_)
   refine j_run it 1 rfl (by simp) ?_
   refine j_nf [_,_,_,_,_,_,_,_] rfl (j_run it 2 rfl (by simp) ?_)
   refine j_step rfl (x_len sl48 rfl ?_)
   refine j_run it 1 rfl (by simp) ?_
   refine j_nf [_,_,_,_,_,_,_] rfl (j_if rfl rfl (fun h3=>?_) (fun h3=>by exfalso;omega))
   refine j_nf [_,_,_,_,_,_,_] rfl (j_run it 3 rfl (by simp) ?_)
   refine j_step rfl (x_idx 1 (k) rfl rfl rfl sl48 rfl (by omega) fun z2 hz2 b1 o1=>?_)
   refine j_step rfl (x_ld_nat 0 rfl rfl ld78 fun ⟨r1,r2⟩=>?_)
   refine j_run it 1 rfl ⟨⟨by omega,by omega⟩,trivial⟩ ?_
   refine j_step rfl (x_sub_u64 rfl rfl ?_)
   refine j_run it 1 rfl (by simp) ?_
   refine j_nf [_,_,_,_,_,_,_] rfl (j_run it 3 rfl (by simp) ?_)
   refine j_step rfl (x_conv_u32 it rfl rfl rfl ?_)
   refine j_step rfl (x_idx_own (k) (k) rfl rfl sl48 rfl (by omega) (Nat.mul_one _) ?_)
   refine j_step rfl (x_bst_natA 0 ((((((z1) + 18446744073709551616 - (c)) % 18446744073709551616) + 18446744073709551616 - (z2)) % 18446744073709551616) % 4294967296) rfl rfl rfl ld78 (by first | rfl | omega) (by first | omega | (simp;omega)) ?_)
   refine j_nf [_,_,_,_,_,_] rfl (j_run it 3 rfl (by simp) ?_)
   refine j_nf [_,_,_,_] rfl (j_run it 2 rfl ⟨trivial,⟨by omega,by omega⟩,trivial⟩ ?_)
   refine j_nfn 1 [.lp (pL 500),.blk 0,.c [1,1,1,1,1]] rfl ?_
   have hz1l : l[k]? = some z1:=by rw [← hdk];exact hz1
   have hz2':=hrb' z2 (List.mem_of_getElem? hz2)
   obtain ⟨-,hle⟩:=borrow_word hc1 hlt1 hz2' rfl
   have hst:=borrow_step he hc1 hlt1 hz2' rfl
   generalize hD : ((z1 + 18446744073709551616 - c) % 18446744073709551616 + 18446744073709551616 - z2) % 18446744073709551616 = D at hle hst ⊢
   refine j_to [1,2] (by exact fii rfl (by dsimp only;omega) (fcc rfl (fcc rfl (fcc rfl (fcc rfl (fcc rfl (fcc rfl (fzz _)))))))) rfl rfl (ih (k + 1,D / 9223372036854775808,out.set k (D % 4294967296)) (by simp only;omega) ⟨by simp only;omega,by simpa using hlo,hle,set_lt ho (by omega),by
    simp only
    rw [val_set_take (by omega),Nat.pow_succ,val_take_succ hz1l,val_take_succ hz2];exact hst,by simp only;rw [List.drop_set_of_lt (by omega)];exact hdk1⟩)
  ·refine j_nf [_,_,_,_,_] rfl (j_run it 1 rfl (by simp) ?_)
   refine j_nf [_,_,_,_,_] rfl (j_if rfl rfl (fun h2=>?_) (fun h2=>by exfalso;omega))
   refine j_nf [_,_,_,_,_,_,_] rfl (j_run it 2 rfl (by simp) ?_)
   refine j_nf [_,_,_,_,_,_,_] rfl (j_run it 2 rfl (by simp) ?_)
   refine j_step rfl (x_idx_own (k) (k) rfl rfl sl48 rfl (by omega) (Nat.mul_one _) ?_)
   refine j_step rfl (x_bld_natA 0 rfl rfl ld78 (by assumption) (by first | omega | (simp;omega)) fun z1 hz1 hlt1=>?_)
   refine j_run it 2 rfl ⟨trivial,⟨by omega,by omega⟩,trivial⟩ ?_
   refine j_step rfl (x_sub_u64 rfl rfl ?_)
   refine j_run it 1 rfl (by simp) ?_
   refine j_nf [_,_,_,_,_,_,_,_] rfl (j_run it 2 rfl (by simp) ?_)
   refine j_step rfl (x_len sl48 rfl ?_)
   refine j_run it 1 rfl (by simp) ?_
   refine j_nf [_,_,_,_,_,_,_] rfl (j_if rfl rfl (fun h3=>by exfalso;omega) (fun h3=>?_))
   refine j_nf [_,_,_,_,_,_,_] rfl (j_run it 3 rfl (by simp) ?_)
   refine j_step rfl (x_conv_u32 it rfl rfl rfl ?_)
   refine j_step rfl (x_idx_own (k) (k) rfl rfl sl48 rfl (by omega) (Nat.mul_one _) ?_)
   refine j_step rfl (x_bst_natA 0 ((((z1) + 18446744073709551616 - (c)) % 18446744073709551616) % 4294967296) rfl rfl rfl ld78 (by first | rfl | omega) (by first | omega | (simp;omega)) ?_)
   refine j_nf [_,_,_,_,_,_] rfl (j_run it 3 rfl (by simp) ?_)
   refine j_nf [_,_,_,_] rfl (j_run it 2 rfl ⟨trivial,⟨by omega,by omega⟩,trivial⟩ ?_)
   refine j_nfn 1 [.lp (pL 500),.blk 0,.c [1,1,1,1,1]] rfl ?_
   have hz1l : l[k]? = some z1:=by rw [← hdk];exact hz1
   obtain ⟨-,hle⟩:=borrow_word (y:=0) hc1 hlt1 (by decide) rfl
   have hst:=borrow_step (y:=0) he hc1 hlt1 (by decide) rfl
   have e0 : ((z1 + 18446744073709551616 - c) % 18446744073709551616 + 18446744073709551616 - 0) % 18446744073709551616 = (z1 + 18446744073709551616 - c) % 18446744073709551616:=by omega
   rw [e0] at hle hst
   generalize hD : (z1 + 18446744073709551616 - c) % 18446744073709551616 = D at hle hst ⊢
   refine j_to [0,1] (by exact fii rfl (by dsimp only;omega) (fcc rfl (fcc rfl (fcc rfl (fcc rfl (fcc rfl (fcc rfl (fzz _)))))))) rfl rfl (ih (k + 1,D / 9223372036854775808,out.set k (D % 4294967296)) (by simp only;omega) ⟨by simp only;omega,by simpa using hlo,hle,set_lt ho (by omega),by
    simp only
    rw [val_set_take (by omega),Nat.pow_succ,val_take_succ hz1l,take_ge (l:=b) (by omega)];exact hst,by simp only;rw [List.drop_set_of_lt (by omega)];exact hdk1⟩)
 ·have ek : k = l.length:=by omega
  subst ek
  have eo : out.take l.length = out:=by rw [← hlo,List.take_length]
  rw [eo,List.take_length,hv] at he
  have hc0 : c = 0 ∧ val (b.take l.length) = val b:=by
   have h1:=take_lt (k:=l.length) ho (by omega)
   rw [eo] at h1
   have hlen : b.length ≤ l.length ∨ l.length ≤ b.length:=Nat.le_total _ _
   have hA : val b = val (b.take l.length) + 4294967296 ^ l.length * val (b.drop l.length):=by
    rcases hlen with h | h
    ·rw [List.take_of_length_le h,List.drop_of_length_le h];simp [val]
    ·exact val_take_drop b _ h
   have hcA : 4294967296 ^ l.length * c ≤ val out + val (b.take l.length) - val a:=by omega
   generalize 4294967296 ^ l.length = P at *
   have hD : val (b.drop l.length) = 0:=by
    rcases Nat.eq_zero_or_pos (val (b.drop l.length)) with h | h
    ·exact h
    ·have : P * 1 ≤ P * val (b.drop l.length):=Nat.mul_le_mul_left _ h
     have : P * c ≤ P * 1:=Nat.mul_le_mul_left _ hc1
     omega
   rw [hD,Nat.mul_zero,Nat.add_zero] at hA
   refine ⟨?_,hA.symm⟩
   rcases Nat.eq_zero_or_pos c with h | h
   ·exact h
   ·have : P * 1 ≤ P * c:=Nat.mul_le_mul_left _ h
    omega
  obtain ⟨rfl,hvb⟩:=hc0
  have hres : val out = val a - val b:=by rw [hvb] at he;omega
  refine j_nf [_,_,_,_,_] rfl (j_run it 1 rfl (by simp) ?_)
  refine j_nf [_,_,_,_,_] rfl (j_if rfl rfl (fun h2=>by exfalso;omega) (fun h2=>?_))
  refine j_nf [_,_] rfl (j_run it 1 rfl (by simp) ?_)
  have hg2 : GrOk bo out.length cap 1 (natCells .u32 out++rest):=by
   rw [hlo]
   rcases hg with ⟨h1,h2,h3,h4⟩ | ⟨b',h1,h2,h3,h4⟩
   ·refine .inl ⟨h1,h2,h3,?_⟩
    have e1 : l = []:=List.eq_nil_of_length_eq_zero h2
    have e2 : out = []:=List.eq_nil_of_length_eq_zero (by omega)
    rw [e2];rw [e1] at h4;exact h4
   ·exact .inr ⟨b',h1,h2,h3,by simp at h4 ⊢;omega⟩
  rw [← hlo]
  refine j_pub_nat (n:=out.length) (cap:=cap) 4 out 0 rfl hg2 (by rw [List.take_append_of_le_length (by simp),natCells_take,List.take_length]) rfl (fun x hx=>by have:=ho x hx;simp only [InR];omega) (by omega) ?_
  refine j_step rfl (x_call [0] rfl (S_nat_short) rfl ?_)
  rintro _ _ _ ⟨rfl,rfl,rfl⟩
  simp only [List.cons_append,List.nil_append]
  refine j_run it 2 rfl (by simp) ?_
  refine j_nf [_] rfl ?_
  rw [trim_eq ho,hres]
  refine j_giv [0] rfl rfl rfl ⟨_,_,rfl,rfl,rfl⟩
set_option maxHeartbeats 2000000
theorem bitsL_zero {l : List Nat} (h : ∀ x ∈ l,x < 4294967296) : bitsL l = 0 ↔ val l = 0:=by
 have ht:=trim_eq h
 constructor
 ·intro h0
  rcases Nat.eq_zero_or_pos (trim l).length with h1 | h1
  ·have:=List.eq_nil_of_length_eq_zero h1
   rw [ht,limbs_nil] at this;exact this
  ·obtain ⟨k,hk⟩ : ∃ k,(trim l).length = k + 1:=⟨(trim l).length - 1,by omega⟩
   obtain ⟨t,hz,hz0⟩:=limbs_top (n:=val l) (k:=k) (by rw [← ht];exact hk)
   rw [← ht] at hz
   have h3:=bitsL_top (z:=t) (by rw [hk];exact hz)
   have:=blen_pos hz0
   omega
 ·intro h0
  exact bitsL_nil (by rw [ht,h0,limbs_zero];rfl)
theorem lim {l : List Nat} (h : ∀ x ∈ l,InR .u32 x) : ∀ x ∈ l,x < 4294967296:=fun x hx=>by have:=h x hx;simp only [InR] at this;omega
theorem prod_lim {a b j : Nat} (ha : (limbs a).length ≤ j) (hb : (limbs b).length ≤ j) : (limbs (a * b)).length ≤ j + j :=
 limbs_length_le (by rw [Nat.pow_add];exact Nat.mul_lt_mul'' (limbs_le_length ha) (limbs_le_length hb))
theorem sum_lim {a b j : Nat} (ha : (limbs a).length ≤ j) (hb : (limbs b).length ≤ j) : (limbs (a + b)).length ≤ j + 1 :=
 limbs_length_le (by have:=limbs_le_length ha;have:=limbs_le_length hb;rw [Nat.pow_succ];omega)
theorem rt_len {g : Bool} {N D : List Nat} {k : Nat} (hN : ∀ x ∈ N,x < 4294967296) (hD : ∀ x ∈ D,x < 4294967296) (lN : N.length ≤ k) (lD : D.length ≤ k) (hk : 1 ≤ k) : (rt (vq (g,N,D))).2.1.length ≤ k ∧ (rt (vq (g,N,D))).2.2.length ≤ k :=
 bd_len (bd_vq hN hD lN lD hk)
abbrev ZV (z : Zs) : Value → List Fact → List Blk → Prop:=fun v Φ β=>∃ pa ca,v = .agg #[.bool z.1,.slice pa (limbs z.2).length ca] ∧ Φ = [slF U32 pa (limbs z.2).length ca (limbs z.2)] ∧ β = []
theorem S_macwilliams_plus {g1 g2 : Bool} {p1 p2 : Option Addr} {n1 n2 c1 c2 : Nat} {N1 N2 : List Nat} (l1 : N1.length ≤ 536870912) (l2 : N2.length ≤ 536870912) :
  Ctr Try.prog 83 [.agg #[.bool g1,.slice p1 n1 c1],.agg #[.bool g2,.slice p2 n2 c2]] [] [slF U32 p1 n1 c1 N1,slF U32 p2 n2 c2 N2] (ZV (plusZ (g1,val N1) (g2,val N2))):=by
 refine Ctr_of_j' (F:=F_macwilliams_plus) rfl fun C=>?_
 refine j_len 0 rfl fun hn hba _=>?_
 refine j_len 1 rfl fun hm hbb _=>?_
 subst hn;subst hm
 refine j_range 0 rfl fun hra=>?_
 refine j_range 1 rfl fun hrb=>?_
 refine j_nf [_,_] rfl ?_
 refine j_step rfl (x_box_agg rfl fun b1=>?_)
 refine j_step rfl (x_box_agg rfl fun b2=>?_)
 refine j_step rfl (x_alloc zo95 fun b3=>?_)
 refine j_nf [_,_,_] rfl ?_
 refine j_step rfl (x_field rfl fd95_0 ?_)
 refine j_step rfl (x_bld 2 rfl rfl ld4 rfl ?_)
 refine j_step rfl (x_field rfl fd95_0 ?_)
 refine j_step rfl (x_bld 1 rfl rfl ld4 rfl ?_)
 refine j_step rfl (x_eqb ub rfl rfl ?_)
 refine j_nf [_,_] rfl ?_
 refine j_cond rfl rfl (fun h1=>?_) (fun h1=>?_)
 ·have hg : g1 = g2:=by simpa using h1
  subst hg
  have e : plusZ (g1,val N1) (g1,val N2) = (g1,val N1 + val N2):=by simp [plusZ]
  have hL : ∀ l ∈ [N1,N2],l.length ≤ 1073741824:=fun l hl=>by
   rcases List.mem_cons.1 hl with rfl | hl
   ·omega
   ·rw [List.mem_singleton.1 hl];omega
  have es : sumV [N1,N2] = val N1 + val N2:=by simp [sumV]
  rw [e]
  refine j_nf [_,_,_] rfl ?_
  (apply j_drawK it mx 9;(· rfl);(· rfl))
  (apply lxk_eq;(· rfl);(· exact d_x fun _=>x_field rfl fd95_0 dk_eq))
  (apply lxk_eq;(· rfl);(· exact d_bld 2 rfl rfl ld4 rfl))
  (apply lxk_eq;(· rfl);(· exact d_x fun _=>x_field rfl fd95_1 dk_eq))
  (apply lxk_eq;(· rfl);(· exact d_bld 2 rfl rfl ld48 rfl))
  (apply lxk_eq;(· rfl);(· exact d_x fun _=>x_field rfl fd95_1 dk_eq))
  (apply lxk_eq;(· rfl);(· exact d_bld 1 rfl rfl ld48 rfl))
  (apply lxk_sl;(· rfl);(· exact d_x fun _=>x_lit sl36 zo36e rfl rfl rfl rfl (by decide) (by decide) rfl fun b4=>dk_all (E:=(encSl U32)) [[Value.slice p1 N1.length c1],[Value.slice p2 N2.length c2]] [N1,N2] (fun w A hG=>(allrd_cons (rd_of_slF (hG _ (fact_mem (n:=0) rfl))) (allrd_cons (rd_of_slF (hG _ (fact_mem (n:=1) rfl))) allrd_nil))) rfl rfl rfl (by first | decide | exact Nat.le_of_ble_eq_true rfl));intro pa1 ca1)
  (apply lxk_sl;(· rfl);(· exact d_x fun _=>x_call [0] rfl (S_nat_Add (by simp) (by omega)) rfl (by rintro _ _ _ ⟨pa2,ca2,rfl,rfl,rfl⟩;exact (dk_sl 0 rfl)));intro pa2 ca2)
  (apply lxk_fa (val:=fun g=>Value.agg #[Value.bool g1,Value.slice (g 1).1 ((limbs (sumV [N1,N2])).length) (g 1).2.1]) (f:=fun g=>[slF (U32) (g 1).1 ((limbs (sumV [N1,N2])).length) (g 1).2.1 (limbs (sumV [N1,N2]))]);(· rfl);(· exact d_x fun _=>x_build (cs:=[Value.bool g1,Value.slice pa2 (limbs (sumV [N1,N2])).length ca2]) st95 zo95 rfl rfl (fun _ _ _ hG=>⟨(fun | 1=>(pa2,ca2,0,[]) | _=>default),rfl,fun g hg=>by (simp only [List.mem_cons,List.not_mem_nil,or_false] at hg;rcases hg with rfl;(· exact drop_own (hG _ (fact_mem (n:=0) rfl))))⟩));intro g2;dsimp only [List.map_cons,List.map_nil])
  refine lxk_end rfl ?_
  simp only [List.map_cons,List.map_nil,List.cons_append,List.nil_append]
  refine j_step rfl (x_bst_all 0 rfl rfl rfl ld95 rfl rfl (by simp [Value.oneCell']) ?_)
  refine j_nf [_,_] rfl ?_
  rw [es]
  refine j_givC [0] rfl (.agg 0 rfl rfl ld95 rfl .nil) rfl ⟨_,_,rfl,rfl,rfl⟩
 ·have hg : g1 ≠ g2:=by simpa using h1
  by_cases hlt : val N1 < val N2
  ·have hc:=cmpN_lt hlt
   have hle : val N1 ≤ val N2:=by omega
   have e : plusZ (g1,val N1) (g2,val N2) = (g2,val N2 - val N1):=by simp [plusZ,hg,hlt]
   rw [e]
   refine j_nf [_,_,_] rfl ?_
   refine j_step rfl (x_field rfl fd95_1 ?_)
   refine j_step rfl (x_bld 2 rfl rfl ld48 rfl ?_)
   refine j_step rfl (x_field rfl fd95_1 ?_)
   refine j_step rfl (x_bld 1 rfl rfl ld48 rfl ?_)
   refine j_step rfl (x_call [0,1] rfl (S_nat_Cmp) rfl ?_)
   rintro _ _ _ ⟨rfl,rfl,rfl⟩
   simp only [List.cons_append,List.nil_append]
   refine j_run it 1 rfl (by simp) ?_
   refine j_nf [_,_] rfl ?_
   refine j_if rfl rfl (fun h2=>?_) (fun h2=>by exfalso;omega)
   refine j_nf [_,_] rfl ?_
   refine j_step rfl (x_bld_all 1 rfl rfl ld95 rfl ?_)
   refine j_step rfl (x_bld_all 2 rfl rfl ld95 rfl ?_)
   refine j_step rfl (x_bst_all 2 rfl rfl rfl ld95 rfl rfl (by simp [Value.oneCell']) ?_)
   refine j_step rfl (x_bst_all 1 rfl rfl rfl ld95 rfl rfl (by simp [Value.oneCell']) ?_)
   refine j_nf [_,_] rfl ?_
   refine j_step rfl (x_field rfl fd95_1 ?_)
   refine j_step rfl (x_bld 2 rfl rfl ld48 rfl ?_)
   refine j_step rfl (x_field rfl fd95_1 ?_)
   refine j_step rfl (x_bld 1 rfl rfl ld48 rfl ?_)
   refine j_step rfl (x_call [1,0] rfl (S_nat_Sub (by omega)) rfl ?_)
   rintro _ _ _ ⟨pa1,ca1,rfl,rfl,rfl⟩
   simp only [List.cons_append,List.nil_append]
   refine j_run it 5 rfl (by simp) ?_
   refine j_nf [_,_] rfl ?_
   refine j_step rfl (x_field rfl fd95_0 ?_)
   refine j_step rfl (x_bld 2 rfl rfl ld4 rfl ?_)
   refine j_run it 1 rfl (by simp) ?_
   refine j_step rfl (x_build (cs:=[Value.bool g2,Value.slice pa1 (limbs (val N2 - val N1)).length ca1]) st95 zo95 rfl rfl ?_)
   refine j_step rfl (x_bst_all 0 rfl rfl rfl ld95 rfl rfl (by simp [Value.oneCell']) ?_)
   refine j_nf [_] rfl ?_
   refine j_givC [0] rfl (.agg 0 rfl rfl ld95 rfl .nil) rfl ⟨_,_,rfl,rfl,rfl⟩
  ·have hc : ¬ cmpN (val N1) (val N2) < 0:=by unfold cmpN;split <;> (try split) <;> omega
   have hle : val N2 ≤ val N1:=by omega
   have e : plusZ (g1,val N1) (g2,val N2) = (g1,val N1 - val N2):=by simp [plusZ,hg,hlt]
   rw [e]
   refine j_nf [_,_,_] rfl ?_
   refine j_step rfl (x_field rfl fd95_1 ?_)
   refine j_step rfl (x_bld 2 rfl rfl ld48 rfl ?_)
   refine j_step rfl (x_field rfl fd95_1 ?_)
   refine j_step rfl (x_bld 1 rfl rfl ld48 rfl ?_)
   refine j_step rfl (x_call [0,1] rfl (S_nat_Cmp) rfl ?_)
   rintro _ _ _ ⟨rfl,rfl,rfl⟩
   simp only [List.cons_append,List.nil_append]
   refine j_run it 1 rfl (by simp) ?_
   refine j_nf [_,_] rfl ?_
   refine j_if rfl rfl (fun h2=>by exfalso;omega) (fun h2=>?_)
   refine j_nf [_,_] rfl ?_
   refine j_step rfl (x_field rfl fd95_1 ?_)
   refine j_step rfl (x_bld 2 rfl rfl ld48 rfl ?_)
   refine j_step rfl (x_field rfl fd95_1 ?_)
   refine j_step rfl (x_bld 1 rfl rfl ld48 rfl ?_)
   refine j_step rfl (x_call [0,1] rfl (S_nat_Sub (by omega)) rfl ?_)
   rintro _ _ _ ⟨pa1,ca1,rfl,rfl,rfl⟩
   simp only [List.cons_append,List.nil_append]
   refine j_run it 5 rfl (by simp) ?_
   refine j_nf [_,_] rfl ?_
   refine j_step rfl (x_field rfl fd95_0 ?_)
   refine j_step rfl (x_bld 2 rfl rfl ld4 rfl ?_)
   refine j_run it 1 rfl (by simp) ?_
   refine j_step rfl (x_build (cs:=[Value.bool g1,Value.slice pa1 (limbs (val N1 - val N2)).length ca1]) st95 zo95 rfl rfl ?_)
   refine j_step rfl (x_bst_all 0 rfl rfl rfl ld95 rfl rfl (by simp [Value.oneCell']) ?_)
   refine j_nf [_] rfl ?_
   refine j_givC [0] rfl (.agg 0 rfl rfl ld95 rfl .nil) rfl ⟨_,_,rfl,rfl,rfl⟩
theorem S_macwilliams_minus {g1 g2 : Bool} {p1 p2 : Option Addr} {n1 n2 c1 c2 : Nat} {N1 N2 : List Nat} (l1 : N1.length ≤ 536870912) (l2 : N2.length ≤ 536870912) :
  Ctr Try.prog 96 [.agg #[.bool g1,.slice p1 n1 c1],.agg #[.bool g2,.slice p2 n2 c2]] [] [slF U32 p1 n1 c1 N1,slF U32 p2 n2 c2 N2] (ZV (minusZ (g1,val N1) (g2,val N2))):=by
 refine Ctr_of_j' (F:=F_macwilliams_minus) rfl fun C=>?_
 refine j_nf [_,_] rfl (j_step rfl (x_box_agg rfl fun b1=>?_))
 refine j_step rfl (x_box_agg rfl fun b2=>?_)
 refine j_step rfl (x_alloc zo95 fun b3=>?_)
 refine j_nf [_,_] rfl (j_step rfl (x_bld_all 2 rfl rfl ld95 rfl ?_))
 refine j_step rfl (x_field rfl fd95_0 ?_)
 refine j_step rfl (x_bld 1 rfl rfl ld4 rfl ?_)
 refine j_run it 1 rfl (by simp) ?_
 refine j_step rfl (x_field rfl fd95_1 ?_)
 refine j_step rfl (x_bld 1 rfl rfl ld48 rfl ?_)
 refine j_step rfl (x_build (cs:=[Value.bool !g2,Value.slice p2 n2 c2]) st95 zo95 rfl rfl ?_)
 refine j_step rfl (x_call [0,1] rfl (S_macwilliams_plus (by omega) (by omega)) rfl ?_)
 rintro _ _ _ ⟨pa1,ca1,rfl,rfl,rfl⟩
 simp only [List.cons_append,List.nil_append]
 refine j_step rfl (x_bst_all 0 rfl rfl rfl ld95 rfl rfl (by simp [Value.oneCell']) ?_)
 refine j_nf [_] rfl ?_
 refine j_givC [0] rfl (.agg 0 rfl rfl ld95 rfl .nil) rfl ⟨_,_,rfl,rfl,rfl⟩
theorem S_macwilliams_times {g1 g2 : Bool} {p1 p2 : Option Addr} {n1 n2 c1 c2 : Nat} {N1 N2 : List Nat} (l1 : N1.length ≤ 536870912) (l2 : N2.length ≤ 536870912) :
  Ctr Try.prog 84 [.agg #[.bool g1,.slice p1 n1 c1],.agg #[.bool g2,.slice p2 n2 c2]] [] [slF U32 p1 n1 c1 N1,slF U32 p2 n2 c2 N2] (ZV (timesZ (g1,val N1) (g2,val N2))):=by
 refine Ctr_of_j' (F:=F_macwilliams_times) rfl fun C=>?_
 have hL : lenS [N1,N2] ≤ 1073741824:=by simp [lenS];omega
 have es : prodV [N1,N2] = val N1 * val N2:=by simp [prodV]
 have e : timesZ (g1,val N1) (g2,val N2) = (g1 != g2,val N1 * val N2):=rfl
 rw [e]
 refine j_nf [_,_] rfl ?_
 refine j_step rfl (x_box_agg rfl fun b1=>?_)
 refine j_step rfl (x_box_agg rfl fun b2=>?_)
 refine j_step rfl (x_alloc zo95 fun b3=>?_)
 refine j_nf [_,_] rfl ?_
 (apply j_drawK it mx 12;(· rfl);(· rfl))
 (apply lxk_eq;(· rfl);(· exact d_x fun _=>x_field rfl fd95_0 dk_eq))
 (apply lxk_eq;(· rfl);(· exact d_bld 2 rfl rfl ld4 rfl))
 (apply lxk_eq;(· rfl);(· exact d_x fun _=>x_field rfl fd95_0 dk_eq))
 (apply lxk_eq;(· rfl);(· exact d_bld 1 rfl rfl ld4 rfl))
 (apply lxk_eq;(· rfl);(· exact d_x fun _=>x_neb ub rfl rfl dk_eq))
 (apply lxk_eq;(· rfl);(· exact d_x fun _=>x_field rfl fd95_1 dk_eq))
 (apply lxk_eq;(· rfl);(· exact d_bld 2 rfl rfl ld48 rfl))
 (apply lxk_eq;(· rfl);(· exact d_x fun _=>x_field rfl fd95_1 dk_eq))
 (apply lxk_eq;(· rfl);(· exact d_bld 1 rfl rfl ld48 rfl))
 (apply lxk_sl;(· rfl);(· exact d_x fun _=>x_lit sl36 zo36e rfl rfl rfl rfl (by decide) (by decide) rfl fun b4=>dk_all (E:=(encSl U32)) [[Value.slice p1 n1 c1],[Value.slice p2 n2 c2]] [N1,N2] (fun w A hG=>(allrd_cons (rd_of_slF (hG _ (fact_mem (n:=0) rfl))) (allrd_cons (rd_of_slF (hG _ (fact_mem (n:=1) rfl))) allrd_nil))) rfl rfl rfl (by first | decide | exact Nat.le_of_ble_eq_true rfl));intro pa1 ca1)
 (apply lxk_sl;(· rfl);(· exact d_x fun _=>x_call [0] rfl (S_nat_Mul (by omega)) rfl (by rintro _ _ _ ⟨pa2,ca2,rfl,rfl,rfl⟩;exact (dk_sl 0 rfl)));intro pa2 ca2)
 (apply lxk_fa (val:=fun g=>Value.agg #[Value.bool (g1 != g2),Value.slice (g 1).1 ((limbs (prodV [N1,N2])).length) (g 1).2.1]) (f:=fun g=>[slF (U32) (g 1).1 ((limbs (prodV [N1,N2])).length) (g 1).2.1 (limbs (prodV [N1,N2]))]);(· rfl);(· exact d_x fun _=>x_build (cs:=[Value.bool (g1 != g2),Value.slice pa2 (limbs (prodV [N1,N2])).length ca2]) st95 zo95 rfl rfl (fun _ _ _ hG=>⟨(fun | 1=>(pa2,ca2,0,[]) | _=>default),rfl,fun g hg=>by (simp only [List.mem_cons,List.not_mem_nil,or_false] at hg;rcases hg with rfl;(· exact drop_own (hG _ (fact_mem (n:=0) rfl))))⟩));intro g3;dsimp only [List.map_cons,List.map_nil])
 refine lxk_end rfl ?_
 simp only [List.map_cons,List.map_nil,List.cons_append,List.nil_append]
 refine j_step rfl (x_bst_all 0 rfl rfl rfl ld95 rfl rfl (by simp [Value.oneCell']) ?_)
 refine j_nf [_] rfl ?_
 rw [es]
 refine j_givC [0] rfl (.agg 0 rfl rfl ld95 rfl .nil) rfl ⟨_,_,rfl,rfl,rfl⟩
theorem S_macwilliams_small {n : Nat} (hn : n < 9223372036854775808) : Ctr Try.prog 95 [.int .i64 n] [] [] (ZV (false,n)):=by
 refine Ctr_of_j' (F:=F_macwilliams_small) rfl fun C=>?_
 refine j_nf [_,_] rfl (j_step rfl (x_alloc zo95 fun b1=>?_))
 refine j_nf [_,_] rfl (j_run it 2 rfl ⟨⟨by omega,by omega⟩,trivial,trivial⟩ ?_)
 refine j_step rfl (x_call [] rfl (S_nat_Of (by omega)) rfl ?_)
 rintro _ _ _ ⟨pa1,ca1,rfl,rfl,rfl⟩
 simp only [List.cons_append,List.nil_append]
 refine j_step rfl (x_build (cs:=[Value.bool false,Value.slice pa1 (limbs n).length ca1]) st95 zo95 rfl rfl ?_)
 refine j_step rfl (x_bst_all 0 rfl rfl rfl ld95 rfl rfl (by simp [Value.oneCell']) ?_)
 refine j_nf [_] rfl ?_
 refine j_givC [0] rfl (.agg 0 rfl rfl ld95 rfl .nil) rfl ⟨_,_,rfl,rfl,rfl⟩
set_option maxHeartbeats 4000000
def rowT (q n x : Nat) : List (Bool × List Nat):=(List.range (n + 1)).map fun k=>enz (tz q n x k)
def tabT (q n : Nat) : List (List (Bool × List Nat)):=(List.range (n + 1)).map (rowT q n)
theorem rowT_len (q n x : Nat) : (rowT q n x).length = n + 1:=by simp [rowT]
theorem tabT_len (q n : Nat) : (tabT q n).length = n + 1:=by simp [tabT]
theorem S_macwilliams_table {q n : Nat} (hq : 2 ≤ q) (hq2 : q ≤ 256) (hn : n ≤ 64) : Ctr Try.prog 82 [.int .i64 q,.int .i64 n] [] [] (Sv (encSl IntE) (tabT q n)):=by
 refine Ctr_of_j' (F:=F_macwilliams_table) rfl fun C=>?_
 have hB:=fun k=>binom_len (show n ≤ 4096 by omega) k
 have hq1 : val (limbs (q - 1)) = q - 1:=val_limbs _
 have hq3 : val (limbs (q - 1)) < 4294967296:=by omega
 refine j_nf [_,_] rfl ?_
 refine j_run it 1 rfl (by simp) ?_
 refine j_nf [_,_] rfl ?_
 refine j_run it 2 rfl ⟨⟨by omega,by omega⟩,trivial,trivial⟩ ?_
 refine j_step rfl (x_makeR IntE default ((n) + 1) _ rfl rfl sl93 zo93e rfl rfl by93e (by omega) (by omega) (by omega) rz95 fun b1 cs1=>?_)
 refine j_run it 1 rfl (by simp) ?_
 refine j_nf [_,_,_] rfl ?_
 refine j_run it 1 rfl (by simp) ?_
 refine j_step rfl (x_len sl93 rfl ?_)
 refine j_run it 1 rfl (by simp) ?_
 refine j_nf [_,_,_] rfl ?_
 rw [← mapTo_zero (fun k=>enz (tz q n 0 k))]
 refine j_loopG (X:=Nat × List Value) [0,1,4,5,20] [] (fun x=>[(21,.int .i64 x.1)]) (fun x=>[(some b1,95,x.2)]) (fun x=>[rowF IntE ⟨some b1,n + 1,x.2⟩ (n + 1) (mapTo (fun k=>enz (tz q n 0 k)) default (n + 1) x.1)])
  (fun x=>x.1 ≤ n + 1) (fun x=>n + 1 - x.1) (0,cs1) [0] rfl rfl rfl (Nat.zero_le _) (by repeat (first | exact Fr.sub_nil _ | refine Fr.sub_cons rfl ?_)) rfl rfl ?_
 rintro ⟨k,cs⟩ hk ih
 simp only [List.cons_append,List.nil_append] at hk ih ⊢
 by_cases hkl : k < n + 1
 ·have hBk:=hB k
  have hp : (limbs (val (limbs (q - 1)) ^ k)).length ≤ 64 + 1:=by
   refine limbs_length_le ?_
   have h1 : val (limbs (q - 1)) ^ k ≤ 4294967296 ^ k:=Nat.pow_le_pow_left (Nat.le_of_lt hq3) k
   have h2 : (4294967296 : Nat) ^ k ≤ 4294967296 ^ 64:=Nat.pow_le_pow_right (by decide) (by omega)
   have h3 : (4294967296 : Nat) ^ 64 < 4294967296 ^ (64 + 1):=Nat.pow_lt_pow_right (by decide) (by decide)
   exact Nat.lt_of_le_of_lt (Nat.le_trans h1 h2) h3
  have hL : lenS [limbs (binom n k),limbs (val (limbs (q - 1)) ^ k)] ≤ 1073741824:=by simp [lenS];omega
  refine j_nf [_,_,_,_,_] rfl ?_
  refine j_run it 1 rfl (by simp) ?_
  refine j_nf [_,_,_,_,_] rfl ?_
  refine j_if rfl rfl (fun h1=>?_) (fun h1=>by exfalso;omega)
  refine j_nf [_,_,_,_,_,_,_] rfl ?_
  refine j_run it 2 rfl (by simp) ?_
  refine j_nf [_,_,_,_,_,_,_] rfl ?_
  refine j_run it 2 rfl (by simp) ?_
  refine j_step rfl (x_call [] rfl (S_nat_Binomial (by omega)) rfl ?_)
  rintro _ _ _ ⟨pa1,ca1,rfl,rfl,rfl⟩
  simp only [List.cons_append,List.nil_append]
  refine j_run it 5 rfl (by simp) ?_
  refine j_nf [_,_,_,_,_,_,_] rfl ?_
  refine j_run it 3 rfl ⟨⟨by omega,by omega⟩,⟨by omega,by omega⟩,trivial,trivial⟩ ?_
  refine j_recast (t:=33) ((((q) - 1) : Nat) : Int) rfl (by omega) ?_
  refine j_step rfl (x_call [] rfl (S_nat_Of (by omega)) rfl ?_)
  rintro _ _ _ ⟨pa2,ca2,rfl,rfl,rfl⟩
  simp only [List.cons_append,List.nil_append]
  refine j_run it 1 rfl (by simp) ?_
  refine j_step rfl (x_call [0] rfl (S_nat_Pow (by omega) (by omega)) rfl ?_)
  rintro _ _ _ ⟨pa3,ca3,rfl,rfl,rfl⟩
  simp only [List.cons_append,List.nil_append]
  refine j_run it 5 rfl (by simp) ?_
  refine j_nf [_,_,_,_,_,_] rfl ?_
  refine j_run it 4 rfl (by simp) ?_
  refine j_step rfl (x_lit sl36 zo36e rfl rfl rfl rfl (by decide) (by decide) rfl fun b2=>?_)
  refine j_pub_all (E:=(encSl U32)) (n:=2) [[Value.slice pa1 (limbs (binom n k)).length ca1],[Value.slice pa3 (limbs (val (limbs (q - 1)) ^ k)).length ca3]] [limbs (binom n k),limbs (val (limbs (q - 1)) ^ k)] 0 (fun w A hG=>(allrd_cons (rd_of_slF (hG _ (fact_mem (n:=2) rfl))) (allrd_cons (rd_of_slF (hG _ (fact_mem (n:=0) rfl))) allrd_nil))) rfl rfl rfl rfl (by first | decide | exact Nat.le_of_ble_eq_true rfl) (by first | decide | exact Nat.le_of_ble_eq_true rfl) ?_
  refine j_step rfl (x_call [0] rfl (S_nat_Mul (by omega)) rfl ?_)
  rintro _ _ _ ⟨pa4,ca4,rfl,rfl,rfl⟩
  simp only [List.cons_append,List.nil_append]
  refine j_step rfl (x_build (cs:=[Value.bool false,Value.slice pa4 (limbs (prodV [limbs (binom n k),limbs (val (limbs (q - 1)) ^ k)])).length ca4]) st95 zo95 rfl rfl ?_)
  refine j_step rfl (x_idx_own (k) _ rfl rfl sl93 rfl (by omega) rfl ?_)
  refine j_step rfl (x_stR (vs:=[Value.bool false,Value.slice pa4 (limbs (prodV [limbs (binom n k),limbs (val (limbs (q - 1)) ^ k)])).length ca4]) (z:=(false,limbs (prodV [limbs (binom n k),limbs (val (limbs (q - 1)) ^ k)]))) 0 5 (k) rfl rfl rfl rfl rfl ld95 rfl (by omega) (fun w A hG=>(rd_pair (v1:=[Value.bool false]) (rd_bool _) (rd_of_slF (hG _ (fact_mem (n:=0) rfl))))) fun cs2=>?_)
  refine j_nf [_,_,_,_] rfl ?_
  refine j_run it 2 rfl ⟨trivial,⟨by omega,by omega⟩,trivial⟩ ?_
  refine j_nfn 1 [.lp (pL 116),.blk 0,.c [1,1,1]] rfl ?_
  have e : (false,limbs (prodV [limbs (binom n k),limbs (val (limbs (q - 1)) ^ k)])) = enz (tz q n 0 k):=by simp [prodV,hq1,val_limbs,enz,tz]
  rw [e,mapTo_set (fun k=>enz (tz q n 0 k))]
  refine j_to [0] (by exact fra rfl) rfl rfl (ih (k + 1,cs2) (by dsimp only;omega) (by dsimp only;omega))
 ·have ek : k = n + 1:=by omega
  subst ek
  rw [mapTo_all]
  refine j_nf [_,_,_,_,_] rfl ?_
  refine j_run it 1 rfl (by simp) ?_
  refine j_nf [_,_,_,_,_] rfl ?_
  refine j_if rfl rfl (fun h1=>by exfalso;omega) (fun h1=>?_)
  refine j_nf [_,_] rfl ?_
  refine j_run it 1 rfl (by simp) ?_
  refine j_step rfl (x_lit sl112 zo112e rfl rfl rfl rfl (by decide) (by decide) rfl fun b2=>?_)
  refine j_run it 1 rfl (by simp) ?_
  refine j_nf [_,_] rfl ?_
  refine j_run it 2 rfl ⟨⟨by omega,by omega⟩,trivial,trivial⟩ ?_
  refine j_recast (t:=51) ((((q) - 1) : Nat) : Int) rfl (by omega) ?_
  refine j_step rfl (x_call [] rfl (S_macwilliams_small (by omega)) rfl ?_)
  rintro _ _ _ ⟨pa1,ca1,rfl,rfl,rfl⟩
  simp only [List.cons_append,List.nil_append]
  refine j_step rfl (x_alloc zo95 fun b3=>?_)
  refine j_step rfl (x_bst_all 0 rfl rfl rfl ld95 rfl rfl (by simp [Value.oneCell']) ?_)
  refine j_nf [_,_,_] rfl ?_
  refine j_run it 2 rfl (by simp) ?_
  refine j_nf [_,_,_] rfl ?_
  refine j_pubR 2 1 rfl rfl (by show (n + 1) * 32 ≤ 140737488355328;omega) ?_
  refine j_rowlit (E:=encSl IntE) (n:=1) [[.slice (some ⟨b1,0,none⟩) (n + 1) (n + 1)]] [rowT q n 0] 1 (fun w A hG=>allrd_cons (rd_of_slF (hG _ (fact_mem (n:=0) rfl))) allrd_nil) rfl rfl rfl rfl (by decide) ?_
  refine j_loopG (X:=Nat × Row) [1,4,12,53] [2] (fun x=>[(11,.slice (ad x.2.bo) (x.1 + 1) x.2.cap),(54,.int .i64 x.1)]) (fun x=>[(some b3,95,[.bool false,.slice pa1 (limbs (q - 1)).length ca1]),(x.2.bo,93,x.2.cs)])
   (fun x=>[rowF (encSl IntE) x.2 (x.1 + 1) ((List.range (x.1 + 1)).map (rowT q n))])
   (fun x=>x.1 ≤ n) (fun x=>n - x.1) (0,⟨some b2,1,[.slice (some ⟨b1,0,none⟩) (n + 1) (n + 1)]⟩) [0] rfl rfl rfl (Nat.zero_le _) (by repeat (first | exact Fr.sub_nil _ | refine Fr.sub_cons rfl ?_)) rfl rfl ?_
  rintro ⟨x,r⟩ hx ih
  simp only [List.cons_append,List.nil_append] at hx ih ⊢
  by_cases hxl : x < n
  ·refine j_nf [_,_,_,_,_] rfl ?_
   refine j_run it 1 rfl (by simp) ?_
   refine j_nf [_,_,_,_,_] rfl ?_
   refine j_if rfl rfl (fun h2=>?_) (fun h2=>by exfalso;omega)
   refine j_nf [_,_,_,_,_,_,_] rfl ?_
   refine j_run it 2 rfl (by simp) ?_
   refine j_step rfl (x_len sl112 rfl ?_)
   refine j_run it 1 rfl ⟨⟨by omega,by omega⟩,trivial⟩ ?_
   refine j_rowB 0 rfl (by omega) fun b4 cap1 cs2 hr1=>?_
   subst hr1
   dsimp only
   refine j_step rfl (x_idx_own ((x + 1) - 1) ((x + 1) - 1) rfl rfl sl112 (by omega) (by omega) (Nat.mul_one _) ?_)
   refine j_step rfl (x_ldR_sl 1 0 (x + 1 - 1) rfl rfl rfl ld93 rfl (by omega) fun z1 hz1 pa2 ca2=>?_)
   refine j_run it 1 rfl (by simp) ?_
   refine j_nf [_,_,_,_,_,_,_] rfl ?_
   refine j_run it 1 rfl (by simp) ?_
   refine j_step rfl (x_idx 0 0 rfl rfl rfl sl93 (by omega) ?_ fun z2 hz2 b5 o1=>?_) --ok
   ·have : z1.length = n + 1:=by
     rw [Nat.add_sub_cancel,range_get (rowT q n) (by omega)] at hz1
     rw [← Option.some.inj hz1,rowT_len]
    omega
   rw [Nat.add_sub_cancel,range_get (rowT q n) (by omega)] at hz1
   obtain rfl:=Option.some.inj hz1
   refine j_step rfl (x_ld_vw vw_IntE 0 rfl rfl ld95 fun g1=>?_)
   dsimp only [vw_IntE,List.cons_append,List.nil_append,List.map_cons,List.map_nil]
   refine j_step rfl (x_lit sl93 zo93e rfl rfl rfl rfl (by decide) (by decide) rfl fun b6=>?_)
   refine j_run it 1 rfl (by simp) ?_
   refine j_nf [_,_,_,_,_,_,_,_] rfl ?_
   refine j_run it 1 rfl (by simp) ?_
   refine j_nf [_,_,_,_,_,_,_,_] rfl ?_
   refine j_rowlit (E:=IntE) (n:=1) [[.bool z2.1,.slice (g1 0).1 z2.2.length (g1 0).2.1]] [z2] 0 (fun w A hG=>allrd_cons (rd_pair (v1:=[.bool z2.1]) (rd_bool _) (rd_of_slF (hG _ (fact_mem (n:=0) rfl)))) allrd_nil) rfl rfl rfl rfl (by decide) ?_
   have ez : [z2] = (List.range 1).map fun k=>enz (tz q n (x + 1) k):=by
    rw [rowT,range_get _ (by omega)] at hz2
    rw [← Option.some.inj hz2];rfl
   rw [ez]
   refine j_loopG (X:=Nat × Row) [1,4,11,12,13,53,54,55,56,57,58,59,60,61,62,63,64,65] [0,1,2,3,4,5] (fun y=>[(14,.slice (ad y.2.bo) y.1 y.2.cap),(15,.int .i64 y.1)]) (fun y=>[(y.2.bo,95,y.2.cs),(some b3,95,[.bool false,.slice pa1 (limbs (q - 1)).length ca1]),(some b4,93,cs2)])
    (fun y=>[rowF IntE y.2 y.1 ((List.range y.1).map fun k=>enz (tz q n (x + 1) k))])
    (fun y=>1 ≤ y.1 ∧ y.1 ≤ n + 1) (fun y=>n + 1 - y.1) (1,⟨some b6,1,[.bool z2.1,.slice (g1 0).1 z2.2.length (g1 0).2.1]⟩) [0] rfl rfl rfl ⟨Nat.le_refl _,by dsimp only;omega⟩ (by repeat (first | exact Fr.sub_nil _ | refine Fr.sub_cons rfl ?_)) rfl rfl ?_
   rintro ⟨k,r⟩ ⟨hk1,hk2⟩ ihk
   simp only [List.cons_append,List.nil_append] at hk1 hk2 ihk ⊢
   obtain ⟨k,rfl⟩ : ∃ k',k = k' + 1:=⟨k - 1,by omega⟩
   by_cases hkl : k + 1 ≤ n
   ·refine j_rowB 0 rfl (by omega) fun b7 cap7 cs7 hr=>?_
    subst hr
    dsimp only
    have hrl:=rowT_len q n x
    have hz3 : ((List.range (k + 1)).map fun k=>enz (tz q n (x + 1) k))[k + 1 - 1]? = some (enz (tz q n (x + 1) (k + 1 - 1))):=range_get _ (by omega)
    have eA : (rowT q n x).getD (k + 1) default = enz (tz q n x (k + 1)):=range_getD _ _ (by omega)
    have eB : (rowT q n x).getD (k + 1 - 1) default = enz (tz q n x (k + 1 - 1)):=range_getD _ _ (by omega)
    have eB' : (rowT q n x).getD k default = enz (tz q n x k):=range_getD _ _ (by omega)
    have hA : ((rowT q n x).getD (k + 1) default).2.length ≤ 17:=by rw [eA];exact tz_len hq hq2 hn hx _
    have hA' : ((rowT q n x).getD (k + 1 - 1) default).2.length ≤ 17:=by rw [eB];exact tz_len hq hq2 hn hx _
    have hA3 : ((rowT q n x).getD k default).2.length ≤ 17:=by rw [eB'];exact tz_len hq hq2 hn hx _
    have hN : (enz (tz q n (x + 1) (k + 1 - 1))).2.length ≤ 17:=tz_len hq hq2 hn (by omega) _
    have hF : (limbs (q - 1)).length ≤ 1:=limbs_length_le (by omega)
    have hP : (4294967296 : Nat) ^ 18 = 4294967296 ^ 17 * 4294967296:=Nat.pow_succ ..
    have t1:=tz_lt hq hq2 hn hx (k + 1) (Nat.le_refl 17)
    have t2:=tz_lt hq hq2 hn hx (k + 1 - 1) (Nat.le_refl 17)
    have t3:=tz_lt hq hq2 hn (show x + 1 ≤ n by omega) (k + 1 - 1) (Nat.le_refl 17)
    have hM1 : (limbs (minusZ (((rowT q n x).getD (k + 1) default).1,val ((rowT q n x).getD (k + 1) default).2) (((rowT q n x).getD (k + 1 - 1) default).1,val ((rowT q n x).getD (k + 1 - 1) default).2)).2).length ≤ 18:=by
     rw [eA,eB,val_enz,val_enz]
     refine limbs_length_le ?_
     have:=minusZ_le (tz q n x (k + 1)) (tz q n x (k + 1 - 1))
     rw [hP]
     generalize (4294967296 : Nat) ^ 17 = P at *
     omega
    have hM3 : (limbs (minusZ (((rowT q n x).getD (k + 1) default).1,val ((rowT q n x).getD (k + 1) default).2) (((rowT q n x).getD k default).1,val ((rowT q n x).getD k default).2)).2).length ≤ 18:=hM1
    have hM2 : (limbs (timesZ (false,val (limbs (q - 1))) ((enz (tz q n (x + 1) (k + 1 - 1))).1,val (enz (tz q n (x + 1) (k + 1 - 1))).2)).2).length ≤ 18:=by
     rw [hq1,val_enz]
     refine limbs_length_le ?_
     rw [hP]
     show (q - 1) * (tz q n (x + 1) (k + 1 - 1)).2 < _
     rw [Nat.mul_comm]
     exact Nat.mul_lt_mul'' t3 (by omega)
    refine j_nf [_,_,_,_,_,_,_,_,_,_,_] rfl ?_
    refine j_run it 3 rfl (by simp) ?_
    refine j_nf [_,_,_,_,_,_,_,_,_,_] rfl ?_
    refine j_if rfl rfl (fun h3=>?_) (fun h3=>by exfalso;omega)
    refine j_nf [_,_,_,_,_,_,_,_,_,_,_] rfl ?_
    (apply j_drawK it mx 20;(· rfl);(· rfl))
    (apply lxk_run 3;(· rfl);(· simp))
    (apply lxk_pt;(· rfl);(· exact d_x fun _=>x_idx 4 (k + 1) rfl rfl rfl sl93 rfl (by omega) fun z1 hz4 b8 o2=>(dk_ptD default hz4 0 rfl));intro b8 o2)
    (apply lxk_vw vw_IntE;(· rfl);(· exact d_x fun _=>x_ld_vw vw_IntE 0 rfl rfl ld95 fun _=>dk_vw _);intro g2)
    dsimp only [vw_IntE,List.cons_append,List.nil_append,List.map_cons,List.map_nil]
    (apply lxk_run 2;(· rfl);(· simp))
    (apply lxk_eq (v:=Value.int IntKind.i64 ((((k + 1) - 1 : Nat)) : Int));(· rfl);(· exact d_x fun _=>x_asN it _ rfl ⟨by omega,by omega⟩ (by omega) dk_eq))
    simp only [Nat.add_sub_cancel]
    (apply lxk_pt;(· rfl);(· exact d_x fun _=>x_idx 4 (k) rfl rfl rfl sl93 rfl (by omega) fun z1 hz4 b9 o3=>(dk_ptD default hz4 0 rfl));intro b9 o3)
    (apply lxk_vw vw_IntE;(· rfl);(· exact d_x fun _=>x_ld_vw vw_IntE 0 rfl rfl ld95 fun _=>dk_vw _);intro g3)
    dsimp only [vw_IntE,List.cons_append,List.nil_append,List.map_cons,List.map_nil]
    (apply lxk_fa (val:=(fun g=>Value.agg #[Value.bool (minusZ (((rowT q n x).getD (k + 1) default).fst,val ((rowT q n x).getD (k + 1) default).snd) (((rowT q n x).getD k default).fst,val ((rowT q n x).getD k default).snd)).fst,Value.slice (g 0).fst (limbs (minusZ (((rowT q n x).getD (k + 1) default).fst,val ((rowT q n x).getD (k + 1) default).snd) (((rowT q n x).getD k default).fst,val ((rowT q n x).getD k default).snd)).snd).length (g 1).snd.fst])) (f:=(fun g=>[slF U32 (g 0).fst (limbs (minusZ (((rowT q n x).getD (k + 1) default).fst,val ((rowT q n x).getD (k + 1) default).snd) (((rowT q n x).getD k default).fst,val ((rowT q n x).getD k default).snd)).snd).length (g 1).snd.fst (limbs (minusZ (((rowT q n x).getD (k + 1) default).fst,val ((rowT q n x).getD (k + 1) default).snd) (((rowT q n x).getD k default).fst,val ((rowT q n x).getD k default).snd)).snd)]));(· rfl);(· exact d_x fun _=>x_call [2,0] rfl (S_macwilliams_minus (by omega) (by omega)) rfl (by rintro _ _ _ ⟨pag0,cag1,rfl,rfl,rfl⟩;exact fun _ _ _ hG=>⟨(fun | 0=>(pag0,0,0,[]) | 1=>(none,cag1,0,[]) | _=>default),rfl,fun g hg=>drop_own (hG _ (List.mem_append_left _ hg))⟩));intro g4;dsimp only [List.map_cons,List.map_nil])
    (apply lxk_eq;(· rfl);(· exact d_bld_all 1 rfl rfl ld95 rfl))
    (apply lxk_run 2;(· rfl);(· simp))
    (apply lxk_eq (v:=Value.int IntKind.i64 ((((k + 1) - 1 : Nat)) : Int));(· rfl);(· exact d_x fun _=>x_asN it _ rfl ⟨by omega,by omega⟩ (by omega) dk_eq))
    simp only [Nat.add_sub_cancel]
    (apply lxk_eq;(· rfl);(· exact d_x fun _=>x_idx_own (k) _ rfl rfl sl93 rfl (by omega) rfl dk_eq))
    (apply lxk_vw vw_IntE;(· rfl);(· exact d_ldR_vw vw_IntE 0 0 (k) rfl rfl rfl ld95 rfl (by assumption));intro g5)
    dsimp only [vw_IntE,List.cons_append,List.nil_append,List.map_cons,List.map_nil]
    (apply lxk_fa (val:=(fun g=>Value.agg #[Value.bool (timesZ (false,val (limbs (q - 1))) ((enz (tz q n (x + 1) (k + 1 - 1))).fst,val (enz (tz q n (x + 1) (k + 1 - 1))).snd)).fst,Value.slice (g 0).fst (limbs (timesZ (false,val (limbs (q - 1))) ((enz (tz q n (x + 1) (k + 1 - 1))).fst,val (enz (tz q n (x + 1) (k + 1 - 1))).snd)).snd).length (g 1).snd.fst])) (f:=(fun g=>[slF U32 (g 0).fst (limbs (timesZ (false,val (limbs (q - 1))) ((enz (tz q n (x + 1) (k + 1 - 1))).fst,val (enz (tz q n (x + 1) (k + 1 - 1))).snd)).snd).length (g 1).snd.fst (limbs (timesZ (false,val (limbs (q - 1))) ((enz (tz q n (x + 1) (k + 1 - 1))).fst,val (enz (tz q n (x + 1) (k + 1 - 1))).snd)).snd)]));(· rfl);(· exact d_x fun _=>x_call [12,0] rfl (S_macwilliams_times (by omega) (by omega)) rfl (by rintro _ _ _ ⟨pag0,cag1,rfl,rfl,rfl⟩;exact fun _ _ _ hG=>⟨(fun | 0=>(pag0,0,0,[]) | 1=>(none,cag1,0,[]) | _=>default),rfl,fun g hg=>drop_own (hG _ (List.mem_append_left _ hg))⟩));intro g6;dsimp only [List.map_cons,List.map_nil])
    (apply lxk_fa (val:=(fun g=>Value.agg #[Value.bool (minusZ ((minusZ (((rowT q n x).getD (k + 1) default).fst,val ((rowT q n x).getD (k + 1) default).snd) (((rowT q n x).getD k default).fst,val ((rowT q n x).getD k default).snd)).fst,val (limbs (minusZ (((rowT q n x).getD (k + 1) default).fst,val ((rowT q n x).getD (k + 1) default).snd) (((rowT q n x).getD k default).fst,val ((rowT q n x).getD k default).snd)).snd)) ((timesZ (false,val (limbs (q - 1))) ((enz (tz q n (x + 1) (k + 1 - 1))).fst,val (enz (tz q n (x + 1) (k + 1 - 1))).snd)).fst,val (limbs (timesZ (false,val (limbs (q - 1))) ((enz (tz q n (x + 1) (k + 1 - 1))).fst,val (enz (tz q n (x + 1) (k + 1 - 1))).snd)).snd))).fst,Value.slice (g 0).fst (limbs (minusZ ((minusZ (((rowT q n x).getD (k + 1) default).fst,val ((rowT q n x).getD (k + 1) default).snd) (((rowT q n x).getD k default).fst,val ((rowT q n x).getD k default).snd)).fst,val (limbs (minusZ (((rowT q n x).getD (k + 1) default).fst,val ((rowT q n x).getD (k + 1) default).snd) (((rowT q n x).getD k default).fst,val ((rowT q n x).getD k default).snd)).snd)) ((timesZ (false,val (limbs (q - 1))) ((enz (tz q n (x + 1) (k + 1 - 1))).fst,val (enz (tz q n (x + 1) (k + 1 - 1))).snd)).fst,val (limbs (timesZ (false,val (limbs (q - 1))) ((enz (tz q n (x + 1) (k + 1 - 1))).fst,val (enz (tz q n (x + 1) (k + 1 - 1))).snd)).snd))).snd).length (g 1).snd.fst])) (f:=(fun g=>[slF U32 (g 0).fst (limbs (minusZ ((minusZ (((rowT q n x).getD (k + 1) default).fst,val ((rowT q n x).getD (k + 1) default).snd) (((rowT q n x).getD k default).fst,val ((rowT q n x).getD k default).snd)).fst,val (limbs (minusZ (((rowT q n x).getD (k + 1) default).fst,val ((rowT q n x).getD (k + 1) default).snd) (((rowT q n x).getD k default).fst,val ((rowT q n x).getD k default).snd)).snd)) ((timesZ (false,val (limbs (q - 1))) ((enz (tz q n (x + 1) (k + 1 - 1))).fst,val (enz (tz q n (x + 1) (k + 1 - 1))).snd)).fst,val (limbs (timesZ (false,val (limbs (q - 1))) ((enz (tz q n (x + 1) (k + 1 - 1))).fst,val (enz (tz q n (x + 1) (k + 1 - 1))).snd)).snd))).snd).length (g 1).snd.fst (limbs (minusZ ((minusZ (((rowT q n x).getD (k + 1) default).fst,val ((rowT q n x).getD (k + 1) default).snd) (((rowT q n x).getD k default).fst,val ((rowT q n x).getD k default).snd)).fst,val (limbs (minusZ (((rowT q n x).getD (k + 1) default).fst,val ((rowT q n x).getD (k + 1) default).snd) (((rowT q n x).getD k default).fst,val ((rowT q n x).getD k default).snd)).snd)) ((timesZ (false,val (limbs (q - 1))) ((enz (tz q n (x + 1) (k + 1 - 1))).fst,val (enz (tz q n (x + 1) (k + 1 - 1))).snd)).fst,val (limbs (timesZ (false,val (limbs (q - 1))) ((enz (tz q n (x + 1) (k + 1 - 1))).fst,val (enz (tz q n (x + 1) (k + 1 - 1))).snd)).snd))).snd)]));(· rfl);(· exact d_x fun _=>x_call [2,0] rfl (S_macwilliams_minus (by omega) (by omega)) rfl (by rintro _ _ _ ⟨pag0,cag1,rfl,rfl,rfl⟩;exact fun _ _ _ hG=>⟨(fun | 0=>(pag0,0,0,[]) | 1=>(none,cag1,0,[]) | _=>default),rfl,fun g hg=>drop_own (hG _ (List.mem_append_left _ hg))⟩));intro g7;dsimp only [List.map_cons,List.map_nil])
    (apply lxk_sl;(· rfl);(· exact d_x fun _=>x_lit sl93 zo93e rfl rfl rfl rfl (by decide) (by decide) rfl fun b10=>dk_all (E:=IntE) [[Value.bool (minusZ ((minusZ (((rowT q n x).getD (k + 1) default).fst,val ((rowT q n x).getD (k + 1) default).snd) (((rowT q n x).getD k default).fst,val ((rowT q n x).getD k default).snd)).fst,val (limbs (minusZ (((rowT q n x).getD (k + 1) default).fst,val ((rowT q n x).getD (k + 1) default).snd) (((rowT q n x).getD k default).fst,val ((rowT q n x).getD k default).snd)).snd)) ((timesZ (false,val (limbs (q - 1))) ((enz (tz q n (x + 1) (k + 1 - 1))).fst,val (enz (tz q n (x + 1) (k + 1 - 1))).snd)).fst,val (limbs (timesZ (false,val (limbs (q - 1))) ((enz (tz q n (x + 1) (k + 1 - 1))).fst,val (enz (tz q n (x + 1) (k + 1 - 1))).snd)).snd))).fst,Value.slice (g7 0).fst (limbs (minusZ ((minusZ (((rowT q n x).getD (k + 1) default).fst,val ((rowT q n x).getD (k + 1) default).snd) (((rowT q n x).getD k default).fst,val ((rowT q n x).getD k default).snd)).fst,val (limbs (minusZ (((rowT q n x).getD (k + 1) default).fst,val ((rowT q n x).getD (k + 1) default).snd) (((rowT q n x).getD k default).fst,val ((rowT q n x).getD k default).snd)).snd)) ((timesZ (false,val (limbs (q - 1))) ((enz (tz q n (x + 1) (k + 1 - 1))).fst,val (enz (tz q n (x + 1) (k + 1 - 1))).snd)).fst,val (limbs (timesZ (false,val (limbs (q - 1))) ((enz (tz q n (x + 1) (k + 1 - 1))).fst,val (enz (tz q n (x + 1) (k + 1 - 1))).snd)).snd))).snd).length (g7 1).snd.fst]] [((minusZ ((minusZ (((rowT q n x).getD (k + 1) default).fst,val ((rowT q n x).getD (k + 1) default).snd) (((rowT q n x).getD k default).fst,val ((rowT q n x).getD k default).snd)).fst,val (limbs (minusZ (((rowT q n x).getD (k + 1) default).fst,val ((rowT q n x).getD (k + 1) default).snd) (((rowT q n x).getD k default).fst,val ((rowT q n x).getD k default).snd)).snd)) ((timesZ (false,val (limbs (q - 1))) ((enz (tz q n (x + 1) (k + 1 - 1))).fst,val (enz (tz q n (x + 1) (k + 1 - 1))).snd)).fst,val (limbs (timesZ (false,val (limbs (q - 1))) ((enz (tz q n (x + 1) (k + 1 - 1))).fst,val (enz (tz q n (x + 1) (k + 1 - 1))).snd)).snd))).fst,limbs (minusZ ((minusZ (((rowT q n x).getD (k + 1) default).fst,val ((rowT q n x).getD (k + 1) default).snd) (((rowT q n x).getD k default).fst,val ((rowT q n x).getD k default).snd)).fst,val (limbs (minusZ (((rowT q n x).getD (k + 1) default).fst,val ((rowT q n x).getD (k + 1) default).snd) (((rowT q n x).getD k default).fst,val ((rowT q n x).getD k default).snd)).snd)) ((timesZ (false,val (limbs (q - 1))) ((enz (tz q n (x + 1) (k + 1 - 1))).fst,val (enz (tz q n (x + 1) (k + 1 - 1))).snd)).fst,val (limbs (timesZ (false,val (limbs (q - 1))) ((enz (tz q n (x + 1) (k + 1 - 1))).fst,val (enz (tz q n (x + 1) (k + 1 - 1))).snd)).snd))).snd)] (fun w A hG=>(allrd_cons (rd_pair (v1:=[Value.bool (minusZ ((minusZ (((rowT q n x).getD (k + 1) default).fst,val ((rowT q n x).getD (k + 1) default).snd) (((rowT q n x).getD k default).fst,val ((rowT q n x).getD k default).snd)).fst,val (limbs (minusZ (((rowT q n x).getD (k + 1) default).fst,val ((rowT q n x).getD (k + 1) default).snd) (((rowT q n x).getD k default).fst,val ((rowT q n x).getD k default).snd)).snd)) ((timesZ (false,val (limbs (q - 1))) ((enz (tz q n (x + 1) (k + 1 - 1))).fst,val (enz (tz q n (x + 1) (k + 1 - 1))).snd)).fst,val (limbs (timesZ (false,val (limbs (q - 1))) ((enz (tz q n (x + 1) (k + 1 - 1))).fst,val (enz (tz q n (x + 1) (k + 1 - 1))).snd)).snd))).fst]) (rd_bool _) (rd_of_slF (hG _ (fact_mem (n:=0) rfl)))) allrd_nil)) rfl rfl rfl (by first | decide | exact Nat.le_of_ble_eq_true rfl));intro pa3 ca3)
    refine lxk_end rfl ?_
    simp only [List.map_cons,List.map_nil,List.cons_append,List.nil_append]
    refine j_step rfl (x_appS 0 9 0 rfl rfl rfl rfl rfl sl93 zo93e rfl (by omega) _ by93e (by omega) fun r1=>?_)
    refine j_run it 1 rfl (by simp) ?_
    refine j_nf [_,_,_,_,_,_,_,_,_] rfl ?_
    refine j_run it 3 rfl ⟨trivial,⟨by omega,by omega⟩,trivial,trivial⟩ ?_
    refine j_nfn 1 [.lp (pL 1037108),.blk 4,.c (pL 129639),.blk 3,.c (pL 8103),.lp (pL 1012),.blk 2,.c (pL 127)] rfl ?_
    simp only [eA,eB',val_enz,val_limbs,hq1,zs_eta,Nat.add_sub_cancel]
    rw [show ((minusZ (minusZ (tz q n x (k + 1)) (tz q n x k)) (timesZ (false,q - 1) (tz q n (x + 1) k))).1,limbs (minusZ (minusZ (tz q n x (k + 1)) (tz q n x k)) (timesZ (false,q - 1) (tz q n (x + 1) k))).2) = enz (tz q n (x + 1) (k + 1)) from rfl,← range_snoc fun k=>enz (tz q n (x + 1) k)]
    refine j_to [0,11,12,13,14,15,16] (by exact fra rfl) rfl rfl (ihk (k + 1 + 1,r1) (by dsimp only;omega) ⟨by dsimp only;omega,by dsimp only;omega⟩)
   ·obtain rfl : n = k:=by omega
    refine j_nf [_,_,_,_,_,_,_,_,_,_,_] rfl ?_
    refine j_run it 3 rfl (by simp) ?_
    refine j_nf [_,_,_,_,_,_,_,_,_,_] rfl ?_
    refine j_if rfl rfl (fun h3=>by exfalso;omega) (fun h3=>?_)
    refine j_nf [_,_,_,_,_,_] rfl ?_
    refine j_run it 2 rfl (by simp) ?_
    refine j_step rfl (x_lit sl112 zo112e rfl rfl rfl rfl (by decide) (by decide) rfl fun b7=>?_)
    refine j_pubR 1 0 rfl rfl (by show (n + 1) * 32 ≤ 140737488355328;omega) ?_
    refine j_step rfl (x_appR (z:=List.map (fun k=>enz (tz q n (x + 1) k)) (List.range (n + 1))) 2 0 6 rfl rfl rfl rfl rfl sl112 zo112e rfl (fun w A hG=>(rd_of_slF (hG _ (fact_mem (n:=0) rfl)))) (by omega) _ by112e (by omega) fun r1=>?_)
    refine j_run it 1 rfl (by simp) ?_
    refine j_nf [_,_,_,_] rfl ?_
    refine j_run it 2 rfl ⟨trivial,⟨by omega,by omega⟩,trivial⟩ ?_
    refine j_nfn 1 [.lp (pL 1012),.blk 2,.c (pL 127)] rfl ?_
    rw [show ((List.range (n + 1)).map fun k=>enz (tz q n (x + 1) k)) = rowT q n (x + 1) from rfl,← range_snoc (rowT q n)]
    refine j_toX [2,0] [0,8] (by exact fra rfl) rfl rfl rfl (ih (x + 1,r1) (by dsimp only;omega) (by dsimp only;omega))
  ·obtain rfl : x = n:=by omega
   refine j_nf [_,_,_,_,_] rfl ?_
   refine j_run it 1 rfl (by simp) ?_
   refine j_nf [_,_,_,_,_] rfl ?_
   refine j_if rfl rfl (fun h2=>by exfalso;omega) (fun h2=>?_)
   refine j_nf [_,_] rfl ?_
   refine j_run it 2 rfl (by simp) ?_
   refine j_nf [_] rfl ?_
   refine j_pubR 1 0 rfl rfl (by show (x + 1) * 24 ≤ 140737488355328;omega) ?_
   refine j_giv [0] rfl rfl rfl ⟨_,_,by rw [tabT_len];rfl,by rw [tabT_len];rfl,rfl⟩
set_option maxHeartbeats 1000000
theorem S_codewrightref01_Add {pa pb : Option Addr} {n m ca cb : Nat} {a b : List Nat} (ha : a.length ≤ 1099511627776) (hb : b.length ≤ 1099511627776) :
  Ctr Try.prog 65 [.slice pa n ca,.slice pb m cb] [] [slF U32 pa n ca a,slF U32 pb m cb b] (Sv U32 (limbs (val a + val b))):=by
 refine Ctr_of_j' (F:=F_codewrightref01_Add) rfl fun C=>?_
 refine j_len 0 rfl fun hn _ _=>?_
 refine j_len 1 rfl fun hm _ _=>?_
 subst hn;subst hm
 refine j_range 0 rfl fun hra=>?_
 refine j_range 1 rfl fun hrb=>?_
 have hra' : ∀ x ∈ a,x < 4294967296:=fun x hx=>by have:=hra x hx;simp only [InR] at this;omega
 have hrb' : ∀ x ∈ b,x < 4294967296:=fun x hx=>by have:=hrb x hx;simp only [InR] at this;omega
 obtain ⟨M,hM1,hM2,hM3⟩ : ∃ M,a.length ≤ M ∧ b.length ≤ M ∧ (M = a.length ∨ M = b.length):=⟨max a.length b.length,by omega,by omega,by omega⟩
 refine j_nf [_,_] rfl (j_run it 1 rfl (by simp) ?_)
 refine j_nf [_,_] rfl (j_run it 1 rfl (by simp) ?_)
 refine j_nf [_,_] rfl (j_run it 1 rfl (by simp) ?_)
 refine j_nf [_,_,_] rfl (j_run it 1 rfl (by simp) ?_)
 refine j_nf [_,_,_] rfl ?_
 refine j_nil 78 ?_
 refine j_loopN (X:=Nat × Nat × List Nat × Option Nat × Nat × List Value) (fun x=>[(0,.slice pa a.length ca),(1,.slice pb b.length cb),(5,.slice (ad x.2.2.2.1) x.1 x.2.2.2.2.1),(6,.int .u64 x.2.1),(7,.int .i64 x.1)])
  (fun x=>[(x.2.2.2.1,78,x.2.2.2.2.2)]) (fun _=>[slF U32 pa a.length ca a,slF U32 pb b.length cb b])
  (fun x=>(x.1 ≤ M + 1 ∧ (x.1 = M + 1 → x.2.1 = 0) ∧ x.2.1 ≤ 1 ∧ x.2.2.1.length = x.1) ∧ (∀ y ∈ x.2.2.1,y < 4294967296) ∧ val x.2.2.1 + 4294967296 ^ x.1 * x.2.1 = val (a.take x.1) + val (b.take x.1) ∧ GrOk x.2.2.2.1 x.1 x.2.2.2.2.1 1 x.2.2.2.2.2 ∧ x.2.2.2.2.2.take x.1 = natCells .u32 x.2.2.1)
  (fun x=>M + 1 - x.1) (0,0,[],none,0,[]) [0,1] rfl ⟨⟨Nat.zero_le _,fun h=>rfl,Nat.zero_le _,rfl⟩,(fun y hy=>by cases hy),by simp [val],GrOk.nil _,rfl⟩ (by repeat (first | exact Fr.sub_nil _ | refine Fr.sub_cons rfl ?_)) rfl rfl ?_
 rintro ⟨k,c,out,bo,cap,cs⟩ ⟨⟨hk,hkc,hc,hl⟩,ho,hv,hg,ht⟩ ih
 simp only at hk hkc hc hl ho hv hg ht ih ⊢
 have h1:=getD_lt (k:=k) hra' (by decide)
 have h2:=getD_lt (k:=k) hrb' (by decide)
 have step : k ≤ M → (k < a.length ∨ k < b.length ∨ 0 < c) → J F_codewrightref01_Add C [.c (pL 978),.c (pL 979),.lp (pL 244),.blk 0,.c [1,1,1,1]] [(0,.slice pa a.length ca),(1,.slice pb b.length cb),(5,.slice (ad bo) k cap),(6,.int .u64 c),(7,.int .i64 k)] [(bo,78,cs)] [slF U32 pa a.length ca a,slF U32 pb b.length cb b] (Gives C (Sv U32 (limbs (val a + val b)))):=by
  intro hkM hor
  refine j_nf [_,_,_,_,_,_,_] rfl (j_run it 2 rfl (by simp) ?_)
  refine j_step rfl (x_call [0] rfl (S_codewrightref01_limb) rfl ?_)
  rintro _ _ _ ⟨rfl,rfl,rfl⟩
  simp only [List.cons_append,List.nil_append]
  refine j_run it 2 rfl (by simp) ?_
  refine j_step rfl (x_call [1] rfl (S_codewrightref01_limb) rfl ?_)
  rintro _ _ _ ⟨rfl,rfl,rfl⟩
  simp only [List.cons_append,List.nil_append]
  refine j_run it 4 rfl ⟨trivial,⟨by omega,by omega⟩,trivial,⟨by omega,by omega⟩,trivial⟩ ?_
  refine j_nf [_,_,_,_,_,_,_] rfl (j_run it 4 rfl ⟨⟨by omega,by omega⟩,⟨by omega,by omega⟩,trivial,trivial,trivial⟩ ?_)
  refine j_step rfl (x_lit sl48 zo48e rfl rfl rfl rfl (by decide) (by decide) rfl fun b1=>?_)
  refine j_step rfl (x_app 1 0 rfl rfl rfl rfl sl48 zo48e rfl (by first | exact GrOk.nil _ | assumption | exact .inr ⟨_,rfl,Nat.le_refl _,by omega,rfl⟩) rfl rfl (by first | (simp [Value.oneCell'];done) | (simp [Value.oneCell',cellsL];done) | (intro u hu;rcases List.mem_singleton.1 hu with rfl;rfl)) (by omega) _ by48e (by omega) fun bo1 cap1 cs1 hg1 ht1=>?_)
  refine j_run it 1 rfl (by simp) ?_
  refine j_nf [_,_,_,_,_,_] rfl (j_run it 3 rfl ⟨trivial,⟨by omega,by omega,by omega,by omega⟩,trivial,trivial⟩ ?_)
  refine j_nf [_,_,_,_] rfl (j_run it 3 rfl ⟨trivial,⟨by omega,by omega⟩,trivial,trivial⟩ ?_)
  refine j_nfn 1 [.lp (pL 244),.blk 0,.c [1,1,1,1]] rfl ?_
  simp only [Nat.mul_one] at hg1 ht1
  have hs1 : (a.getD k 0 + b.getD k 0 + c) / 4294967296 ≤ 1:=by omega
  refine j_weakB (β':=[(bo1,78,cs1)]) (by simp) ?_
  refine j_to [0,1] (by exact fra rfl) rfl rfl (ih (k + 1,(a.getD k 0 + b.getD k 0 + c) / 4294967296,out++[(a.getD k 0 + b.getD k 0 + c) % 4294967296],bo1,cap1,cs1) (by simp only;omega)
   ⟨⟨by simp only;omega,(by
    intro hkM1
    have ga:=getD_ge (l:=a) (k:=k) (by omega)
    have gb:=getD_ge (l:=b) (k:=k) (by omega)
    simp only at hkM1 ⊢
    omega),hs1,by simp [hl]⟩,snoc_lt ho (by omega),by
    simp only
    rw [val_snoc,hl,Nat.pow_succ,val_take_getD,val_take_getD]
    exact carry_step hv (by omega),hg1,by
    simp only
    rw [ht1,ht,natCells_append];rfl⟩)
 by_cases hor : k < a.length ∨ k < b.length ∨ 0 < c
 ·have hkM : k ≤ M:=by
   rcases hor with h | h | h
   ·omega
   ·omega
   ·by_cases e : k = M + 1
    ·have:=hkc e;omega
    ·omega
  by_cases ka : k < a.length
  ·refine j_nf [_,_,_,_,_,_] rfl (j_run it 2 rfl (by simp) ?_)
   refine j_step rfl (x_len sl48 rfl ?_)
   refine j_run it 2 rfl (by simp) ?_
   refine j_split_dec (t:=13) rfl (fun h3=>?_) (fun h3=>by exfalso;omega)
   refine j_run it 9 rfl (by simp) ?_
   refine j_nf [_,_,_,_,_] rfl ?_
   refine j_true rfl rfl ?_
   refine j_nfn 2 [.c (pL 978),.c (pL 979),.lp (pL 244),.blk 0,.c [1,1,1,1]] rfl ?_
   refine j_to [0,1] (by exact fra rfl) rfl rfl (step hkM hor)
  ·by_cases kb : k < b.length
   ·refine j_nf [_,_,_,_,_,_] rfl (j_run it 2 rfl (by simp) ?_)
    refine j_step rfl (x_len sl48 rfl ?_)
    refine j_run it 2 rfl (by simp) ?_
    refine j_split_dec (t:=13) rfl (fun h3=>by exfalso;omega) (fun h3=>?_)
    refine j_run it 2 rfl (by simp) ?_
    refine j_gstep rfl rfl (x_len sl48 rfl ?_)
    refine j_run it 3 rfl (by simp) ?_
    refine j_split_dec (t:=19) rfl (fun h4=>?_) (fun h4=>by exfalso;omega)
    refine j_run it 3 rfl (by simp) ?_
    refine j_nf [_,_,_,_,_] rfl ?_
    refine j_true rfl rfl ?_
    refine j_nfn 2 [.c (pL 978),.c (pL 979),.lp (pL 244),.blk 0,.c [1,1,1,1]] rfl ?_
    refine j_to [0,1] (by exact fra rfl) rfl rfl (step hkM hor)
   ·have hc0 : 0 < c:=by omega
    refine j_nf [_,_,_,_,_,_] rfl (j_run it 2 rfl (by simp) ?_)
    refine j_step rfl (x_len sl48 rfl ?_)
    refine j_run it 2 rfl (by simp) ?_
    refine j_split_dec (t:=13) rfl (fun h3=>by exfalso;omega) (fun h3=>?_)
    refine j_run it 2 rfl (by simp) ?_
    refine j_gstep rfl rfl (x_len sl48 rfl ?_)
    refine j_run it 3 rfl (by simp) ?_
    refine j_split_dec (t:=19) rfl (fun h4=>by exfalso;omega) (fun h4=>?_)
    refine j_run it 3 rfl (by simp) ?_
    refine j_nf [_,_,_,_,_] rfl (j_if rfl rfl (fun h5=>?_) (fun h5=>by exfalso;omega))
    refine j_nfn 2 [.c (pL 978),.c (pL 979),.lp (pL 244),.blk 0,.c [1,1,1,1]] rfl ?_
    refine j_to [0,1] (by exact fra rfl) rfl rfl (step hkM hor)
 ·have ka : ¬ k < a.length:=by omega
  have kb : ¬ k < b.length:=by omega
  have hc0 : c = 0:=by omega
  subst hc0
  rw [List.take_of_length_le (by omega),List.take_of_length_le (by omega),Nat.mul_zero,Nat.add_zero] at hv
  refine j_pub_nat (kd:=.u32) 4 out 0 rfl hg ht hl.symm (fun x hx=>by have:=ho x hx;simp only [InR];omega) (by omega) ?_
  refine j_nf [_,_,_,_,_,_] rfl (j_run it 2 rfl (by simp) ?_)
  refine j_step rfl (x_len sl48 rfl ?_)
  refine j_run it 2 rfl (by simp) ?_
  refine j_split_dec (t:=13) rfl (fun h3=>by exfalso;omega) (fun h3=>?_)
  refine j_run it 2 rfl (by simp) ?_
  refine j_gstep rfl rfl (x_len sl48 rfl ?_)
  refine j_run it 3 rfl (by simp) ?_
  refine j_split_dec (t:=19) rfl (fun h4=>by exfalso;omega) (fun h4=>?_)
  refine j_run it 3 rfl (by simp) ?_
  refine j_nf [_,_,_,_,_] rfl (j_if rfl rfl (fun h5=>by exfalso;omega) (fun h5=>?_))
  refine j_nf [_,_] rfl (j_run it 1 rfl (by simp) ?_)
  refine j_step rfl (x_call [0] rfl (S_codewrightref01_Trim) rfl ?_)
  rintro _ _ _ ⟨pa1,ca1,rfl,rfl,rfl⟩
  simp only [List.cons_append,List.nil_append]
  refine j_run it 1 rfl (by simp) ?_
  refine j_nf [_] rfl ?_
  rw [trim_eq ho,hv]
  refine j_giv [0] rfl rfl rfl ⟨_,_,rfl,rfl,rfl⟩
theorem S_codewrightref01_Mul {pa pb : Option Addr} {n m ca cb : Nat} {a b : List Nat} (ha : a.length ≤ 1099511627776) (hb : b.length ≤ 1099511627776) :
  Ctr Try.prog 74 [.slice pa n ca,.slice pb m cb] [] [slF U32 pa n ca a,slF U32 pb m cb b] (Sv U32 (limbs (val a * val b))):=by
 refine Ctr_of_j' (F:=F_codewrightref01_Mul) rfl fun C=>?_
 refine j_len 0 rfl fun hn _ _=>?_
 refine j_len 1 rfl fun hm _ _=>?_
 subst hn;subst hm
 refine j_range 0 rfl fun hra=>?_
 refine j_range 1 rfl fun hrb=>?_
 simp only [InR] at hra hrb
 refine j_nf [_,_] rfl ?_
 refine j_run it 1 rfl (by simp) ?_
 refine j_nf [_,_] rfl ?_
 refine j_run it 1 rfl (by simp) ?_
 refine j_step rfl (x_len sl48 rfl ?_)
 refine j_run it 1 rfl (by simp) ?_
 refine j_step rfl (x_len sl48 rfl ?_)
 refine j_run it 1 rfl ⟨⟨by omega,by omega⟩,trivial⟩ ?_
 refine j_step rfl (x_make_nat ((a.length) + (b.length)) _ rfl rfl sl48 zo48e by48e (by omega) (by omega) (by omega) fun b1=>?_)
 refine j_run it 1 rfl (by simp) ?_
 refine j_nf [_,_,_] rfl ?_
 refine j_run it 1 rfl (by simp) ?_
 refine j_nf [_,_,_] rfl ?_
 refine j_loopN (X:=Nat × List Nat) (fun x=>[(0,.slice pa a.length ca),(1,.slice pb b.length cb),(5,.slice (some ⟨b1,0,none⟩) (a.length + b.length) (a.length + b.length)),(6,.int .i64 x.1)])
  (fun x=>[(some b1,78,natCells .u32 x.2)]) (fun _=>[slF U32 pa a.length ca a,slF U32 pb b.length cb b])
  (fun x=>x.1 ≤ a.length ∧ x.2.length = a.length + b.length ∧ (∀ y ∈ x.2,y < 4294967296) ∧ val (x.2.take (x.1 + b.length)) = val (a.take x.1) * val b)
  (fun x=>a.length - x.1) (0,List.replicate (a.length + b.length) 0) [0,1] rfl ⟨Nat.zero_le _,by simp,rep_lt (by decide),by simp [val,val_replicate]⟩ (by repeat (first | exact Fr.sub_nil _ | refine Fr.sub_cons rfl ?_)) rfl rfl ?_
 rintro ⟨i,v0⟩ ⟨hi,hl,ho,hv⟩ ih
 simp only at hi hl ho hv ih ⊢
 by_cases hil : i < a.length
 ·obtain ⟨z1,hz1⟩ : ∃ z,a[i]? = some z:=⟨_,List.getElem?_eq_getElem hil⟩
  have ex : a.getD i default = z1:=by rw [List.getD,hz1];rfl
  have hx:=(hra z1 (List.mem_of_getElem? hz1)).2
  refine j_nf [_,_,_,_,_,_] rfl ?_
  refine j_run it 2 rfl (by simp) ?_
  refine j_step rfl (x_len sl48 rfl ?_)
  refine j_run it 1 rfl (by simp) ?_
  refine j_nf [_,_,_,_,_] rfl ?_
  refine j_if rfl rfl (fun h1=>?_) (fun h1=>by exfalso;omega)
  refine j_nf [_,_,_,_,_,_,_] rfl ?_
  refine j_run it 1 rfl (by simp) ?_
  refine j_nf [_,_,_,_,_,_,_,_] rfl ?_
  refine j_run it 1 rfl (by simp) ?_
  refine j_nf [_,_,_,_,_,_,_,_] rfl ?_
  refine j_loopN (X:=Nat × Nat × List Nat) (fun x=>[(0,.slice pa a.length ca),(1,.slice pb b.length cb),(5,.slice (some ⟨b1,0,none⟩) (a.length + b.length) (a.length + b.length)),(6,.int .i64 i),(7,.int .u64 x.2.1),(8,.int .i64 x.1)])
   (fun x=>[(some b1,78,natCells .u32 x.2.2)]) (fun _=>[slF U32 pa a.length ca a,slF U32 pb b.length cb b])
   (fun x=>x.1 ≤ b.length ∧ x.2.2.length = a.length + b.length ∧ x.2.1 < 4294967296 ∧ (∀ y ∈ x.2.2,y < 4294967296) ∧ val (x.2.2.take (i + x.1)) + 4294967296 ^ (i + x.1) * x.2.1 = val (v0.take (i + x.1)) + 4294967296 ^ i * (z1 * val (b.take x.1)) ∧ x.2.2.drop (i + x.1) = v0.drop (i + x.1))
   (fun x=>b.length - x.1) (0,0,v0) [0,1] rfl ⟨Nat.zero_le _,hl,Nat.zero_lt_succ _,ho,by simp [val],rfl⟩ (by repeat (first | exact Fr.sub_nil _ | refine Fr.sub_cons rfl ?_)) rfl rfl ?_
  rintro ⟨j,c,out⟩ ⟨hj,hl',hc,ho',hv',hd⟩ ih'
  simp only at hj hl' hc ho' hv' hd ih' ⊢
  by_cases hjl : j < b.length
  ·obtain ⟨z2,hz2⟩ : ∃ z,b[j]? = some z:=⟨_,List.getElem?_eq_getElem hjl⟩
   have ey : b.getD j default = z2:=by rw [List.getD,hz2];rfl
   have hy:=(hrb z2 (List.mem_of_getElem? hz2)).2
   obtain ⟨z3,hz3⟩ : ∃ z,out[i + j]? = some z:=⟨_,List.getElem?_eq_getElem (show i + j < out.length by omega)⟩
   have hz3':=ho' z3 (List.mem_of_getElem? hz3)
   refine j_nf [_,_,_,_,_,_,_,_,_,_,_] rfl ?_
   refine j_run it 2 rfl (by simp) ?_
   refine j_step rfl (x_len sl48 rfl ?_)
   refine j_run it 1 rfl (by simp) ?_
   refine j_nf [_,_,_,_,_,_,_,_,_,_] rfl ?_
   refine j_if rfl rfl (fun h2=>?_) (fun h2=>by exfalso;omega)
   refine j_nf [_,_,_,_,_,_,_,_,_,_,_,_] rfl ?_
   (apply j_drawK it mx 21;(· rfl);(· rfl))
   (apply lxk_run 2;(· rfl);(· simp))
   (apply lxk_pt;(· rfl);(· exact d_x fun _=>x_idx 0 (i) rfl rfl rfl sl48 rfl (by omega) fun z4 hz4 b2 o1=>(dk_ptD default hz4 0 rfl));intro b2 o1)
   (apply lxk_eq;(· rfl);(· exact d_x fun _=>x_ld_nat 0 rfl rfl ld78 fun ⟨r1,r2⟩=>dk_eq))
   (apply lxk_run 3;(· rfl);(· exact ⟨trivial,trivial,⟨by omega,by omega⟩,trivial⟩))
   (apply lxk_pt;(· rfl);(· exact d_x fun _=>x_idx 1 (j) rfl rfl rfl sl48 rfl (by omega) fun z4 hz4 b3 o2=>(dk_ptD default hz4 0 rfl));intro b3 o2)
   (apply lxk_eq;(· rfl);(· exact d_x fun _=>x_ld_nat 0 rfl rfl ld78 fun ⟨r1,r2⟩=>dk_eq))
   (apply lxk_run 6;(· rfl);(· exact ⟨⟨by omega,by omega⟩,trivial,trivial,trivial,⟨Int.mul_nonneg (by omega) (by omega),mul64_1 (by omega) (by omega) (by omega) (by omega)⟩,⟨by omega,by omega⟩,trivial⟩))
   (apply lxk_eq;(· rfl);(· exact d_x fun _=>x_idx_own ((i) + (j)) ((i) + (j)) rfl rfl sl48 (by omega) (by omega) (Nat.mul_one _) dk_eq))
   (apply lxk_eq;(· rfl);(· exact d_bld_nat 0 rfl rfl ld78 (by assumption)))
   (apply lxk_run 4;(· rfl);(· exact ⟨⟨mul64_nnn (by omega) (by omega) (by omega) (by omega),mul64_3 (by omega) (by omega) (by omega) (by omega) (by omega) (by omega)⟩,trivial,⟨mul64_nn (by omega) (by omega) (by omega),mul64_2 (by omega) (by omega) (by omega) (by omega) (by omega)⟩,⟨by omega,by omega⟩,trivial⟩))
   refine lxk_end rfl ?_
   simp only [List.map_cons,List.map_nil,List.cons_append,List.nil_append]
   refine j_run it 1 rfl (by simp) ?_
   refine j_nf [_,_,_,_,_,_,_,_,_,_,_,_] rfl ?_
   refine j_run it 7 rfl ⟨⟨by omega,by omega⟩,⟨mul64_nnn (by omega) (by omega) (by omega) (by omega),by omega⟩,trivial,⟨by omega,by omega⟩,trivial,trivial,trivial,trivial⟩ ?_
   refine j_step rfl (x_idx_own ((i) + (j)) ((i) + (j)) rfl rfl sl48 (by omega) (by omega) (Nat.mul_one _) ?_)
   refine j_step rfl (x_bst_nat 0 (((((a.getD i default) * (b.getD j default)) + (z3)) + (c)) % 4294967296) rfl rfl rfl ld78 (by first | rfl | omega) (by first | omega | (simp;omega)) ?_)
   refine j_nf [_,_,_,_,_,_,_,_,_,_,_] rfl ?_
   refine j_run it 3 rfl ⟨trivial,⟨mul64_nnn (by omega) (by omega) (by omega) (by omega),by omega,mul64_nnn (by omega) (by omega) (by omega) (by omega),mul64_3 (by omega) (by omega) (by omega) (by omega) (by omega) (by omega)⟩,trivial,trivial⟩ ?_
   refine j_nf [_,_,_,_,_,_,_,_,_] rfl ?_
   refine j_run it 3 rfl ⟨trivial,⟨by omega,by omega⟩,trivial,trivial⟩ ?_
   refine j_nfn 1 [.lp (pL 29844),.blk 2,.c (pL 3731),.blk 1,.c (pL 467),.lp (pL 116),.blk 0,.c [1,1,1]] rfl ?_
   rw [ex,ey]
   have e3:=get_of_drop hd hz3
   refine j_to [2,3] (by exact fra rfl) rfl rfl (ih' (j + 1,(z1 * z2 + z3 + c) / 4294967296,out.set (i + j) ((z1 * z2 + z3 + c) % 4294967296)) (by simp only;omega) ⟨by simp only;omega,by simpa using hl',by
     have:=Nat.mul_le_mul (show z1 ≤ 4294967295 by omega) (show z2 ≤ 4294967295 by omega)
     simp only;omega,set_lt ho' (by omega),mul_step hv' e3 hz2 (by omega),by
     simp only
     rw [drop_set_ge (by omega),← Nat.add_assoc];exact drop_more hd⟩)
  ·refine j_nf [_,_,_,_,_,_,_,_,_,_,_] rfl ?_
   refine j_run it 2 rfl (by simp) ?_
   refine j_step rfl (x_len sl48 rfl ?_)
   refine j_run it 1 rfl (by simp) ?_
   refine j_nf [_,_,_,_,_,_,_,_,_,_] rfl ?_
   refine j_if rfl rfl (fun h2=>by exfalso;omega) (fun h2=>?_)
   refine j_nf [_,_,_,_,_,_] rfl ?_
   refine j_run it 3 rfl (by simp) ?_
   refine j_step rfl (x_len sl48 rfl ?_)
   refine j_run it 3 rfl ⟨⟨by omega,by omega⟩,trivial,⟨by omega,by omega⟩,trivial⟩ ?_
   refine j_step rfl (x_idx_own ((i) + (b.length)) ((i) + (b.length)) rfl rfl sl48 (by omega) (by omega) (Nat.mul_one _) ?_)
   refine j_step rfl (x_bst_nat 0 (c) rfl rfl rfl ld78 (by first | rfl | omega) (by first | omega | (simp;omega)) ?_)
   refine j_nf [_,_,_,_] rfl ?_
   refine j_run it 3 rfl ⟨trivial,⟨by omega,by omega⟩,trivial,trivial⟩ ?_
   refine j_nfn 1 [.lp (pL 116),.blk 0,.c [1,1,1]] rfl ?_
   have e : j = b.length:=by omega
   subst e
   refine j_to [0,1] (by exact fra rfl) rfl rfl (ih (i + 1,out.set (i + b.length) c) (by simp only;omega) ⟨by simp only;omega,by simpa using hl',set_lt ho' hc,by
     simp only
     exact mul_row (by rw [List.take_length,hv] at hv';exact hv') hz1 (by omega)⟩)
 ·refine j_nf [_,_,_,_,_,_] rfl ?_
  refine j_run it 2 rfl (by simp) ?_
  refine j_step rfl (x_len sl48 rfl ?_)
  refine j_run it 1 rfl (by simp) ?_
  refine j_nf [_,_,_,_,_] rfl ?_
  refine j_if rfl rfl (fun h1=>by exfalso;omega) (fun h1=>?_)
  refine j_nf [_,_] rfl ?_
  refine j_run it 1 rfl (by simp) ?_
  refine j_pub32 (n:=a.length + b.length) 0 rfl (by simp [*]) (by first | assumption | exact set_all (by assumption) (by omega) | (simp;omega)) (by omega) ?_
  refine j_step rfl (x_call [0] rfl (S_codewrightref01_Trim) rfl ?_)
  rintro _ _ _ ⟨pa1,ca1,rfl,rfl,rfl⟩
  simp only [List.cons_append,List.nil_append]
  refine j_run it 1 rfl (by simp) ?_
  refine j_nf [_] rfl ?_
  have e : i = a.length:=by omega
  subst e
  rw [List.take_length,List.take_of_length_le (by omega)] at hv
  rw [trim_eq ho,hv]
  refine j_giv [0] rfl rfl rfl ⟨_,_,rfl,rfl,rfl⟩
set_option maxHeartbeats 400000
theorem S_codewrightref01_Bits {pa : Option Addr} {n ca : Nat} {l : List Nat} : Ctr Try.prog 86 [.slice pa n ca] [] [slF U32 pa n ca l] (Rv (.int .i64 (bitsL l)) []):=by
 refine Ctr_of_j' (F:=F_codewrightref01_Bits) rfl fun C=>?_
 refine j_len 0 rfl fun hn hb _=>?_
 subst hn
 have hb' : l.length * 4 ≤ 140737488355328:=hb
 refine j_range 0 rfl fun hr=>?_
 simp only [InR] at hr
 have hl:=trim_length_le l
 by_cases h0 : (trim l).length = 0
 ·refine j_nf [_,_] rfl (j_run it 1 rfl (by simp) ?_)
  refine j_nf [_,_] rfl (j_run it 1 rfl (by simp) ?_)
  refine j_step rfl (x_call [0] rfl (S_codewrightref01_Trim) rfl ?_)
  rintro _ _ _ ⟨pa1,ca1,rfl,rfl,rfl⟩
  simp only [List.cons_append,List.nil_append]
  refine j_run it 1 rfl (by simp) ?_
  refine j_nf [_,_,_] rfl (j_run it 1 rfl (by simp) ?_)
  refine j_step rfl (x_len sl48 rfl ?_)
  refine j_run it 1 rfl (by simp) ?_
  refine j_nf [_,_] rfl (j_if rfl rfl (fun h1=>?_) (fun h1=>by exfalso;omega))
  refine j_nf [_,_,_] rfl (j_run it 1 rfl (by simp) ?_)
  refine j_nf [_,_] rfl ?_
  refine j_giv [] rfl rfl rfl ⟨by rw [bitsL_nil h0];rfl,rfl,rfl⟩
 ·have side2 : ∀ z,(trim l)[(trim l).length - 1]? = some z → blen z ≤ 32:=fun z hz=>blen_le (by have:=hr z (mem_trim (List.mem_of_getElem? hz));omega)
  refine j_nf [_,_] rfl (j_run it 1 rfl (by simp) ?_)
  refine j_nf [_,_] rfl (j_run it 1 rfl (by simp) ?_)
  refine j_step rfl (x_call [0] rfl (S_codewrightref01_Trim) rfl ?_)
  rintro _ _ _ ⟨pa1,ca1,rfl,rfl,rfl⟩
  simp only [List.cons_append,List.nil_append]
  refine j_run it 1 rfl (by simp) ?_
  refine j_nf [_,_,_] rfl (j_run it 1 rfl (by simp) ?_)
  refine j_step rfl (x_len sl48 rfl ?_)
  refine j_run it 1 rfl (by simp) ?_
  refine j_nf [_,_] rfl (j_if rfl rfl (fun h1=>by exfalso;omega) (fun h1=>?_))
  refine j_nf [_,_] rfl (j_run it 1 rfl (by simp) ?_)
  refine j_step rfl (x_len sl48 rfl ?_)
  refine j_run it 3 rfl ⟨trivial,⟨by omega,by omega⟩,⟨by omega,by omega⟩,trivial⟩ ?_
  refine j_nf [_,_,_] rfl (j_run it 2 rfl (by simp) ?_)
  refine j_step rfl (x_len sl48 rfl ?_)
  refine j_run it 1 rfl ⟨⟨by omega,by omega⟩,trivial⟩ ?_
  refine j_step rfl (x_idx 0 (((trim l).length) - 1) rfl rfl rfl sl48 (by omega) (by omega) fun z1 hz1 b1 o1=>?_)
  refine j_step rfl (x_ld_nat 0 rfl rfl ld78 fun ⟨r1,r2⟩=>?_)
  refine j_run it 1 rfl (by simp) ?_
  refine j_nf [_,_,_] rfl ?_
  have hs2:=side2 z1 hz1
  refine j_loopN (X:=Nat × Nat) (fun x=>[(3,.int .i64 x.1),(4,.int .u32 x.2)]) (fun _=>[]) (fun _=>[])
   (fun x=>x.1 + blen x.2 = bitsL l ∧ x.2 < 4294967296 ∧ bitsL l ≤ 32 * l.length + 32) (fun x=>x.2) (32 * ((trim l).length - 1),z1) [] rfl ⟨by rw [bitsL_top hz1],by have:=hr z1 (mem_trim (List.mem_of_getElem? hz1));simp only;omega,by rw [bitsL_top hz1];omega⟩ (by repeat (first | exact Fr.sub_nil _ | refine Fr.sub_cons rfl ?_ | refine Fr.sub_consI rfl (by omega) ?_)) rfl rfl ?_
  rintro ⟨c,x⟩ ⟨hc,hx,hbl⟩ ih
  simp only at hc hx ih ⊢
  by_cases hx0 : 0 < x
  ·rw [blen_pos (by omega)] at hc
   refine j_nf [_,_,_,_,_,_] rfl (j_run it 2 rfl (by simp) ?_)
   refine j_nf [_,_,_,_,_] rfl (j_if rfl rfl (fun h2=>?_) (fun h2=>by exfalso;omega))
   refine j_nf [_,_,_,_,_,_] rfl (j_run it 3 rfl ⟨trivial,⟨by omega,by omega⟩,trivial,trivial⟩ ?_)
   refine j_nf [_,_,_,_] rfl (j_run it 3 rfl ⟨trivial,⟨by omega,by omega,by omega,by omega⟩,trivial,trivial⟩ ?_)
   refine j_nfn 1 [.lp (pL 500),.blk 0,.c [1,1,1,1,1]] rfl ?_
   refine j_to [] (by exact fra rfl) rfl rfl (ih (c + 1,x / 2) (by simp only;omega) ⟨by simp only;omega,by simp only;omega,hbl⟩)
  ·refine j_nf [_,_,_,_,_,_] rfl (j_run it 2 rfl (by simp) ?_)
   refine j_nf [_,_,_,_,_] rfl (j_if rfl rfl (fun h2=>by exfalso;omega) (fun h2=>?_))
   refine j_nf [_,_] rfl (j_run it 2 rfl (by simp) ?_)
   refine j_nf [_] rfl ?_
   have e : x = 0:=by omega
   subst e
   rw [blen_zero] at hc
   refine j_giv [] rfl rfl rfl ⟨by rw [← hc];rfl,rfl,rfl⟩
set_option maxHeartbeats 2000000
theorem cmp_top {a b : List Nat} {k : Nat} (ha : ∀ x ∈ a,x < 4294967296) (hR : val a + val (b.take (k + 1)) = val b + val (a.take (k + 1))) (h : a.getD k 0 < b.getD k 0) : val a < val b:=by
 rw [val_take_getD,val_take_getD] at hR
 have h1 : val (a.take k) < 4294967296 ^ k:=by
  have:=val_lt (l:=a.take k) (fun x hx=>ha x (List.mem_of_mem_take hx))
  rw [List.length_take] at this
  exact Nat.lt_of_lt_of_le this (Nat.pow_le_pow_right (by decide) (Nat.min_le_left _ _))
 generalize 4294967296 ^ k = P at *
 have h2 : P * (a.getD k 0 + 1) ≤ P * b.getD k 0:=Nat.mul_le_mul_left _ h
 rw [Nat.mul_succ] at h2
 omega
theorem S_codewrightref01_Cmp {pa pb : Option Addr} {n m ca cb : Nat} {a b : List Nat} :
  Ctr Try.prog 19 [.slice pa n ca,.slice pb m cb] [] [slF U32 pa n ca a,slF U32 pb m cb b] (Rv (.int .i64 (cmpN (val a) (val b))) []):=by
 refine Ctr_of_j' (F:=F_codewrightref01_Cmp) rfl fun C=>?_
 refine j_len 0 rfl fun hn hba _=>?_
 refine j_len 1 rfl fun hm hbb _=>?_
 subst hn;subst hm
 have hba' : a.length * 4 ≤ 140737488355328:=hba
 have hbb' : b.length * 4 ≤ 140737488355328:=hbb
 refine j_range 0 rfl fun hra=>?_
 refine j_range 1 rfl fun hrb=>?_
 have ha : ∀ x ∈ a,x < 4294967296:=fun x hx=>by have:=hra x hx;simp only [InR] at this;omega
 have hb : ∀ x ∈ b,x < 4294967296:=fun x hx=>by have:=hrb x hx;simp only [InR] at this;omega
 obtain ⟨M,hM1,hM2,hM3,hM4⟩ : ∃ M : Nat,a.length ≤ M ∧ b.length ≤ M ∧ M ≤ 35184372088832 ∧ (if (a.length : Int) < b.length then (b.length : Int) else a.length) = M :=
  ⟨max a.length b.length,by omega,by omega,by omega,by split <;> omega⟩
 refine j_nf [_,_] rfl (j_run it 1 rfl (by simp) ?_)
 refine j_nf [_,_,_] rfl (j_run it 1 rfl (by simp) ?_)
 refine j_step rfl (x_len sl48 rfl ?_)
 refine j_run it 1 rfl (by simp) ?_
 refine j_step rfl (x_len sl48 rfl ?_)
 refine j_step rfl (x_max rfl rfl ?_) --ok
 rw [hM4]
 refine j_run it 2 rfl ⟨trivial,⟨by omega,by omega⟩,trivial⟩ ?_
 refine j_nf [_,_,_] rfl ?_
 refine j_loopG (X:=Nat) [0,1] [0,1] (fun k=>[(5,.int .i64 ((k : Int) - 1))]) (fun _=>[]) (fun _=>[]) (fun k=>k ≤ M ∧ val a + val (b.take k) = val b + val (a.take k)) (fun k=>k) M [] rfl rfl rfl ⟨Nat.le_refl _,by rw [List.take_of_length_le (by omega),List.take_of_length_le (by omega)];omega⟩ (by repeat (first | exact Fr.sub_nil _ | refine Fr.sub_cons rfl ?_)) rfl rfl ?_
 intro k ⟨hk,hR⟩ ih
 simp only [List.cons_append,List.nil_append] at ih ⊢
 by_cases hk0 : 0 < k
 ·obtain ⟨j,rfl⟩ : ∃ j,k = j + 1:=⟨k - 1,by omega⟩
  rw [show (((j + 1 : Nat) : Int) - 1) = (j : Int) by omega]
  by_cases h1 : a.getD j 0 < b.getD j 0
  ·rw [cmpN_lt (cmp_top ha hR h1)]
   refine j_nf [_,_,_,_,_,_] rfl (j_run it 2 rfl (by simp) ?_)
   refine j_nf [_,_,_,_,_] rfl (j_if rfl rfl (fun h2=>?_) (fun h2=>by exfalso;omega))
   refine j_nf [_,_,_,_,_,_,_,_] rfl (j_run it 2 rfl (by simp) ?_)
   refine j_step rfl (x_call [0] rfl (S_codewrightref01_limb) rfl ?_)
   rintro _ _ _ ⟨rfl,rfl,rfl⟩
   simp only [List.cons_append,List.nil_append]
   refine j_run it 2 rfl (by simp) ?_
   refine j_step rfl (x_call [1] rfl (S_codewrightref01_limb) rfl ?_)
   rintro _ _ _ ⟨rfl,rfl,rfl⟩
   simp only [List.cons_append,List.nil_append]
   refine j_run it 1 rfl (by simp) ?_
   refine j_nf [_,_,_,_,_,_,_] rfl (j_if rfl rfl (fun h3=>?_) (fun h3=>by exfalso;omega))
   refine j_nf [_,_,_,_,_,_,_,_] rfl (j_run it 1 rfl (by simp) ?_)
   refine j_nf [_,_,_,_,_,_,_] rfl ?_
   refine j_giv [] rfl rfl rfl ⟨rfl,rfl,rfl⟩
  by_cases h2 : b.getD j 0 < a.getD j 0
  ·rw [cmpN_gt (cmp_top hb hR.symm h2)]
   refine j_nf [_,_,_,_,_,_] rfl (j_run it 2 rfl (by simp) ?_)
   refine j_nf [_,_,_,_,_] rfl (j_if rfl rfl (fun h3=>?_) (fun h3=>by exfalso;omega))
   refine j_nf [_,_,_,_,_,_,_,_] rfl (j_run it 2 rfl (by simp) ?_)
   refine j_step rfl (x_call [0] rfl (S_codewrightref01_limb) rfl ?_)
   rintro _ _ _ ⟨rfl,rfl,rfl⟩
   simp only [List.cons_append,List.nil_append]
   refine j_run it 2 rfl (by simp) ?_
   refine j_step rfl (x_call [1] rfl (S_codewrightref01_limb) rfl ?_)
   rintro _ _ _ ⟨rfl,rfl,rfl⟩
   simp only [List.cons_append,List.nil_append]
   refine j_run it 1 rfl (by simp) ?_
   refine j_nf [_,_,_,_,_,_,_] rfl (j_if rfl rfl (fun h4=>by exfalso;omega) (fun h4=>?_))
   refine j_nf [_,_,_,_,_,_,_] rfl (j_run it 2 rfl (by simp) ?_)
   refine j_step rfl (x_call [0] rfl (S_codewrightref01_limb) rfl ?_)
   rintro _ _ _ ⟨rfl,rfl,rfl⟩
   simp only [List.cons_append,List.nil_append]
   refine j_run it 2 rfl (by simp) ?_
   refine j_step rfl (x_call [1] rfl (S_codewrightref01_limb) rfl ?_)
   rintro _ _ _ ⟨rfl,rfl,rfl⟩
   simp only [List.cons_append,List.nil_append]
   refine j_run it 1 rfl (by simp) ?_
   refine j_nf [_,_,_,_,_,_] rfl (j_if rfl rfl (fun h5=>?_) (fun h5=>by exfalso;omega))
   refine j_nf [_,_,_,_,_,_,_] rfl (j_run it 1 rfl (by simp) ?_)
   refine j_nf [_,_,_,_,_,_] rfl ?_
   refine j_giv [] rfl rfl rfl ⟨rfl,rfl,rfl⟩
  ·refine j_nf [_,_,_,_,_,_] rfl (j_run it 2 rfl (by simp) ?_)
   refine j_nf [_,_,_,_,_] rfl (j_if rfl rfl (fun h3=>?_) (fun h3=>by exfalso;omega))
   refine j_nf [_,_,_,_,_,_,_,_] rfl (j_run it 2 rfl (by simp) ?_)
   refine j_step rfl (x_call [0] rfl (S_codewrightref01_limb) rfl ?_)
   rintro _ _ _ ⟨rfl,rfl,rfl⟩
   simp only [List.cons_append,List.nil_append]
   refine j_run it 2 rfl (by simp) ?_
   refine j_step rfl (x_call [1] rfl (S_codewrightref01_limb) rfl ?_)
   rintro _ _ _ ⟨rfl,rfl,rfl⟩
   simp only [List.cons_append,List.nil_append]
   refine j_run it 1 rfl (by simp) ?_
   refine j_nf [_,_,_,_,_,_,_] rfl (j_if rfl rfl (fun h4=>by exfalso;omega) (fun h4=>?_))
   refine j_nf [_,_,_,_,_,_,_] rfl (j_run it 2 rfl (by simp) ?_)
   refine j_step rfl (x_call [0] rfl (S_codewrightref01_limb) rfl ?_)
   rintro _ _ _ ⟨rfl,rfl,rfl⟩
   simp only [List.cons_append,List.nil_append]
   refine j_run it 2 rfl (by simp) ?_
   refine j_step rfl (x_call [1] rfl (S_codewrightref01_limb) rfl ?_)
   rintro _ _ _ ⟨rfl,rfl,rfl⟩
   simp only [List.cons_append,List.nil_append]
   refine j_run it 1 rfl (by simp) ?_
   refine j_nf [_,_,_,_,_,_] rfl (j_if rfl rfl (fun h5=>by exfalso;omega) (fun h5=>?_))
   refine j_nf [_,_,_,_] rfl (j_run it 3 rfl ⟨trivial,⟨by omega,by omega⟩,trivial,trivial⟩ ?_)
   refine j_nfn 1 [.lp [1,0,1,0,0],.blk 0,.c [1,1]] rfl ?_
   refine j_to [0,1] (by exact fra rfl) rfl rfl (ih j (by omega) ⟨by omega,by
    rw [val_take_getD,val_take_getD] at hR
    have e : a.getD j 0 = b.getD j 0:=by omega
    rw [e] at hR
    omega⟩)
 ·have : k = 0:=by omega
  subst this
  have e : val a = val b:=by simp [val] at hR;exact hR
  rw [cmpN_eq e]
  refine j_nf [_,_,_,_,_,_] rfl (j_run it 2 rfl (by simp) ?_)
  refine j_nf [_,_,_,_,_] rfl (j_if rfl rfl (fun h1=>by exfalso;omega) (fun h1=>?_))
  refine j_nf [_,_] rfl (j_run it 1 rfl (by simp) ?_)
  refine j_nf [_] rfl ?_
  refine j_giv [] rfl rfl rfl ⟨rfl,rfl,rfl⟩
theorem S_codewrightref01_Sub {pa pb : Option Addr} {n m ca cb : Nat} {a b : List Nat} (hab : val b ≤ val a) :
  Ctr Try.prog 88 [.slice pa n ca,.slice pb m cb] [] [slF U32 pa n ca a,slF U32 pb m cb b] (Sv U32 (limbs (val a - val b))):=by
 refine Ctr_of_j' (F:=F_codewrightref01_Sub) rfl fun C=>?_
 refine j_len 0 rfl fun hn hba _=>?_
 refine j_len 1 rfl fun hm _ _=>?_
 subst hn;subst hm
 have hba' : a.length * 4 ≤ 140737488355328:=hba
 refine j_range 0 rfl fun hra=>?_
 refine j_range 1 rfl fun hrb=>?_
 have ha : ∀ x ∈ a,x < 4294967296:=fun x hx=>by have:=hra x hx;simp only [InR] at this;omega
 have hb : ∀ x ∈ b,x < 4294967296:=fun x hx=>by have:=hrb x hx;simp only [InR] at this;omega
 refine j_nf [_,_] rfl (j_run it 1 rfl (by simp) ?_)
 refine j_nf [_,_] rfl (j_run it 1 rfl (by simp) ?_)
 refine j_nf [_,_] rfl (j_run it 1 rfl (by simp) ?_)
 refine j_nf [_,_,_] rfl (j_run it 1 rfl (by simp) ?_)
 refine j_nf [_,_,_] rfl ?_
 refine j_nil 78 ?_
 refine j_loopG (X:=Nat × Nat × List Nat × Option Nat × Nat × List Value) [0,1,4] [0,1] (fun x=>[(5,.slice (ad x.2.2.2.1) x.1 x.2.2.2.2.1),(6,.int .u64 x.2.1),(7,.int .i64 x.1)])
  (fun x=>[(x.2.2.2.1,78,x.2.2.2.2.2)]) (fun _=>[])
  (fun x=>(x.1 ≤ a.length ∧ x.2.1 ≤ 1 ∧ x.2.2.1.length = x.1) ∧ (∀ y ∈ x.2.2.1,y < 4294967296) ∧ val x.2.2.1 + val (b.take x.1) = val (a.take x.1) + 4294967296 ^ x.1 * x.2.1 ∧ GrOk x.2.2.2.1 x.1 x.2.2.2.2.1 1 x.2.2.2.2.2 ∧ x.2.2.2.2.2.take x.1 = natCells .u32 x.2.2.1)
  (fun x=>a.length - x.1) (0,0,[],none,0,[]) [] rfl rfl rfl ⟨⟨Nat.zero_le _,Nat.zero_le _,rfl⟩,(fun y hy=>by cases hy),by simp [val],GrOk.nil _,rfl⟩ (by repeat (first | exact Fr.sub_nil _ | refine Fr.sub_cons rfl ?_)) rfl rfl ?_
 rintro ⟨k,c,out,bo,cap,cs⟩ ⟨⟨hk,hc,hl⟩,ho,hv,hg,ht⟩ ih
 simp only [List.cons_append,List.nil_append] at hk hc hl ho hv hg ht ih ⊢
 by_cases hkl : k < a.length
 ·have h1:=getD_lt (k:=k) ha (by decide)
  have h2:=getD_lt (k:=k) hb (by decide)
  refine j_nf [_,_,_,_,_,_] rfl (j_run it 2 rfl (by simp) ?_)
  refine j_step rfl (x_len sl48 rfl ?_)
  refine j_run it 1 rfl (by simp) ?_
  refine j_nf [_,_,_,_,_] rfl (j_if rfl rfl (fun h3=>?_) (fun h3=>by exfalso;omega))
  refine j_nf [_,_,_,_,_,_,_] rfl (j_run it 2 rfl (by simp) ?_)
  refine j_step rfl (x_call [0] rfl (S_codewrightref01_limb) rfl ?_)
  rintro _ _ _ ⟨rfl,rfl,rfl⟩
  simp only [List.cons_append,List.nil_append]
  refine j_run it 3 rfl ⟨trivial,trivial,⟨by omega,by omega⟩,trivial⟩ ?_
  refine j_step rfl (x_call [1] rfl (S_codewrightref01_limb) rfl ?_)
  rintro _ _ _ ⟨rfl,rfl,rfl⟩
  simp only [List.cons_append,List.nil_append]
  refine j_run it 4 rfl ⟨trivial,⟨by omega,by omega⟩,trivial,⟨by omega,by omega⟩,trivial⟩ ?_
  refine j_nf [_,_,_,_,_,_,_] rfl (j_run it 4 rfl ⟨⟨by omega,by omega⟩,⟨by omega,by omega⟩,trivial,trivial,trivial⟩ ?_)
  refine j_step rfl (x_lit sl48 zo48e rfl rfl rfl rfl (by decide) (by decide) rfl fun b1=>?_)
  refine j_step rfl (x_app 1 0 rfl rfl rfl rfl sl48 zo48e rfl (by first | exact GrOk.nil _ | assumption | exact .inr ⟨_,rfl,Nat.le_refl _,by omega,rfl⟩) rfl rfl (by first | (simp [Value.oneCell'];done) | (simp [Value.oneCell',cellsL];done) | (intro u hu;rcases List.mem_singleton.1 hu with rfl;rfl)) (by omega) _ by48e (by omega) fun bo1 cap1 cs1 hg1 ht1=>?_)
  refine j_run it 1 rfl (by simp) ?_
  refine j_nf [_,_,_,_,_,_] rfl (j_run it 4 rfl ⟨trivial,⟨by omega,by omega⟩,⟨by omega,by omega,by omega,by omega⟩,trivial,trivial⟩ ?_)
  refine j_nf [_,_,_,_] rfl (j_run it 3 rfl ⟨trivial,⟨by omega,by omega⟩,trivial,trivial⟩ ?_)
  refine j_nfn 1 [.lp (pL 244),.blk 0,.c [1,1,1,1]] rfl ?_
  simp only [Nat.mul_one] at hg1 ht1
  have hcell : ((a.getD k 0 : Int) + 4294967296 - b.getD k 0 - c) % 4294967296 = ((a.getD k 0 + 4294967296 - b.getD k 0 - c) % 4294967296 : Nat):=by omega
  have hbor : (1 - ((a.getD k 0 : Int) + 4294967296 - b.getD k 0 - c) / 4294967296) = ((1 - (a.getD k 0 + 4294967296 - b.getD k 0 - c) / 4294967296 : Nat) : Int):=by omega
  rw [hbor]
  obtain ⟨hw1,hw2⟩:=sub_word h1 h2 hc rfl
  have hst:=sub_step hv hc h1 h2 rfl
  have hwB : (a.getD k 0 + 4294967296 - b.getD k 0 - c) % 4294967296 < 4294967296:=Nat.mod_lt _ (by decide)
  refine j_toM [true,false] [0,1] (by exact fra rfl) rfl rfl (ih (k + 1,1 - (a.getD k 0 + 4294967296 - b.getD k 0 - c) / 4294967296,out++[(a.getD k 0 + 4294967296 - b.getD k 0 - c) % 4294967296],bo1,cap1,cs1) (by simp only;omega)
   ⟨⟨by simp only;omega,hw2,by simp [hl]⟩,snoc_lt ho hwB,by
    simp only
    rw [val_snoc,hl,Nat.pow_succ,val_take_getD,val_take_getD]
    exact hst,hg1,by
    simp only
    rw [ht1,ht,natCells_append]
    congr 1
    simp only [List.flatten_cons,List.flatten_nil,List.append_nil,cellsL,natCells,List.map_cons,List.map_nil]
    rw [hcell];rfl⟩)
 ·have ek : k = a.length:=by omega
  subst ek
  rw [List.take_length] at hv
  obtain ⟨-,hres⟩:=sub_end ho hl hc hab hv
  refine j_nf [_,_,_,_,_,_] rfl (j_run it 2 rfl (by simp) ?_)
  refine j_step rfl (x_len sl48 rfl ?_)
  refine j_run it 1 rfl (by simp) ?_
  refine j_nf [_,_,_,_,_] rfl (j_if rfl rfl (fun h1=>by exfalso;omega) (fun h1=>?_))
  refine j_nf [_,_] rfl (j_run it 1 rfl (by simp) ?_)
  refine j_pub_nat (kd:=.u32) 4 out 0 rfl hg ht hl.symm (fun x hx=>by have:=ho x hx;simp only [InR];omega) (by omega) ?_
  refine j_step rfl (x_call [0] rfl (S_codewrightref01_Trim) rfl ?_)
  rintro _ _ _ ⟨pa1,ca1,rfl,rfl,rfl⟩
  simp only [List.cons_append,List.nil_append]
  refine j_run it 1 rfl (by simp) ?_
  refine j_nf [_] rfl ?_
  rw [trim_eq ho,hres]
  refine j_giv [0] rfl rfl rfl ⟨_,_,rfl,rfl,rfl⟩
theorem natCells_snoc (k : IntKind) (l : List Nat) (x : Nat) : natCells k (l++[x]) = natCells k l++[.int k x]:=by simp [natCells]
theorem val_zeros_append (n : Nat) (l : List Nat) : val (List.replicate n 0++l) = 4294967296 ^ n * val l:=by
 rw [val_append,val_replicate,List.length_replicate,Nat.zero_add]
theorem S_codewrightref01_shift {pa : Option Addr} {m ca n : Nat} {a : List Nat} (ha : a.length ≤ 1073741824) (hn : n ≤ 1099511627776) :
  Ctr Try.prog 87 [.slice pa m ca,.int .i64 n] [] [slF U32 pa m ca a] (Sv U32 (limbs (val a * 2 ^ n))):=by
 refine Ctr_of_j' (F:=F_codewrightref01_shift) rfl fun C=>?_
 refine j_len 0 rfl fun hm hba _=>?_
 subst hm
 refine j_range 0 rfl fun hra=>?_
 have hra' : ∀ x ∈ a,x < 4294967296:=fun x hx=>by have:=hra x hx;simp only [InR] at this;omega
 have hs : n % 32 < 32:=Nat.mod_lt _ (by decide)
 have hdiv : ((n : Int) / 32) = ((n / 32 : Nat) : Int):=by omega
 have hmod : ((n : Int) % 32) = ((n % 32 : Nat) : Int):=by omega
 have hpow : 2 ^ n = 4294967296 ^ (n / 32) * 2 ^ (n % 32):=by
  rw [show (4294967296 : Nat) = 2 ^ 32 from rfl,← Nat.pow_mul,← Nat.pow_add]
  congr 1;omega
 refine j_nf [_,_] rfl (j_run it 1 rfl (by simp) ?_)
 refine j_nf [_,_] rfl (j_run it 2 rfl ⟨⟨by omega,by omega,by omega,by omega⟩,trivial,trivial⟩ ?_)
 refine j_step rfl (x_make_nat ((n) / 32) _ rfl rfl sl48 zo48e by48e (by omega) (by omega) (by omega) fun b1=>?_)
 refine j_run it 1 rfl (by simp) ?_
 refine j_nf [_,_] rfl (j_run it 1 rfl (by simp) ?_)
 refine j_nf [_,_,_] rfl (j_run it 1 rfl (by simp) ?_)
 refine j_nf [_,_,_] rfl ?_
 refine j_loopG (X:=Nat × Nat × List Nat × Option Nat × Nat × List Value) [0,1,4] [0] (fun x=>[(5,.slice (ad x.2.2.2.1) (n / 32 + x.1) x.2.2.2.2.1),(6,.int .u64 x.2.1),(7,.int .i64 x.1)])
  (fun x=>[(x.2.2.2.1,78,x.2.2.2.2.2)]) (fun _=>[])
  (fun x=>(x.1 ≤ a.length ∧ x.2.1 < 2 ^ (n % 32) ∧ x.2.2.1.length = x.1) ∧ (∀ y ∈ x.2.2.1,y < 4294967296) ∧ val x.2.2.1 + 4294967296 ^ x.1 * x.2.1 = val (a.take x.1) * 2 ^ (n % 32) ∧ GrOk x.2.2.2.1 (n / 32 + x.1) x.2.2.2.2.1 1 x.2.2.2.2.2 ∧ x.2.2.2.2.2.take (n / 32 + x.1) = natCells .u32 (List.replicate (n / 32) 0++x.2.2.1))
  (fun x=>a.length - x.1) (0,0,[],some b1,n / 32,natCells .u32 (List.replicate (n / 32) 0)) [] rfl rfl rfl ⟨⟨Nat.zero_le _,Nat.pow_pos (by decide),rfl⟩,(fun y hy=>by cases hy),by simp [val],.inr ⟨b1,rfl,Nat.le_refl _,by dsimp only;omega,by simp⟩,by simp [natCells_take]⟩ (by repeat (first | exact Fr.sub_nil _ | refine Fr.sub_cons rfl ?_)) rfl rfl ?_
 rintro ⟨k,c,out,bo,cap,cs⟩ ⟨⟨hk,hc,hl⟩,ho,hv,hg,ht⟩ ih
 simp only [List.cons_append,List.nil_append] at hk hc hl ho hv hg ht ih ⊢
 by_cases hkl : k < a.length
 ·refine j_nf [_,_,_,_,_,_] rfl (j_run it 2 rfl (by simp) ?_)
  refine j_step rfl (x_len sl48 rfl ?_)
  refine j_run it 1 rfl (by simp) ?_
  refine j_nf [_,_,_,_,_] rfl (j_if rfl rfl (fun h1=>?_) (fun h1=>by exfalso;omega))
  refine j_nf [_,_,_,_,_,_,_] rfl (j_run it 2 rfl (by simp) ?_)
  refine j_step rfl (x_idx 0 (k) rfl rfl rfl sl48 rfl (by omega) fun z1 hz1 b2 o1=>?_)
  refine j_step rfl (x_ld_nat 0 rfl rfl ld78 fun ⟨r1,r2⟩=>?_)
  refine j_run it 3 rfl ⟨⟨by omega,by omega⟩,trivial,⟨by omega,by omega⟩,trivial⟩ ?_ --ok
  have hxl:=hra' _ (List.mem_of_getElem? hz1)
  obtain ⟨hs1,hs2,hs3⟩:=shl_lt hxl hs
  refine j_step rfl (x_shl_nat (z1) ((n) % 32) rfl rfl (by first | rfl | omega) (by first | rfl | omega) (by first | decide | (simp only [IntKind.bits];omega)) (by first | assumption | (simp only [InR];omega)) ?_)
  refine j_run it 3 rfl ⟨trivial,⟨by omega,by omega⟩,trivial,trivial⟩ ?_
  refine j_nf [_,_,_,_,_,_,_] rfl (j_run it 4 rfl ⟨⟨by omega,by omega⟩,⟨by omega,by omega⟩,trivial,trivial,trivial⟩ ?_)
  refine j_step rfl (x_lit sl48 zo48e rfl rfl rfl rfl (by decide) (by decide) rfl fun b3=>?_)
  refine j_step rfl (x_app 1 0 rfl rfl rfl rfl sl48 zo48e rfl (by first | exact GrOk.nil _ | assumption | exact .inr ⟨_,rfl,Nat.le_refl _,by omega,rfl⟩) rfl rfl (by first | (simp [Value.oneCell'];done) | (simp [Value.oneCell',cellsL];done) | (intro u hu;rcases List.mem_singleton.1 hu with rfl;rfl)) (by omega) _ by48e (by omega) fun bo1 cap1 cs1 hg1 ht1=>?_)
  refine j_run it 1 rfl (by simp) ?_
  refine j_nf [_,_,_,_,_,_] rfl (j_run it 3 rfl ⟨trivial,⟨by omega,by omega,by omega,by omega⟩,trivial,trivial⟩ ?_)
  refine j_nf [_,_,_,_] rfl (j_run it 3 rfl ⟨trivial,⟨by omega,by omega⟩,trivial,trivial⟩ ?_)
  refine j_nfn 1 [.lp (pL 244),.blk 0,.c [1,1,1,1]] rfl ?_
  simp only [Nat.mul_one] at hg1 ht1
  have hdv : (z1 * 2 ^ (n % 32) + c) / 4294967296 < 2 ^ (n % 32):=by
   rw [Nat.div_lt_iff_lt_mul (by decide)]
   have:=Nat.mul_le_mul_right (2 ^ (n % 32)) hxl
   rw [Nat.succ_mul] at this
   omega
  have hmB : (z1 * 2 ^ (n % 32) + c) % 4294967296 < 4294967296:=Nat.mod_lt _ (by decide)
  refine j_toM [true,false] [1] (by exact fra rfl) rfl rfl (ih (k + 1,(z1 * 2 ^ (n % 32) + c) / 4294967296,out++[(z1 * 2 ^ (n % 32) + c) % 4294967296],bo1,cap1,cs1) (by simp only;omega)
   ⟨⟨by simp only;omega,hdv,by simp [hl]⟩,snoc_lt ho hmB,by
    simp only
    rw [val_snoc,hl,Nat.pow_succ,val_take_succ hz1,Nat.add_mul]
    generalize hS : z1 * 2 ^ (n % 32) + c = s
    have e : s % 4294967296 + 4294967296 * (s / 4294967296) = s:=by omega
    have e2 : 4294967296 ^ k * (s % 4294967296) + 4294967296 ^ k * 4294967296 * (s / 4294967296) = 4294967296 ^ k * (z1 * 2 ^ (n % 32)) + 4294967296 ^ k * c:=by
     rw [Nat.mul_assoc,← Nat.mul_add,← Nat.mul_add,e,hS]
    rw [Nat.mul_assoc (4294967296 ^ k) z1]
    omega,hg1,by
    simp only
    rw [← Nat.add_assoc,ht1,ht,← List.append_assoc,natCells_snoc];rfl⟩)
 ·have ek : k = a.length:=by omega
  subst ek
  obtain ⟨_,_,hs3⟩:=shl_lt (x:=0) (by decide) hs
  rw [List.take_length] at hv
  refine j_nf [_,_,_,_,_,_] rfl (j_run it 2 rfl (by simp) ?_)
  refine j_step rfl (x_len sl48 rfl ?_)
  refine j_run it 1 rfl (by simp) ?_
  refine j_nf [_,_,_,_,_] rfl (j_if rfl rfl (fun h1=>by exfalso;omega) (fun h1=>?_))
  refine j_nf [_,_] rfl (j_run it 3 rfl ⟨⟨by omega,by omega⟩,trivial,trivial,trivial⟩ ?_)
  refine j_step rfl (x_lit sl48 zo48e rfl rfl rfl rfl (by decide) (by decide) rfl fun b2=>?_)
  refine j_step rfl (x_app 1 0 rfl rfl rfl rfl sl48 zo48e rfl (by first | exact GrOk.nil _ | assumption | exact .inr ⟨_,rfl,Nat.le_refl _,by omega,rfl⟩) rfl rfl (by first | (simp [Value.oneCell'];done) | (simp [Value.oneCell',cellsL];done) | (intro u hu;rcases List.mem_singleton.1 hu with rfl;rfl)) (by omega) _ by48e (by omega) fun bo1 cap1 cs1 hg1 ht1=>?_)
  simp only [Nat.mul_one] at hg1 ht1
  refine j_pub_nat (kd:=.u32) 4 (List.replicate (n / 32) 0++(out++[c])) 0 rfl hg1 (by rw [ht1,ht,← List.append_assoc,natCells_snoc];rfl) (by simp [hl];omega) (fun x hx=>by
   simp only [List.mem_append,List.mem_replicate,List.mem_singleton] at hx
   rcases hx with ⟨_,rfl⟩ | hx | rfl
   ·simp [InR]
   ·have:=ho x hx;simp only [InR];omega
   ·simp only [InR];omega) (by omega) ?_
  have hall : ∀ x ∈ List.replicate (n / 32) 0++(out++[c]),x < 4294967296:=fun x hx=>by
   simp only [List.mem_append,List.mem_replicate,List.mem_singleton] at hx
   rcases hx with ⟨_,rfl⟩ | hx | rfl
   ·decide
   ·exact ho x hx
   ·omega
  refine j_step rfl (x_call [0] rfl (S_codewrightref01_Trim) rfl ?_)
  rintro _ _ _ ⟨pa1,ca1,rfl,rfl,rfl⟩
  simp only [List.cons_append,List.nil_append]
  refine j_run it 1 rfl (by simp) ?_
  refine j_nf [_] rfl ?_
  rw [trim_eq hall,val_zeros_append,val_snoc,hl,hv,hpow]
  rw [show 4294967296 ^ (n / 32) * (val a * 2 ^ (n % 32)) = val a * (4294967296 ^ (n / 32) * 2 ^ (n % 32)) by simp only [Nat.mul_left_comm]]
  refine j_giv [0] rfl rfl rfl ⟨_,_,rfl,rfl,rfl⟩
end Go.Proofs.Ytmhcfhddmkhaiaa
