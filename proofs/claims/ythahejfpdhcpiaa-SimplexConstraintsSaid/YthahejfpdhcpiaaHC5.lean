/-
The document's power. The document's Cmp and Sub. The document's shift. The document's DivMod and Gcd. The document's fractions: Make, Trim, Sign, Neg, Mul. The document's fractions: Add, Sub, Cmp. The negatives of a row of fractions, the program's and the document's. The frame's last text: from a contract of a law to the given statement: arguments are opened, and read the same afterwards. Check of a linear program, the program's and the document's: the contracts. The dual of a linear program, the program's and the document's. The document's fractions compared as data. Linear programs compared, made canonical, and looked at for their size. The sizes that a statement looks at: short, Small, fits. The document's integers among the fractions: abs, Of, Int, Nat, Nil; Order. Sums of products of two rows of fractions: rational.Dot, simplex.product, the document's Dot. The program's tests of linear programs: positive, feasible, column, covers. The program's Value and Accept. The fits of the laws on linear programs, with lists. The example of the laws on linear programs: one. What accepted solutions say: weak duality, the lemma of Farkas, rays, slackness, one kind and one value. Quotients, nought and one of the layers rational and simplex.
-/
import Derived.SizedLaws
import Derived.OpenShut
import Derived.ChangeOld
import Derived.Carry
import Derived.ChangeArms
import Derived.Deep.Slices
import Derived.Test.YthahejfpdhcpiaaHC4
set_option linter.unusedVariables false
set_option linter.unusedSimpArgs false

namespace Go.Proofs.Ythahejfpdhcpiaa
open Go Go.Fw
set_option maxRecDepth 100000
set_option linter.unusedVariables false
set_option linter.unusedSimpArgs false
set_option maxHeartbeats 400000
theorem S_codewrightref01_Bits {pa : Option Addr} {n ca : Nat} {l : List Nat} : Ctr Try.prog 98 [.slice pa n ca] [] [slF U32 pa n ca l] (Rv (.int .i64 (bitsL l)) []):=by
 refine Ctr_of_j' (F:=F_codewrightref01_Bits) rfl fun C=>?_
 refine j_len 0 rfl fun hn hb _=>?_
 subst hn
 have hb' : l.length * 4 ≤ 140737488355328:=hb
 refine j_range 0 rfl fun hr=>?_
 simp only [InR] at hr
 have hl:=trim_length_le l
 by_cases h0 : (trim l).length = 0
 ·refine j_nf [.o [0] 0,.c [1]] rfl ?_
  refine j_run it 1 rfl (by simp) ?_
  refine j_nf [.o [1,0] 0,.c [1,1]] rfl ?_
  refine j_run it 1 rfl (by simp) ?_
  refine j_step rfl (x_call [0] rfl (S_codewrightref01_Trim) rfl ?_)
  rintro _ _ _ ⟨pa1,ca1,rfl,rfl,rfl⟩
  simp only [List.cons_append,List.nil_append]
  refine j_run it 1 rfl (by simp) ?_
  refine j_nf [.o [1,1,0,0] 0,.c [1,1,0,1],.c [1,1,1]] rfl ?_
  refine j_run it 1 rfl (by simp) ?_
  refine j_step rfl (x_len sl42 rfl ?_)
  refine j_run it 1 rfl (by simp) ?_
  refine j_nf [.c [1,1,0,1],.c [1,1,1]] rfl ?_
  refine j_if rfl rfl (fun h1=>?_) (fun h1=>by exfalso;omega)
  refine j_nf [.o (pL 116) 0,.c (pL 117),.c [1,1,1]] rfl ?_
  refine j_run it 1 rfl (by simp) ?_
  refine j_nf [.c (pL 117),.c [1,1,1]] rfl ?_
  refine j_giv [] rfl rfl rfl ⟨by rw [bitsL_nil h0];rfl,rfl,rfl⟩
 ·have side2 : ∀ z,(trim l)[(trim l).length - 1]? = some z → blen z ≤ 32:=fun z hz=>blen_le (by have:=hr z (mem_trim (List.mem_of_getElem? hz));omega)
  refine j_nf [.o [0] 0,.c [1]] rfl ?_
  refine j_run it 1 rfl (by simp) ?_
  refine j_nf [.o [1,0] 0,.c [1,1]] rfl ?_
  refine j_run it 1 rfl (by simp) ?_
  refine j_step rfl (x_call [0] rfl (S_codewrightref01_Trim) rfl ?_)
  rintro _ _ _ ⟨pa1,ca1,rfl,rfl,rfl⟩
  simp only [List.cons_append,List.nil_append]
  refine j_run it 1 rfl (by simp) ?_
  refine j_nf [.o [1,1,0,0] 0,.c [1,1,0,1],.c [1,1,1]] rfl ?_
  refine j_run it 1 rfl (by simp) ?_
  refine j_step rfl (x_len sl42 rfl ?_)
  refine j_run it 1 rfl (by simp) ?_
  refine j_nf [.c [1,1,0,1],.c [1,1,1]] rfl ?_
  refine j_if rfl rfl (fun h1=>by exfalso;omega) (fun h1=>?_)
  refine j_nf [.o [1,1,1,0] 0,.c [1,1,1,1]] rfl ?_
  refine j_run it 1 rfl (by simp) ?_
  refine j_step rfl (x_len sl42 rfl ?_)
  refine j_run it 3 rfl (by repeat' first | exact trivial | apply And.intro | omega) ?_
  refine j_nf [.o (pL 124) 0,.c (pL 125),.c [1,1,1,1,1]] rfl ?_
  refine j_run it 2 rfl (by simp) ?_
  refine j_step rfl (x_len sl42 rfl ?_)
  refine j_run it 1 rfl (by repeat' first | exact trivial | apply And.intro | omega) ?_
  refine j_step rfl (x_idx 0 (((trim l).length) - 1) rfl rfl rfl sl42 (by omega) (by omega) fun z1 hz1 b1 o1=>?_)
  refine j_step rfl (x_ld_nat 0 rfl rfl ld94 fun ⟨r1,r2⟩=>?_)
  refine j_run it 1 rfl (by simp) ?_
  refine j_nf [.c (pL 250),.blk 0,.c [1,1,1,1,1]] rfl ?_
  have hs2:=side2 z1 hz1
  refine j_loopN (X:=Nat × Nat) (fun x=>[(3,.int .i64 x.1),(4,.int .u32 x.2)]) (fun _=>[]) (fun _=>[])
   (fun x=>x.1 + blen x.2 = bitsL l ∧ x.2 < 4294967296 ∧ bitsL l ≤ 32 * l.length + 32) (fun x=>x.2) (32 * ((trim l).length - 1),z1) [] rfl ⟨by rw [bitsL_top hz1],by have:=hr z1 (mem_trim (List.mem_of_getElem? hz1));simp only;omega,by rw [bitsL_top hz1];omega⟩ (by repeat (first | exact Fr.sub_nil _ | refine Fr.sub_cons rfl ?_ | refine Fr.sub_consI rfl (by omega) ?_)) rfl rfl ?_
  rintro ⟨c,x⟩ ⟨hc,hx,hbl⟩ ih
  simp only at hc hx ih ⊢
  by_cases hx0 : 0 < x
  ·rw [blen_pos (by omega)] at hc
   refine j_nf [.o (pL 2000) 0,.c (pL 2001),.c (pL 1001),.lp (pL 500),.blk 0,.c [1,1,1,1,1]] rfl ?_
   refine j_run it 2 rfl (by simp) ?_
   refine j_nf [.c (pL 2001),.c (pL 1001),.lp (pL 500),.blk 0,.c [1,1,1,1,1]] rfl ?_
   refine j_if rfl rfl (fun h2=>?_) (fun h2=>by exfalso;omega)
   refine j_nf [.o (pL 4004) 0,.blk 1,.c (pL 2003),.lp (pL 500),.blk 0,.c [1,1,1,1,1]] rfl ?_
   refine j_run it 3 rfl (by repeat' first | exact trivial | apply And.intro | omega) ?_
   refine j_nf [.o (pL 2003) 0,.lp (pL 500),.blk 0,.c [1,1,1,1,1]] rfl ?_
   refine j_run it 3 rfl (by repeat' first | exact trivial | apply And.intro | omega) ?_
   refine j_nfn 1 [.lp (pL 500),.blk 0,.c [1,1,1,1,1]] rfl ?_
   refine j_to [] (by repeat (first | exact Fr.sub_nil _ | refine Fr.sub_cons rfl ?_ | refine Fr.sub_consI rfl (by first | omega | (dsimp only;omega)) ?_ | refine Fr.sub_consS rfl (by first | omega | (dsimp only;omega)) (by first | omega | (dsimp only;omega)) ?_)) rfl rfl (ih (c + 1,x / 2) (by simp only;omega) ⟨by simp only;omega,by simp only;omega,hbl⟩)
  ·refine j_nf [.o (pL 2000) 0,.c (pL 2001),.c (pL 1001),.lp (pL 500),.blk 0,.c [1,1,1,1,1]] rfl ?_
   refine j_run it 2 rfl (by simp) ?_
   refine j_nf [.c (pL 2001),.c (pL 1001),.lp (pL 500),.blk 0,.c [1,1,1,1,1]] rfl ?_
   refine j_if rfl rfl (fun h2=>by exfalso;omega) (fun h2=>?_)
   refine j_nf [.o (pL 126) 0,.c (pL 127)] rfl ?_
   refine j_run it 2 rfl (by simp) ?_
   refine j_nf [.c (pL 127)] rfl ?_
   have e : x = 0:=by omega
   subst e
   rw [blen_zero] at hc
   refine j_giv [] rfl rfl rfl ⟨by rw [← hc];rfl,rfl,rfl⟩
end Go.Proofs.Ythahejfpdhcpiaa

namespace Go.Proofs.Ythahejfpdhcpiaa
open Go Go.Fw
set_option maxRecDepth 100000
set_option linter.unusedVariables false
set_option linter.unusedSimpArgs false
set_option maxHeartbeats 2000000
theorem cmp_top {a b : List Nat} {k : Nat} (ha : ∀ x ∈ a,x < 4294967296) (hR : val a + val (b.take (k + 1)) = val b + val (a.take (k + 1))) (h : a.getD k 0 < b.getD k 0) : val a < val b:=by
 rw [val_take_getD,val_take_getD] at hR
 have h1 : val (a.take k) < 4294967296 ^ k:=by
  have:=val_lt (l:=a.take k) (fun x hx=>ha x (List.mem_of_mem_take hx))
  rw [List.length_take] at this
  exact Nat.lt_of_lt_of_le this (Nat.pow_le_pow_right (by decide) (Nat.min_le_left _ _))
 generalize 4294967296 ^ k = P at *
 have h2 : P * (a.getD k 0 + 1) ≤ P * b.getD k 0:=Nat.mul_le_mul_left _ h
 rw [Nat.mul_succ] at h2
 omega
theorem S_codewrightref01_Cmp {pa pb : Option Addr} {n m ca cb : Nat} {a b : List Nat} :
  Ctr Try.prog 51 [.slice pa n ca,.slice pb m cb] [] [slF U32 pa n ca a,slF U32 pb m cb b] (Rv (.int .i64 (cmpN (val a) (val b))) []):=by
 refine Ctr_of_j' (F:=F_codewrightref01_Cmp) rfl fun C=>?_
 refine j_len 0 rfl fun hn hba _=>?_
 refine j_len 1 rfl fun hm hbb _=>?_
 subst hn;subst hm
 have hba' : a.length * 4 ≤ 140737488355328:=hba
 have hbb' : b.length * 4 ≤ 140737488355328:=hbb
 refine j_range 0 rfl fun hra=>?_
 refine j_range 1 rfl fun hrb=>?_
 have ha : ∀ x ∈ a,x < 4294967296:=fun x hx=>by have:=hra x hx;simp only [InR] at this;omega
 have hb : ∀ x ∈ b,x < 4294967296:=fun x hx=>by have:=hrb x hx;simp only [InR] at this;omega
 obtain ⟨M,hM1,hM2,hM3,hM4⟩ : ∃ M : Nat,a.length ≤ M ∧ b.length ≤ M ∧ M ≤ 35184372088832 ∧ (if (a.length : Int) < b.length then (b.length : Int) else a.length) = M :=
  ⟨max a.length b.length,by omega,by omega,by omega,by split <;> omega⟩
 refine j_nf [.o [0] 0,.c [1]] rfl ?_
 refine j_run it 1 rfl (by simp) ?_
 refine j_nf [.o [1,0,0] 0,.c [1,0,1],.c [1,1]] rfl ?_
 refine j_run it 1 rfl (by simp) ?_
 refine j_step rfl (x_len sl42 rfl ?_)
 refine j_run it 1 rfl (by simp) ?_
 refine j_step rfl (x_len sl42 rfl ?_)
 refine j_step rfl (x_max rfl rfl ?_) --ok
 rw [hM4]
 refine j_run it 2 rfl (by repeat' first | exact trivial | apply And.intro | omega) ?_
 refine j_nf [.c [1,0,1,0],.blk 0,.c [1,1]] rfl ?_
 refine j_loopG (X:=Nat) [0,1] [0,1] (fun k=>[(5,.int .i64 ((k : Int) - 1))]) (fun _=>[]) (fun _=>[]) (fun k=>k ≤ M ∧ val a + val (b.take k) = val b + val (a.take k)) (fun k=>k) M [] rfl rfl rfl ⟨Nat.le_refl _,by rw [List.take_of_length_le (by omega),List.take_of_length_le (by omega)];omega⟩ (by repeat (first | exact Fr.sub_nil _ | refine Fr.sub_cons rfl ?_)) rfl rfl ?_
 intro k ⟨hk,hR⟩ ih
 simp only [List.cons_append,List.nil_append] at ih ⊢
 by_cases hk0 : 0 < k
 ·obtain ⟨j,rfl⟩ : ∃ j,k = j + 1:=⟨k - 1,by omega⟩
  rw [show (((j + 1 : Nat) : Int) - 1) = (j : Int) by omega]
  by_cases h1 : a.getD j 0 < b.getD j 0
  ·rw [cmpN_lt (cmp_top ha hR h1)]
   refine j_nf [.o (pL 208) 0,.c (pL 209),.c (pL 105),.lp [1,0,1,0,0],.blk 0,.c [1,1]] rfl ?_
   refine j_run it 2 rfl (by simp) ?_
   refine j_nf [.c (pL 209),.c (pL 105),.lp [1,0,1,0,0],.blk 0,.c [1,1]] rfl ?_
   refine j_if rfl rfl (fun h2=>?_) (fun h2=>by exfalso;omega)
   refine j_nf [.o (pL 1680) 0,.c (pL 1681),.c (pL 841),.blk 1,.c (pL 211),.lp [1,0,1,0,0],.blk 0,.c [1,1]] rfl ?_
   refine j_run it 2 rfl (by simp) ?_
   refine j_step rfl (x_call [0] rfl (S_codewrightref01_limb) rfl ?_)
   rintro _ _ _ ⟨rfl,rfl,rfl⟩
   simp only [List.cons_append,List.nil_append]
   refine j_run it 2 rfl (by simp) ?_
   refine j_step rfl (x_call [1] rfl (S_codewrightref01_limb) rfl ?_)
   rintro _ _ _ ⟨rfl,rfl,rfl⟩
   simp only [List.cons_append,List.nil_append]
   refine j_run it 1 rfl (by simp) ?_
   refine j_nf [.c (pL 1681),.c (pL 841),.blk 1,.c (pL 211),.lp [1,0,1,0,0],.blk 0,.c [1,1]] rfl ?_
   refine j_if rfl rfl (fun h3=>?_) (fun h3=>by exfalso;omega)
   refine j_nf [.o (pL 6724) 0,.c (pL 6725),.c (pL 841),.blk 1,.c (pL 211),.lp [1,0,1,0,0],.blk 0,.c [1,1]] rfl ?_
   refine j_run it 1 rfl (by simp) ?_
   refine j_nf [.c (pL 6725),.c (pL 841),.blk 1,.c (pL 211),.lp [1,0,1,0,0],.blk 0,.c [1,1]] rfl ?_
   refine j_giv [] rfl rfl rfl ⟨rfl,rfl,rfl⟩
  by_cases h2 : b.getD j 0 < a.getD j 0
  ·rw [cmpN_gt (cmp_top hb hR.symm h2)]
   refine j_nf [.o (pL 208) 0,.c (pL 209),.c (pL 105),.lp [1,0,1,0,0],.blk 0,.c [1,1]] rfl ?_
   refine j_run it 2 rfl (by simp) ?_
   refine j_nf [.c (pL 209),.c (pL 105),.lp [1,0,1,0,0],.blk 0,.c [1,1]] rfl ?_
   refine j_if rfl rfl (fun h3=>?_) (fun h3=>by exfalso;omega)
   refine j_nf [.o (pL 1680) 0,.c (pL 1681),.c (pL 841),.blk 1,.c (pL 211),.lp [1,0,1,0,0],.blk 0,.c [1,1]] rfl ?_
   refine j_run it 2 rfl (by simp) ?_
   refine j_step rfl (x_call [0] rfl (S_codewrightref01_limb) rfl ?_)
   rintro _ _ _ ⟨rfl,rfl,rfl⟩
   simp only [List.cons_append,List.nil_append]
   refine j_run it 2 rfl (by simp) ?_
   refine j_step rfl (x_call [1] rfl (S_codewrightref01_limb) rfl ?_)
   rintro _ _ _ ⟨rfl,rfl,rfl⟩
   simp only [List.cons_append,List.nil_append]
   refine j_run it 1 rfl (by simp) ?_
   refine j_nf [.c (pL 1681),.c (pL 841),.blk 1,.c (pL 211),.lp [1,0,1,0,0],.blk 0,.c [1,1]] rfl ?_
   refine j_if rfl rfl (fun h4=>by exfalso;omega) (fun h4=>?_)
   refine j_nf [.o (pL 1682) 0,.c (pL 1683),.blk 1,.c (pL 211),.lp [1,0,1,0,0],.blk 0,.c [1,1]] rfl ?_
   refine j_run it 2 rfl (by simp) ?_
   refine j_step rfl (x_call [0] rfl (S_codewrightref01_limb) rfl ?_)
   rintro _ _ _ ⟨rfl,rfl,rfl⟩
   simp only [List.cons_append,List.nil_append]
   refine j_run it 2 rfl (by simp) ?_
   refine j_step rfl (x_call [1] rfl (S_codewrightref01_limb) rfl ?_)
   rintro _ _ _ ⟨rfl,rfl,rfl⟩
   simp only [List.cons_append,List.nil_append]
   refine j_run it 1 rfl (by simp) ?_
   refine j_nf [.c (pL 1683),.blk 1,.c (pL 211),.lp [1,0,1,0,0],.blk 0,.c [1,1]] rfl ?_
   refine j_if rfl rfl (fun h5=>?_) (fun h5=>by exfalso;omega)
   refine j_nf [.o (pL 6732) 0,.c (pL 6733),.blk 1,.c (pL 211),.lp [1,0,1,0,0],.blk 0,.c [1,1]] rfl ?_
   refine j_run it 1 rfl (by simp) ?_
   refine j_nf [.c (pL 6733),.blk 1,.c (pL 211),.lp [1,0,1,0,0],.blk 0,.c [1,1]] rfl ?_
   refine j_giv [] rfl rfl rfl ⟨rfl,rfl,rfl⟩
  ·refine j_nf [.o (pL 208) 0,.c (pL 209),.c (pL 105),.lp [1,0,1,0,0],.blk 0,.c [1,1]] rfl ?_
   refine j_run it 2 rfl (by simp) ?_
   refine j_nf [.c (pL 209),.c (pL 105),.lp [1,0,1,0,0],.blk 0,.c [1,1]] rfl ?_
   refine j_if rfl rfl (fun h3=>?_) (fun h3=>by exfalso;omega)
   refine j_nf [.o (pL 1680) 0,.c (pL 1681),.c (pL 841),.blk 1,.c (pL 211),.lp [1,0,1,0,0],.blk 0,.c [1,1]] rfl ?_
   refine j_run it 2 rfl (by simp) ?_
   refine j_step rfl (x_call [0] rfl (S_codewrightref01_limb) rfl ?_)
   rintro _ _ _ ⟨rfl,rfl,rfl⟩
   simp only [List.cons_append,List.nil_append]
   refine j_run it 2 rfl (by simp) ?_
   refine j_step rfl (x_call [1] rfl (S_codewrightref01_limb) rfl ?_)
   rintro _ _ _ ⟨rfl,rfl,rfl⟩
   simp only [List.cons_append,List.nil_append]
   refine j_run it 1 rfl (by simp) ?_
   refine j_nf [.c (pL 1681),.c (pL 841),.blk 1,.c (pL 211),.lp [1,0,1,0,0],.blk 0,.c [1,1]] rfl ?_
   refine j_if rfl rfl (fun h4=>by exfalso;omega) (fun h4=>?_)
   refine j_nf [.o (pL 1682) 0,.c (pL 1683),.blk 1,.c (pL 211),.lp [1,0,1,0,0],.blk 0,.c [1,1]] rfl ?_
   refine j_run it 2 rfl (by simp) ?_
   refine j_step rfl (x_call [0] rfl (S_codewrightref01_limb) rfl ?_)
   rintro _ _ _ ⟨rfl,rfl,rfl⟩
   simp only [List.cons_append,List.nil_append]
   refine j_run it 2 rfl (by simp) ?_
   refine j_step rfl (x_call [1] rfl (S_codewrightref01_limb) rfl ?_)
   rintro _ _ _ ⟨rfl,rfl,rfl⟩
   simp only [List.cons_append,List.nil_append]
   refine j_run it 1 rfl (by simp) ?_
   refine j_nf [.c (pL 1683),.blk 1,.c (pL 211),.lp [1,0,1,0,0],.blk 0,.c [1,1]] rfl ?_
   refine j_if rfl rfl (fun h5=>by exfalso;omega) (fun h5=>?_)
   refine j_nf [.o (pL 211) 0,.lp [1,0,1,0,0],.blk 0,.c [1,1]] rfl ?_
   refine j_run it 3 rfl (by repeat' first | exact trivial | apply And.intro | omega) ?_
   refine j_nfn 1 [.lp [1,0,1,0,0],.blk 0,.c [1,1]] rfl ?_
   refine j_to [0,1] (by repeat (first | exact Fr.sub_nil _ | refine Fr.sub_cons rfl ?_ | refine Fr.sub_consI rfl (by first | omega | (dsimp only;omega)) ?_ | refine Fr.sub_consS rfl (by first | omega | (dsimp only;omega)) (by first | omega | (dsimp only;omega)) ?_)) rfl rfl (ih j (by omega) ⟨by omega,by
    rw [val_take_getD,val_take_getD] at hR
    have e : a.getD j 0 = b.getD j 0:=by omega
    rw [e] at hR
    omega⟩)
 ·have : k = 0:=by omega
  subst this
  have e : val a = val b:=by simp [val] at hR;exact hR
  rw [cmpN_eq e]
  refine j_nf [.o (pL 208) 0,.c (pL 209),.c (pL 105),.lp [1,0,1,0,0],.blk 0,.c [1,1]] rfl ?_
  refine j_run it 2 rfl (by simp) ?_
  refine j_nf [.c (pL 209),.c (pL 105),.lp [1,0,1,0,0],.blk 0,.c [1,1]] rfl ?_
  refine j_if rfl rfl (fun h1=>by exfalso;omega) (fun h1=>?_)
  refine j_nf [.o [1,1,0] 0,.c [1,1,1]] rfl ?_
  refine j_run it 1 rfl (by simp) ?_
  refine j_nf [.c [1,1,1]] rfl ?_
  refine j_giv [] rfl rfl rfl ⟨rfl,rfl,rfl⟩
theorem S_codewrightref01_Sub {pa pb : Option Addr} {n m ca cb : Nat} {a b : List Nat} (hab : val b ≤ val a) :
  Ctr Try.prog 93 [.slice pa n ca,.slice pb m cb] [] [slF U32 pa n ca a,slF U32 pb m cb b] (Sv U32 (limbs (val a - val b))):=by
 refine Ctr_of_j' (F:=F_codewrightref01_Sub) rfl fun C=>?_
 refine j_len 0 rfl fun hn hba _=>?_
 refine j_len 1 rfl fun hm _ _=>?_
 subst hn;subst hm
 have hba' : a.length * 4 ≤ 140737488355328:=hba
 refine j_range 0 rfl fun hra=>?_
 refine j_range 1 rfl fun hrb=>?_
 have ha : ∀ x ∈ a,x < 4294967296:=fun x hx=>by have:=hra x hx;simp only [InR] at this;omega
 have hb : ∀ x ∈ b,x < 4294967296:=fun x hx=>by have:=hrb x hx;simp only [InR] at this;omega
 refine j_nf [.o [0] 0,.c [1]] rfl ?_
 refine j_run it 1 rfl (by simp) ?_
 refine j_nf [.o [1,0] 0,.c [1,1]] rfl ?_
 refine j_run it 1 rfl (by simp) ?_
 refine j_nf [.o [1,1,0] 0,.c [1,1,1]] rfl ?_
 refine j_run it 1 rfl (by simp) ?_
 refine j_nf [.o [1,1,1,0,0] 0,.c [1,1,1,0,1],.c [1,1,1,1]] rfl ?_
 refine j_run it 1 rfl (by simp) ?_
 refine j_nf [.c (pL 122),.blk 0,.c [1,1,1,1]] rfl ?_
 refine j_nil 94 ?_
 refine j_loopG (X:=Nat × Nat × List Nat × Option Nat × Nat × List Value) [0,1,4] [0,1] (fun x=>[(5,.slice (ad x.2.2.2.1) x.1 x.2.2.2.2.1),(6,.int .u64 x.2.1),(7,.int .i64 x.1)])
  (fun x=>[(x.2.2.2.1,94,x.2.2.2.2.2)]) (fun _=>[])
  (fun x=>(x.1 ≤ a.length ∧ x.2.1 ≤ 1 ∧ x.2.2.1.length = x.1) ∧ (∀ y ∈ x.2.2.1,y < 4294967296) ∧ val x.2.2.1 + val (b.take x.1) = val (a.take x.1) + 4294967296 ^ x.1 * x.2.1 ∧ GrOk x.2.2.2.1 x.1 x.2.2.2.2.1 1 x.2.2.2.2.2 ∧ x.2.2.2.2.2.take x.1 = natCells .u32 x.2.2.1)
  (fun x=>a.length - x.1) (0,0,[],none,0,[]) [] rfl rfl rfl ⟨⟨Nat.zero_le _,Nat.zero_le _,rfl⟩,(fun y hy=>by cases hy),by simp [val],GrOk.nil _,rfl⟩ (by repeat (first | exact Fr.sub_nil _ | refine Fr.sub_cons rfl ?_)) rfl rfl ?_
 rintro ⟨k,c,out,bo,cap,cs⟩ ⟨⟨hk,hc,hl⟩,ho,hv,hg,ht⟩ ih
 simp only [List.cons_append,List.nil_append] at hk hc hl ho hv hg ht ih ⊢
 by_cases hkl : k < a.length
 ·have h1:=getD_lt (k:=k) ha (by decide)
  have h2:=getD_lt (k:=k) hb (by decide)
  refine j_nf [.o (pL 976) 0,.c (pL 977),.c (pL 489),.lp (pL 244),.blk 0,.c [1,1,1,1]] rfl ?_
  refine j_run it 2 rfl (by simp) ?_
  refine j_step rfl (x_len sl42 rfl ?_)
  refine j_run it 1 rfl (by simp) ?_
  refine j_nf [.c (pL 977),.c (pL 489),.lp (pL 244),.blk 0,.c [1,1,1,1]] rfl ?_
  refine j_if rfl rfl (fun h3=>?_) (fun h3=>by exfalso;omega)
  refine j_nf [.o (pL 3912) 0,.c (pL 3913),.blk 1,.c (pL 979),.lp (pL 244),.blk 0,.c [1,1,1,1]] rfl ?_
  refine j_run it 2 rfl (by simp) ?_
  refine j_step rfl (x_call [0] rfl (S_codewrightref01_limb) rfl ?_)
  rintro _ _ _ ⟨rfl,rfl,rfl⟩
  simp only [List.cons_append,List.nil_append]
  refine j_run it 3 rfl (by repeat' first | exact trivial | apply And.intro | omega) ?_
  refine j_step rfl (x_call [1] rfl (S_codewrightref01_limb) rfl ?_)
  rintro _ _ _ ⟨rfl,rfl,rfl⟩
  simp only [List.cons_append,List.nil_append]
  refine j_run it 4 rfl (by repeat' first | exact trivial | apply And.intro | omega) ?_
  refine j_nf [.o (pL 7826) 0,.c (pL 7827),.blk 1,.c (pL 979),.lp (pL 244),.blk 0,.c [1,1,1,1]] rfl ?_
  refine j_run it 4 rfl (by repeat' first | exact trivial | apply And.intro | omega) ?_
  refine j_step rfl (x_lit sl42 zo42e rfl rfl rfl rfl (by decide) (by decide) rfl fun b1=>?_)
  refine j_step rfl (x_app 1 0 rfl rfl rfl rfl sl42 zo42e rfl (by first | exact GrOk.nil _ | assumption | exact .inr ⟨_,rfl,Nat.le_refl _,by omega,rfl⟩) rfl rfl (by first | (simp [Value.oneCell'];done) | (simp [Value.oneCell',cellsL];done) | (intro u hu;rcases List.mem_singleton.1 hu with rfl;rfl)) (by omega) _ by42e (by omega) fun bo1 cap1 cs1 hg1 ht1=>?_)
  refine j_run it 1 rfl (by simp) ?_
  refine j_nf [.o (pL 7827) 0,.blk 1,.c (pL 979),.lp (pL 244),.blk 0,.c [1,1,1,1]] rfl ?_
  refine j_run it 4 rfl (by repeat' first | exact trivial | apply And.intro | omega) ?_
  refine j_nf [.o (pL 979) 0,.lp (pL 244),.blk 0,.c [1,1,1,1]] rfl ?_
  refine j_run it 3 rfl (by repeat' first | exact trivial | apply And.intro | omega) ?_
  refine j_nfn 1 [.lp (pL 244),.blk 0,.c [1,1,1,1]] rfl ?_
  simp only [Nat.mul_one] at hg1 ht1
  have hcell : ((a.getD k 0 : Int) + 4294967296 - b.getD k 0 - c) % 4294967296 = ((a.getD k 0 + 4294967296 - b.getD k 0 - c) % 4294967296 : Nat):=by omega
  have hbor : (1 - ((a.getD k 0 : Int) + 4294967296 - b.getD k 0 - c) / 4294967296) = ((1 - (a.getD k 0 + 4294967296 - b.getD k 0 - c) / 4294967296 : Nat) : Int):=by omega
  rw [hbor]
  obtain ⟨hw1,hw2⟩:=sub_word h1 h2 hc rfl
  have hst:=sub_step hv hc h1 h2 rfl
  have hwB : (a.getD k 0 + 4294967296 - b.getD k 0 - c) % 4294967296 < 4294967296:=Nat.mod_lt _ (by decide)
  refine j_toM [true,false] [0,1] (by repeat (first | exact Fr.sub_nil _ | refine Fr.sub_cons rfl ?_ | refine Fr.sub_consI rfl (by first | omega | (dsimp only;omega)) ?_ | refine Fr.sub_consS rfl (by first | omega | (dsimp only;omega)) (by first | omega | (dsimp only;omega)) ?_)) rfl rfl (ih (k + 1,1 - (a.getD k 0 + 4294967296 - b.getD k 0 - c) / 4294967296,out++[(a.getD k 0 + 4294967296 - b.getD k 0 - c) % 4294967296],bo1,cap1,cs1) (by simp only;omega)
   ⟨⟨by simp only;omega,hw2,by simp [hl]⟩,snoc_lt ho hwB,by
    simp only
    rw [val_snoc,hl,Nat.pow_succ,val_take_getD,val_take_getD]
    exact hst,hg1,by
    simp only
    rw [ht1,ht,natCells_append]
    congr 1
    simp only [List.flatten_cons,List.flatten_nil,List.append_nil,cellsL,natCells,List.map_cons,List.map_nil]
    rw [hcell];rfl⟩)
 ·have ek : k = a.length:=by omega
  subst ek
  rw [List.take_length] at hv
  obtain ⟨-,hres⟩:=sub_end ho hl hc hab hv
  refine j_nf [.o (pL 976) 0,.c (pL 977),.c (pL 489),.lp (pL 244),.blk 0,.c [1,1,1,1]] rfl ?_
  refine j_run it 2 rfl (by simp) ?_
  refine j_step rfl (x_len sl42 rfl ?_)
  refine j_run it 1 rfl (by simp) ?_
  refine j_nf [.c (pL 977),.c (pL 489),.lp (pL 244),.blk 0,.c [1,1,1,1]] rfl ?_
  refine j_if rfl rfl (fun h1=>by exfalso;omega) (fun h1=>?_)
  refine j_nf [.o [1,1,1,1,0] 0,.c [1,1,1,1,1]] rfl ?_
  refine j_run it 1 rfl (by simp) ?_
  refine j_pub_nat (kd:=.u32) 4 out 0 rfl hg ht hl.symm (fun x hx=>by have:=ho x hx;simp only [InR];omega) (by omega) ?_
  refine j_step rfl (x_call [0] rfl (S_codewrightref01_Trim) rfl ?_)
  rintro _ _ _ ⟨pa1,ca1,rfl,rfl,rfl⟩
  simp only [List.cons_append,List.nil_append]
  refine j_run it 1 rfl (by simp) ?_
  refine j_nf [.c [1,1,1,1,1]] rfl ?_
  rw [trim_eq ho,hres]
  refine j_giv [0] rfl rfl rfl ⟨_,_,rfl,rfl,rfl⟩
end Go.Proofs.Ythahejfpdhcpiaa

namespace Go.Proofs.Ythahejfpdhcpiaa
open Go Go.Fw
set_option maxRecDepth 100000
set_option linter.unusedVariables false
set_option linter.unusedSimpArgs false
set_option maxHeartbeats 2000000
theorem natCells_snoc (k : IntKind) (l : List Nat) (x : Nat) : natCells k (l++[x]) = natCells k l++[.int k x]:=by simp [natCells]
theorem val_zeros_append (n : Nat) (l : List Nat) : val (List.replicate n 0++l) = 4294967296 ^ n * val l:=by
 rw [val_append,val_replicate,List.length_replicate,Nat.zero_add]
theorem S_codewrightref01_shift {pa : Option Addr} {m ca n : Nat} {a : List Nat} (ha : a.length ≤ 1073741824) (hn : n ≤ 1099511627776) :
  Ctr Try.prog 117 [.slice pa m ca,.int .i64 n] [] [slF U32 pa m ca a] (Sv U32 (limbs (val a * 2 ^ n))):=by
 refine Ctr_of_j' (F:=F_codewrightref01_shift) rfl fun C=>?_
 refine j_len 0 rfl fun hm hba _=>?_
 subst hm
 refine j_range 0 rfl fun hra=>?_
 have hra' : ∀ x ∈ a,x < 4294967296:=fun x hx=>by have:=hra x hx;simp only [InR] at this;omega
 have hs : n % 32 < 32:=Nat.mod_lt _ (by decide)
 have hdiv : ((n : Int) / 32) = ((n / 32 : Nat) : Int):=by omega
 have hmod : ((n : Int) % 32) = ((n % 32 : Nat) : Int):=by omega
 have hpow : 2 ^ n = 4294967296 ^ (n / 32) * 2 ^ (n % 32):=by
  rw [show (4294967296 : Nat) = 2 ^ 32 from rfl,← Nat.pow_mul,← Nat.pow_add]
  congr 1;omega
 refine j_nf [.o [0] 0,.c [1]] rfl ?_
 refine j_run it 1 rfl (by simp) ?_
 refine j_nf [.o [1,0] 0,.c [1,1]] rfl ?_
 refine j_run it 2 rfl (by repeat' first | exact trivial | apply And.intro | omega) ?_
 refine j_step rfl (x_make_nat ((n) / 32) _ rfl rfl sl42 zo42e by42e (by omega) (by omega) (by omega) fun b1=>?_)
 refine j_run it 1 rfl (by simp) ?_
 refine j_nf [.o [1,1,0] 0,.c [1,1,1]] rfl ?_
 refine j_run it 1 rfl (by simp) ?_
 refine j_nf [.o [1,1,1,0,0] 0,.c [1,1,1,0,1],.c [1,1,1,1]] rfl ?_
 refine j_run it 1 rfl (by simp) ?_
 refine j_nf [.c (pL 122),.blk 0,.c [1,1,1,1]] rfl ?_
 refine j_loopG (X:=Nat × Nat × List Nat × Option Nat × Nat × List Value) [0,1,4] [0] (fun x=>[(5,.slice (ad x.2.2.2.1) (n / 32 + x.1) x.2.2.2.2.1),(6,.int .u64 x.2.1),(7,.int .i64 x.1)])
  (fun x=>[(x.2.2.2.1,94,x.2.2.2.2.2)]) (fun _=>[])
  (fun x=>(x.1 ≤ a.length ∧ x.2.1 < 2 ^ (n % 32) ∧ x.2.2.1.length = x.1) ∧ (∀ y ∈ x.2.2.1,y < 4294967296) ∧ val x.2.2.1 + 4294967296 ^ x.1 * x.2.1 = val (a.take x.1) * 2 ^ (n % 32) ∧ GrOk x.2.2.2.1 (n / 32 + x.1) x.2.2.2.2.1 1 x.2.2.2.2.2 ∧ x.2.2.2.2.2.take (n / 32 + x.1) = natCells .u32 (List.replicate (n / 32) 0++x.2.2.1))
  (fun x=>a.length - x.1) (0,0,[],some b1,n / 32,natCells .u32 (List.replicate (n / 32) 0)) [] rfl rfl rfl ⟨⟨Nat.zero_le _,Nat.pow_pos (by decide),rfl⟩,(fun y hy=>by cases hy),by simp [val],.inr ⟨b1,rfl,Nat.le_refl _,by dsimp only;omega,by simp⟩,by simp [natCells_take]⟩ (by repeat (first | exact Fr.sub_nil _ | refine Fr.sub_cons rfl ?_)) rfl rfl ?_
 rintro ⟨k,c,out,bo,cap,cs⟩ ⟨⟨hk,hc,hl⟩,ho,hv,hg,ht⟩ ih
 simp only [List.cons_append,List.nil_append] at hk hc hl ho hv hg ht ih ⊢
 by_cases hkl : k < a.length
 ·refine j_nf [.o (pL 976) 0,.c (pL 977),.c (pL 489),.lp (pL 244),.blk 0,.c [1,1,1,1]] rfl ?_
  refine j_run it 2 rfl (by simp) ?_
  refine j_step rfl (x_len sl42 rfl ?_)
  refine j_run it 1 rfl (by simp) ?_
  refine j_nf [.c (pL 977),.c (pL 489),.lp (pL 244),.blk 0,.c [1,1,1,1]] rfl ?_
  refine j_if rfl rfl (fun h1=>?_) (fun h1=>by exfalso;omega)
  refine j_nf [.o (pL 3912) 0,.c (pL 3913),.blk 1,.c (pL 979),.lp (pL 244),.blk 0,.c [1,1,1,1]] rfl ?_
  refine j_run it 2 rfl (by simp) ?_
  refine j_step rfl (x_idx 0 (k) rfl rfl rfl sl42 rfl (by omega) fun z1 hz1 b2 o1=>?_)
  refine j_step rfl (x_ld_nat 0 rfl rfl ld94 fun ⟨r1,r2⟩=>?_)
  refine j_run it 3 rfl (by repeat' first | exact trivial | apply And.intro | omega) ?_ --ok
  have hxl:=hra' _ (List.mem_of_getElem? hz1)
  obtain ⟨hs1,hs2,hs3⟩:=shl_lt hxl hs
  refine j_step rfl (x_shl_nat (z1) ((n) % 32) rfl rfl (by first | rfl | omega) (by first | rfl | omega) (by first | decide | (simp only [IntKind.bits];omega)) (by first | assumption | (simp only [InR];omega)) ?_)
  refine j_run it 3 rfl (by repeat' first | exact trivial | apply And.intro | omega) ?_
  refine j_nf [.o (pL 7826) 0,.c (pL 7827),.blk 1,.c (pL 979),.lp (pL 244),.blk 0,.c [1,1,1,1]] rfl ?_
  refine j_run it 4 rfl (by repeat' first | exact trivial | apply And.intro | omega) ?_
  refine j_step rfl (x_lit sl42 zo42e rfl rfl rfl rfl (by decide) (by decide) rfl fun b3=>?_)
  refine j_step rfl (x_app 1 0 rfl rfl rfl rfl sl42 zo42e rfl (by first | exact GrOk.nil _ | assumption | exact .inr ⟨_,rfl,Nat.le_refl _,by omega,rfl⟩) rfl rfl (by first | (simp [Value.oneCell'];done) | (simp [Value.oneCell',cellsL];done) | (intro u hu;rcases List.mem_singleton.1 hu with rfl;rfl)) (by omega) _ by42e (by omega) fun bo1 cap1 cs1 hg1 ht1=>?_)
  refine j_run it 1 rfl (by simp) ?_
  refine j_nf [.o (pL 7827) 0,.blk 1,.c (pL 979),.lp (pL 244),.blk 0,.c [1,1,1,1]] rfl ?_
  refine j_run it 3 rfl (by repeat' first | exact trivial | apply And.intro | omega) ?_
  refine j_nf [.o (pL 979) 0,.lp (pL 244),.blk 0,.c [1,1,1,1]] rfl ?_
  refine j_run it 3 rfl (by repeat' first | exact trivial | apply And.intro | omega) ?_
  refine j_nfn 1 [.lp (pL 244),.blk 0,.c [1,1,1,1]] rfl ?_
  simp only [Nat.mul_one] at hg1 ht1
  have hdv : (z1 * 2 ^ (n % 32) + c) / 4294967296 < 2 ^ (n % 32):=by
   rw [Nat.div_lt_iff_lt_mul (by decide)]
   have:=Nat.mul_le_mul_right (2 ^ (n % 32)) hxl
   rw [Nat.succ_mul] at this
   omega
  have hmB : (z1 * 2 ^ (n % 32) + c) % 4294967296 < 4294967296:=Nat.mod_lt _ (by decide)
  refine j_toM [true,false] [1] (by repeat (first | exact Fr.sub_nil _ | refine Fr.sub_cons rfl ?_ | refine Fr.sub_consI rfl (by first | omega | (dsimp only;omega)) ?_ | refine Fr.sub_consS rfl (by first | omega | (dsimp only;omega)) (by first | omega | (dsimp only;omega)) ?_)) rfl rfl (ih (k + 1,(z1 * 2 ^ (n % 32) + c) / 4294967296,out++[(z1 * 2 ^ (n % 32) + c) % 4294967296],bo1,cap1,cs1) (by simp only;omega)
   ⟨⟨by simp only;omega,hdv,by simp [hl]⟩,snoc_lt ho hmB,by
    simp only
    rw [val_snoc,hl,Nat.pow_succ,val_take_succ hz1,Nat.add_mul]
    generalize hS : z1 * 2 ^ (n % 32) + c = s
    have e : s % 4294967296 + 4294967296 * (s / 4294967296) = s:=by omega
    have e2 : 4294967296 ^ k * (s % 4294967296) + 4294967296 ^ k * 4294967296 * (s / 4294967296) = 4294967296 ^ k * (z1 * 2 ^ (n % 32)) + 4294967296 ^ k * c:=by
     rw [Nat.mul_assoc,← Nat.mul_add,← Nat.mul_add,e,hS]
    rw [Nat.mul_assoc (4294967296 ^ k) z1]
    omega,hg1,by
    simp only
    rw [← Nat.add_assoc,ht1,ht,← List.append_assoc,natCells_snoc];rfl⟩)
 ·have ek : k = a.length:=by omega
  subst ek
  obtain ⟨_,_,hs3⟩:=shl_lt (x:=0) (by decide) hs
  rw [List.take_length] at hv
  refine j_nf [.o (pL 976) 0,.c (pL 977),.c (pL 489),.lp (pL 244),.blk 0,.c [1,1,1,1]] rfl ?_
  refine j_run it 2 rfl (by simp) ?_
  refine j_step rfl (x_len sl42 rfl ?_)
  refine j_run it 1 rfl (by simp) ?_
  refine j_nf [.c (pL 977),.c (pL 489),.lp (pL 244),.blk 0,.c [1,1,1,1]] rfl ?_
  refine j_if rfl rfl (fun h1=>by exfalso;omega) (fun h1=>?_)
  refine j_nf [.o [1,1,1,1,0] 0,.c [1,1,1,1,1]] rfl ?_
  refine j_run it 3 rfl (by repeat' first | exact trivial | apply And.intro | omega) ?_
  refine j_step rfl (x_lit sl42 zo42e rfl rfl rfl rfl (by decide) (by decide) rfl fun b2=>?_)
  refine j_step rfl (x_app 1 0 rfl rfl rfl rfl sl42 zo42e rfl (by first | exact GrOk.nil _ | assumption | exact .inr ⟨_,rfl,Nat.le_refl _,by omega,rfl⟩) rfl rfl (by first | (simp [Value.oneCell'];done) | (simp [Value.oneCell',cellsL];done) | (intro u hu;rcases List.mem_singleton.1 hu with rfl;rfl)) (by omega) _ by42e (by omega) fun bo1 cap1 cs1 hg1 ht1=>?_)
  simp only [Nat.mul_one] at hg1 ht1
  refine j_pub_nat (kd:=.u32) 4 (List.replicate (n / 32) 0++(out++[c])) 0 rfl hg1 (by rw [ht1,ht,← List.append_assoc,natCells_snoc];rfl) (by simp [hl];omega) (fun x hx=>by
   simp only [List.mem_append,List.mem_replicate,List.mem_singleton] at hx
   rcases hx with ⟨_,rfl⟩ | hx | rfl
   ·simp [InR]
   ·have:=ho x hx;simp only [InR];omega
   ·simp only [InR];omega) (by omega) ?_
  have hall : ∀ x ∈ List.replicate (n / 32) 0++(out++[c]),x < 4294967296:=fun x hx=>by
   simp only [List.mem_append,List.mem_replicate,List.mem_singleton] at hx
   rcases hx with ⟨_,rfl⟩ | hx | rfl
   ·decide
   ·exact ho x hx
   ·omega
  refine j_step rfl (x_call [0] rfl (S_codewrightref01_Trim) rfl ?_)
  rintro _ _ _ ⟨pa1,ca1,rfl,rfl,rfl⟩
  simp only [List.cons_append,List.nil_append]
  refine j_run it 1 rfl (by simp) ?_
  refine j_nf [.c [1,1,1,1,1]] rfl ?_
  rw [trim_eq hall,val_zeros_append,val_snoc,hl,hv,hpow]
  rw [show 4294967296 ^ (n / 32) * (val a * 2 ^ (n % 32)) = val a * (4294967296 ^ (n / 32) * 2 ^ (n % 32)) by simp only [Nat.mul_left_comm]]
  refine j_giv [0] rfl rfl rfl ⟨_,_,rfl,rfl,rfl⟩
end Go.Proofs.Ythahejfpdhcpiaa

namespace Go.Proofs.Ythahejfpdhcpiaa
open Go Go.Fw
set_option maxRecDepth 100000
set_option linter.unusedVariables false
set_option linter.unusedSimpArgs false
set_option maxHeartbeats 2000000
abbrev DivR (A B : Nat) : Value → List Fact → List Blk → Prop:=fun v Φ β=>∃ p1 c1 p2 c2,v = .tuple #[.slice p1 (limbs (A / B)).length c1,.slice p2 (limbs (A % B)).length c2] ∧ Φ = [slF U32 p1 (limbs (A / B)).length c1 (limbs (A / B)),slF U32 p2 (limbs (A % B)).length c2 (limbs (A % B))] ∧ β = []
theorem bitsL_blen {l : List Nat} (h : ∀ x ∈ l,x < 4294967296) : bitsL l = blen (val l):=by
 have ht:=trim_eq h
 rcases Nat.eq_zero_or_pos (trim l).length with h1 | h1
 ·rw [bitsL_nil h1]
  have:=List.eq_nil_of_length_eq_zero h1
  rw [ht,limbs_nil] at this
  rw [this,blen_zero]
 ·obtain ⟨k,hk⟩ : ∃ k,(trim l).length = k + 1:=⟨(trim l).length - 1,by omega⟩
  obtain ⟨t,hz,hz0⟩:=limbs_top (n:=val l) (k:=k) (by rw [← ht];exact hk)
  have hs:=top_split (by rw [← ht];exact hk) hz
  rw [val_limbs] at hs
  rw [← ht] at hz hs
  rw [bitsL_top (z:=t) (by rw [hk];exact hz),hk,Nat.add_sub_cancel]
  have hlow:=take_lt (l:=trim l) (k:=k) (by rw [ht];exact limbs_lt _) (by omega)
  have e : (4294967296 : Nat) ^ k = 2 ^ (32 * k):=by rw [Nat.pow_mul]
  rw [e] at hs hlow
  rw [hs,blen_div (32 * k) (val ((trim l).take k) + 2 ^ (32 * k) * t) (Nat.le_trans (Nat.le_mul_of_pos_right _ (Nat.pos_of_ne_zero hz0)) (Nat.le_add_left _ _)),Nat.add_mul_div_left _ _ (Nat.pow_pos (by decide)),Nat.div_eq_of_lt hlow,Nat.zero_add,Nat.add_comm]
theorem bits_le {l : List Nat} (h : ∀ x ∈ l,x < 4294967296) : bitsL l ≤ 32 * l.length:=by
 rw [bitsL_blen h]
 have:=val_lt h
 exact blen_le (by rw [Nat.pow_mul];exact this)
theorem bit_step {A B Q R s i : Nat} (h : A = Q * B + R) (hR : R < B * 2 ^ (i + 1)) (hs : s = 2 ^ i) (hge : B * s ≤ R) : A = (Q + s) * B + (R - B * s) ∧ R - B * s < B * 2 ^ i:=by
 subst hs
 rw [Nat.pow_succ,← Nat.mul_assoc] at hR
 constructor
 ·rw [Nat.add_mul,Nat.mul_comm (2 ^ i) B];omega
 ·omega
theorem S_codewrightref01_DivMod {pa pb : Option Addr} {n m ca cb : Nat} {a b : List Nat} (hal : a.length ≤ 1073741824) (hbl : b.length ≤ 1073741824) (hb0 : val b ≠ 0) :
  Ctr Try.prog 96 [.slice pa n ca,.slice pb m cb] [] [slF U32 pa n ca a,slF U32 pb m cb b] (DivR (val a) (val b)):=by
 refine Ctr_of_j' (F:=F_codewrightref01_DivMod) rfl fun C=>?_
 refine j_len 0 rfl fun hn hba _=>?_
 refine j_len 1 rfl fun hm hbb _=>?_
 subst hn;subst hm
 refine j_range 0 rfl fun hra=>?_
 refine j_range 1 rfl fun hrb=>?_
 have ha : ∀ x ∈ a,x < 4294967296:=fun x hx=>by have:=hra x hx;simp only [InR] at this;omega
 have hb : ∀ x ∈ b,x < 4294967296:=fun x hx=>by have:=hrb x hx;simp only [InR] at this;omega
 have ea:=trim_eq ha
 have lla:=trim_length_le a
 have ba:=bits_le ha
 have bb:=bits_le hb
 have eba:=bitsL_blen ha
 have ebb:=bitsL_blen hb
 have hst : val a < val b * 2 ^ ((bitsL a : Int) - bitsL b + 1).toNat:=by
  have h1:=blen_lt (val a)
  have h2:=blen_ge hb0
  rw [eba,ebb]
  have h3 : 2 ^ (blen (val b) - 1) * 2 ^ ((blen (val a) : Int) - blen (val b) + 1).toNat ≤ val b * 2 ^ ((blen (val a) : Int) - blen (val b) + 1).toNat:=Nat.mul_le_mul_right _ h2
  rw [← Nat.pow_add] at h3
  have h4 : 2 ^ blen (val a) ≤ 2 ^ (blen (val b) - 1 + ((blen (val a) : Int) - blen (val b) + 1).toNat):=Nat.pow_le_pow_right (by decide) (by omega)
  omega
 refine j_nf [.o [0] 0,.c [1]] rfl ?_
 refine j_run it 2 rfl (by simp) ?_
 refine j_nf [.o [1,0] 0,.c [1,1]] rfl ?_
 refine j_run it 1 rfl (by simp) ?_
 refine j_step rfl (x_call [0] rfl (S_codewrightref01_Trim) rfl ?_)
 rintro _ _ _ ⟨pa1,ca1,rfl,rfl,rfl⟩
 simp only [List.cons_append,List.nil_append]
 refine j_run it 1 rfl (by simp) ?_
 refine j_nf [.o [1,1,0] 0,.c [1,1,1]] rfl ?_
 refine j_run it 1 rfl (by simp) ?_
 refine j_step rfl (x_call [1] rfl (S_codewrightref01_Bits) rfl ?_)
 rintro _ _ _ ⟨rfl,rfl,rfl⟩
 simp only [List.cons_append,List.nil_append]
 refine j_run it 1 rfl (by simp) ?_
 refine j_step rfl (x_call [2] rfl (S_codewrightref01_Bits) rfl ?_)
 rintro _ _ _ ⟨rfl,rfl,rfl⟩
 simp only [List.cons_append,List.nil_append]
 refine j_run it 2 rfl (by repeat' first | exact trivial | apply And.intro | omega) ?_
 refine j_nf [.o [1,1,1,0,0] 0,.c [1,1,1,0,1],.c [1,1,1,1]] rfl ?_
 refine j_run it 2 rfl (by simp) ?_
 refine j_nf [.c (pL 122),.blk 0,.c [1,1,1,1]] rfl ?_
 rw [ea]
 rw [ea] at lla
 refine j_add (slF U32 none (limbs 0).length 0 (limbs 0)) (fun w A _=>by rw [limbs_zero];exact slF_nil _ _ _ _ _) ?_
 refine j_loopG (X:=Int × Nat × Nat × (Option Addr × Nat) × (Option Addr × Nat)) [1] [3] (fun x=>[(4,.slice x.2.2.2.1.1 (limbs x.2.1).length x.2.2.2.1.2),(5,.slice x.2.2.2.2.1 (limbs x.2.2.1).length x.2.2.2.2.2),(7,.int .i64 (x.1 - 1))]) (fun _=>[])
  (fun x=>[slF U32 x.2.2.2.1.1 (limbs x.2.1).length x.2.2.2.1.2 (limbs x.2.1),slF U32 x.2.2.2.2.1 (limbs x.2.2.1).length x.2.2.2.2.2 (limbs x.2.2.1)])
  (fun x=>x.1 ≤ (bitsL a : Int) - bitsL b + 1 ∧ val a = x.2.1 * val b + x.2.2.1 ∧ x.2.2.1 < val b * 2 ^ x.1.toNat ∧ -34359738368 ≤ x.1)
  (fun x=>x.1.toNat) ((bitsL a : Int) - bitsL b + 1,0,val a,(none,0),(pa1,ca1)) [0,1] rfl rfl rfl ⟨Int.le_refl _,by simp,hst,by dsimp only;omega⟩ (by rw [limbs_zero];repeat (first | exact Fr.sub_nil _ | refine Fr.sub_cons rfl ?_ | refine Fr.sub_consI rfl (by dsimp only;omega) ?_)) rfl rfl ?_
 rintro ⟨i,Q,R,⟨pq,cq⟩,⟨pr,cr⟩⟩ ⟨hi,hA,hR,hi2⟩ ih
 simp only [List.cons_append,List.nil_append] at hi hA hR hi2 ih ⊢
 by_cases hi0 : 0 < i
 ·obtain ⟨j,rfl⟩ : ∃ j : Nat,i = (j : Int) + 1:=⟨(i - 1).toNat,by omega⟩
  rw [show ((j : Int) + 1 - 1) = (j : Int) by omega]
  rw [show ((j : Int) + 1).toNat = j + 1 by omega] at hR
  have hjn : j ≤ 1099511627776:=by omega
  have hRa : R ≤ val a:=by rw [hA];exact Nat.le_add_left _ _
  have hQa : Q ≤ val a:=by
   have : Q * 1 ≤ Q * val b:=Nat.mul_le_mul_left _ (Nat.pos_of_ne_zero hb0)
   omega
  have lQ:=limbs_mono lla hQa
  by_cases hc : val b * 2 ^ j ≤ R
  ·have hcc : 0 ≤ cmpN (val (limbs R)) (val (limbs (val b * 2 ^ j))):=by rw [val_limbs,val_limbs];unfold cmpN;split <;> (try split) <;> omega
   have hle : val (limbs (val b * 2 ^ j)) ≤ val (limbs R):=by rw [val_limbs,val_limbs];exact hc
   obtain ⟨hA',hR'⟩:=bit_step hA hR rfl hc
   have lQ2 : (limbs (2 ^ j)).length ≤ 1073741824:=limbs_mono (Nat.le_trans lla hal) (by
    have : 1 * 2 ^ j ≤ val b * 2 ^ j:=Nat.mul_le_mul_right _ (Nat.pos_of_ne_zero hb0)
    omega)
   have e1 : val [1] * 2 ^ j = 2 ^ j:=by simp [val]
   refine j_nf [.o (pL 976) 0,.c (pL 977),.c (pL 489),.lp (pL 244),.blk 0,.c [1,1,1,1]] rfl ?_
   refine j_run it 2 rfl (by simp) ?_
   refine j_nf [.c (pL 977),.c (pL 489),.lp (pL 244),.blk 0,.c [1,1,1,1]] rfl ?_
   refine j_if rfl rfl (fun h1=>?_) (fun h1=>by exfalso;omega)
   refine j_nf [.o (pL 3912) 0,.c (pL 3913),.blk 1,.c (pL 979),.lp (pL 244),.blk 0,.c [1,1,1,1]] rfl ?_
   refine j_run it 2 rfl (by simp) ?_
   refine j_step rfl (x_call [2] rfl (S_codewrightref01_shift (by first|omega|exact side _ (by assumption)|assumption|rfl|(simp;done)|(simp;omega)) (by first|omega|exact side _ (by assumption)|assumption|rfl|(simp;done)|(simp;omega))) rfl ?_)
   rintro _ _ _ ⟨pa2,ca2,rfl,rfl,rfl⟩
   simp only [List.cons_append,List.nil_append]
   refine j_run it 1 rfl (by simp) ?_
   refine j_nf [.o (pL 7826) 0,.c (pL 7827),.blk 1,.c (pL 979),.lp (pL 244),.blk 0,.c [1,1,1,1]] rfl ?_
   refine j_run it 2 rfl (by simp) ?_
   refine j_step rfl (x_call [2,0] rfl (S_codewrightref01_Cmp) rfl ?_)
   rintro _ _ _ ⟨rfl,rfl,rfl⟩
   simp only [List.cons_append,List.nil_append]
   refine j_run it 1 rfl (by simp) ?_
   refine j_nf [.c (pL 7827),.blk 1,.c (pL 979),.lp (pL 244),.blk 0,.c [1,1,1,1]] rfl ?_
   refine j_if rfl rfl (fun h2=>?_) (fun h2=>by exfalso;omega)
   refine j_nf [.o (pL 31308) 0,.c (pL 31309),.blk 1,.c (pL 979),.lp (pL 244),.blk 0,.c [1,1,1,1]] rfl ?_
   refine j_run it 2 rfl (by simp) ?_
   refine j_step rfl (x_call [2,0] rfl (S_codewrightref01_Sub (by first|omega|exact side _ (by assumption)|assumption|rfl|(simp;done)|(simp;omega))) rfl ?_)
   rintro _ _ _ ⟨pa3,ca3,rfl,rfl,rfl⟩
   simp only [List.cons_append,List.nil_append]
   refine j_run it 1 rfl (by simp) ?_
   refine j_nf [.o (pL 31309) 0,.blk 1,.c (pL 979),.lp (pL 244),.blk 0,.c [1,1,1,1]] rfl ?_
   refine j_run it 1 rfl (by simp) ?_
   refine j_step rfl (x_lit sl42 zo42e rfl rfl rfl rfl (by decide) (by decide) rfl fun b1=>?_)
   refine j_run it 1 rfl (by simp) ?_
   refine j_pub_made (n:=1) (kd:=IntKind.u32) 4 [1] 0 rfl rfl (by first | (simp [InR];done) | (simp only [InR,List.mem_cons,List.not_mem_nil,or_false,forall_eq_or_imp,forall_eq];omega)) (by decide) (by decide) ?_
   refine j_step rfl (x_call [0] rfl (S_codewrightref01_shift (by first|omega|exact side _ (by assumption)|assumption|rfl|(simp;done)|(simp;omega)) (by first|omega|exact side _ (by assumption)|assumption|rfl|(simp;done)|(simp;omega))) rfl ?_)
   rintro _ _ _ ⟨pa4,ca4,rfl,rfl,rfl⟩
   simp only [List.cons_append,List.nil_append] --ok
   rw [e1]
   refine j_step rfl (x_call [4,0] rfl (S_codewrightref01_Add (by first|omega|exact side _ (by assumption)|assumption|rfl|(simp;done)|(simp;omega)) (by first|omega|exact side _ (by assumption)|assumption|rfl|(simp;done)|(simp;omega))) rfl ?_)
   rintro _ _ _ ⟨pa5,ca5,rfl,rfl,rfl⟩
   simp only [List.cons_append,List.nil_append]
   refine j_run it 1 rfl (by simp) ?_
   refine j_nf [.o (pL 979) 0,.lp (pL 244),.blk 0,.c [1,1,1,1]] rfl ?_
   refine j_run it 3 rfl (by repeat' first | exact trivial | apply And.intro | omega) ?_
   refine j_nfn 1 [.lp (pL 244),.blk 0,.c [1,1,1,1]] rfl ?_
   simp only [val_limbs]
   refine j_to [0,3,7] (by repeat (first | exact Fr.sub_nil _ | refine Fr.sub_cons rfl ?_ | refine Fr.sub_consI rfl (by first | omega | (dsimp only;omega)) ?_ | refine Fr.sub_consS rfl (by first | omega | (dsimp only;omega)) (by first | omega | (dsimp only;omega)) ?_)) rfl rfl (ih ((j : Int),Q + 2 ^ j,R - val b * 2 ^ j,(pa5,ca5),(pa3,ca3)) (by dsimp only;omega) ⟨by dsimp only;omega,hA',by dsimp only;rw [Int.toNat_natCast];exact hR',by dsimp only;omega⟩)
  ·have hcc : ¬ 0 ≤ cmpN (val (limbs R)) (val (limbs (val b * 2 ^ j))):=by rw [val_limbs,val_limbs,cmpN_lt (by omega)];decide
   refine j_nf [.o (pL 976) 0,.c (pL 977),.c (pL 489),.lp (pL 244),.blk 0,.c [1,1,1,1]] rfl ?_
   refine j_run it 2 rfl (by simp) ?_
   refine j_nf [.c (pL 977),.c (pL 489),.lp (pL 244),.blk 0,.c [1,1,1,1]] rfl ?_
   refine j_if rfl rfl (fun h1=>?_) (fun h1=>by exfalso;omega)
   refine j_nf [.o (pL 3912) 0,.c (pL 3913),.blk 1,.c (pL 979),.lp (pL 244),.blk 0,.c [1,1,1,1]] rfl ?_
   refine j_run it 2 rfl (by simp) ?_
   refine j_step rfl (x_call [2] rfl (S_codewrightref01_shift (by first|omega|exact side _ (by assumption)|assumption|rfl|(simp;done)|(simp;omega)) (by first|omega|exact side _ (by assumption)|assumption|rfl|(simp;done)|(simp;omega))) rfl ?_)
   rintro _ _ _ ⟨pa2,ca2,rfl,rfl,rfl⟩
   simp only [List.cons_append,List.nil_append]
   refine j_run it 1 rfl (by simp) ?_
   refine j_nf [.o (pL 7826) 0,.c (pL 7827),.blk 1,.c (pL 979),.lp (pL 244),.blk 0,.c [1,1,1,1]] rfl ?_
   refine j_run it 2 rfl (by simp) ?_
   refine j_step rfl (x_call [2,0] rfl (S_codewrightref01_Cmp) rfl ?_)
   rintro _ _ _ ⟨rfl,rfl,rfl⟩
   simp only [List.cons_append,List.nil_append]
   refine j_run it 1 rfl (by simp) ?_
   refine j_nf [.c (pL 7827),.blk 1,.c (pL 979),.lp (pL 244),.blk 0,.c [1,1,1,1]] rfl ?_
   refine j_if rfl rfl (fun h2=>by exfalso;omega) (fun h2=>?_)
   refine j_nf [.o (pL 979) 0,.lp (pL 244),.blk 0,.c [1,1,1,1]] rfl ?_
   refine j_run it 3 rfl (by repeat' first | exact trivial | apply And.intro | omega) ?_
   refine j_nfn 1 [.lp (pL 244),.blk 0,.c [1,1,1,1]] rfl ?_
   refine j_to [1,2,3] (by repeat (first | exact Fr.sub_nil _ | refine Fr.sub_cons rfl ?_ | refine Fr.sub_consI rfl (by first | omega | (dsimp only;omega)) ?_ | refine Fr.sub_consS rfl (by first | omega | (dsimp only;omega)) (by first | omega | (dsimp only;omega)) ?_)) rfl rfl (ih ((j : Int),Q,R,(pq,cq),(pr,cr)) (by dsimp only;omega) ⟨by dsimp only;omega,hA,by dsimp only;rw [Int.toNat_natCast];omega,by dsimp only;omega⟩)
 ·have e0 : i.toNat = 0:=by omega
  rw [e0,Nat.pow_zero,Nat.mul_one] at hR
  have hQ : Q = val a / val b:=by
   rw [hA,Nat.mul_comm,Nat.mul_add_div (Nat.pos_of_ne_zero hb0),Nat.div_eq_of_lt hR,Nat.add_zero]
  have hRR : R = val a % val b:=by
   rw [hA,Nat.mul_comm,Nat.mul_add_mod,Nat.mod_eq_of_lt hR]
  refine j_nf [.o (pL 976) 0,.c (pL 977),.c (pL 489),.lp (pL 244),.blk 0,.c [1,1,1,1]] rfl ?_
  refine j_run it 2 rfl (by simp) ?_
  refine j_nf [.c (pL 977),.c (pL 489),.lp (pL 244),.blk 0,.c [1,1,1,1]] rfl ?_
  refine j_if rfl rfl (fun h1=>by exfalso;omega) (fun h1=>?_)
  refine j_nf [.o [1,1,1,1,0] 0,.c [1,1,1,1,1]] rfl ?_
  refine j_run it 1 rfl (by simp) ?_
  refine j_step rfl (x_call [0] rfl (S_codewrightref01_Trim) rfl ?_)
  rintro _ _ _ ⟨pa2,ca2,rfl,rfl,rfl⟩
  simp only [List.cons_append,List.nil_append]
  refine j_run it 3 rfl (by simp) ?_
  refine j_nf [.c [1,1,1,1,1]] rfl ?_
  rw [trim_limbs,hQ,hRR]
  refine j_giv [0,2] rfl rfl rfl ⟨_,_,_,_,rfl,rfl,rfl⟩
theorem S_codewrightref01_Gcd {pa pb : Option Addr} {n m ca cb : Nat} {a b : List Nat} (hal : a.length ≤ 1073741824) (hbl : b.length ≤ 1073741824) :
  Ctr Try.prog 95 [.slice pa n ca,.slice pb m cb] [] [slF U32 pa n ca a,slF U32 pb m cb b] (Sv U32 (limbs (Nat.gcd (val a) (val b)))):=by
 refine Ctr_of_j' (F:=F_codewrightref01_Gcd) rfl fun C=>?_
 refine j_len 0 rfl fun hn hba _=>?_
 refine j_len 1 rfl fun hm hbb _=>?_
 subst hn;subst hm
 refine j_nf [.o [0] 0,.c [1]] rfl ?_
 refine j_run it 1 rfl (by simp) ?_
 refine j_nf [.c [1,0,0],.blk 0,.c [1,1]] rfl ?_
 refine j_loopG (X:=List Nat × List Nat × (Option Addr × Nat) × (Option Addr × Nat)) [4] [] (fun x=>[(0,.slice x.2.2.1.1 x.1.length x.2.2.1.2),(1,.slice x.2.2.2.1 x.2.1.length x.2.2.2.2)]) (fun _=>[]) (fun x=>[slF U32 x.2.2.1.1 x.1.length x.2.2.1.2 x.1,slF U32 x.2.2.2.1 x.2.1.length x.2.2.2.2 x.2.1])
  (fun x=>x.1.length ≤ 1073741824 ∧ x.2.1.length ≤ 1073741824 ∧ Nat.gcd (val x.1) (val x.2.1) = Nat.gcd (val a) (val b)) (fun x=>val x.2.1) (a,b,(pa,ca),(pb,cb)) [0,1] rfl rfl rfl ⟨hal,hbl,rfl⟩ (by repeat (first | exact Fr.sub_nil _ | refine Fr.sub_cons rfl ?_)) rfl rfl ?_
 rintro ⟨x,y,⟨px,cx⟩,⟨py,cy⟩⟩ ⟨hx,hy,hg⟩ ih
 simp only [List.cons_append,List.nil_append] at hx hy hg ih ⊢
 refine j_range 0 rfl fun hrx=>?_
 refine j_range 1 rfl fun hry=>?_
 have hxB : ∀ z ∈ x,z < 4294967296:=fun z hz=>by have:=hrx z hz;simp only [InR] at this;omega
 have hyB : ∀ z ∈ y,z < 4294967296:=fun z hz=>by have:=hry z hz;simp only [InR] at this;omega
 have ey:=trim_eq hyB
 have ex:=trim_eq hxB
 have ly:=trim_length_le y
 by_cases hy0 : val y = 0
 ·have e0 : (trim y).length = 0:=by rw [ey,hy0,limbs_zero];rfl
  refine j_nf [.o (pL 96) 0,.c (pL 97),.c [1,0,0,0,1],.lp [1,0,0,0],.blk 0,.c [1,1]] rfl ?_
  refine j_run it 1 rfl (by simp) ?_
  refine j_step rfl (x_call [1] rfl (S_codewrightref01_Zero) rfl ?_)
  rintro _ _ _ ⟨rfl,rfl,rfl⟩
  simp only [List.cons_append,List.nil_append]
  refine j_run it 1 rfl (by simp) ?_
  refine j_nf [.c (pL 97),.c [1,0,0,0,1],.lp [1,0,0,0],.blk 0,.c [1,1]] rfl ?_
  refine j_ifn rfl rfl (fun h1=>by exfalso;omega) (fun h1=>?_)
  refine j_nf [.o [1,1,0] 0,.c [1,1,1]] rfl ?_
  refine j_run it 1 rfl (by simp) ?_
  refine j_step rfl (x_call [0] rfl (S_codewrightref01_Trim) rfl ?_)
  rintro _ _ _ ⟨pa1,ca1,rfl,rfl,rfl⟩
  simp only [List.cons_append,List.nil_append]
  refine j_run it 1 rfl (by simp) ?_
  refine j_nf [.c [1,1,1]] rfl ?_
  rw [ex,show val x = Nat.gcd (val a) (val b) by rw [← hg,hy0,Nat.gcd_zero_right]]
  refine j_giv [0] rfl rfl rfl ⟨_,_,rfl,rfl,rfl⟩
 ·have e0 : 0 < (trim y).length:=by rw [ey];exact List.length_pos_iff.2 (fun h=>hy0 (limbs_nil.1 h))
  have hm : val x % val y < val y:=Nat.mod_lt _ (Nat.pos_of_ne_zero hy0)
  refine j_nf [.o (pL 96) 0,.c (pL 97),.c [1,0,0,0,1],.lp [1,0,0,0],.blk 0,.c [1,1]] rfl ?_
  refine j_run it 1 rfl (by simp) ?_
  refine j_step rfl (x_call [1] rfl (S_codewrightref01_Zero) rfl ?_)
  rintro _ _ _ ⟨rfl,rfl,rfl⟩
  simp only [List.cons_append,List.nil_append]
  refine j_run it 1 rfl (by simp) ?_
  refine j_nf [.c (pL 97),.c [1,0,0,0,1],.lp [1,0,0,0],.blk 0,.c [1,1]] rfl ?_
  refine j_ifn rfl rfl (fun h1=>?_) (fun h1=>by exfalso;omega)
  refine j_nf [.o (pL 196) 0,.c (pL 197),.blk 1,.lp [1,0,0,0],.blk 0,.c [1,1]] rfl ?_
  refine j_run it 2 rfl (by simp) ?_
  refine j_step rfl (x_call [0,1] rfl (S_codewrightref01_DivMod (by first|omega|exact side _ (by assumption)|assumption|rfl|(simp;done)|(simp;omega)) (by first|omega|exact side _ (by assumption)|assumption|rfl|(simp;done)|(simp;omega)) (by first|omega|exact side _ (by assumption)|assumption|rfl|(simp;done)|(simp;omega))) rfl ?_)
  rintro _ _ _ ⟨p11,c11,p21,c21,rfl,rfl,rfl⟩
  simp only [List.cons_append,List.nil_append]
  refine j_run it 5 rfl (by simp) ?_
  refine j_nf [.o (pL 394) 0,.c (pL 395),.blk 1,.lp [1,0,0,0],.blk 0,.c [1,1]] rfl ?_
  refine j_run it 2 rfl (by simp) ?_
  refine j_nf [.o (pL 395) 0,.blk 1,.lp [1,0,0,0],.blk 0,.c [1,1]] rfl ?_
  refine j_run it 2 rfl (by simp) ?_
  refine j_nfn 2 [.lp [1,0,0,0],.blk 0,.c [1,1]] rfl ?_
  refine j_to [3,1] (by repeat (first | exact Fr.sub_nil _ | refine Fr.sub_cons rfl ?_ | refine Fr.sub_consI rfl (by first | omega | (dsimp only;omega)) ?_ | refine Fr.sub_consS rfl (by first | omega | (dsimp only;omega)) (by first | omega | (dsimp only;omega)) ?_)) rfl rfl (ih (y,limbs (val x % val y),(py,cy),(p21,c21)) (by dsimp only;rw [val_limbs];exact hm) ⟨hy,by
   dsimp only
   rw [ey] at ly
   exact limbs_mono (Nat.le_trans ly hy) (Nat.le_of_lt hm),by dsimp only;rw [val_limbs,← hg];exact (Nat.gcd_comm _ _).trans ((Nat.gcd_rec (val y) (val x)).symm.trans (Nat.gcd_comm _ _))⟩)
end Go.Proofs.Ythahejfpdhcpiaa

namespace Go.Proofs.Ythahejfpdhcpiaa
open Go Go.Fw
set_option maxRecDepth 100000
set_option linter.unusedVariables false
set_option linter.unusedSimpArgs false
set_option maxHeartbeats 2000000
theorem S_codewrightref02_Make {neg : Bool} {pn pd : Option Addr} {n m cn cd : Nat} {N D : List Nat} (hN : N.length ≤ 1073741824) (hD : D.length ≤ 1073741824) :
  Ctr Try.prog 60 [.bool neg,.slice pn n cn,.slice pd m cd] [] [slF U32 pn n cn N,slF U32 pd m cd D] (RtV (rt (vq (neg,N,D)))):=by
 refine Ctr_of_j' (F:=F_codewrightref02_Make) rfl fun C=>?_
 refine j_len 0 rfl fun hn hba _=>?_
 refine j_len 1 rfl fun hm hbb _=>?_
 subst hn;subst hm
 refine j_range 0 rfl fun hra=>?_
 refine j_range 1 rfl fun hrb=>?_
 have ha:=lim hra
 have hb:=lim hrb
 have ea:=trim_eq ha
 have eb:=trim_eq hb
 have za : (trim N).length = 0 ↔ val N = 0:=by rw [ea];exact ⟨fun h=>limbs_nil.1 (List.eq_nil_of_length_eq_zero h),fun h=>by rw [h,limbs_zero];rfl⟩
 have zb : (trim D).length = 0 ↔ val D = 0:=by rw [eb];exact ⟨fun h=>limbs_nil.1 (List.eq_nil_of_length_eq_zero h),fun h=>by rw [h,limbs_zero];rfl⟩
 have zero : val N = 0 ∨ val D = 0 → rt (vq (neg,N,D)) = (false,[],[1]):=fun h=>by rw [vq_eq,mk_zero h,rt_zero]
 by_cases h1 : (trim N).length = 0
 ·have e:=zero (.inl (za.1 h1))
  refine j_nf [.o [0] 0,.c [1]] rfl ?_
  refine j_step rfl (x_alloc zo44 fun b1=>?_)
  refine j_nf [.o [1,0,0] 0,.c [1,0,1],.c [1,1]] rfl ?_
  refine j_run it 1 rfl (by simp) ?_
  refine j_step rfl (x_call [0] rfl (S_codewrightref01_Zero) rfl ?_)
  rintro _ _ _ ⟨rfl,rfl,rfl⟩
  simp only [List.cons_append,List.nil_append]
  refine j_run it 1 rfl (by simp) ?_
  refine j_split_dec (t:=14) rfl (fun h2=>?_) (fun h2=>by exfalso;omega)
  refine j_run it 3 rfl (by simp) ?_
  refine j_nf [.c [1,0,1],.c [1,1]] rfl ?_
  refine j_true rfl rfl ?_
  refine j_nf [.o [1,0,1,0,0] 0,.c [1,0,1,0,1],.c [1,1]] rfl ?_
  refine j_step rfl (x_lit0 sl42 fun b2=>?_)
  refine j_step rfl (x_lit sl42 zo42e rfl rfl rfl rfl (by decide) (by decide) rfl fun b3=>?_)
  refine j_step rfl (x_build (cs:=[Value.bool false,Value.slice (some { block:=b2,off:=0 }) 0 0,Value.slice (some { block:=b3,off:=0 }) 1 1]) st44 zo44 rfl rfl ?_)
  refine j_step rfl (x_bst_all 2 rfl rfl rfl ld44 rfl rfl (by simp [Value.oneCell']) ?_)
  refine j_nf [.c [1,0,1,0,1],.c [1,1]] rfl ?_
  refine j_pub_made (n:=1) (kd:=.u32) 4 [1] 0 rfl rfl (by simp [InR]) (by decide) (by decide) ?_
  refine j_add (slF U32 (some ⟨b2,0,none⟩) 0 0 []) (fun w A _=>slF_nil _ _ _ _ _) ?_
  refine j_givC [0,1] rfl (.agg 1 rfl rfl ld44 rfl .nil) rfl ⟨_,_,_,_,by rw [e];rfl,by rw [e];rfl,rfl⟩
 by_cases h2 : (trim D).length = 0
 ·have e:=zero (.inr (zb.1 h2))
  refine j_nf [.o [0] 0,.c [1]] rfl ?_
  refine j_step rfl (x_alloc zo44 fun b1=>?_)
  refine j_nf [.o [1,0,0] 0,.c [1,0,1],.c [1,1]] rfl ?_
  refine j_run it 1 rfl (by simp) ?_
  refine j_step rfl (x_call [0] rfl (S_codewrightref01_Zero) rfl ?_)
  rintro _ _ _ ⟨rfl,rfl,rfl⟩
  simp only [List.cons_append,List.nil_append]
  refine j_run it 1 rfl (by simp) ?_
  refine j_split_dec (t:=14) rfl (fun h3=>by exfalso;omega) (fun h3=>?_)
  refine j_run it 1 rfl (by simp) ?_
  refine j_gstep rfl rfl (x_call [1] rfl (S_codewrightref01_Zero) rfl ?_)
  rintro _ _ _ ⟨rfl,rfl,rfl⟩
  simp only [List.cons_append,List.nil_append]
  refine j_run it 1 rfl (by simp) ?_
  refine j_nf [.c [1,0,1],.c [1,1]] rfl ?_
  refine j_if rfl rfl (fun h4=>?_) (fun h4=>by exfalso;omega)
  refine j_nf [.o [1,0,1,0,0] 0,.c [1,0,1,0,1],.c [1,1]] rfl ?_
  refine j_step rfl (x_lit0 sl42 fun b2=>?_)
  refine j_step rfl (x_lit sl42 zo42e rfl rfl rfl rfl (by decide) (by decide) rfl fun b3=>?_)
  refine j_step rfl (x_build (cs:=[Value.bool false,Value.slice (some { block:=b2,off:=0 }) 0 0,Value.slice (some { block:=b3,off:=0 }) 1 1]) st44 zo44 rfl rfl ?_)
  refine j_step rfl (x_bst_all 2 rfl rfl rfl ld44 rfl rfl (by simp [Value.oneCell']) ?_)
  refine j_nf [.c [1,0,1,0,1],.c [1,1]] rfl ?_
  refine j_pub_made (n:=1) (kd:=.u32) 4 [1] 0 rfl rfl (by simp [InR]) (by decide) (by decide) ?_
  refine j_add (slF U32 (some ⟨b2,0,none⟩) 0 0 []) (fun w A _=>slF_nil _ _ _ _ _) ?_
  refine j_givC [0,1] rfl (.agg 1 rfl rfl ld44 rfl .nil) rfl ⟨_,_,_,_,by rw [e];rfl,by rw [e];rfl,rfl⟩
 ·have v1 : val N ≠ 0:=fun h=>h1 (za.2 h)
  have v2 : val D ≠ 0:=fun h=>h2 (zb.2 h)
  have hg : val (limbs (Nat.gcd (val N) (val D))) ≠ 0:=by
   rw [val_limbs]
   have:=Nat.gcd_pos_of_pos_left (val D) (Nat.pos_of_ne_zero v1)
   omega
  have e : rt (vq (neg,N,D)) = (neg,limbs (val N / val (limbs (Nat.gcd (val N) (val D)))),limbs (val D / val (limbs (Nat.gcd (val N) (val D))))):=by
   rw [vq_eq,rt_mk v1 v2,val_limbs]
  have hgl : (limbs (Nat.gcd (val N) (val D))).length ≤ 1073741824:=limbs_mono (Nat.le_trans (by rw [← ea];exact trim_length_le N) hN) (Nat.gcd_le_left _ (Nat.pos_of_ne_zero v1))
  refine j_nf [.o [0] 0,.c [1]] rfl ?_
  refine j_step rfl (x_alloc zo44 fun b1=>?_)
  refine j_nf [.o [1,0,0] 0,.c [1,0,1],.c [1,1]] rfl ?_
  refine j_run it 1 rfl (by simp) ?_
  refine j_step rfl (x_call [0] rfl (S_codewrightref01_Zero) rfl ?_)
  rintro _ _ _ ⟨rfl,rfl,rfl⟩
  simp only [List.cons_append,List.nil_append]
  refine j_run it 1 rfl (by simp) ?_
  refine j_split_dec (t:=14) rfl (fun h3=>by exfalso;omega) (fun h3=>?_)
  refine j_run it 1 rfl (by simp) ?_
  refine j_gstep rfl rfl (x_call [1] rfl (S_codewrightref01_Zero) rfl ?_)
  rintro _ _ _ ⟨rfl,rfl,rfl⟩
  simp only [List.cons_append,List.nil_append]
  refine j_run it 1 rfl (by simp) ?_
  refine j_nf [.c [1,0,1],.c [1,1]] rfl ?_
  refine j_if rfl rfl (fun h4=>by exfalso;omega) (fun h4=>?_)
  refine j_nf [.o [1,1,0] 0,.c [1,1,1]] rfl ?_
  refine j_run it 2 rfl (by simp) ?_
  refine j_step rfl (x_call [0,1] rfl (S_codewrightref01_Gcd (by first|omega|exact side _ (by assumption)|assumption|rfl|(simp;done)|(simp;omega)) (by first|omega|exact side _ (by assumption)|assumption|rfl|(simp;done)|(simp;omega))) rfl ?_)
  rintro _ _ _ ⟨pa1,ca1,rfl,rfl,rfl⟩
  simp only [List.cons_append,List.nil_append]
  refine j_run it 1 rfl (by simp) ?_
  refine j_nf [.o [1,1,1,0] 0,.c [1,1,1,1]] rfl ?_
  refine j_run it 2 rfl (by simp) ?_
  refine j_step rfl (x_call [1,0] rfl (S_codewrightref01_DivMod (by first|omega|exact side _ (by assumption)|assumption|rfl|(simp;done)|(simp;omega)) (by first|omega|exact side _ (by assumption)|assumption|rfl|(simp;done)|(simp;omega)) (by first|omega|exact side _ (by assumption)|assumption|rfl|(simp;done)|(simp;omega))) rfl ?_)
  rintro _ _ _ ⟨p11,c11,p21,c21,rfl,rfl,rfl⟩
  simp only [List.cons_append,List.nil_append]
  refine j_run it 5 rfl (by simp) ?_
  refine j_nf [.o [1,1,1,1,0] 0,.c [1,1,1,1,1]] rfl ?_
  refine j_run it 2 rfl (by simp) ?_
  refine j_step rfl (x_call [4,2] rfl (S_codewrightref01_DivMod (by first|omega|exact side _ (by assumption)|assumption|rfl|(simp;done)|(simp;omega)) (by first|omega|exact side _ (by assumption)|assumption|rfl|(simp;done)|(simp;omega)) (by first|omega|exact side _ (by assumption)|assumption|rfl|(simp;done)|(simp;omega))) rfl ?_)
  rintro _ _ _ ⟨p12,c12,p22,c22,rfl,rfl,rfl⟩
  simp only [List.cons_append,List.nil_append]
  refine j_run it 5 rfl (by simp) ?_
  refine j_nf [.o (pL 126) 0,.c (pL 127)] rfl ?_
  refine j_run it 3 rfl (by simp) ?_
  refine j_step rfl (x_build (cs:=[Value.bool neg,Value.slice p11 (limbs (val N / val (limbs ((val N).gcd (val D))))).length c11,Value.slice p12 (limbs (val D / val (limbs ((val N).gcd (val D))))).length c12]) st44 zo44 rfl rfl ?_)
  refine j_step rfl (x_bst_all 0 rfl rfl rfl ld44 rfl rfl (by simp [Value.oneCell']) ?_)
  refine j_nf [.c (pL 127)] rfl ?_
  refine j_givC [2,0] rfl (.agg 0 rfl rfl ld44 rfl .nil) rfl ⟨p11,c11,p12,c12,by rw [e];rfl,by rw [e],rfl⟩
theorem S_codewrightref02_Trim {neg : Bool} {pn pd : Option Addr} {n m cn cd : Nat} {N D : List Nat} (hN : N.length ≤ 1073741824) (hD : D.length ≤ 1073741824) :
  Ctr Try.prog 54 [.agg #[.bool neg,.slice pn n cn,.slice pd m cd]] [] [slF U32 pn n cn N,slF U32 pd m cd D] (RtV (rt (vq (neg,N,D)))):=by
 refine Ctr_of_j' (F:=F_codewrightref02_Trim) rfl fun C=>?_
 refine j_nf [.o [0] 0,.c [1]] rfl ?_
 refine j_step rfl (x_box_agg rfl fun b1=>?_)
 refine j_step rfl (x_alloc zo44 fun b2=>?_)
 refine j_nf [.o [1,0] 0,.c [1,1]] rfl ?_
 refine j_step rfl (x_field rfl fd44_0 ?_)
 refine j_step rfl (x_bld 1 rfl rfl ld4 rfl ?_)
 refine j_step rfl (x_field rfl fd44_1 ?_)
 refine j_step rfl (x_bld 1 rfl rfl ld42 rfl ?_)
 refine j_step rfl (x_field rfl fd44_2 ?_)
 refine j_step rfl (x_bld 1 rfl rfl ld42 rfl ?_)
 refine j_step rfl (x_call [0,1] rfl (S_codewrightref02_Make (by first|omega|exact side _ (by assumption)|assumption|rfl|(simp;done)|(simp;omega)) (by first|omega|exact side _ (by assumption)|assumption|rfl|(simp;done)|(simp;omega))) rfl ?_)
 rintro _ _ _ ⟨pn1,cn1,pd1,cd1,rfl,rfl,rfl⟩
 simp only [List.cons_append,List.nil_append]
 refine j_step rfl (x_bst_all 0 rfl rfl rfl ld44 rfl rfl (by simp [Value.oneCell']) ?_)
 refine j_nf [.c [1,1]] rfl ?_
 refine j_givC [0,1] rfl (.agg 0 rfl rfl ld44 rfl .nil) rfl ⟨_,_,_,_,rfl,rfl,rfl⟩
theorem S_codewrightref02_Sign {neg : Bool} {pn pd : Option Addr} {n m cn cd : Nat} {N D : List Nat} (hN : N.length ≤ 1073741824) (hD : D.length ≤ 1073741824) :
  Ctr Try.prog 50 [.agg #[.bool neg,.slice pn n cn,.slice pd m cd]] [] [slF U32 pn n cn N,slF U32 pd m cd D] (Rv (.int .i64 (vq (neg,N,D)).num.sign) []):=by
 refine Ctr_of_j' (F:=F_codewrightref02_Sign) rfl fun C=>?_
 by_cases h0 : (rt (vq (neg,N,D))).2.1.length = 0
 ·have e : (vq (neg,N,D)).num.sign = 0:=by
   have:=List.eq_nil_of_length_eq_zero h0
   have h2 : (vq (neg,N,D)).num.natAbs = 0:=limbs_nil.1 this
   have h3 : (vq (neg,N,D)).num = 0:=by omega
   rw [h3];rfl
  rw [e]
  refine j_nf [.o [0] 0,.c [1]] rfl ?_
  refine j_step rfl (x_box_agg rfl fun b1=>?_)
  refine j_run it 1 rfl (by simp) ?_
  refine j_nf [.o [1,0] 0,.c [1,1]] rfl ?_
  refine j_step rfl (x_bld_all 0 rfl rfl ld44 rfl ?_)
  refine j_step rfl (x_call [0,1] rfl (S_codewrightref02_Trim (by first|omega|exact side _ (by assumption)|assumption|rfl|(simp;done)|(simp;omega)) (by first|omega|exact side _ (by assumption)|assumption|rfl|(simp;done)|(simp;omega))) rfl ?_)
  rintro _ _ _ ⟨pn1,cn1,pd1,cd1,rfl,rfl,rfl⟩
  simp only [List.cons_append,List.nil_append]
  refine j_step rfl (x_bst_all 0 rfl rfl rfl ld44 rfl rfl (by simp [Value.oneCell']) ?_)
  refine j_nf [.o [1,1,0,0] 0,.c [1,1,0,1],.c [1,1,1]] rfl ?_
  refine j_step rfl (x_field rfl fd44_1 ?_)
  refine j_step rfl (x_bld 0 rfl rfl ld42 rfl ?_)
  refine j_step rfl (x_len sl42 rfl ?_)
  refine j_run it 1 rfl (by simp) ?_
  refine j_nf [.c [1,1,0,1],.c [1,1,1]] rfl ?_
  refine j_if rfl rfl (fun h1=>?_) (fun h1=>by exfalso;omega)
  refine j_nf [.o (pL 116) 0,.c (pL 117),.c [1,1,1]] rfl ?_
  refine j_run it 1 rfl (by simp) ?_
  refine j_nf [.c (pL 117),.c [1,1,1]] rfl ?_
  refine j_giv [] rfl rfl rfl ⟨rfl,rfl,rfl⟩
 ·have e : (vq (neg,N,D)).num ≠ 0:=fun h=>h0 (by show (limbs (vq (neg,N,D)).num.natAbs).length = 0;rw [h];simp [limbs_zero])
  refine j_nf [.o [0] 0,.c [1]] rfl ?_
  refine j_step rfl (x_box_agg rfl fun b1=>?_)
  refine j_run it 1 rfl (by simp) ?_
  refine j_nf [.o [1,0] 0,.c [1,1]] rfl ?_
  refine j_step rfl (x_bld_all 0 rfl rfl ld44 rfl ?_)
  refine j_step rfl (x_call [0,1] rfl (S_codewrightref02_Trim (by first|omega|exact side _ (by assumption)|assumption|rfl|(simp;done)|(simp;omega)) (by first|omega|exact side _ (by assumption)|assumption|rfl|(simp;done)|(simp;omega))) rfl ?_)
  rintro _ _ _ ⟨pn1,cn1,pd1,cd1,rfl,rfl,rfl⟩
  simp only [List.cons_append,List.nil_append]
  refine j_step rfl (x_bst_all 0 rfl rfl rfl ld44 rfl rfl (by simp [Value.oneCell']) ?_)
  refine j_nf [.o [1,1,0,0] 0,.c [1,1,0,1],.c [1,1,1]] rfl ?_
  refine j_step rfl (x_field rfl fd44_1 ?_)
  refine j_step rfl (x_bld 0 rfl rfl ld42 rfl ?_)
  refine j_step rfl (x_len sl42 rfl ?_)
  refine j_run it 1 rfl (by simp) ?_
  refine j_nf [.c [1,1,0,1],.c [1,1,1]] rfl ?_
  refine j_if rfl rfl (fun h1=>by exfalso;omega) (fun h1=>?_)
  refine j_nf [.o [1,1,1,0,0] 0,.c [1,1,1,0,1],.c [1,1,1,1]] rfl ?_
  refine j_step rfl (x_field rfl fd44_0 ?_)
  refine j_step rfl (x_bld 0 rfl rfl ld4 rfl ?_)
  refine j_nf [.c [1,1,1,0,1],.c [1,1,1,1]] rfl ?_
  refine j_cond rfl rfl (fun h2=>?_) (fun h2=>?_)
  ·have hn : (vq (neg,N,D)).num < 0:=by simpa [rt] using h2
   rw [Int.sign_eq_neg_one_of_neg hn]
   refine j_nf [.o (pL 244) 0,.c (pL 245),.c [1,1,1,1]] rfl ?_
   refine j_run it 1 rfl (by simp) ?_
   refine j_nf [.c (pL 245),.c [1,1,1,1]] rfl ?_
   refine j_giv [] rfl rfl rfl ⟨rfl,rfl,rfl⟩
  ·have hn : ¬ (vq (neg,N,D)).num < 0:=by simpa [rt] using h2
   rw [Int.sign_eq_one_of_pos (by omega)]
   refine j_nf [.o [1,1,1,1,0] 0,.c [1,1,1,1,1]] rfl ?_
   refine j_run it 1 rfl (by simp) ?_
   refine j_nf [.c [1,1,1,1,1]] rfl ?_
   refine j_giv [] rfl rfl rfl ⟨rfl,rfl,rfl⟩
theorem S_codewrightref02_Neg {neg : Bool} {pn pd : Option Addr} {n m cn cd : Nat} {N D : List Nat} (hN : N.length ≤ 1073741824) (hD : D.length ≤ 1073741824) :
  Ctr Try.prog 23 [.agg #[.bool neg,.slice pn n cn,.slice pd m cd]] [] [slF U32 pn n cn N,slF U32 pd m cd D] (RtV (rt (-vq (neg,N,D)))):=by
 refine Ctr_of_j' (F:=F_codewrightref02_Neg) rfl fun C=>?_
 refine j_len 0 rfl fun hn _ _=>?_
 refine j_len 1 rfl fun hm _ _=>?_
 subst hn;subst hm
 refine j_range 0 rfl fun hra=>?_
 refine j_range 1 rfl fun hrb=>?_
 obtain ⟨k1,k2⟩:=rt_len (g:=neg) (lim hra) (lim hrb) hN hD (by decide)
 have e : vq (!(rt (vq (neg,N,D))).1,(rt (vq (neg,N,D))).2.1,(rt (vq (neg,N,D))).2.2) = -vq (neg,N,D):=by
  rw [vq_eq,neg_mk];congr 1;exact vq_rt _
 refine j_nf [.o [0] 0,.c [1]] rfl ?_
 refine j_step rfl (x_box_agg rfl fun b1=>?_)
 refine j_step rfl (x_alloc zo44 fun b2=>?_)
 refine j_nf [.o [1,0] 0,.c [1,1]] rfl ?_
 refine j_step rfl (x_bld_all 1 rfl rfl ld44 rfl ?_)
 refine j_step rfl (x_call [0,1] rfl (S_codewrightref02_Trim (by first|omega|exact side _ (by assumption)|assumption|rfl|(simp;done)|(simp;omega)) (by first|omega|exact side _ (by assumption)|assumption|rfl|(simp;done)|(simp;omega))) rfl ?_)
 rintro _ _ _ ⟨pn1,cn1,pd1,cd1,rfl,rfl,rfl⟩
 simp only [List.cons_append,List.nil_append]
 refine j_step rfl (x_bst_all 1 rfl rfl rfl ld44 rfl rfl (by simp [Value.oneCell']) ?_)
 refine j_nf [.o [1,1,0] 0,.c [1,1,1]] rfl ?_
 refine j_step rfl (x_field rfl fd44_0 ?_)
 refine j_step rfl (x_bld 1 rfl rfl ld4 rfl ?_)
 refine j_run it 1 rfl (by simp) ?_
 refine j_step rfl (x_field rfl fd44_1 ?_)
 refine j_step rfl (x_bld 1 rfl rfl ld42 rfl ?_)
 refine j_step rfl (x_field rfl fd44_2 ?_)
 refine j_step rfl (x_bld 1 rfl rfl ld42 rfl ?_)
 refine j_step rfl (x_call [0,1] rfl (S_codewrightref02_Make (by first|omega|exact side _ (by assumption)|assumption|rfl|(simp;done)|(simp;omega)) (by first|omega|exact side _ (by assumption)|assumption|rfl|(simp;done)|(simp;omega))) rfl ?_)
 rintro _ _ _ ⟨pn2,cn2,pd2,cd2,rfl,rfl,rfl⟩
 simp only [List.cons_append,List.nil_append]
 refine j_step rfl (x_bst_all 0 rfl rfl rfl ld44 rfl rfl (by simp [Value.oneCell']) ?_)
 refine j_nf [.c [1,1,1]] rfl ?_
 rw [e]
 refine j_givC [0,1] rfl (.agg 0 rfl rfl ld44 rfl .nil) rfl ⟨_,_,_,_,rfl,rfl,rfl⟩
theorem mul_rt (p q : Rat) : vq ((rt p).1 != (rt q).1,limbs (val (rt p).2.1 * val (rt q).2.1),limbs (val (rt p).2.2 * val (rt q).2.2)) = p * q:=by
 rw [vq_eq]
 simp only [val_limbs,num_rt,den_rt,neg_rt]
 exact mul_mk _ _
theorem limbs_of {l : List Nat} {k : Nat} {x : Nat} (h : l = limbs x) (hl : l.length ≤ k) : (limbs (val l)).length ≤ k:=by subst h;rw [val_limbs];exact hl
theorem S_codewrightref02_Mul {g1 g2 : Bool} {pn1 pd1 pn2 pd2 : Option Addr} {n1 m1 n2 m2 cn1 cd1 cn2 cd2 : Nat} {N1 D1 N2 D2 : List Nat}
  (l1 : N1.length ≤ 134217728) (l2 : D1.length ≤ 134217728) (l3 : N2.length ≤ 134217728) (l4 : D2.length ≤ 134217728) :
  Ctr Try.prog 59 [.agg #[.bool g1,.slice pn1 n1 cn1,.slice pd1 m1 cd1],.agg #[.bool g2,.slice pn2 n2 cn2,.slice pd2 m2 cd2]] [] [slF U32 pn1 n1 cn1 N1,slF U32 pd1 m1 cd1 D1,slF U32 pn2 n2 cn2 N2,slF U32 pd2 m2 cd2 D2] (RtV (rt (vq (g1,N1,D1) * vq (g2,N2,D2)))):=by
 refine Ctr_of_j' (F:=F_codewrightref02_Mul) rfl fun C=>?_
 refine j_range 0 rfl fun r1=>?_
 refine j_range 1 rfl fun r2=>?_
 refine j_range 2 rfl fun r3=>?_
 refine j_range 3 rfl fun r4=>?_
 obtain ⟨k1,k2⟩:=rt_len (g:=g1) (lim r1) (lim r2) l1 l2 (by decide)
 obtain ⟨k3,k4⟩:=rt_len (g:=g2) (lim r3) (lim r4) l3 l4 (by decide)
 have LX : (limbs (val (rt (vq (g1,N1,D1))).2.1 * val (rt (vq (g2,N2,D2))).2.1)).length ≤ 1073741824:=Nat.le_trans (prod_lim (limbs_of rfl k1) (limbs_of rfl k3)) (by decide)
 have LY : (limbs (val (rt (vq (g1,N1,D1))).2.2 * val (rt (vq (g2,N2,D2))).2.2)).length ≤ 1073741824:=Nat.le_trans (prod_lim (limbs_of rfl k2) (limbs_of rfl k4)) (by decide)
 refine j_nf [.o [0] 0,.c [1]] rfl ?_
 refine j_step rfl (x_box_agg rfl fun b1=>?_)
 refine j_step rfl (x_box_agg rfl fun b2=>?_)
 refine j_step rfl (x_alloc zo44 fun b3=>?_)
 refine j_nf [.o [1,0] 0,.c [1,1]] rfl ?_
 refine j_step rfl (x_bld_all 2 rfl rfl ld44 rfl ?_)
 refine j_step rfl (x_call [0,1] rfl (S_codewrightref02_Trim (by first|omega|exact side _ (by assumption)|assumption|rfl|(simp;done)|(simp;omega)) (by first|omega|exact side _ (by assumption)|assumption|rfl|(simp;done)|(simp;omega))) rfl ?_)
 rintro _ _ _ ⟨pn3,cn3,pd3,cd3,rfl,rfl,rfl⟩
 simp only [List.cons_append,List.nil_append]
 refine j_step rfl (x_bst_all 2 rfl rfl rfl ld44 rfl rfl (by simp [Value.oneCell']) ?_)
 refine j_nf [.o [1,1,0] 0,.c [1,1,1]] rfl ?_
 refine j_step rfl (x_bld_all 1 rfl rfl ld44 rfl ?_)
 refine j_step rfl (x_call [4,5] rfl (S_codewrightref02_Trim (by first|omega|exact side _ (by assumption)|assumption|rfl|(simp;done)|(simp;omega)) (by first|omega|exact side _ (by assumption)|assumption|rfl|(simp;done)|(simp;omega))) rfl ?_)
 rintro _ _ _ ⟨pn4,cn4,pd4,cd4,rfl,rfl,rfl⟩
 simp only [List.cons_append,List.nil_append]
 refine j_step rfl (x_bst_all 1 rfl rfl rfl ld44 rfl rfl (by simp [Value.oneCell']) ?_)
 refine j_nf [.c [1,1,1,0],.c [1,1,1,1]] rfl ?_
 (apply j_drawK it mx 16;(· rfl);(· rfl))
 (apply lxk_eq;(· rfl);(· exact d_x fun _=>x_field rfl fd44_0 dk_eq))
 (apply lxk_eq;(· rfl);(· exact d_bld 2 rfl rfl ld4 rfl))
 (apply lxk_eq;(· rfl);(· exact d_x fun _=>x_field rfl fd44_0 dk_eq))
 (apply lxk_eq;(· rfl);(· exact d_bld 1 rfl rfl ld4 rfl))
 (apply lxk_eq;(· rfl);(· exact d_x fun _=>x_neb ub rfl rfl dk_eq))
 (apply lxk_eq;(· rfl);(· exact d_x fun _=>x_field rfl fd44_1 dk_eq))
 (apply lxk_eq;(· rfl);(· exact d_bld 2 rfl rfl ld42 rfl))
 (apply lxk_eq;(· rfl);(· exact d_x fun _=>x_field rfl fd44_1 dk_eq))
 (apply lxk_eq;(· rfl);(· exact d_bld 1 rfl rfl ld42 rfl))
 (apply lxk_sl;(· rfl);(· exact d_x fun _=>x_call [2,0] rfl (S_codewrightref01_Mul (by first|omega|exact side _ (by assumption)|assumption|rfl|(simp;done)|(simp;omega)) (by first|omega|exact side _ (by assumption)|assumption|rfl|(simp;done)|(simp;omega))) rfl (by rintro _ _ _ ⟨pa1,ca1,rfl,rfl,rfl⟩;exact (dk_sl 0 rfl)));intro pa1 ca1)
 (apply lxk_eq;(· rfl);(· exact d_x fun _=>x_field rfl fd44_2 dk_eq))
 (apply lxk_eq;(· rfl);(· exact d_bld 2 rfl rfl ld42 rfl))
 (apply lxk_eq;(· rfl);(· exact d_x fun _=>x_field rfl fd44_2 dk_eq))
 (apply lxk_eq;(· rfl);(· exact d_bld 1 rfl rfl ld42 rfl))
 (apply lxk_sl;(· rfl);(· exact d_x fun _=>x_call [4,2] rfl (S_codewrightref01_Mul (by first|omega|exact side _ (by assumption)|assumption|rfl|(simp;done)|(simp;omega)) (by first|omega|exact side _ (by assumption)|assumption|rfl|(simp;done)|(simp;omega))) rfl (by rintro _ _ _ ⟨pa2,ca2,rfl,rfl,rfl⟩;exact (dk_sl 0 rfl)));intro pa2 ca2)
 (apply lxk_rq;(· rfl);(· exact d_x fun _=>x_call [1,0] rfl (S_codewrightref02_Make (by first|omega|exact side _ (by assumption)|assumption|rfl|(simp;done)|(simp;omega)) (by first|omega|exact side _ (by assumption)|assumption|rfl|(simp;done)|(simp;omega))) rfl (by rintro _ _ _ ⟨pn5,cn5,pd5,cd5,rfl,rfl,rfl⟩;exact (dk_rq 0 1 rfl rfl)));intro pn5 cn5 pd5 cd5)
 simp only [vq_rt']
 refine lxk_end rfl ?_
 simp only [List.map_cons,List.map_nil,List.cons_append,List.nil_append]
 refine j_step rfl (x_bst_all 0 rfl rfl rfl ld44 rfl rfl (by simp [Value.oneCell']) ?_)
 refine j_nf [.c [1,1,1,1]] rfl ?_
 rw [mul_rt]
 refine j_givC [0,1] rfl (.agg 0 rfl rfl ld44 rfl .nil) rfl ⟨_,_,_,_,rfl,rfl,rfl⟩
end Go.Proofs.Ythahejfpdhcpiaa

namespace Go.Proofs.Ythahejfpdhcpiaa
open Go Go.Fw
set_option maxRecDepth 100000
set_option linter.unusedVariables false
set_option linter.unusedSimpArgs false
set_option maxHeartbeats 2000000
theorem lenN {p : Rat} {k : Nat} (h : (rt p).2.1.length ≤ k) : (limbs (val (rt p).2.1)).length ≤ k:=limbs_of (l:=(rt p).2.1) rfl h
theorem lenD {p : Rat} {k : Nat} (h : (rt p).2.2.length ≤ k) : (limbs (val (rt p).2.2)).length ≤ k:=limbs_of (l:=(rt p).2.2) rfl h
theorem S_codewrightref02_Add {g1 g2 : Bool} {pn1 pd1 pn2 pd2 : Option Addr} {n1 m1 n2 m2 cn1 cd1 cn2 cd2 : Nat} {N1 D1 N2 D2 : List Nat}
  (l1 : N1.length ≤ 134217728) (l2 : D1.length ≤ 134217728) (l3 : N2.length ≤ 134217728) (l4 : D2.length ≤ 134217728) :
  Ctr Try.prog 58 [.agg #[.bool g1,.slice pn1 n1 cn1,.slice pd1 m1 cd1],.agg #[.bool g2,.slice pn2 n2 cn2,.slice pd2 m2 cd2]] [] [slF U32 pn1 n1 cn1 N1,slF U32 pd1 m1 cd1 D1,slF U32 pn2 n2 cn2 N2,slF U32 pd2 m2 cd2 D2] (RtV (rt (vq (g1,N1,D1) + vq (g2,N2,D2)))):=by
 refine Ctr_of_j' (F:=F_codewrightref02_Add) rfl fun C=>?_
 refine j_range 0 rfl fun r1=>?_
 refine j_range 1 rfl fun r2=>?_
 refine j_range 2 rfl fun r3=>?_
 refine j_range 3 rfl fun r4=>?_
 obtain ⟨k1,k2⟩:=rt_len (g:=g1) (lim r1) (lim r2) l1 l2 (by decide)
 obtain ⟨k3,k4⟩:=rt_len (g:=g2) (lim r3) (lim r4) l3 l4 (by decide)
 have LX:=prod_lim (lenN k1) (lenD k4)
 have LY:=prod_lim (lenN k3) (lenD k2)
 have LD:=prod_lim (lenD k2) (lenD k4)
 have LS:=sum_lim LX LY
 have hR : ∀ p q : Rat,(rt p).1 = (rt q).1 → vq ((rt p).1,limbs (val (limbs (val (rt p).2.1 * val (rt q).2.2)) + val (limbs (val (rt q).2.1 * val (rt p).2.2))),limbs (val (rt p).2.2 * val (rt q).2.2)) = p + q:=by
  intro p q h
  rw [vq_eq]
  simp only [val_limbs,num_rt,den_rt,neg_rt] at h ⊢
  exact add_same h
 have hG : ∀ p q : Rat,(rt p).1 ≠ (rt q).1 → val (limbs (val (rt q).2.1 * val (rt p).2.2)) ≤ val (limbs (val (rt p).2.1 * val (rt q).2.2)) → vq ((rt p).1,limbs (val (limbs (val (rt p).2.1 * val (rt q).2.2)) - val (limbs (val (rt q).2.1 * val (rt p).2.2))),limbs (val (rt p).2.2 * val (rt q).2.2)) = p + q:=by
  intro p q h hle
  rw [vq_eq]
  simp only [val_limbs,num_rt,den_rt,neg_rt] at h hle ⊢
  exact add_diff h hle
 refine j_nf [.o [0] 0,.c [1]] rfl ?_
 refine j_step rfl (x_box_agg rfl fun b1=>?_)
 refine j_step rfl (x_box_agg rfl fun b2=>?_)
 refine j_step rfl (x_alloc zo44 fun b3=>?_)
 refine j_nf [.o [1,0] 0,.c [1,1]] rfl ?_
 refine j_step rfl (x_bld_all 2 rfl rfl ld44 rfl ?_)
 refine j_step rfl (x_call [0,1] rfl (S_codewrightref02_Trim (by first|omega|exact side _ (by assumption)|assumption|rfl|(simp;done)|(simp;omega)) (by first|omega|exact side _ (by assumption)|assumption|rfl|(simp;done)|(simp;omega))) rfl ?_)
 rintro _ _ _ ⟨pn3,cn3,pd3,cd3,rfl,rfl,rfl⟩
 simp only [List.cons_append,List.nil_append]
 refine j_step rfl (x_bst_all 2 rfl rfl rfl ld44 rfl rfl (by simp [Value.oneCell']) ?_)
 refine j_nf [.o [1,1,0] 0,.c [1,1,1]] rfl ?_
 refine j_step rfl (x_bld_all 1 rfl rfl ld44 rfl ?_)
 refine j_step rfl (x_call [4,5] rfl (S_codewrightref02_Trim (by first|omega|exact side _ (by assumption)|assumption|rfl|(simp;done)|(simp;omega)) (by first|omega|exact side _ (by assumption)|assumption|rfl|(simp;done)|(simp;omega))) rfl ?_)
 rintro _ _ _ ⟨pn4,cn4,pd4,cd4,rfl,rfl,rfl⟩
 simp only [List.cons_append,List.nil_append]
 refine j_step rfl (x_bst_all 1 rfl rfl rfl ld44 rfl rfl (by simp [Value.oneCell']) ?_)
 refine j_nf [.o [1,1,1,0] 0,.c [1,1,1,1]] rfl ?_
 refine j_step rfl (x_field rfl fd44_1 ?_)
 refine j_step rfl (x_bld 2 rfl rfl ld42 rfl ?_)
 refine j_step rfl (x_field rfl fd44_2 ?_)
 refine j_step rfl (x_bld 1 rfl rfl ld42 rfl ?_)
 refine j_step rfl (x_call [2,1] rfl (S_codewrightref01_Mul (by first|omega|exact side _ (by assumption)|assumption|rfl|(simp;done)|(simp;omega)) (by first|omega|exact side _ (by assumption)|assumption|rfl|(simp;done)|(simp;omega))) rfl ?_)
 rintro _ _ _ ⟨pa1,ca1,rfl,rfl,rfl⟩
 simp only [List.cons_append,List.nil_append]
 refine j_run it 1 rfl (by simp) ?_
 refine j_nf [.o [1,1,1,1,0] 0,.c [1,1,1,1,1]] rfl ?_
 refine j_step rfl (x_field rfl fd44_1 ?_)
 refine j_step rfl (x_bld 1 rfl rfl ld42 rfl ?_)
 refine j_step rfl (x_field rfl fd44_2 ?_)
 refine j_step rfl (x_bld 2 rfl rfl ld42 rfl ?_)
 refine j_step rfl (x_call [1,4] rfl (S_codewrightref01_Mul (by first|omega|exact side _ (by assumption)|assumption|rfl|(simp;done)|(simp;omega)) (by first|omega|exact side _ (by assumption)|assumption|rfl|(simp;done)|(simp;omega))) rfl ?_)
 rintro _ _ _ ⟨pa2,ca2,rfl,rfl,rfl⟩
 simp only [List.cons_append,List.nil_append]
 refine j_run it 1 rfl (by simp) ?_
 refine j_nf [.o (pL 126) 0,.c (pL 127)] rfl ?_
 refine j_step rfl (x_field rfl fd44_2 ?_)
 refine j_step rfl (x_bld 2 rfl rfl ld42 rfl ?_)
 refine j_step rfl (x_field rfl fd44_2 ?_)
 refine j_step rfl (x_bld 1 rfl rfl ld42 rfl ?_)
 refine j_step rfl (x_call [5,3] rfl (S_codewrightref01_Mul (by first|omega|exact side _ (by assumption)|assumption|rfl|(simp;done)|(simp;omega)) (by first|omega|exact side _ (by assumption)|assumption|rfl|(simp;done)|(simp;omega))) rfl ?_)
 rintro _ _ _ ⟨pa3,ca3,rfl,rfl,rfl⟩
 simp only [List.cons_append,List.nil_append]
 refine j_run it 1 rfl (by simp) ?_
 refine j_nf [.o (pL 508) 0,.c (pL 509),.c (pL 255)] rfl ?_
 refine j_step rfl (x_field rfl fd44_0 ?_)
 refine j_step rfl (x_bld 2 rfl rfl ld4 rfl ?_)
 refine j_step rfl (x_field rfl fd44_0 ?_)
 refine j_step rfl (x_bld 1 rfl rfl ld4 rfl ?_)
 refine j_step rfl (x_eqb ub rfl rfl ?_)
 refine j_nf [.c (pL 509),.c (pL 255)] rfl ?_
 refine j_cond rfl rfl (fun h1=>?_) (fun h1=>?_)
 ·have hs : (rt (vq (g1,N1,D1))).1 = (rt (vq (g2,N2,D2))).1:=by simpa using h1
  have LS' : (limbs (val (limbs (val (rt (vq (g1,N1,D1))).2.1 * val (rt (vq (g2,N2,D2))).2.2)) + val (limbs (val (rt (vq (g2,N2,D2))).2.1 * val (rt (vq (g1,N1,D1))).2.2)))).length ≤ 1073741824:=by
   rw [val_limbs,val_limbs];exact Nat.le_trans LS (by decide)
  refine j_nf [.c (pL 2036),.c (pL 2037),.c (pL 255)] rfl ?_
  (apply j_drawK it mx 7;(· rfl);(· rfl))
  (apply lxk_eq;(· rfl);(· exact d_x fun _=>x_field rfl fd44_0 dk_eq))
  (apply lxk_eq;(· rfl);(· exact d_bld 2 rfl rfl ld4 rfl))
  (apply lxk_run 2;(· rfl);(· simp))
  (apply lxk_sl;(· rfl);(· exact d_x fun _=>x_call [2,1] rfl (S_codewrightref01_Add (by first|omega|exact side _ (by assumption)|assumption|rfl|(simp;done)|(simp;omega)) (by first|omega|exact side _ (by assumption)|assumption|rfl|(simp;done)|(simp;omega))) rfl (by rintro _ _ _ ⟨pa4,ca4,rfl,rfl,rfl⟩;exact (dk_sl 0 rfl)));intro pa4 ca4)
  (apply lxk_run 1;(· rfl);(· simp))
  (apply lxk_rq;(· rfl);(· exact d_x fun _=>x_call [0,1] rfl (S_codewrightref02_Make (by first|omega|exact side _ (by assumption)|assumption|rfl|(simp;done)|(simp;omega)) (by first|omega|exact side _ (by assumption)|assumption|rfl|(simp;done)|(simp;omega))) rfl (by rintro _ _ _ ⟨pn5,cn5,pd5,cd5,rfl,rfl,rfl⟩;exact (dk_rq 0 1 rfl rfl)));intro pn5 cn5 pd5 cd5)
  simp only [vq_rt']
  refine lxk_end rfl ?_
  simp only [List.map_cons,List.map_nil,List.cons_append,List.nil_append]
  refine j_step rfl (x_bst_all 0 rfl rfl rfl ld44 rfl rfl (by simp [Value.oneCell']) ?_)
  refine j_nf [.c (pL 2037),.c (pL 255)] rfl ?_
  rw [hR _ _ hs]
  refine j_givC [0,1] rfl (.agg 0 rfl rfl ld44 rfl .nil) rfl ⟨_,_,_,_,rfl,rfl,rfl⟩
 ·have hs : (rt (vq (g1,N1,D1))).1 ≠ (rt (vq (g2,N2,D2))).1:=by simpa using h1
  by_cases hle : val (limbs (val (rt (vq (g2,N2,D2))).2.1 * val (rt (vq (g1,N1,D1))).2.2)) ≤ val (limbs (val (rt (vq (g1,N1,D1))).2.1 * val (rt (vq (g2,N2,D2))).2.2))
  ·have hc : 0 ≤ cmpN (val (limbs (val (rt (vq (g1,N1,D1))).2.1 * val (rt (vq (g2,N2,D2))).2.2))) (val (limbs (val (rt (vq (g2,N2,D2))).2.1 * val (rt (vq (g1,N1,D1))).2.2))):=by unfold cmpN;split <;> (try split) <;> omega
   have LB : (limbs (val (limbs (val (rt (vq (g1,N1,D1))).2.1 * val (rt (vq (g2,N2,D2))).2.2)) - val (limbs (val (rt (vq (g2,N2,D2))).2.1 * val (rt (vq (g1,N1,D1))).2.2)))).length ≤ 1073741824:=limbs_mono (Nat.le_trans LX (by decide)) (by rw [val_limbs];exact Nat.sub_le _ _)
   refine j_nf [.o (pL 1020) 0,.c (pL 1021),.c (pL 511)] rfl ?_
   refine j_run it 2 rfl (by simp) ?_
   refine j_step rfl (x_call [2,1] rfl (S_codewrightref01_Cmp) rfl ?_)
   rintro _ _ _ ⟨rfl,rfl,rfl⟩
   simp only [List.cons_append,List.nil_append]
   refine j_run it 1 rfl (by simp) ?_
   refine j_nf [.c (pL 1021),.c (pL 511)] rfl ?_
   refine j_if rfl rfl (fun h2=>?_) (fun h2=>by exfalso;omega)
   refine j_nf [.c (pL 4084),.c (pL 4085),.c (pL 511)] rfl ?_
   (apply j_drawK it mx 7;(· rfl);(· rfl))
   (apply lxk_eq;(· rfl);(· exact d_x fun _=>x_field rfl fd44_0 dk_eq))
   (apply lxk_eq;(· rfl);(· exact d_bld 2 rfl rfl ld4 rfl))
   (apply lxk_run 2;(· rfl);(· simp))
   (apply lxk_sl;(· rfl);(· exact d_x fun _=>x_call [2,1] rfl (S_codewrightref01_Sub (by first|omega|exact side _ (by assumption)|assumption|rfl|(simp;done)|(simp;omega))) rfl (by rintro _ _ _ ⟨pa4,ca4,rfl,rfl,rfl⟩;exact (dk_sl 0 rfl)));intro pa4 ca4)
   (apply lxk_run 1;(· rfl);(· simp))
   (apply lxk_rq;(· rfl);(· exact d_x fun _=>x_call [0,1] rfl (S_codewrightref02_Make (by first|omega|exact side _ (by assumption)|assumption|rfl|(simp;done)|(simp;omega)) (by first|omega|exact side _ (by assumption)|assumption|rfl|(simp;done)|(simp;omega))) rfl (by rintro _ _ _ ⟨pn5,cn5,pd5,cd5,rfl,rfl,rfl⟩;exact (dk_rq 0 1 rfl rfl)));intro pn5 cn5 pd5 cd5)
   simp only [vq_rt']
   refine lxk_end rfl ?_
   simp only [List.map_cons,List.map_nil,List.cons_append,List.nil_append]
   refine j_step rfl (x_bst_all 0 rfl rfl rfl ld44 rfl rfl (by simp [Value.oneCell']) ?_)
   refine j_nf [.c (pL 4085),.c (pL 511)] rfl ?_
   rw [hG _ _ hs hle]
   refine j_givC [0,1] rfl (.agg 0 rfl rfl ld44 rfl .nil) rfl ⟨_,_,_,_,rfl,rfl,rfl⟩
  ·have hc : ¬ 0 ≤ cmpN (val (limbs (val (rt (vq (g1,N1,D1))).2.1 * val (rt (vq (g2,N2,D2))).2.2))) (val (limbs (val (rt (vq (g2,N2,D2))).2.1 * val (rt (vq (g1,N1,D1))).2.2))):=by rw [cmpN_lt (by omega)];decide
   have hle2 : val (limbs (val (rt (vq (g1,N1,D1))).2.1 * val (rt (vq (g2,N2,D2))).2.2)) ≤ val (limbs (val (rt (vq (g2,N2,D2))).2.1 * val (rt (vq (g1,N1,D1))).2.2)):=by omega
   have LB : (limbs (val (limbs (val (rt (vq (g2,N2,D2))).2.1 * val (rt (vq (g1,N1,D1))).2.2)) - val (limbs (val (rt (vq (g1,N1,D1))).2.1 * val (rt (vq (g2,N2,D2))).2.2)))).length ≤ 1073741824:=limbs_mono (Nat.le_trans LY (by decide)) (by rw [val_limbs];exact Nat.sub_le _ _)
   refine j_nf [.o (pL 1020) 0,.c (pL 1021),.c (pL 511)] rfl ?_
   refine j_run it 2 rfl (by simp) ?_
   refine j_step rfl (x_call [2,1] rfl (S_codewrightref01_Cmp) rfl ?_)
   rintro _ _ _ ⟨rfl,rfl,rfl⟩
   simp only [List.cons_append,List.nil_append]
   refine j_run it 1 rfl (by simp) ?_
   refine j_nf [.c (pL 1021),.c (pL 511)] rfl ?_
   refine j_if rfl rfl (fun h2=>by exfalso;omega) (fun h2=>?_)
   refine j_nf [.c (pL 1022),.c (pL 1023)] rfl ?_
   (apply j_drawK it mx 7;(· rfl);(· rfl))
   (apply lxk_eq;(· rfl);(· exact d_x fun _=>x_field rfl fd44_0 dk_eq))
   (apply lxk_eq;(· rfl);(· exact d_bld 1 rfl rfl ld4 rfl))
   (apply lxk_run 2;(· rfl);(· simp))
   (apply lxk_sl;(· rfl);(· exact d_x fun _=>x_call [1,2] rfl (S_codewrightref01_Sub (by first|omega|exact side _ (by assumption)|assumption|rfl|(simp;done)|(simp;omega))) rfl (by rintro _ _ _ ⟨pa4,ca4,rfl,rfl,rfl⟩;exact (dk_sl 0 rfl)));intro pa4 ca4)
   (apply lxk_run 1;(· rfl);(· simp))
   (apply lxk_rq;(· rfl);(· exact d_x fun _=>x_call [0,1] rfl (S_codewrightref02_Make (by first|omega|exact side _ (by assumption)|assumption|rfl|(simp;done)|(simp;omega)) (by first|omega|exact side _ (by assumption)|assumption|rfl|(simp;done)|(simp;omega))) rfl (by rintro _ _ _ ⟨pn5,cn5,pd5,cd5,rfl,rfl,rfl⟩;exact (dk_rq 0 1 rfl rfl)));intro pn5 cn5 pd5 cd5)
   simp only [vq_rt']
   refine lxk_end rfl ?_
   simp only [List.map_cons,List.map_nil,List.cons_append,List.nil_append]
   refine j_step rfl (x_bst_all 0 rfl rfl rfl ld44 rfl rfl (by simp [Value.oneCell']) ?_)
   refine j_nf [.c (pL 1023)] rfl ?_
   rw [Nat.mul_comm (val (rt (vq (g1,N1,D1))).2.2) (val (rt (vq (g2,N2,D2))).2.2),hG _ _ (fun h=>hs h.symm) hle2,Rat.add_comm]
   refine j_givC [0,1] rfl (.agg 0 rfl rfl ld44 rfl .nil) rfl ⟨_,_,_,_,rfl,rfl,rfl⟩
theorem S_codewrightref02_Sub {g1 g2 : Bool} {pn1 pd1 pn2 pd2 : Option Addr} {n1 m1 n2 m2 cn1 cd1 cn2 cd2 : Nat} {N1 D1 N2 D2 : List Nat}
  (l1 : N1.length ≤ 134217728) (l2 : D1.length ≤ 134217728) (l3 : N2.length ≤ 134217728) (l4 : D2.length ≤ 134217728) :
  Ctr Try.prog 57 [.agg #[.bool g1,.slice pn1 n1 cn1,.slice pd1 m1 cd1],.agg #[.bool g2,.slice pn2 n2 cn2,.slice pd2 m2 cd2]] [] [slF U32 pn1 n1 cn1 N1,slF U32 pd1 m1 cd1 D1,slF U32 pn2 n2 cn2 N2,slF U32 pd2 m2 cd2 D2] (RtV (rt (vq (g1,N1,D1) - vq (g2,N2,D2)))):=by
 refine Ctr_of_j' (F:=F_codewrightref02_Sub) rfl fun C=>?_
 refine j_range 2 rfl fun r3=>?_
 refine j_range 3 rfl fun r4=>?_
 obtain ⟨k3,k4⟩:=rt_len_neg (g:=g2) (lim r3) (lim r4) l3 l4 (by decide)
 refine j_nf [.o [0] 0,.c [1]] rfl ?_
 refine j_step rfl (x_box_agg rfl fun b1=>?_)
 refine j_step rfl (x_box_agg rfl fun b2=>?_)
 refine j_step rfl (x_alloc zo44 fun b3=>?_)
 refine j_nf [.c [1,0],.c [1,1]] rfl ?_
 (apply j_drawK it mx 4;(· rfl);(· rfl))
 (apply lxk_eq;(· rfl);(· exact d_bld_all 2 rfl rfl ld44 rfl))
 (apply lxk_eq;(· rfl);(· exact d_bld_all 1 rfl rfl ld44 rfl))
 (apply lxk_rq;(· rfl);(· exact d_x fun _=>x_call [2,3] rfl (S_codewrightref02_Neg (by first|omega|exact side _ (by assumption)|assumption|rfl|(simp;done)|(simp;omega)) (by first|omega|exact side _ (by assumption)|assumption|rfl|(simp;done)|(simp;omega))) rfl (by rintro _ _ _ ⟨pn3,cn3,pd3,cd3,rfl,rfl,rfl⟩;exact (dk_rq 0 1 rfl rfl)));intro pn3 cn3 pd3 cd3)
 simp only [vq_rt']
 (apply lxk_rq;(· rfl);(· exact d_x fun _=>x_call [2,3,0,1] rfl (S_codewrightref02_Add (by first|omega|exact side _ (by assumption)|assumption|rfl|(simp;done)|(simp;omega)) (by first|omega|exact side _ (by assumption)|assumption|rfl|(simp;done)|(simp;omega)) (by first|omega|exact side _ (by assumption)|assumption|rfl|(simp;done)|(simp;omega)) (by first|omega|exact side _ (by assumption)|assumption|rfl|(simp;done)|(simp;omega))) rfl (by rintro _ _ _ ⟨pn4,cn4,pd4,cd4,rfl,rfl,rfl⟩;exact (dk_rq 0 1 rfl rfl)));intro pn4 cn4 pd4 cd4)
 simp only [vq_rt']
 refine lxk_end rfl ?_
 simp only [List.map_cons,List.map_nil,List.cons_append,List.nil_append]
 refine j_step rfl (x_bst_all 0 rfl rfl rfl ld44 rfl rfl (by simp [Value.oneCell']) ?_)
 refine j_nf [.c [1,1]] rfl ?_
 simp only [vq_rt',← Rat.sub_eq_add_neg]
 refine j_givC [0,1] rfl (.agg 0 rfl rfl ld44 rfl .nil) rfl ⟨_,_,_,_,rfl,rfl,rfl⟩
theorem S_codewrightref02_Cmp {g1 g2 : Bool} {pn1 pd1 pn2 pd2 : Option Addr} {n1 m1 n2 m2 cn1 cd1 cn2 cd2 : Nat} {N1 D1 N2 D2 : List Nat}
  (l1 : N1.length ≤ 134217728) (l2 : D1.length ≤ 134217728) (l3 : N2.length ≤ 134217728) (l4 : D2.length ≤ 134217728) :
  Ctr Try.prog 21 [.agg #[.bool g1,.slice pn1 n1 cn1,.slice pd1 m1 cd1],.agg #[.bool g2,.slice pn2 n2 cn2,.slice pd2 m2 cd2]] [] [slF U32 pn1 n1 cn1 N1,slF U32 pd1 m1 cd1 D1,slF U32 pn2 n2 cn2 N2,slF U32 pd2 m2 cd2 D2] (Rv (.int .i64 (vq (g1,N1,D1) - vq (g2,N2,D2)).num.sign) []):=by
 refine Ctr_of_j' (F:=F_codewrightref02_Cmp) rfl fun C=>?_
 refine j_range 0 rfl fun r1=>?_
 refine j_range 1 rfl fun r2=>?_
 refine j_range 2 rfl fun r3=>?_
 refine j_range 3 rfl fun r4=>?_
 have hb:=bd_add (bd_vq (r:=(g1,N1,D1)) (lim r1) (lim r2) l1 l2 (by decide)) (bd_neg (bd_vq (r:=(g2,N2,D2)) (lim r3) (lim r4) l3 l4 (by decide)))
 rw [← Rat.sub_eq_add_neg] at hb
 obtain ⟨k1,k2⟩:=bd_len hb
 refine j_nf [.o [0] 0,.c [1]] rfl ?_
 refine j_step rfl (x_box_agg rfl fun b1=>?_)
 refine j_step rfl (x_box_agg rfl fun b2=>?_)
 refine j_run it 1 rfl (by simp) ?_
 refine j_nf [.o [1,0] 0,.c [1,1]] rfl ?_
 refine j_step rfl (x_bld_all 1 rfl rfl ld44 rfl ?_)
 refine j_step rfl (x_bld_all 0 rfl rfl ld44 rfl ?_)
 refine j_step rfl (x_call [0,1,2,3] rfl (S_codewrightref02_Sub (by first|omega|exact side _ (by assumption)|assumption|rfl|(simp;done)|(simp;omega)) (by first|omega|exact side _ (by assumption)|assumption|rfl|(simp;done)|(simp;omega)) (by first|omega|exact side _ (by assumption)|assumption|rfl|(simp;done)|(simp;omega)) (by first|omega|exact side _ (by assumption)|assumption|rfl|(simp;done)|(simp;omega))) rfl ?_)
 rintro _ _ _ ⟨pn3,cn3,pd3,cd3,rfl,rfl,rfl⟩
 simp only [List.cons_append,List.nil_append]
 refine j_step rfl (x_call [0,1] rfl (S_codewrightref02_Sign (by first|omega|exact side _ (by assumption)|assumption|rfl|(simp;done)|(simp;omega)) (by first|omega|exact side _ (by assumption)|assumption|rfl|(simp;done)|(simp;omega))) rfl ?_)
 rintro _ _ _ ⟨rfl,rfl,rfl⟩
 simp only [List.cons_append,List.nil_append]
 simp only [vq_rt']
 refine j_run it 1 rfl (by simp) ?_
 refine j_nf [.c [1,1]] rfl ?_
 refine j_giv [] rfl rfl rfl ⟨rfl,rfl,rfl⟩
end Go.Proofs.Ythahejfpdhcpiaa

namespace Go.Proofs.Ythahejfpdhcpiaa
open Go Go.Fw
set_option maxRecDepth 100000
set_option linter.unusedVariables false
set_option linter.unusedSimpArgs false
set_option maxHeartbeats 2000000
def negR (r : Rt) : Rt:=rt (-vq r)
end Go.Proofs.Ythahejfpdhcpiaa

namespace Go.Fw
open Go.ChangeShapes Go.WideShapes Go.RowKit
def Opens {α : Type} (P : Program) (t : TypeId) (E : Enc α) : Prop :=
 P.cellsOf t = E.size ∧ P.bytesOf t = E.bytes ∧ ∀ {H : Type} (enc : TypeId × Value → H) (W : World) (fuel : Nat) (cs : List Value) (d : DataW H) (ps : List MemPlace),
  DataW.trod enc P W 0 (fun _=>true) true fuel t cs = some (d,ps) → (∀ n ∈ d.weights P t,n ≤ reachBytes) → ∃ x : α,E.rd W (fun k=>k < W.heap.size) cs x
theorem inR_of_wf {k : IntKind} {n : Int} (h : (Lit.int k n).wf = true) : InR k n:=by
 cases k <;> simp [Lit.wf,IntKind.min,IntKind.max,IntKind.bits,IntKind.signed] at h <;> simp only [InR] <;> omega
section
variable {P : Program} {t : TypeId}
theorem opens_nat {k : IntKind} {by' : Nat} (ht : P.underlying t = some (.int k)) (hc : P.cellsOf t = 1) (hb : P.bytesOf t = by') (hk : ∀ n,InR k n → 0 ≤ n) : Opens P t (encNat k by') :=
 ⟨hc,hb,fun enc W fuel cs d ps h _=>by
  obtain ⟨n,rfl,_,hw⟩:=DataW.trod_int ht h
  have h1:=inR_of_wf hw
  have h0:=hk n h1
  refine ⟨n.toNat,?_,?_⟩
  ·rw [Int.toNat_of_nonneg h0]
  ·rwa [Int.toNat_of_nonneg h0]⟩
theorem opens_bool (ht : P.underlying t = some .bool) (hc : P.cellsOf t = 1) (hb : P.bytesOf t = 1) : Opens P t encBool :=
 ⟨hc,hb,fun enc W fuel cs d ps h _=>by
  obtain ⟨b,rfl,_⟩:=DataW.trod_bool ht h
  exact ⟨b,rfl⟩⟩
theorem cellsAt_of_cells? {W : World} {a : Addr} {n : Nat} {cs : List Value} (h : W.cells? 0 a n = some cs) (hn : 0 < n) : a.spot = none ∧ a.block < W.heap.size ∧ cellsAt W a.block a.off n cs:=by
 obtain ⟨_,hl,hc⟩:=World.cells?_some h
 have h0:=hc 0 hn
 rw [List.getElem?_eq_getElem (by omega)] at h0
 have e0 : a.add 0 = a:=rfl
 rw [e0] at h0
 unfold World.cell? at h0
 split at h0
 ·rename_i c T fr hb
  split at h0
  ·cases h0
  ·rename_i hs
   have hs' : a.spot = none:=by cases ha : a.spot with
    | none=>rfl
    | some _=>rw [ha] at hs;simp at hs
   refine ⟨hs',?_,c,T,fr,hb,?_,hl⟩
   ·rcases Nat.lt_or_ge a.block W.heap.size with h | h
    ·exact h
    ·rw [Array.getElem?_eq_none h] at hb;cases hb
   ·apply List.ext_getElem?
    intro i
    by_cases hi : i < n
    ·have:=hc i hi
     unfold World.cell? Addr.add at this
     rw [List.getElem?_take,if_pos hi,List.getElem?_drop,← this]
     by_cases h0 : i = 0
     ·subst h0;simp [hb,hs']
     ·simp [h0,hb]
    ·rw [List.getElem?_take,if_neg hi,List.getElem?_eq_none (by omega)]
 ·cases h0
theorem list_of_all {α : Type} : ∀ (n : Nat) (p : Nat → α → Prop),(∀ i,i < n → ∃ x,p i x) → ∃ l : List α,l.length = n ∧ ∀ i x,l[i]? = some x → p i x:=by
 intro n p h
 refine ⟨List.ofFn (fun i : Fin n=>Classical.choose (h i.1 i.2)),by simp,fun i x hx=>?_⟩
 have hi : i < n:=by
  have:=(List.getElem?_eq_some_iff.1 hx).1
  simpa using this
 have e : x = Classical.choose (h i hi):=by
  rw [List.getElem?_eq_getElem (by simpa using hi),List.getElem_ofFn] at hx
  exact (Option.some.inj hx).symm
 rw [e]
 exact Classical.choose_spec (h i hi)
theorem weightsAll_of {H : Type} {e : TypeId} : ∀ {l : List (DataW H)} {d : DataW H},d ∈ l → ∀ n ∈ d.weights P e,n ∈ DataW.weightsAll P e l
 | [],_,hd,_,_=>by cases hd
 | x::l,d,hd,n,hn=>by
  simp only [DataW.weightsAll,List.mem_append]
  rcases List.mem_cons.1 hd with rfl | hd
  ·exact .inl hn
  ·exact .inr (weightsAll_of hd n hn)
theorem opens_sl {α : Type} {E : Enc α} {e : TypeId} (ht : P.underlying t = some (.slice e)) (hE : Opens P e E) (hc : P.cellsOf t = 1) (hb : P.bytesOf t = 24) (hs : 0 < E.size) : Opens P t (encSl E) :=
 ⟨hc,hb,fun enc W fuel cs d ps h hw=>by
  obtain ⟨he,hby,hE⟩:=hE
  rcases Deep.open_slice ht h with ⟨rfl,_⟩ | ⟨a,len,cap,m,n,D,Pl,rfl,_,hl,_,hm,hx,hel⟩
  ·exact ⟨[],none,0,rfl,Nat.zero_le _,by simp,.inl rfl⟩
  ·simp only [Prod.mk.injEq] at hx
   obtain ⟨rfl,_⟩:=hx
   simp only [if_true] at hm
   subst hm
   have hsz : len * E.bytes ≤ 140737488355328:=by
    have h1 : ((List.range len).map D).length + ((List.range (m - len)).map fun j=>D (len + j)).length = m:=by simp;omega
    have h2:=hw (m * P.bytesOf e) (by rw [DataW.weights,ht];show m * P.bytesOf e ∈ _::_;rw [h1];exact List.mem_cons_self)
    rw [hby] at h2
    exact Nat.le_trans (Nat.mul_le_mul_right _ hl) (Nat.le_trans h2 (by decide))
   have each : ∀ i,i < len → ∃ x : α,(a.spot = none ∧ a.block < W.heap.size) ∧ ∃ vs,cellsAt W a.block (a.off + i * E.size) E.size vs ∧ E.rd W (fun k=>k < W.heap.size) vs x:=by
    intro i hi
    obtain ⟨cs',h1,h2⟩:=hel i (by omega)
    obtain ⟨x,hxr⟩:=hE enc W n cs' _ _ h2 (fun k hk=>hw k (by
     rw [DataW.weights,ht]
     refine List.mem_cons_of_mem _ (List.mem_append_left _ (weightsAll_of (List.mem_map.2 ⟨i,List.mem_range.2 hi,rfl⟩) k hk))))
    rw [he] at h1
    obtain ⟨hsp,hlt,hca⟩:=cellsAt_of_cells? h1 hs
    have hadd : (a.add (i * E.size)).block = a.block ∧ (a.add (i * E.size)).off = a.off + i * E.size:=by
     unfold Addr.add
     split
     ·rename_i h;rw [h];exact ⟨rfl,rfl⟩
     ·exact ⟨rfl,rfl⟩
    rw [hadd.1] at hlt
    rw [hadd.1,hadd.2] at hca
    have hsp0 : a.spot = none:=by
     obtain ⟨cs0,h10,_⟩:=hel 0 (by omega)
     rw [he,Nat.zero_mul] at h10
     exact (cellsAt_of_cells? h10 hs).1
    exact ⟨x,⟨hsp0,hlt⟩,cs',hca,hxr⟩
   obtain ⟨l,hll,hlx⟩:=list_of_all len _ each
   refine ⟨l,some a,m,by rw [hll],by omega,by rw [hll];exact hsz,?_⟩
   cases l with
   | nil=>exact .inl rfl
   | cons y l =>
    obtain ⟨⟨h1,h2⟩,_⟩:=hlx 0 y rfl
    refine .inr ⟨a.block,a.off,?_,h2,fun i x hi=>(hlx i x hi).2⟩
    cases a;simp_all⟩
def OpensAll {α : Type} (P : Program) (fs : List Field) (off : Nat) (E : Enc α) : Prop :=
 ∀ {H : Type} (enc : TypeId × Value → H) (W : World) (n : Nat) (cs : List Value) (xs : List (DataW H × List MemPlace)),xs.length = fs.length →
  (∀ (i : Nat) (f : Field),fs[i]? = some f → DataW.trod enc P W 0 (fun _=>true) true n f.type ((cs.drop f.offset).take (P.cellsOf f.type)) = xs[i]?) → cs.length = off + E.size →
  (∀ n ∈ DataW.weightsEach P (fs.map fun f : Field=>f.type) (xs.map (·.1)),n ≤ reachBytes) → ∃ x : α,E.rd W (fun k=>k < W.heap.size) (cs.drop off) x
theorem opensAll_one {α : Type} {E : Enc α} {f : Field} {off : Nat} (hf : f.offset = off) (hE : Opens P f.type E) : OpensAll P [f] off E:=fun enc W n cs xs hl h hc hw=>by
 match xs,hl with
 | [x],_ =>
  have h0:=h 0 f rfl
  obtain ⟨d,ps⟩:=x
  rw [hf,hE.1,List.take_of_length_le (by rw [List.length_drop];omega)] at h0
  exact hE.2.2 enc W n _ d ps h0 (fun k hk=>hw k (by simp [DataW.weightsEach,hk]))
theorem opensAll_cons {α β : Type} {E : Enc α} {F : Enc β} {f : Field} {fs : List Field} {off : Nat} (by' : Nat) (hf : f.offset = off) (hE : Opens P f.type E) (hF : OpensAll P fs (off + E.size) F) : OpensAll P (f::fs) off (encPair E F by'):=fun enc W n cs xs hl h hc hw=>by
 match xs,hl with
 | x::xs,hl =>
  have h0:=h 0 f rfl
  obtain ⟨d,ps⟩:=x
  rw [hf,hE.1] at h0
  have hc' : cs.length = off + (E.size + F.size):=hc
  obtain ⟨y,hy⟩:=hE.2.2 enc W n _ d ps h0 (fun k hk=>hw k (by simp [DataW.weightsEach,hk]))
  obtain ⟨z,hz⟩:=hF enc W n cs xs (by simpa using hl) (fun i g hg=>by simpa using h (i + 1) g (by simpa using hg)) (by omega) (fun k hk=>hw k (by
   simp only [List.map_cons,DataW.weightsEach,List.mem_append];exact .inr hk))
  refine ⟨(y,z),_,_,?_,hy,hz⟩
  rw [← List.drop_drop,List.take_append_drop]
theorem opens_struct {α : Type} {E : Enc α} {fs : Array Field} (ht : P.underlying t = some (.struct fs)) (hE : OpensAll P fs.toList 0 E) (hc : P.cellsOf t = E.size) (hb : P.bytesOf t = E.bytes) : Opens P t E :=
 ⟨hc,hb,fun enc W fuel cs d ps h hw=>by
  obtain ⟨xs,n,_,hx,hl,hlen,hf⟩:=DataW.trod_struct ht h
  simp only [Prod.mk.injEq] at hx
  obtain ⟨rfl,_⟩:=hx
  obtain ⟨x,hx⟩:=hE enc W n cs xs (by simpa using hlen) (fun i f hi=>hf i f (by simpa using hi)) (by rw [hl,hc];omega) (fun k hk=>hw k (by rw [DataW.weights,ht];exact hk))
  exact ⟨x,by simpa using hx⟩⟩
def Arg (P : Program) (W : World) (t : TypeId) (v : Value) : Prop :=
 (∃ b,Value.okWide P W .any b t v) ∧ ∃ (H : Type) (enc : TypeId × Value → H) (d : DataW H) (p : List MemPlace),DataW.Trod enc P W 0 (fun _=>true) true t v d p ∧ ∀ n ∈ d.weights P t,n ≤ reachBytes
def Args (P : Program) (W : World) : List TypeId → List Value → Prop
 | [],[]=>True
 | t::ts,v::vs=>Arg P W t v ∧ Args P W ts vs
 | _,_=>False
variable {W : World} {v : Value}
theorem Arg.slice {α : Type} {E : Enc α} {e : TypeId} (h : Arg P W t v) (ht : P.underlying t = some (.slice e)) (hE : Opens P t (encSl E)) : ∃ pa ca l,v = .slice pa l.length ca ∧ (slF E pa l.length ca l).holds W (fun k=>k < W.heap.size):=by
 obtain ⟨⟨b,hv⟩,H,enc,d,p,⟨fuel,hf⟩,hw⟩:=h
 obtain ⟨a,len,cap,rfl⟩:=okWide_slice ht hv
 obtain ⟨l,pa,ca,e1,hs⟩:=hE.2.2 enc W fuel _ d p hf hw
 have e2 : Value.slice a len cap = .slice pa l.length ca:=by simpa [Value.cells] using e1
 exact ⟨pa,ca,l,e2,rfl,hs⟩
theorem Arg.int {k : IntKind} (h : Arg P W t v) (ht : P.underlying t = some (.int k)) : ∃ n,v = .int k n ∧ InR k n:=by
 obtain ⟨⟨b,hv⟩,H,enc,d,p,hf,hw⟩:=h
 obtain ⟨n,e,_,_,hn⟩:=open_int ht hv hf
 exact ⟨n,e,inR_of_wf hn⟩
theorem Arg.bool (h : Arg P W t v) (ht : P.underlying t = some .bool) : ∃ b,v = .bool b:=by
 obtain ⟨⟨b,hv⟩,H,enc,d,p,hf,hw⟩:=h
 obtain ⟨n,e,_⟩:=open_bool ht hv hf
 exact ⟨n,e⟩
theorem Arg.agg {α : Type} {E : Enc α} {fs : Array Field} (h : Arg P W t v) (ht : P.underlying t = some (.struct fs)) (hE : Opens P t E) : ∃ vs x,v = .agg vs.toArray ∧ (vF E vs x).holds W (fun k=>k < W.heap.size):=by
 obtain ⟨⟨b,hv⟩,H,enc,d,p,⟨fuel,hf⟩,hw⟩:=h
 obtain ⟨cs,rfl,_⟩:=okWide_struct ht hv
 obtain ⟨x,hx⟩:=hE.2.2 enc W fuel _ d p hf hw
 have hx' : E.rd W (fun k=>k < W.heap.size) cs.toList x:=hx
 exact ⟨cs.toList,x,by simp,hx'⟩
end
theorem trodAll_below {H : Type} {enc : TypeId × Value → H} {P : Program} (hl : laidOutB P = true) {W W' : World} (hb : Below W.heap.size W W') : ∀ {ts : List TypeId} {vs : List Value} {ds : List (DataW H)} {ps : List MemPlace},
  (ts.all fun t=>P.readableRec t && decide (t < P.types.size)) = true → DataW.TrodAll enc P W 0 (fun _=>true) true ts vs ds ps → DataW.TrodAll enc P W' 0 (fun b=>decide (b < W.heap.size)) true ts vs ds ps
 | [],[],[],_,_,h=>h
 | t::ts,v::vs,d::ds,ps,ha,⟨p,q,h1,h2,e⟩=>by
  simp only [List.all_cons,Bool.and_eq_true,decide_eq_true_eq] at ha
  refine ⟨p,q,Below.trod hl ha.1.1 ha.1.2 h1 hb ?_,trodAll_below hl hb (by simpa using ha.2) h2,e⟩
  obtain ⟨m,hm⟩:=h1
  exact DataW.trod_lt m _ _ _ hm
 | [],_::_,_,_,_,h=>h.elim
 | [],[],_::_,_,_,h=>h.elim
 | _::_,[],_,_,_,h=>h.elim
 | _::_,_::_,[],_,_,h=>h.elim
theorem args_of {H : Type} {enc : TypeId × Value → H} {P : Program} {W : World} {base : Nat} : ∀ (ts : List TypeId) (vs : List Value) (ds : List (DataW H)) (ps : List MemPlace),
  (∀ (j : Nat) t v,ts[j]? = some t → vs[j]? = some v → Value.okWide P W .any base t v) → DataW.TrodAll enc P W 0 (fun _=>true) true ts vs ds ps → (∀ n ∈ DataW.weightsEach P ts ds,n ≤ reachBytes) → Args P W ts vs
 | [],[],[],_,_,_,_=>trivial
 | t::ts,v::vs,d::ds,ps,hv,⟨p,q,h1,h2,e⟩,hw=>by
  refine ⟨⟨⟨base,hv 0 t v rfl rfl⟩,H,enc,d,p,h1,fun n hn=>hw n (by simp only [DataW.weightsEach,List.mem_append];exact .inl hn)⟩,args_of ts vs ds q (fun j t v ht hv'=>hv (j + 1) t v (by simpa using ht) (by simpa using hv')) h2 (fun n hn=>hw n (by simp only [DataW.weightsEach,List.mem_append];exact .inr hn))⟩
 | [],_::_,_,_,_,h,_=>h.elim
 | [],[],_::_,_,_,h,_=>h.elim
 | _::_,[],_,_,_,h,_=>h.elim
 | _::_,_::_,[],_,_,h,_=>h.elim
def LawSays (P : Program) (f : FuncId) (fn : Func) : Prop :=
 ∀ (W : World) (args : List Value),Args P W fn.params.toList args → Calls P f args.toArray W (Ret fun v W'=>v = .bool true ∧ Below W.heap.size W W')
theorem law_of_gives {P : Program} {f : FuncId} {args : List Value} {Γ : List Fact} {W : World} {Q : Value → List Fact → List Blk → Prop} (h : Ctr P f args [] Γ Q) (hq : ∀ v Φ β,Q v Φ β → v = .bool true) (hG : ∀ g ∈ Γ,g.holds W (fun k=>k < W.heap.size)) :
  Calls P f args.toArray W (Ret fun v W'=>v = .bool true ∧ Below W.heap.size W W'):=by
 refine (h.2 W (fun k=>k < W.heap.size) (fun k hk=>hk) (fun x hx=>by cases hx) trivial (fun g hg=>g.stable (fun k hk=>⟨⟨hk,fun ⟨x,hx,_⟩=>by cases hx⟩,rfl⟩) (hG g hg))).mono ?_
 intro e w' he
 cases e <;> try exact he.elim
 obtain ⟨Φ,β,hQ,hO,_⟩:=he
 exact ⟨hq _ _ _ hQ,hO.ext.os,hO.ext.tape,hO.ext.output,hO.ext.size,fun k hk=>hO.ext.block k hk (fun ⟨x,hx,_⟩=>by cases hx)⟩
theorem law_lift {H : Type} {enc : TypeId × Value → H} {C : Checked} {f : FuncId} {fn : Func} {s : ChangeSpec} {tb : TypeId} {os : Os} {conds : List PathCond}
  (own : ownKnob C.prog.godebug = none) (started : os.Started) (noInit : C.prog.inits.idxOf? f = none) (hfn : C.prog.funcs[f]? = some fn)
  (witness : ∃ (w : World) (tape : Tape) (i : Input),w.os = os ∧ (w.forCall tape i).Shaped C.prog ∧ i.vars = [] ∧ Input.okWide C.prog (w.forCall tape i) .any w.heap.size f i ∧
   s.pre6 enc C.prog fn conds false (w.forCall tape i).memory i.args ∧ (Assume.holds {} C.prog (lone (Frame.enter C.prog f i.args .normal) [] (w.forCall tape i))))
  (laid : laidOutB C.prog = true) (hvars : s.vars = []) (hts : (fn.params.toList.all fun t=>C.prog.readableRec t && decide (t < C.prog.types.size)) = true)
  (hres : fn.resultTypes = #[tb]) (htb : C.prog.underlying tb = some .bool)
  (hspec : ∀ ds : List (DataW H),ds.length = fn.params.toList.length → s.fn H ds = { results:=[.lit (.bool true)],args:=ds })
  (walk : LawSays C.prog f fn) :
  ReturnsInHanded {} C os f .any (s.pre6 enc C.prog fn conds false) (s.post enc C.prog fn false true false false):=by
 refine returnsInHanded_of_change_sized own started noInit hfn witness ?_
 intro W base args ds gs before hval hW _ hsz _
 have hW':=hW
 obtain ⟨p,q,hA,hV,rfl,_,_⟩:=hW
 rw [hvars] at hV
 obtain ⟨rfl,rfl⟩:=trodVars_none hV
 have hlen : ∀ {ts : List TypeId} {vs : List Value} {ds : List (DataW H)} {ps : List MemPlace},DataW.TrodAll enc C.prog W 0 (fun _=>true) true ts vs ds ps → ds.length = ts.length:=by
  intro ts
  induction ts with
  | nil=>intro vs ds ps h;cases vs <;> cases ds <;> first | rfl | exact h.elim
  | cons t ts ih =>
   intro vs ds ps h
   cases vs <;> cases ds <;> try exact h.elim
   obtain ⟨p,q,_,h2,_⟩:=h
   simp [ih h2]
 have hw : ∀ n ∈ DataW.weightsEach C.prog fn.params.toList ds,n ≤ reachBytes:=fun n hn=>by
  have e : s.plain.varTypes C.prog = []:=by
   unfold DataSpec.varTypes ChangeSpec.plain
   rw [hvars];rfl
  rw [e,List.append_nil,List.append_nil] at hsz
  simpa using List.all_eq_true.1 hsz n hn
 have:=walk W args.toList (args_of fn.params.toList args.toList ds p (fun j t v ht hv=>hval j t v (by simpa using ht) (by simpa using hv)) hA hw)
 rw [Array.toArray_toList] at this
 refine this.mono fun e W' he=>?_
 cases e <;> try exact he.elim
 obtain ⟨rfl,hb⟩:=he
 refine ⟨_,rfl,ds,[],p++[],[],p,[],hW',?_,?_,?_,hb.frame _,fun h=>by cases h⟩
 ·rw [List.append_nil,hspec ds (hlen hA),hres]
  exact trodAll_mk1 (shut_bool htb _)
 ·rw [List.append_nil,hspec ds (hlen hA)]
  exact trodAll_below laid hb hts hA
 ·rw [List.append_nil,hspec ds (hlen hA),hvars]
  rfl
end Go.Fw

namespace Go.Proofs.Ythahejfpdhcpiaa
open Go Go.Fw
set_option maxRecDepth 100000
set_option linter.unusedVariables false
set_option linter.unusedSimpArgs false
abbrev LinE:=encPair (encSl RatE) (encPair (encSl (encSl RatE)) (encSl RatE) 48) 72
def checkOf (l : List Rt × List (List Rt) × List Rt) : Int :=
 if 80 < l.1.length ∨ 80 < l.2.1.length ∨ 80 < l.2.2.length then 8 else if l.2.1.length ≠ l.2.2.length then 3 else if l.2.1.all (fun r=>r.length == l.1.length) then 0 else 3
theorem getD_some {α : Type} {l : List α} {i : Nat} {x d : α} (h : l[i]? = some x) : l.getD i d = x:=by rw [List.getD,h];rfl
theorem lin_open {w : World} {A : Nat → Prop} {vs : List Value} {x : List Rt × List (List Rt) × List Rt} (h : LinE.rd w A vs x) :
  ∃ p1 c1 p2 c2 p3 c3,vs = [.slice p1 x.1.length c1,.slice p2 x.2.1.length c2,.slice p3 x.2.2.length c3] ∧ SlRd RatE w A p1 c1 x.1 ∧ SlRd (encSl RatE) w A p2 c2 x.2.1 ∧ SlRd RatE w A p3 c3 x.2.2:=by
 obtain ⟨_,_,rfl,⟨p1,c1,rfl,h1⟩,_,_,rfl,⟨p2,c2,rfl,h2⟩,⟨p3,c3,rfl,h3⟩⟩:=h
 exact ⟨p1,c1,p2,c2,p3,c3,rfl,h1,h2,h3⟩
theorem S_codewrightref35_Check {p1 p2 p3 : Option Addr} {c1 c2 c3 : Nat} {C A B} : Ctr Try.prog 15 [.agg [.slice p1 C.length c1,.slice p2 A.length c2,.slice p3 B.length c3].toArray] [] [slF RatE p1 C.length c1 C,slF (encSl RatE) p2 A.length c2 A,slF RatE p3 B.length c3 B]
  (Rv (.int .i64 (checkOf (C,A,B))) []):=by
 refine Ctr_of_j' (F:=F_codewrightref35_Check) rfl fun Cx=>?_
 refine j_len 0 rfl fun _ _ _=>?_
 refine j_len 1 rfl fun _ hb2 _=>?_
 refine j_len 2 rfl fun _ _ _=>?_
 have hb2' : A.length * 24 ≤ 140737488355328:=hb2
 have big : (80 < C.length ∨ 80 < A.length ∨ 80 < B.length) → Value.int .i64 8 = .int .i64 (checkOf (C,A,B)):=fun h=>by rw [checkOf,if_pos h]
 by_cases h1 : 80 < C.length
 ·refine j_nf [.o [0] 0,.c [1]] rfl ?_
  refine j_step rfl (x_box_agg rfl fun b1=>?_)
  refine j_run it 1 rfl (by simp) ?_
  refine j_nf [.o [1,0,0] 0,.c [1,0,1],.c [1,1]] rfl ?_
  refine j_step rfl (x_field rfl fd26_0 ?_)
  refine j_step rfl (x_bld 0 rfl rfl ld23 rfl ?_)
  refine j_step rfl (x_len sl23 rfl ?_)
  refine j_run it 2 rfl (by simp) ?_
  refine j_split_dec (t:=8) rfl (fun h2=>?_) (fun h2=>by exfalso;omega)
  refine j_run it 11 rfl (by simp) ?_
  refine j_nf [.c [1,0,1],.c [1,1]] rfl ?_
  refine j_true rfl rfl ?_
  refine j_nf [.o [1,0,1,0,0] 0,.c [1,0,1,0,1],.c [1,1]] rfl ?_
  refine j_run it 1 rfl (by simp) ?_
  refine j_nf [.c [1,0,1,0,1],.c [1,1]] rfl ?_
  refine j_giv [] rfl rfl rfl ⟨big (.inl h1),rfl,rfl⟩
 by_cases h2 : 80 < A.length
 ·refine j_nf [.o [0] 0,.c [1]] rfl ?_
  refine j_step rfl (x_box_agg rfl fun b1=>?_)
  refine j_run it 1 rfl (by simp) ?_
  refine j_nf [.o [1,0,0] 0,.c [1,0,1],.c [1,1]] rfl ?_
  refine j_step rfl (x_field rfl fd26_0 ?_)
  refine j_step rfl (x_bld 0 rfl rfl ld23 rfl ?_)
  refine j_step rfl (x_len sl23 rfl ?_)
  refine j_run it 2 rfl (by simp) ?_
  refine j_split_dec (t:=8) rfl (fun h3=>by exfalso;omega) (fun h3=>?_)
  refine j_gstep rfl rfl (x_field rfl fd26_1 ?_)
  refine j_gstep rfl rfl (x_bld 0 rfl rfl ld24 rfl ?_)
  refine j_gstep rfl rfl (x_len sl24 rfl ?_)
  refine j_run it 3 rfl (by simp) ?_
  refine j_split_dec (t:=14) rfl (fun h4=>?_) (fun h4=>by exfalso;omega)
  refine j_run it 5 rfl (by simp) ?_
  refine j_nf [.c [1,0,1],.c [1,1]] rfl ?_
  refine j_true rfl rfl ?_
  refine j_nf [.o [1,0,1,0,0] 0,.c [1,0,1,0,1],.c [1,1]] rfl ?_
  refine j_run it 1 rfl (by simp) ?_
  refine j_nf [.c [1,0,1,0,1],.c [1,1]] rfl ?_
  refine j_giv [] rfl rfl rfl ⟨big (.inr (.inl h2)),rfl,rfl⟩
 by_cases h3 : 80 < B.length
 ·refine j_nf [.o [0] 0,.c [1]] rfl ?_
  refine j_step rfl (x_box_agg rfl fun b1=>?_)
  refine j_run it 1 rfl (by simp) ?_
  refine j_nf [.o [1,0,0] 0,.c [1,0,1],.c [1,1]] rfl ?_
  refine j_step rfl (x_field rfl fd26_0 ?_)
  refine j_step rfl (x_bld 0 rfl rfl ld23 rfl ?_)
  refine j_step rfl (x_len sl23 rfl ?_)
  refine j_run it 2 rfl (by simp) ?_
  refine j_split_dec (t:=8) rfl (fun h4=>by exfalso;omega) (fun h4=>?_)
  refine j_gstep rfl rfl (x_field rfl fd26_1 ?_)
  refine j_gstep rfl rfl (x_bld 0 rfl rfl ld24 rfl ?_)
  refine j_gstep rfl rfl (x_len sl24 rfl ?_)
  refine j_run it 3 rfl (by simp) ?_
  refine j_split_dec (t:=14) rfl (fun h5=>by exfalso;omega) (fun h5=>?_)
  refine j_gstep rfl rfl (x_field rfl fd26_2 ?_)
  refine j_gstep rfl rfl (x_bld 0 rfl rfl ld23 rfl ?_)
  refine j_gstep rfl rfl (x_len sl23 rfl ?_)
  refine j_run it 2 rfl (by simp) ?_
  refine j_nf [.c [1,0,1],.c [1,1]] rfl ?_
  refine j_if rfl rfl (fun h6=>?_) (fun h6=>by exfalso;omega)
  refine j_nf [.o [1,0,1,0,0] 0,.c [1,0,1,0,1],.c [1,1]] rfl ?_
  refine j_run it 1 rfl (by simp) ?_
  refine j_nf [.c [1,0,1,0,1],.c [1,1]] rfl ?_
  refine j_giv [] rfl rfl rfl ⟨big (.inr (.inr h3)),rfl,rfl⟩
 by_cases h4 : A.length = B.length
 ·have good : (∀ i,i < A.length → (A.getD i default).length = C.length) → Value.int .i64 0 = .int .i64 (checkOf (C,A,B)):=fun h=>by
   rw [checkOf,if_neg (by simp;omega),if_neg (by simpa using h4),if_pos (by
    simp only [List.all_eq_true,beq_iff_eq]
    intro r hr
    obtain ⟨i,hi,rfl⟩:=List.mem_iff_getElem.1 hr
    have:=h i hi
    rwa [getD_some (List.getElem?_eq_getElem hi)] at this)]
  have bad : ∀ i,i < A.length → (A.getD i default).length ≠ C.length → Value.int .i64 3 = .int .i64 (checkOf (C,A,B)):=fun i hi h=>by
   rw [checkOf,if_neg (by simp;omega),if_neg (by simpa using h4),if_neg (by
    simp only [List.all_eq_true,beq_iff_eq]
    intro hh
    rw [getD_some (List.getElem?_eq_getElem hi)] at h
    exact h (hh _ (List.getElem_mem hi)))]
  refine j_nf [.o [0] 0,.c [1]] rfl ?_
  refine j_step rfl (x_box_agg rfl fun b1=>?_)
  refine j_run it 1 rfl (by simp) ?_
  refine j_nf [.o [1,0,0] 0,.c [1,0,1],.c [1,1]] rfl ?_
  refine j_step rfl (x_field rfl fd26_0 ?_)
  refine j_step rfl (x_bld 0 rfl rfl ld23 rfl ?_)
  refine j_step rfl (x_len sl23 rfl ?_)
  refine j_run it 2 rfl (by simp) ?_
  refine j_split_dec (t:=8) rfl (fun h5=>by exfalso;omega) (fun h5=>?_)
  refine j_gstep rfl rfl (x_field rfl fd26_1 ?_)
  refine j_gstep rfl rfl (x_bld 0 rfl rfl ld24 rfl ?_)
  refine j_gstep rfl rfl (x_len sl24 rfl ?_)
  refine j_run it 3 rfl (by simp) ?_
  refine j_split_dec (t:=14) rfl (fun h6=>by exfalso;omega) (fun h6=>?_)
  refine j_gstep rfl rfl (x_field rfl fd26_2 ?_)
  refine j_gstep rfl rfl (x_bld 0 rfl rfl ld23 rfl ?_)
  refine j_gstep rfl rfl (x_len sl23 rfl ?_)
  refine j_run it 2 rfl (by simp) ?_
  refine j_nf [.c [1,0,1],.c [1,1]] rfl ?_
  refine j_if rfl rfl (fun h7=>by exfalso;omega) (fun h7=>?_)
  refine j_nf [.o [1,1,0,0] 0,.c [1,1,0,1],.c [1,1,1]] rfl ?_
  refine j_step rfl (x_field rfl fd26_1 ?_)
  refine j_step rfl (x_bld 0 rfl rfl ld24 rfl ?_)
  refine j_step rfl (x_len sl24 rfl ?_)
  refine j_step rfl (x_field rfl fd26_2 ?_)
  refine j_step rfl (x_bld 0 rfl rfl ld23 rfl ?_)
  refine j_step rfl (x_len sl23 rfl ?_)
  refine j_run it 1 rfl (by simp) ?_
  refine j_nf [.c [1,1,0,1],.c [1,1,1]] rfl ?_
  refine j_ifn rfl rfl (fun h8=>by exfalso;omega) (fun h8=>?_)
  refine j_nf [.o [1,1,1,0,0] 0,.c [1,1,1,0,1],.c [1,1,1,1]] rfl ?_
  refine j_run it 1 rfl (by simp) ?_
  refine j_nf [.c (pL 122),.blk 0,.c [1,1,1,1]] rfl ?_
  refine j_loopN (X:=Nat) (fun k=>[(1,.pointer (some ⟨b1,0,none⟩)),(3,.int .i64 k)]) (fun _=>[(some b1,26,[.slice p1 C.length c1,.slice p2 A.length c2,.slice p3 B.length c3])]) (fun _=>[slF RatE p1 C.length c1 C,slF (encSl RatE) p2 A.length c2 A,slF RatE p3 B.length c3 B])
   (fun k=>k ≤ A.length ∧ ∀ i,i < k → (A.getD i default).length = C.length) (fun k=>A.length - k) 0 [0,1,2] rfl ⟨Nat.zero_le _,fun i hi=>by omega⟩ (by repeat (first | exact Fr.sub_nil _ | refine Fr.sub_cons rfl ?_)) rfl rfl ?_
  intro k ⟨hk,hall⟩ ih
  by_cases hkl : k < A.length
  ·refine j_nf [.o (pL 976) 0,.c (pL 977),.c (pL 489),.lp (pL 244),.blk 0,.c [1,1,1,1]] rfl ?_
   refine j_run it 1 rfl (by simp) ?_
   refine j_step rfl (x_field rfl fd26_1 ?_)
   refine j_step rfl (x_bld 0 rfl rfl ld24 rfl ?_)
   refine j_step rfl (x_len sl24 rfl ?_)
   refine j_run it 1 rfl (by simp) ?_
   refine j_nf [.c (pL 977),.c (pL 489),.lp (pL 244),.blk 0,.c [1,1,1,1]] rfl ?_
   refine j_if rfl rfl (fun h9=>?_) (fun h9=>by exfalso;omega)
   refine j_nf [.c (pL 3912),.c (pL 3913),.blk 1,.c (pL 979),.lp (pL 244),.blk 0,.c [1,1,1,1]] rfl ?_
   (apply j_drawK it mx 10;(· rfl);(· rfl))
   (apply lxk_eq;(· rfl);(· exact d_x fun _=>x_field rfl fd26_1 dk_eq))
   (apply lxk_eq;(· rfl);(· exact d_bld 0 rfl rfl ld24 rfl))
   (apply lxk_run 1;(· rfl);(· simp))
   (apply lxk_pt;(· rfl);(· exact d_x fun _=>x_idx 1 (k) rfl rfl rfl sl24 rfl (by omega) fun z1 hz1 b2 o1=>(dk_ptD default hz1 0 rfl));intro b2 o1)
   (apply lxk_sl;(· rfl);(· exact d_x fun _=>x_ld_sl 0 rfl rfl ld23 fun pa1 ca1=>(dk_sl 0 rfl));intro pa1 ca1)
   (apply lxk_eq;(· rfl);(· exact d_x fun _=>x_len sl23 rfl dk_eq))
   (apply lxk_eq;(· rfl);(· exact d_x fun _=>x_field rfl fd26_0 dk_eq))
   (apply lxk_eq;(· rfl);(· exact d_bld 0 rfl rfl ld23 rfl))
   (apply lxk_eq;(· rfl);(· exact d_x fun _=>x_len sl23 rfl dk_eq))
   (apply lxk_run 1;(· rfl);(· simp))
   refine lxk_end rfl ?_
   simp only [List.map_cons,List.map_nil,List.cons_append,List.nil_append]
   refine j_nf [.c (pL 3913),.blk 1,.c (pL 979),.lp (pL 244),.blk 0,.c [1,1,1,1]] rfl ?_
   refine j_ifn rfl rfl (fun h10=>?_) (fun h10=>?_)
   ·refine j_nf [.o (pL 15652) 0,.c (pL 15653),.blk 1,.c (pL 979),.lp (pL 244),.blk 0,.c [1,1,1,1]] rfl ?_
    refine j_run it 1 rfl (by simp) ?_
    refine j_nf [.c (pL 15653),.blk 1,.c (pL 979),.lp (pL 244),.blk 0,.c [1,1,1,1]] rfl ?_
    refine j_giv [] rfl rfl rfl ⟨bad k hkl (by omega),rfl,rfl⟩
   ·refine j_nf [.o (pL 979) 0,.lp (pL 244),.blk 0,.c [1,1,1,1]] rfl ?_
    refine j_run it 3 rfl (by repeat' first | exact trivial | apply And.intro | omega) ?_
    refine j_nfn 1 [.lp (pL 244),.blk 0,.c [1,1,1,1]] rfl ?_
    refine j_to [2,3,4] (by repeat (first | exact Fr.sub_nil _ | refine Fr.sub_cons rfl ?_ | refine Fr.sub_consI rfl (by first | omega | (dsimp only;omega)) ?_ | refine Fr.sub_consS rfl (by first | omega | (dsimp only;omega)) (by first | omega | (dsimp only;omega)) ?_)) rfl rfl (ih (k + 1) (by omega) ⟨by omega,fun i hi=>by rcases Nat.lt_succ_iff_lt_or_eq.1 hi with h | rfl;exact hall i h;omega⟩)
  ·refine j_nf [.o (pL 976) 0,.c (pL 977),.c (pL 489),.lp (pL 244),.blk 0,.c [1,1,1,1]] rfl ?_
   refine j_run it 1 rfl (by simp) ?_
   refine j_step rfl (x_field rfl fd26_1 ?_)
   refine j_step rfl (x_bld 0 rfl rfl ld24 rfl ?_)
   refine j_step rfl (x_len sl24 rfl ?_)
   refine j_run it 1 rfl (by simp) ?_
   refine j_nf [.c (pL 977),.c (pL 489),.lp (pL 244),.blk 0,.c [1,1,1,1]] rfl ?_
   refine j_if rfl rfl (fun h9=>by exfalso;omega) (fun h9=>?_)
   refine j_nf [.o [1,1,1,1,0] 0,.c [1,1,1,1,1]] rfl ?_
   refine j_run it 1 rfl (by simp) ?_
   refine j_nf [.c [1,1,1,1,1]] rfl ?_
   refine j_giv [] rfl rfl rfl ⟨good (fun i hi=>hall i (by omega)),rfl,rfl⟩
 ·refine j_nf [.o [0] 0,.c [1]] rfl ?_
  refine j_step rfl (x_box_agg rfl fun b1=>?_)
  refine j_run it 1 rfl (by simp) ?_
  refine j_nf [.o [1,0,0] 0,.c [1,0,1],.c [1,1]] rfl ?_
  refine j_step rfl (x_field rfl fd26_0 ?_)
  refine j_step rfl (x_bld 0 rfl rfl ld23 rfl ?_)
  refine j_step rfl (x_len sl23 rfl ?_)
  refine j_run it 2 rfl (by simp) ?_
  refine j_split_dec (t:=8) rfl (fun h5=>by exfalso;omega) (fun h5=>?_)
  refine j_gstep rfl rfl (x_field rfl fd26_1 ?_)
  refine j_gstep rfl rfl (x_bld 0 rfl rfl ld24 rfl ?_)
  refine j_gstep rfl rfl (x_len sl24 rfl ?_)
  refine j_run it 3 rfl (by simp) ?_
  refine j_split_dec (t:=14) rfl (fun h6=>by exfalso;omega) (fun h6=>?_)
  refine j_gstep rfl rfl (x_field rfl fd26_2 ?_)
  refine j_gstep rfl rfl (x_bld 0 rfl rfl ld23 rfl ?_)
  refine j_gstep rfl rfl (x_len sl23 rfl ?_)
  refine j_run it 2 rfl (by simp) ?_
  refine j_nf [.c [1,0,1],.c [1,1]] rfl ?_
  refine j_if rfl rfl (fun h7=>by exfalso;omega) (fun h7=>?_)
  refine j_nf [.o [1,1,0,0] 0,.c [1,1,0,1],.c [1,1,1]] rfl ?_
  refine j_step rfl (x_field rfl fd26_1 ?_)
  refine j_step rfl (x_bld 0 rfl rfl ld24 rfl ?_)
  refine j_step rfl (x_len sl24 rfl ?_)
  refine j_step rfl (x_field rfl fd26_2 ?_)
  refine j_step rfl (x_bld 0 rfl rfl ld23 rfl ?_)
  refine j_step rfl (x_len sl23 rfl ?_)
  refine j_run it 1 rfl (by simp) ?_
  refine j_nf [.c [1,1,0,1],.c [1,1,1]] rfl ?_
  refine j_ifn rfl rfl (fun h8=>?_) (fun h8=>by exfalso;omega)
  refine j_nf [.o (pL 116) 0,.c (pL 117),.c [1,1,1]] rfl ?_
  refine j_run it 1 rfl (by simp) ?_
  refine j_nf [.c (pL 117),.c [1,1,1]] rfl ?_
  refine j_giv [] rfl rfl rfl ⟨by rw [checkOf,if_neg (by simp;omega),if_pos h4];rfl,rfl,rfl⟩
theorem S_simplex_Check {p1 p2 p3 : Option Addr} {c1 c2 c3 : Nat} {C A B} : Ctr Try.prog 37 [.agg [.slice p1 C.length c1,.slice p2 A.length c2,.slice p3 B.length c3].toArray] [] [slF RatE p1 C.length c1 C,slF (encSl RatE) p2 A.length c2 A,slF RatE p3 B.length c3 B]
  (Rv (.int .i64 (checkOf (C,A,B))) []):=by
 refine Ctr_of_j' (F:=F_simplex_Check) rfl fun Cx=>?_
 refine j_len 0 rfl fun _ _ _=>?_
 refine j_len 1 rfl fun _ hb2 _=>?_
 refine j_len 2 rfl fun _ _ _=>?_
 have hb2' : A.length * 24 ≤ 140737488355328:=hb2
 have big : (80 < C.length ∨ 80 < A.length ∨ 80 < B.length) → Value.int .i64 8 = .int .i64 (checkOf (C,A,B)):=fun h=>by rw [checkOf,if_pos h]
 by_cases h1 : 80 < C.length
 ·refine j_nf [.o [0] 0,.c [1]] rfl ?_
  refine j_step rfl (x_box_agg rfl fun b1=>?_)
  refine j_run it 1 rfl (by simp) ?_
  refine j_nf [.o [1,0,0] 0,.c [1,0,1],.c [1,1]] rfl ?_
  refine j_step rfl (x_field rfl fd26_0 ?_)
  refine j_step rfl (x_bld 0 rfl rfl ld23 rfl ?_)
  refine j_step rfl (x_len sl23 rfl ?_)
  refine j_run it 2 rfl (by simp) ?_
  refine j_split_dec (t:=9) rfl (fun h2=>?_) (fun h2=>by exfalso;omega)
  refine j_run it 11 rfl (by simp) ?_
  refine j_nf [.c [1,0,1],.c [1,1]] rfl ?_
  refine j_true rfl rfl ?_
  refine j_nf [.o [1,0,1,0,0] 0,.c [1,0,1,0,1],.c [1,1]] rfl ?_
  refine j_run it 1 rfl (by simp) ?_
  refine j_nf [.c [1,0,1,0,1],.c [1,1]] rfl ?_
  refine j_giv [] rfl rfl rfl ⟨big (.inl h1),rfl,rfl⟩
 by_cases h2 : 80 < A.length
 ·refine j_nf [.o [0] 0,.c [1]] rfl ?_
  refine j_step rfl (x_box_agg rfl fun b1=>?_)
  refine j_run it 1 rfl (by simp) ?_
  refine j_nf [.o [1,0,0] 0,.c [1,0,1],.c [1,1]] rfl ?_
  refine j_step rfl (x_field rfl fd26_0 ?_)
  refine j_step rfl (x_bld 0 rfl rfl ld23 rfl ?_)
  refine j_step rfl (x_len sl23 rfl ?_)
  refine j_run it 2 rfl (by simp) ?_
  refine j_split_dec (t:=9) rfl (fun h3=>by exfalso;omega) (fun h3=>?_)
  refine j_gstep rfl rfl (x_field rfl fd26_1 ?_)
  refine j_gstep rfl rfl (x_bld 0 rfl rfl ld24 rfl ?_)
  refine j_gstep rfl rfl (x_len sl24 rfl ?_)
  refine j_run it 3 rfl (by simp) ?_
  refine j_split_dec (t:=15) rfl (fun h4=>?_) (fun h4=>by exfalso;omega)
  refine j_run it 5 rfl (by simp) ?_
  refine j_nf [.c [1,0,1],.c [1,1]] rfl ?_
  refine j_true rfl rfl ?_
  refine j_nf [.o [1,0,1,0,0] 0,.c [1,0,1,0,1],.c [1,1]] rfl ?_
  refine j_run it 1 rfl (by simp) ?_
  refine j_nf [.c [1,0,1,0,1],.c [1,1]] rfl ?_
  refine j_giv [] rfl rfl rfl ⟨big (.inr (.inl h2)),rfl,rfl⟩
 by_cases h3 : 80 < B.length
 ·refine j_nf [.o [0] 0,.c [1]] rfl ?_
  refine j_step rfl (x_box_agg rfl fun b1=>?_)
  refine j_run it 1 rfl (by simp) ?_
  refine j_nf [.o [1,0,0] 0,.c [1,0,1],.c [1,1]] rfl ?_
  refine j_step rfl (x_field rfl fd26_0 ?_)
  refine j_step rfl (x_bld 0 rfl rfl ld23 rfl ?_)
  refine j_step rfl (x_len sl23 rfl ?_)
  refine j_run it 2 rfl (by simp) ?_
  refine j_split_dec (t:=9) rfl (fun h4=>by exfalso;omega) (fun h4=>?_)
  refine j_gstep rfl rfl (x_field rfl fd26_1 ?_)
  refine j_gstep rfl rfl (x_bld 0 rfl rfl ld24 rfl ?_)
  refine j_gstep rfl rfl (x_len sl24 rfl ?_)
  refine j_run it 3 rfl (by simp) ?_
  refine j_split_dec (t:=15) rfl (fun h5=>by exfalso;omega) (fun h5=>?_)
  refine j_gstep rfl rfl (x_field rfl fd26_2 ?_)
  refine j_gstep rfl rfl (x_bld 0 rfl rfl ld23 rfl ?_)
  refine j_gstep rfl rfl (x_len sl23 rfl ?_)
  refine j_run it 2 rfl (by simp) ?_
  refine j_nf [.c [1,0,1],.c [1,1]] rfl ?_
  refine j_if rfl rfl (fun h6=>?_) (fun h6=>by exfalso;omega)
  refine j_nf [.o [1,0,1,0,0] 0,.c [1,0,1,0,1],.c [1,1]] rfl ?_
  refine j_run it 1 rfl (by simp) ?_
  refine j_nf [.c [1,0,1,0,1],.c [1,1]] rfl ?_
  refine j_giv [] rfl rfl rfl ⟨big (.inr (.inr h3)),rfl,rfl⟩
 by_cases h4 : A.length = B.length
 ·have good : (∀ i,i < A.length → (A.getD i default).length = C.length) → Value.int .i64 0 = .int .i64 (checkOf (C,A,B)):=fun h=>by
   rw [checkOf,if_neg (by simp;omega),if_neg (by simpa using h4),if_pos (by
    simp only [List.all_eq_true,beq_iff_eq]
    intro r hr
    obtain ⟨i,hi,rfl⟩:=List.mem_iff_getElem.1 hr
    have:=h i hi
    rwa [getD_some (List.getElem?_eq_getElem hi)] at this)]
  have bad : ∀ i,i < A.length → (A.getD i default).length ≠ C.length → Value.int .i64 3 = .int .i64 (checkOf (C,A,B)):=fun i hi h=>by
   rw [checkOf,if_neg (by simp;omega),if_neg (by simpa using h4),if_neg (by
    simp only [List.all_eq_true,beq_iff_eq]
    intro hh
    rw [getD_some (List.getElem?_eq_getElem hi)] at h
    exact h (hh _ (List.getElem_mem hi)))]
  refine j_nf [.o [0] 0,.c [1]] rfl ?_
  refine j_step rfl (x_box_agg rfl fun b1=>?_)
  refine j_run it 1 rfl (by simp) ?_
  refine j_nf [.o [1,0,0] 0,.c [1,0,1],.c [1,1]] rfl ?_
  refine j_step rfl (x_field rfl fd26_0 ?_)
  refine j_step rfl (x_bld 0 rfl rfl ld23 rfl ?_)
  refine j_step rfl (x_len sl23 rfl ?_)
  refine j_run it 2 rfl (by simp) ?_
  refine j_split_dec (t:=9) rfl (fun h5=>by exfalso;omega) (fun h5=>?_)
  refine j_gstep rfl rfl (x_field rfl fd26_1 ?_)
  refine j_gstep rfl rfl (x_bld 0 rfl rfl ld24 rfl ?_)
  refine j_gstep rfl rfl (x_len sl24 rfl ?_)
  refine j_run it 3 rfl (by simp) ?_
  refine j_split_dec (t:=15) rfl (fun h6=>by exfalso;omega) (fun h6=>?_)
  refine j_gstep rfl rfl (x_field rfl fd26_2 ?_)
  refine j_gstep rfl rfl (x_bld 0 rfl rfl ld23 rfl ?_)
  refine j_gstep rfl rfl (x_len sl23 rfl ?_)
  refine j_run it 2 rfl (by simp) ?_
  refine j_nf [.c [1,0,1],.c [1,1]] rfl ?_
  refine j_if rfl rfl (fun h7=>by exfalso;omega) (fun h7=>?_)
  refine j_nf [.o [1,1,0,0] 0,.c [1,1,0,1],.c [1,1,1]] rfl ?_
  refine j_step rfl (x_field rfl fd26_1 ?_)
  refine j_step rfl (x_bld 0 rfl rfl ld24 rfl ?_)
  refine j_step rfl (x_len sl24 rfl ?_)
  refine j_step rfl (x_field rfl fd26_2 ?_)
  refine j_step rfl (x_bld 0 rfl rfl ld23 rfl ?_)
  refine j_step rfl (x_len sl23 rfl ?_)
  refine j_run it 1 rfl (by simp) ?_
  refine j_nf [.c [1,1,0,1],.c [1,1,1]] rfl ?_
  refine j_ifn rfl rfl (fun h8=>by exfalso;omega) (fun h8=>?_)
  refine j_nf [.o [1,1,1,0,0] 0,.c [1,1,1,0,1],.c [1,1,1,1]] rfl ?_
  refine j_step rfl (x_field rfl fd26_1 ?_)
  refine j_step rfl (x_bld 0 rfl rfl ld24 rfl ?_)
  refine j_step rfl (x_len sl24 rfl ?_)
  refine j_run it 1 rfl (by simp) ?_
  refine j_nf [.c (pL 122),.blk 0,.c [1,1,1,1]] rfl ?_
  refine j_loopN (X:=Nat) (fun k=>[(1,.pointer (some ⟨b1,0,none⟩)),(29,.slice p2 A.length c2),(30,.int .i64 A.length),(31,.int .i64 k)]) (fun _=>[(some b1,26,[.slice p1 C.length c1,.slice p2 A.length c2,.slice p3 B.length c3])]) (fun _=>[slF RatE p1 C.length c1 C,slF (encSl RatE) p2 A.length c2 A,slF RatE p3 B.length c3 B])
   (fun k=>k ≤ A.length ∧ ∀ i,i < k → (A.getD i default).length = C.length) (fun k=>A.length - k) 0 [0,1,2] rfl ⟨Nat.zero_le _,fun i hi=>by omega⟩ (by repeat (first | exact Fr.sub_nil _ | refine Fr.sub_cons rfl ?_)) rfl rfl ?_
  intro k ⟨hk,hall⟩ ih
  by_cases hkl : k < A.length
  ·refine j_nf [.o (pL 488) 0,.c (pL 489),.lp (pL 244),.blk 0,.c [1,1,1,1]] rfl ?_
   refine j_run it 1 rfl (by simp) ?_
   refine j_nf [.c (pL 978),.c (pL 979),.lp (pL 244),.blk 0,.c [1,1,1,1]] rfl ?_
   refine j_if rfl rfl (fun h9=>?_) (fun h9=>by exfalso;omega)
   refine j_nf [.o (pL 7832) 0,.c (pL 7833),.blk 1,.c (pL 1959),.lp (pL 244),.blk 0,.c [1,1,1,1]] rfl ?_
   refine j_step rfl (x_idx 1 (k) rfl rfl rfl sl24 rfl (by omega) fun z1 hz1 b2 o1=>?_)
   refine j_step rfl (x_ld_sl 0 rfl rfl ld23 fun pa1 ca1=>?_)
   refine j_run it 1 rfl (by simp) ?_
   refine j_nf [.o (pL 15666) 0,.c (pL 15667),.blk 1,.c (pL 1959),.lp (pL 244),.blk 0,.c [1,1,1,1]] rfl ?_
   refine j_run it 1 rfl (by simp) ?_
   refine j_step rfl (x_len sl23 rfl ?_)
   refine j_step rfl (x_field rfl fd26_0 ?_)
   refine j_step rfl (x_bld 0 rfl rfl ld23 rfl ?_)
   refine j_step rfl (x_len sl23 rfl ?_)
   refine j_run it 1 rfl (by simp) ?_
   refine j_nf [.c (pL 15667),.blk 1,.c (pL 1959),.lp (pL 244),.blk 0,.c [1,1,1,1]] rfl ?_
   refine j_ifn rfl rfl (fun h10=>?_) (fun h10=>?_)
   ·refine j_nf [.o (pL 62668) 0,.c (pL 62669),.blk 1,.c (pL 1959),.lp (pL 244),.blk 0,.c [1,1,1,1]] rfl ?_
    refine j_run it 1 rfl (by simp) ?_
    refine j_nf [.c (pL 62669),.blk 1,.c (pL 1959),.lp (pL 244),.blk 0,.c [1,1,1,1]] rfl ?_
    refine j_giv [] rfl rfl rfl ⟨bad k hkl (by rw [getD_some hz1];omega),rfl,rfl⟩
   ·refine j_nf [.o (pL 1959) 0,.lp (pL 244),.blk 0,.c [1,1,1,1]] rfl ?_
    refine j_run it 2 rfl (by repeat' first | exact trivial | apply And.intro | omega) ?_
    refine j_nfn 1 [.lp (pL 244),.blk 0,.c [1,1,1,1]] rfl ?_
    refine j_to [2,3,4] (by repeat (first | exact Fr.sub_nil _ | refine Fr.sub_cons rfl ?_ | refine Fr.sub_consI rfl (by first | omega | (dsimp only;omega)) ?_ | refine Fr.sub_consS rfl (by first | omega | (dsimp only;omega)) (by first | omega | (dsimp only;omega)) ?_)) rfl rfl (ih (k + 1) (by omega) ⟨by omega,fun i hi=>by rcases Nat.lt_succ_iff_lt_or_eq.1 hi with h | rfl;exact hall i h;rw [getD_some hz1];omega⟩)
  ·refine j_nf [.o (pL 488) 0,.c (pL 489),.lp (pL 244),.blk 0,.c [1,1,1,1]] rfl ?_
   refine j_run it 1 rfl (by simp) ?_
   refine j_nf [.c (pL 978),.c (pL 979),.lp (pL 244),.blk 0,.c [1,1,1,1]] rfl ?_
   refine j_if rfl rfl (fun h9=>by exfalso;omega) (fun h9=>?_)
   refine j_nf [.o [1,1,1,1,0] 0,.c [1,1,1,1,1]] rfl ?_
   refine j_run it 1 rfl (by simp) ?_
   refine j_nf [.c [1,1,1,1,1]] rfl ?_
   refine j_giv [] rfl rfl rfl ⟨good (fun i hi=>hall i (by omega)),rfl,rfl⟩
 ·refine j_nf [.o [0] 0,.c [1]] rfl ?_
  refine j_step rfl (x_box_agg rfl fun b1=>?_)
  refine j_run it 1 rfl (by simp) ?_
  refine j_nf [.o [1,0,0] 0,.c [1,0,1],.c [1,1]] rfl ?_
  refine j_step rfl (x_field rfl fd26_0 ?_)
  refine j_step rfl (x_bld 0 rfl rfl ld23 rfl ?_)
  refine j_step rfl (x_len sl23 rfl ?_)
  refine j_run it 2 rfl (by simp) ?_
  refine j_split_dec (t:=9) rfl (fun h5=>by exfalso;omega) (fun h5=>?_)
  refine j_gstep rfl rfl (x_field rfl fd26_1 ?_)
  refine j_gstep rfl rfl (x_bld 0 rfl rfl ld24 rfl ?_)
  refine j_gstep rfl rfl (x_len sl24 rfl ?_)
  refine j_run it 3 rfl (by simp) ?_
  refine j_split_dec (t:=15) rfl (fun h6=>by exfalso;omega) (fun h6=>?_)
  refine j_gstep rfl rfl (x_field rfl fd26_2 ?_)
  refine j_gstep rfl rfl (x_bld 0 rfl rfl ld23 rfl ?_)
  refine j_gstep rfl rfl (x_len sl23 rfl ?_)
  refine j_run it 2 rfl (by simp) ?_
  refine j_nf [.c [1,0,1],.c [1,1]] rfl ?_
  refine j_if rfl rfl (fun h7=>by exfalso;omega) (fun h7=>?_)
  refine j_nf [.o [1,1,0,0] 0,.c [1,1,0,1],.c [1,1,1]] rfl ?_
  refine j_step rfl (x_field rfl fd26_1 ?_)
  refine j_step rfl (x_bld 0 rfl rfl ld24 rfl ?_)
  refine j_step rfl (x_len sl24 rfl ?_)
  refine j_step rfl (x_field rfl fd26_2 ?_)
  refine j_step rfl (x_bld 0 rfl rfl ld23 rfl ?_)
  refine j_step rfl (x_len sl23 rfl ?_)
  refine j_run it 1 rfl (by simp) ?_
  refine j_nf [.c [1,1,0,1],.c [1,1,1]] rfl ?_
  refine j_ifn rfl rfl (fun h8=>?_) (fun h8=>by exfalso;omega)
  refine j_nf [.o (pL 116) 0,.c (pL 117),.c [1,1,1]] rfl ?_
  refine j_run it 1 rfl (by simp) ?_
  refine j_nf [.c (pL 117),.c [1,1,1]] rfl ?_
  refine j_giv [] rfl rfl rfl ⟨by rw [checkOf,if_neg (by simp;omega),if_pos h4];rfl,rfl,rfl⟩
end Go.Proofs.Ythahejfpdhcpiaa

namespace Go.Proofs.Ythahejfpdhcpiaa
open Go Go.Fw
set_option maxRecDepth 100000
set_option linter.unusedVariables false
set_option linter.unusedSimpArgs false
set_option maxHeartbeats 2000000
def turned (m : Nat) (A : List (List Rt)) : List (List Rt):=(List.range m).map fun j=>A.map fun row=>negR (row.getD j default)
end Go.Proofs.Ythahejfpdhcpiaa

namespace Go.Proofs.Ythahejfpdhcpiaa
open Go Go.Fw
set_option maxRecDepth 100000
set_option linter.unusedVariables false
set_option linter.unusedSimpArgs false
set_option maxHeartbeats 2000000
end Go.Proofs.Ythahejfpdhcpiaa

namespace Go.Proofs.Ythahejfpdhcpiaa
open Go Go.Fw
set_option maxRecDepth 100000
set_option linter.unusedVariables false
set_option linter.unusedSimpArgs false
set_option maxHeartbeats 2000000
end Go.Proofs.Ythahejfpdhcpiaa

namespace Go.Proofs.Ythahejfpdhcpiaa
open Go Go.Fw
set_option maxRecDepth 100000
set_option linter.unusedVariables false
set_option linter.unusedSimpArgs false
set_option maxHeartbeats 2000000
def shortB (L : List Rt) : Bool:=L.all fun r=>decide (r.2.1.length ≤ 2) && decide (r.2.2.length ≤ 2)
def smallB (m : Nat) (C : List Rt) (A : List (List Rt)) (B : List Rt) : Bool:=decide (C.length ≤ m) && decide (B.length ≤ m) && decide (A.length ≤ m) && shortB C && shortB B && A.all fun row=>decide (row.length ≤ m) && shortB row
theorem all_take_succ {α : Type} {L : List α} {k : Nat} {z : α} {f : α → Bool} (hz : L[k]? = some z) (h : (L.take k).all f = true) (hf : f z = true) : (L.take (k + 1)).all f = true:=by
 rw [List.take_add_one,hz,List.all_append,h];simp [hf]
theorem S_codewrightref35_short {pa : Option Addr} {n ca : Nat} {L : List Rt} : Ctr Try.prog 36 [.slice pa n ca] [] [slF RatE pa n ca L] (Rv (.bool (shortB L)) []):=by
 refine Ctr_of_j' (F:=F_codewrightref35_short) rfl fun C=>?_
 refine j_len 0 rfl fun hn hba _=>?_
 subst hn
 have hba' : L.length * 56 ≤ 140737488355328:=hba
 refine j_nf [.o [0] 0,.c [1]] rfl ?_
 refine j_run it 1 rfl (by simp) ?_
 refine j_nf [.o [1,0,0] 0,.c [1,0,1],.c [1,1]] rfl ?_
 refine j_run it 1 rfl (by simp) ?_
 refine j_nf [.c [1,0,1,0],.blk 0,.c [1,1]] rfl ?_
 refine j_loopG (X:=Nat) [0] [0] (fun k=>[(3,.int .i64 k)]) (fun _=>[]) (fun _=>[]) (fun k=>k ≤ L.length ∧ shortB (L.take k) = true) (fun k=>L.length - k) 0 [] rfl rfl rfl ⟨Nat.zero_le _,rfl⟩ (by repeat (first | exact Fr.sub_nil _ | refine Fr.sub_cons rfl ?_)) rfl rfl ?_
 intro k ⟨hk,hs⟩ ih
 simp only [List.cons_append,List.nil_append] at ih ⊢
 by_cases hkl : k < L.length
 ·have bad : ∀ z,L[k]? = some z → (2 < z.2.1.length ∨ 2 < z.2.2.length) → shortB L = false:=fun z hz h=>by
   rw [shortB,List.all_eq_false]
   exact ⟨z,List.mem_of_getElem? hz,by simp;omega⟩
  refine j_nf [.o (pL 208) 0,.c (pL 209),.c (pL 105),.lp [1,0,1,0,0],.blk 0,.c [1,1]] rfl ?_
  refine j_run it 2 rfl (by simp) ?_
  refine j_step rfl (x_len sl23 rfl ?_)
  refine j_run it 1 rfl (by simp) ?_
  refine j_nf [.c (pL 209),.c (pL 105),.lp [1,0,1,0,0],.blk 0,.c [1,1]] rfl ?_
  refine j_if rfl rfl (fun h1=>?_) (fun h1=>by exfalso;omega)
  refine j_nf [.o (pL 840) 0,.c (pL 841),.blk 1,.c (pL 211),.lp [1,0,1,0,0],.blk 0,.c [1,1]] rfl ?_
  refine j_run it 2 rfl (by simp) ?_
  refine j_step rfl (x_idx 0 (k) rfl rfl rfl sl23 rfl (by omega) fun z1 hz1 b1 o1=>?_)
  refine j_step rfl (x_field_rt rfl fd44_1 (fun w A hG=>rt_f1 (hG _ (fact_mem (n:=0) rfl))) ?_)
  refine j_step rfl (x_ld_sl 0 rfl rfl ld42 fun pa1 ca1=>?_)
  refine j_step rfl (x_len sl42 rfl ?_)
  refine j_run it 2 rfl (by simp) ?_
  refine j_split_dec (t:=17) rfl (fun h2=>?_) (fun h2=>?_)
  ·refine j_run it 8 rfl (by simp) ?_
   refine j_nf [.c (pL 841),.blk 1,.c (pL 211),.lp [1,0,1,0,0],.blk 0,.c [1,1]] rfl ?_
   refine j_true rfl rfl ?_
   refine j_nf [.o (pL 3364) 0,.c (pL 3365),.blk 1,.c (pL 211),.lp [1,0,1,0,0],.blk 0,.c [1,1]] rfl ?_
   refine j_run it 1 rfl (by simp) ?_
   refine j_nf [.c (pL 3365),.blk 1,.c (pL 211),.lp [1,0,1,0,0],.blk 0,.c [1,1]] rfl ?_
   rw [bad z1 hz1 (.inl (by omega))]
   refine j_giv [] rfl rfl rfl ⟨rfl,rfl,rfl⟩
  ·refine j_run it 2 rfl (by simp) ?_
   refine j_gstep rfl rfl (x_idx 3 (k) rfl rfl rfl sl23 rfl (by omega) fun z2 hz2 b2 o2=>?_)
   refine j_gstep rfl rfl (x_field_rt rfl fd44_2 (fun w A hG=>rt_f2 (hG _ (fact_mem (n:=0) rfl))) ?_)
   refine j_gstep rfl rfl (x_ld_sl 0 rfl rfl ld42 fun pa2 ca2=>?_)
   refine j_gstep rfl rfl (x_len sl42 rfl ?_)
   refine j_run it 2 rfl (by simp) ?_
   refine j_nf [.c (pL 841),.blk 1,.c (pL 211),.lp [1,0,1,0,0],.blk 0,.c [1,1]] rfl ?_
   refine j_if rfl rfl (fun h3=>?_) (fun h3=>?_)
   ·obtain rfl : z2 = z1:=Option.some.inj (hz2.symm.trans hz1)
    refine j_nf [.o (pL 3364) 0,.c (pL 3365),.blk 1,.c (pL 211),.lp [1,0,1,0,0],.blk 0,.c [1,1]] rfl ?_
    refine j_run it 1 rfl (by simp) ?_
    refine j_nf [.c (pL 3365),.blk 1,.c (pL 211),.lp [1,0,1,0,0],.blk 0,.c [1,1]] rfl ?_
    rw [bad _ hz1 (.inr (by omega))]
    refine j_giv [] rfl rfl rfl ⟨rfl,rfl,rfl⟩
   ·obtain rfl : z2 = z1:=Option.some.inj (hz2.symm.trans hz1)
    refine j_nf [.o (pL 211) 0,.lp [1,0,1,0,0],.blk 0,.c [1,1]] rfl ?_
    refine j_run it 3 rfl (by repeat' first | exact trivial | apply And.intro | omega) ?_
    refine j_nfn 1 [.lp [1,0,1,0,0],.blk 0,.c [1,1]] rfl ?_
    refine j_to [6] (by repeat (first | exact Fr.sub_nil _ | refine Fr.sub_cons rfl ?_ | refine Fr.sub_consI rfl (by first | omega | (dsimp only;omega)) ?_ | refine Fr.sub_consS rfl (by first | omega | (dsimp only;omega)) (by first | omega | (dsimp only;omega)) ?_)) rfl rfl (ih (k + 1) (by omega) ⟨by omega,all_take_succ hz1 hs (by simp;omega)⟩)
 ·have ek : k = L.length:=by omega
  subst ek
  rw [List.take_length] at hs
  refine j_nf [.o (pL 208) 0,.c (pL 209),.c (pL 105),.lp [1,0,1,0,0],.blk 0,.c [1,1]] rfl ?_
  refine j_run it 2 rfl (by simp) ?_
  refine j_step rfl (x_len sl23 rfl ?_)
  refine j_run it 1 rfl (by simp) ?_
  refine j_nf [.c (pL 209),.c (pL 105),.lp [1,0,1,0,0],.blk 0,.c [1,1]] rfl ?_
  refine j_if rfl rfl (fun h1=>by exfalso;omega) (fun h1=>?_)
  refine j_nf [.o [1,1,0] 0,.c [1,1,1]] rfl ?_
  refine j_run it 1 rfl (by simp) ?_
  refine j_nf [.c [1,1,1]] rfl ?_
  rw [hs]
  refine j_giv [] rfl rfl rfl ⟨rfl,rfl,rfl⟩
theorem S_codewrightref35_Small {p1 p2 p3 : Option Addr} {c1 c2 c3 m : Nat} {C B : List Rt} {A : List (List Rt)} (hm : m ≤ 1000) :
  Ctr Try.prog 13 [.agg #[.slice p1 C.length c1,.slice p2 A.length c2,.slice p3 B.length c3],.int .i64 m] [] [slF RatE p1 C.length c1 C,slF (encSl RatE) p2 A.length c2 A,slF RatE p3 B.length c3 B] (Rv (.bool (smallB m C A B)) []):=by
 refine Ctr_of_j' (F:=F_codewrightref35_Small) rfl fun Cx=>?_
 refine j_len 1 rfl fun _ hba _=>?_
 have hba' : A.length * 24 ≤ 140737488355328:=hba
 by_cases h1 : m < C.length
 ·have e : smallB m C A B = false:=by simp [smallB];omega
  rw [e]
  refine j_nf [.o [0] 0,.c [1]] rfl ?_
  refine j_step rfl (x_box_agg rfl fun b1=>?_)
  refine j_run it 1 rfl (by simp) ?_
  refine j_nf [.o [1,0,0] 0,.c [1,0,1],.c [1,1]] rfl ?_
  refine j_step rfl (x_field rfl fd26_0 ?_)
  refine j_step rfl (x_bld 0 rfl rfl ld23 rfl ?_)
  refine j_step rfl (x_len sl23 rfl ?_)
  refine j_run it 3 rfl (by simp) ?_
  refine j_split_dec (t:=12) rfl (fun h2=>?_) (fun h2=>by exfalso;omega)
  refine j_run it 13 rfl (by simp) ?_
  refine j_nf [.c [1,0,1],.c [1,1]] rfl ?_
  refine j_true rfl rfl ?_
  refine j_nf [.o [1,0,1,0,0] 0,.c [1,0,1,0,1],.c [1,1]] rfl ?_
  refine j_run it 1 rfl (by simp) ?_
  refine j_nf [.c [1,0,1,0,1],.c [1,1]] rfl ?_
  refine j_giv [] rfl rfl rfl ⟨rfl,rfl,rfl⟩
 by_cases h2 : m < B.length
 ·have e : smallB m C A B = false:=by simp [smallB];omega
  rw [e]
  refine j_nf [.o [0] 0,.c [1]] rfl ?_
  refine j_step rfl (x_box_agg rfl fun b1=>?_)
  refine j_run it 1 rfl (by simp) ?_
  refine j_nf [.o [1,0,0] 0,.c [1,0,1],.c [1,1]] rfl ?_
  refine j_step rfl (x_field rfl fd26_0 ?_)
  refine j_step rfl (x_bld 0 rfl rfl ld23 rfl ?_)
  refine j_step rfl (x_len sl23 rfl ?_)
  refine j_run it 3 rfl (by simp) ?_
  refine j_split_dec (t:=12) rfl (fun h3=>by exfalso;omega) (fun h3=>?_)
  refine j_gstep rfl rfl (x_field rfl fd26_2 ?_)
  refine j_gstep rfl rfl (x_bld 0 rfl rfl ld23 rfl ?_)
  refine j_gstep rfl rfl (x_len sl23 rfl ?_)
  refine j_run it 4 rfl (by simp) ?_
  refine j_split_dec (t:=19) rfl (fun h4=>?_) (fun h4=>by exfalso;omega)
  refine j_run it 6 rfl (by simp) ?_
  refine j_nf [.c [1,0,1],.c [1,1]] rfl ?_
  refine j_true rfl rfl ?_
  refine j_nf [.o [1,0,1,0,0] 0,.c [1,0,1,0,1],.c [1,1]] rfl ?_
  refine j_run it 1 rfl (by simp) ?_
  refine j_nf [.c [1,0,1,0,1],.c [1,1]] rfl ?_
  refine j_giv [] rfl rfl rfl ⟨rfl,rfl,rfl⟩
 by_cases h3 : m < A.length
 ·have e : smallB m C A B = false:=by simp [smallB];omega
  rw [e]
  refine j_nf [.o [0] 0,.c [1]] rfl ?_
  refine j_step rfl (x_box_agg rfl fun b1=>?_)
  refine j_run it 1 rfl (by simp) ?_
  refine j_nf [.o [1,0,0] 0,.c [1,0,1],.c [1,1]] rfl ?_
  refine j_step rfl (x_field rfl fd26_0 ?_)
  refine j_step rfl (x_bld 0 rfl rfl ld23 rfl ?_)
  refine j_step rfl (x_len sl23 rfl ?_)
  refine j_run it 3 rfl (by simp) ?_
  refine j_split_dec (t:=12) rfl (fun h4=>by exfalso;omega) (fun h4=>?_)
  refine j_gstep rfl rfl (x_field rfl fd26_2 ?_)
  refine j_gstep rfl rfl (x_bld 0 rfl rfl ld23 rfl ?_)
  refine j_gstep rfl rfl (x_len sl23 rfl ?_)
  refine j_run it 4 rfl (by simp) ?_
  refine j_split_dec (t:=19) rfl (fun h5=>by exfalso;omega) (fun h5=>?_)
  refine j_gstep rfl rfl (x_field rfl fd26_1 ?_)
  refine j_gstep rfl rfl (x_bld 0 rfl rfl ld24 rfl ?_)
  refine j_gstep rfl rfl (x_len sl24 rfl ?_)
  refine j_run it 3 rfl (by simp) ?_
  refine j_nf [.c [1,0,1],.c [1,1]] rfl ?_
  refine j_if rfl rfl (fun h6=>?_) (fun h6=>by exfalso;omega)
  refine j_nf [.o [1,0,1,0,0] 0,.c [1,0,1,0,1],.c [1,1]] rfl ?_
  refine j_run it 1 rfl (by simp) ?_
  refine j_nf [.c [1,0,1,0,1],.c [1,1]] rfl ?_
  refine j_giv [] rfl rfl rfl ⟨rfl,rfl,rfl⟩
 have e : smallB m C A B = (shortB C && shortB B && A.all fun row=>decide (row.length ≤ m) && shortB row):=by
  rw [smallB,decide_eq_true (by omega : C.length ≤ m),decide_eq_true (by omega : B.length ≤ m),decide_eq_true (by omega : A.length ≤ m)];simp
 rw [e]
 have core : ∀ (b1 : Nat) (b : Bool),J F_codewrightref35_Small Cx [.c [1,1,1]] [(1,.int .i64 m),(2,.pointer (some ⟨b1,0,none⟩)),(4,.bool false),(5,.bool b)] [(some b1,26,[.slice p1 C.length c1,.slice p2 A.length c2,.slice p3 B.length c3])] [slF RatE p1 C.length c1 C,slF (encSl RatE) p2 A.length c2 A,slF RatE p3 B.length c3 B] (Gives Cx (Rv (.bool (b && A.all fun row=>decide (row.length ≤ m) && shortB row)) [])):=by
  intro b1 b
  refine j_nf [.o [1,1,1,0,0] 0,.c [1,1,1,0,1],.c [1,1,1,1]] rfl ?_
  refine j_run it 1 rfl (by simp) ?_
  refine j_nf [.c (pL 122),.blk 0,.c [1,1,1,1]] rfl ?_
  refine j_loopG (X:=Nat) [1,2,4] [0,1,2] (fun k=>[(5,.bool (b && (A.take k).all fun row=>decide (row.length ≤ m) && shortB row)),(6,.int .i64 k)]) (fun _=>[(some b1,26,[.slice p1 C.length c1,.slice p2 A.length c2,.slice p3 B.length c3])]) (fun _=>[]) (fun k=>k ≤ A.length) (fun k=>A.length - k) 0 [] rfl rfl rfl (Nat.zero_le _) (by simp only [List.take_zero,List.all_nil,Bool.and_true];repeat (first | exact Fr.sub_nil _ | refine Fr.sub_cons rfl ?_)) rfl rfl ?_
  intro k hk ih
  simp only [List.cons_append,List.nil_append] at ih ⊢
  by_cases hkl : k < A.length
  ·have hz:=get_some (l:=A) (i:=k) (dflt:=default) hkl
   have nxt : (b && (A.take (k + 1)).all fun row=>decide (row.length ≤ m) && shortB row) = ((b && (A.take k).all fun row=>decide (row.length ≤ m) && shortB row) && (decide ((A.getD k default).length ≤ m) && shortB (A.getD k default))):=by
    rw [List.take_add_one,hz,List.all_append];simp [Bool.and_assoc]
   generalize (b && (A.take k).all fun row=>decide (row.length ≤ m) && shortB row) = f at nxt ⊢
   cases f with
   | false =>
    refine j_nf [.o (pL 976) 0,.c (pL 977),.c (pL 489),.lp (pL 244),.blk 0,.c [1,1,1,1]] rfl ?_
    refine j_run it 1 rfl (by simp) ?_
    refine j_step rfl (x_field rfl fd26_1 ?_)
    refine j_step rfl (x_bld 0 rfl rfl ld24 rfl ?_)
    refine j_step rfl (x_len sl24 rfl ?_)
    refine j_run it 1 rfl (by simp) ?_
    refine j_nf [.c (pL 977),.c (pL 489),.lp (pL 244),.blk 0,.c [1,1,1,1]] rfl ?_
    refine j_if rfl rfl (fun h4=>?_) (fun h4=>by exfalso;omega)
    refine j_nf [.o (pL 1956) 0,.blk 1,.c (pL 979),.lp (pL 244),.blk 0,.c [1,1,1,1]] rfl ?_
    refine j_run it 20 rfl (by simp) ?_
    refine j_nf [.o (pL 979) 0,.lp (pL 244),.blk 0,.c [1,1,1,1]] rfl ?_
    refine j_run it 3 rfl (by repeat' first | exact trivial | apply And.intro | omega) ?_
    refine j_nfn 1 [.lp (pL 244),.blk 0,.c [1,1,1,1]] rfl ?_
    have ih':=ih (k + 1) (by omega) (by omega)
    rw [nxt,Bool.false_and] at ih'
    refine j_to [0,1,2] (by repeat (first | exact Fr.sub_nil _ | refine Fr.sub_cons rfl ?_ | refine Fr.sub_consI rfl (by first | omega | (dsimp only;omega)) ?_ | refine Fr.sub_consS rfl (by first | omega | (dsimp only;omega)) (by first | omega | (dsimp only;omega)) ?_)) rfl rfl (ih')
   | true =>
    refine j_nf [.o (pL 976) 0,.c (pL 977),.c (pL 489),.lp (pL 244),.blk 0,.c [1,1,1,1]] rfl ?_
    refine j_run it 1 rfl (by simp) ?_
    refine j_step rfl (x_field rfl fd26_1 ?_)
    refine j_step rfl (x_bld 0 rfl rfl ld24 rfl ?_)
    refine j_step rfl (x_len sl24 rfl ?_)
    refine j_run it 1 rfl (by simp) ?_
    refine j_nf [.c (pL 977),.c (pL 489),.lp (pL 244),.blk 0,.c [1,1,1,1]] rfl ?_
    refine j_if rfl rfl (fun h4=>?_) (fun h4=>by exfalso;omega)
    refine j_nf [.o (pL 1956) 0,.blk 1,.c (pL 979),.lp (pL 244),.blk 0,.c [1,1,1,1]] rfl ?_
    refine j_run it 2 rfl (by simp) ?_
    refine j_gstep rfl rfl (x_field rfl fd26_1 ?_)
    refine j_gstep rfl rfl (x_bld 0 rfl rfl ld24 rfl ?_)
    refine j_run it 1 rfl (by simp) ?_
    refine j_gstep rfl rfl (x_idx 1 (k) rfl rfl rfl sl24 rfl (by omega) fun z1 hz1 b2 o1=>?_)
    refine j_gstep rfl rfl (x_ld_sl 0 rfl rfl ld23 fun pa1 ca1=>?_)
    refine j_gstep rfl rfl (x_len sl23 rfl ?_)
    refine j_run it 4 rfl (by simp) ?_
    refine j_split_dec (t:=52) rfl (fun h5=>?_) (fun h5=>?_)
    ·obtain hgd : A.getD k default = z1:=by rw [List.getD,hz1];rfl
     have ih':=ih (k + 1) (by omega) (by omega)
     rw [nxt,hgd,decide_eq_true (by omega : z1.length ≤ m),Bool.true_and,Bool.true_and] at ih'
     refine j_gstep rfl rfl (x_field rfl fd26_1 ?_)
     refine j_gstep rfl rfl (x_bld 0 rfl rfl ld24 rfl ?_)
     refine j_run it 1 rfl (by simp) ?_
     refine j_gstep rfl rfl (x_idx 3 (k) rfl rfl rfl sl24 rfl (by omega) fun z2 hz2 b3 o2=>?_)
     refine j_gstep rfl rfl (x_ld_sl 0 rfl rfl ld23 fun pa2 ca2=>?_)
     refine j_gstep rfl rfl (x_call [0] rfl (S_codewrightref35_short) rfl ?_)
     rintro _ _ _ ⟨rfl,rfl,rfl⟩
     simp only [List.cons_append,List.nil_append]
     refine j_run it 2 rfl (by simp) ?_
     refine j_nf [.o (pL 979) 0,.lp (pL 244),.blk 0,.c [1,1,1,1]] rfl ?_
     refine j_run it 3 rfl (by repeat' first | exact trivial | apply And.intro | omega) ?_
     refine j_nfn 1 [.lp (pL 244),.blk 0,.c [1,1,1,1]] rfl ?_
     obtain rfl : z2 = z1:=Option.some.inj (hz2.symm.trans hz1)
     refine j_to [4,5,6] (by repeat (first | exact Fr.sub_nil _ | refine Fr.sub_cons rfl ?_ | refine Fr.sub_consI rfl (by first | omega | (dsimp only;omega)) ?_ | refine Fr.sub_consS rfl (by first | omega | (dsimp only;omega)) (by first | omega | (dsimp only;omega)) ?_)) rfl rfl (ih')
    ·obtain hgd : A.getD k default = z1:=by rw [List.getD,hz1];rfl
     have ih':=ih (k + 1) (by omega) (by omega)
     rw [nxt,hgd,decide_eq_false (by omega : ¬ z1.length ≤ m),Bool.false_and,Bool.and_false] at ih'
     refine j_run it 8 rfl (by simp) ?_
     refine j_nf [.o (pL 979) 0,.lp (pL 244),.blk 0,.c [1,1,1,1]] rfl ?_
     refine j_run it 3 rfl (by repeat' first | exact trivial | apply And.intro | omega) ?_
     refine j_nfn 1 [.lp (pL 244),.blk 0,.c [1,1,1,1]] rfl ?_
     refine j_to [2,3,4] (by repeat (first | exact Fr.sub_nil _ | refine Fr.sub_cons rfl ?_ | refine Fr.sub_consI rfl (by first | omega | (dsimp only;omega)) ?_ | refine Fr.sub_consS rfl (by first | omega | (dsimp only;omega)) (by first | omega | (dsimp only;omega)) ?_)) rfl rfl (ih')
  ·have ek : k = A.length:=by omega
   subst ek
   rw [List.take_length]
   refine j_nf [.o (pL 976) 0,.c (pL 977),.c (pL 489),.lp (pL 244),.blk 0,.c [1,1,1,1]] rfl ?_
   refine j_run it 1 rfl (by simp) ?_
   refine j_step rfl (x_field rfl fd26_1 ?_)
   refine j_step rfl (x_bld 0 rfl rfl ld24 rfl ?_)
   refine j_step rfl (x_len sl24 rfl ?_)
   refine j_run it 1 rfl (by simp) ?_
   refine j_nf [.c (pL 977),.c (pL 489),.lp (pL 244),.blk 0,.c [1,1,1,1]] rfl ?_
   refine j_if rfl rfl (fun h4=>by exfalso;omega) (fun h4=>?_)
   refine j_nf [.o [1,1,1,1,0] 0,.c [1,1,1,1,1]] rfl ?_
   refine j_run it 2 rfl (by simp) ?_
   refine j_nf [.c [1,1,1,1,1]] rfl ?_
   refine j_giv [] rfl rfl rfl ⟨rfl,rfl,rfl⟩
 refine j_nf [.o [0] 0,.c [1]] rfl ?_
 refine j_step rfl (x_box_agg rfl fun b1=>?_)
 refine j_run it 1 rfl (by simp) ?_
 refine j_nf [.o [1,0,0] 0,.c [1,0,1],.c [1,1]] rfl ?_
 refine j_step rfl (x_field rfl fd26_0 ?_)
 refine j_step rfl (x_bld 0 rfl rfl ld23 rfl ?_)
 refine j_step rfl (x_len sl23 rfl ?_)
 refine j_run it 3 rfl (by simp) ?_
 refine j_split_dec (t:=12) rfl (fun h4=>by exfalso;omega) (fun h4=>?_)
 refine j_gstep rfl rfl (x_field rfl fd26_2 ?_)
 refine j_gstep rfl rfl (x_bld 0 rfl rfl ld23 rfl ?_)
 refine j_gstep rfl rfl (x_len sl23 rfl ?_)
 refine j_run it 4 rfl (by simp) ?_
 refine j_split_dec (t:=19) rfl (fun h5=>by exfalso;omega) (fun h5=>?_)
 refine j_gstep rfl rfl (x_field rfl fd26_1 ?_)
 refine j_gstep rfl rfl (x_bld 0 rfl rfl ld24 rfl ?_)
 refine j_gstep rfl rfl (x_len sl24 rfl ?_)
 refine j_run it 3 rfl (by simp) ?_
 refine j_nf [.c [1,0,1],.c [1,1]] rfl ?_
 refine j_if rfl rfl (fun h6=>by exfalso;omega) (fun h6=>?_)
 refine j_nf [.o [1,1,0] 0,.c [1,1,1]] rfl ?_
 refine j_step rfl (x_field rfl fd26_0 ?_)
 refine j_step rfl (x_bld 0 rfl rfl ld23 rfl ?_)
 refine j_step rfl (x_call [0] rfl (S_codewrightref35_short) rfl ?_)
 rintro _ _ _ ⟨rfl,rfl,rfl⟩
 simp only [List.cons_append,List.nil_append]
 refine j_run it 1 rfl (by simp) ?_
 refine j_split (t:=29) rfl (fun h7=>?_) (fun h7=>?_)
 ·refine j_gstep rfl rfl (x_field rfl fd26_2 ?_)
  refine j_gstep rfl rfl (x_bld 0 rfl rfl ld23 rfl ?_)
  refine j_gstep rfl rfl (x_call [2] rfl (S_codewrightref35_short) rfl ?_)
  rintro _ _ _ ⟨rfl,rfl,rfl⟩
  simp only [List.cons_append,List.nil_append]
  refine j_run it 2 rfl (by simp) ?_
  refine j_nfn 1 [.c [1,1,1]] rfl ?_
  rw [‹shortB C = true›,Bool.true_and]
  refine j_to [0,1,2] (by repeat (first | exact Fr.sub_nil _ | refine Fr.sub_cons rfl ?_ | refine Fr.sub_consI rfl (by first | omega | (dsimp only;omega)) ?_ | refine Fr.sub_consS rfl (by first | omega | (dsimp only;omega)) (by first | omega | (dsimp only;omega)) ?_)) rfl rfl (core b1 (shortB B))
 ·refine j_run it 5 rfl (by simp) ?_
  refine j_nfn 1 [.c [1,1,1]] rfl ?_
  rw [‹shortB C = false›,Bool.false_and]
  refine j_to [0,1,2] (by repeat (first | exact Fr.sub_nil _ | refine Fr.sub_cons rfl ?_ | refine Fr.sub_consI rfl (by first | omega | (dsimp only;omega)) ?_ | refine Fr.sub_consS rfl (by first | omega | (dsimp only;omega)) (by first | omega | (dsimp only;omega)) ?_)) rfl rfl (core b1 false)
end Go.Proofs.Ythahejfpdhcpiaa

namespace Go.Proofs.Ythahejfpdhcpiaa
open Go Go.Fw
set_option maxRecDepth 100000
set_option linter.unusedVariables false
set_option linter.unusedSimpArgs false
set_option maxHeartbeats 2000000
theorem S_codewrightref02_abs {n : Int} (hn : InR .i64 n) : Ctr Try.prog 99 [.int .i64 n] [] [] (Sv U32 (limbs n.natAbs)):=by
 refine Ctr_of_j' (F:=F_codewrightref02_abs) rfl fun C=>?_
 simp only [InR] at hn
 by_cases h : n < 0
 ·have hl : (limbs (-(n + 1)).toNat).length ≤ 2:=limbs_length_le (by omega)
  refine j_nf [.o [0] 0,.c [1]] rfl ?_
  refine j_run it 1 rfl (by simp) ?_
  refine j_nf [.o [1,0,0] 0,.c [1,0,1],.c [1,1]] rfl ?_
  refine j_run it 2 rfl (by simp) ?_
  refine j_nf [.c [1,0,1],.c [1,1]] rfl ?_
  refine j_if rfl rfl (fun h1=>?_) (fun h1=>by exfalso;omega)
  refine j_nf [.o [1,0,1,0,0] 0,.c [1,0,1,0,1],.c [1,1]] rfl ?_
  refine j_run it 4 rfl (by repeat' first | exact trivial | apply And.intro | omega) ?_
  refine j_recast (t:=8) ((((-(n + 1) : Int).toNat) : Nat) : Int) rfl (by omega) ?_
  refine j_step rfl (x_call [] rfl (S_codewrightref01_Of (by first|omega|exact side _ (by assumption)|assumption|rfl|(simp;done)|(simp;omega))) rfl ?_)
  rintro _ _ _ ⟨pa1,ca1,rfl,rfl,rfl⟩
  simp only [List.cons_append,List.nil_append]
  refine j_step rfl (x_lit sl42 zo42e rfl rfl rfl rfl (by decide) (by decide) rfl fun b1=>?_)
  refine j_pub_made (n:=1) (kd:=IntKind.u32) 4 [1] 0 rfl rfl (by first | (simp [InR];done) | (simp only [InR,List.mem_cons,List.not_mem_nil,or_false,forall_eq_or_imp,forall_eq];omega)) (by decide) (by decide) ?_
  refine j_step rfl (x_call [1,0] rfl (S_codewrightref01_Add (by first|omega|exact side _ (by assumption)|assumption|rfl|(simp;done)|(simp;omega)) (by first|omega|exact side _ (by assumption)|assumption|rfl|(simp;done)|(simp;omega))) rfl ?_)
  rintro _ _ _ ⟨pa2,ca2,rfl,rfl,rfl⟩
  simp only [List.cons_append,List.nil_append]
  refine j_run it 1 rfl (by simp) ?_
  refine j_nf [.c [1,0,1,0,1],.c [1,1]] rfl ?_
  have e : val (limbs (-(n + 1)).toNat) + val [1] = n.natAbs:=by rw [val_limbs];simp [val];omega
  rw [e]
  refine j_giv [0] rfl rfl rfl ⟨_,_,rfl,rfl,rfl⟩
 ·refine j_nf [.o [0] 0,.c [1]] rfl ?_
  refine j_run it 1 rfl (by simp) ?_
  refine j_nf [.o [1,0,0] 0,.c [1,0,1],.c [1,1]] rfl ?_
  refine j_run it 2 rfl (by simp) ?_
  refine j_nf [.c [1,0,1],.c [1,1]] rfl ?_
  refine j_if rfl rfl (fun h1=>by exfalso;omega) (fun h1=>?_)
  refine j_nf [.o [1,1,0] 0,.c [1,1,1]] rfl ?_
  refine j_run it 2 rfl (by repeat' first | exact trivial | apply And.intro | omega) ?_
  refine j_recast (t:=13) ((((n : Int).toNat) : Nat) : Int) rfl (by omega) ?_
  refine j_step rfl (x_call [] rfl (S_codewrightref01_Of (by first|omega|exact side _ (by assumption)|assumption|rfl|(simp;done)|(simp;omega))) rfl ?_)
  rintro _ _ _ ⟨pa1,ca1,rfl,rfl,rfl⟩
  simp only [List.cons_append,List.nil_append]
  refine j_run it 1 rfl (by simp) ?_
  refine j_nf [.c [1,1,1]] rfl ?_
  have e : n.toNat = n.natAbs:=by omega
  rw [e]
  refine j_giv [0] rfl rfl rfl ⟨_,_,rfl,rfl,rfl⟩
theorem S_codewrightref02_Of {n : Int} {d : Nat} (hn : InR .i64 n) (hd : 0 < d) (hd2 : d < 9223372036854775808) : Ctr Try.prog 67 [.int .i64 n,.int .i64 d] [] [] (RtV (rt (mkRat n d))):=by
 refine Ctr_of_j' (F:=F_codewrightref02_Of) rfl fun C=>?_
 have hi : InR .i64 (d : Int):=by simp only [InR];omega
 have hl : (limbs n.natAbs).length ≤ 2:=limbs_length_le (by simp only [InR] at hn;omega)
 have hl2 : (limbs d).length ≤ 2:=limbs_length_le (by omega)
 have e : vq (decide (n < 0) != decide ((d : Int) < 0),limbs n.natAbs,limbs (d : Int).natAbs) = mkRat n d:=by
  rw [vq_eq,decide_eq_false (by omega : ¬ (d : Int) < 0)]
  simp only [val_limbs,Int.natAbs_natCast,Bool.bne_false,sg_int]
 refine j_nf [.o [0] 0,.c [1]] rfl ?_
 refine j_step rfl (x_alloc zo44 fun b1=>?_)
 refine j_nf [.o [1,0] 0,.c [1,1]] rfl ?_
 refine j_run it 4 rfl (by simp) ?_
 refine j_step rfl (x_neb ub rfl rfl ?_)
 refine j_run it 1 rfl (by simp) ?_
 refine j_step rfl (x_call [] rfl (S_codewrightref02_abs (by first|omega|exact side _ (by assumption)|assumption|rfl|(simp;done)|(simp;omega))) rfl ?_)
 rintro _ _ _ ⟨pa1,ca1,rfl,rfl,rfl⟩
 simp only [List.cons_append,List.nil_append]
 refine j_run it 1 rfl (by simp) ?_
 refine j_step rfl (x_call [] rfl (S_codewrightref02_abs (by first|omega|exact side _ (by assumption)|assumption|rfl|(simp;done)|(simp;omega))) rfl ?_)
 rintro _ _ _ ⟨pa2,ca2,rfl,rfl,rfl⟩
 simp only [List.cons_append,List.nil_append]
 refine j_step rfl (x_call [1,0] rfl (S_codewrightref02_Make (by first|omega|exact side _ (by assumption)|assumption|rfl|(simp;done)|(simp;omega)) (by first|omega|exact side _ (by assumption)|assumption|rfl|(simp;done)|(simp;omega))) rfl ?_)
 rintro _ _ _ ⟨pn1,cn1,pd1,cd1,rfl,rfl,rfl⟩
 simp only [List.cons_append,List.nil_append]
 refine j_step rfl (x_bst_all 0 rfl rfl rfl ld44 rfl rfl (by simp [Value.oneCell']) ?_)
 refine j_nf [.c [1,1]] rfl ?_
 rw [e]
 refine j_givC [0,1] rfl (.agg 0 rfl rfl ld44 rfl .nil) rfl ⟨_,_,_,_,rfl,rfl,rfl⟩
theorem S_codewrightref02_Int {n : Int} (hn : InR .i64 n) : Ctr Try.prog 29 [.int .i64 n] [] [] (RtV (rt (n : Rat))):=by
 refine Ctr_of_j' (F:=F_codewrightref02_Int) rfl fun C=>?_
 refine j_nf [.o [0] 0,.c [1]] rfl ?_
 refine j_step rfl (x_alloc zo44 fun b1=>?_)
 refine j_nf [.o [1,0] 0,.c [1,1]] rfl ?_
 refine j_run it 1 rfl (by simp) ?_
 refine j_step rfl (x_call [] rfl (S_codewrightref02_Of (by first|omega|exact side _ (by assumption)|assumption|rfl|(simp;done)|(simp;omega)) (by first|omega|exact side _ (by assumption)|assumption|rfl|(simp;done)|(simp;omega)) (by first|omega|exact side _ (by assumption)|assumption|rfl|(simp;done)|(simp;omega))) rfl ?_)
 rintro _ _ _ ⟨pn1,cn1,pd1,cd1,rfl,rfl,rfl⟩
 simp only [List.cons_append,List.nil_append]
 refine j_step rfl (x_bst_all 0 rfl rfl rfl ld44 rfl rfl (by simp [Value.oneCell']) ?_)
 refine j_nf [.c [1,1]] rfl ?_
 rw [Rat.mkRat_one]
 refine j_givC [0,1] rfl (.agg 0 rfl rfl ld44 rfl .nil) rfl ⟨_,_,_,_,rfl,rfl,rfl⟩
end Go.Proofs.Ythahejfpdhcpiaa

namespace Go.Proofs.Ythahejfpdhcpiaa
open Go Go.Fw
set_option maxRecDepth 100000
set_option linter.unusedVariables false
set_option linter.unusedSimpArgs false
set_option maxHeartbeats 4000000
abbrev RtErr (r : Rt) (e : Int) : Value → List Fact → List Blk → Prop:=fun v Φ β=>∃ pn cn pd cd,v = .tuple #[.agg #[.bool r.1,.slice pn r.2.1.length cn,.slice pd r.2.2.length cd],.int .i64 e] ∧ Φ = [slF U32 pn r.2.1.length cn r.2.1,slF U32 pd r.2.2.length cd r.2.2] ∧ β = []
theorem okR_at {K : Nat} {l : List Rt} (h : ∀ r ∈ l,okR K r) {k : Nat} (hk : k < l.length) : okR K (l.getD k default):=h _ (List.mem_of_getElem? (getD_at hk))
theorem S_rational_DotN {pa pb : Option Addr} {n m ca cb K : Nat} {a b : List Rt} (Z : Nat) (hK : 1 ≤ K) (hK2 : K ≤ 1000000) (hZ : (2 * K + 1) * Z + 1 ≤ 16000081) (hn : n ≤ Z) (ha : ∀ r ∈ a,okR K r) (hb : ∀ r ∈ b,okR K r) (hnm : n = m) :
  Ctr Try.prog 97 [.slice pa n ca,.slice pb m cb] [] [slF RatE pa n ca a,slF RatE pb m cb b] (RtErr (rt (dotR a b)) 0):=by
 refine Ctr_of_j' (F:=F_rational_Dot) rfl fun C=>?_
 have hZ' : Z ≤ 16000081:=by have:=Nat.le_mul_of_pos_left Z (show 0 < 2 * K + 1 by omega);omega
 refine j_len 0 rfl fun ea _ _=>?_
 refine j_len 1 rfl fun eb _ _=>?_
 refine j_nf [.o [0] 0,.c [1]] rfl ?_
 refine j_step rfl (x_alloc zo44 fun b1=>?_)
 refine j_run it 1 rfl (by simp) ?_
 refine j_nf [.o [1,0,0] 0,.c [1,0,1],.c [1,1]] rfl ?_
 refine j_run it 1 rfl (by simp) ?_
 refine j_step rfl (x_len sl23 rfl ?_)
 refine j_run it 1 rfl (by simp) ?_
 refine j_step rfl (x_len sl23 rfl ?_)
 refine j_run it 1 rfl (by simp) ?_
 refine j_nf [.c [1,0,1],.c [1,1]] rfl ?_
 refine j_ifn rfl rfl (fun h1=>by exfalso;omega) (fun h1=>?_)
 refine j_nf [.o [1,1,0] 0,.c [1,1,1]] rfl ?_
 refine j_step rfl (x_call [] rfl (S_rational_one) rfl ?_)
 rintro _ _ _ ⟨pa1,ca1,rfl,rfl,rfl⟩
 simp only [List.cons_append,List.nil_append]
 refine j_step rfl (x_build (cs:=[Value.bool false,Value.slice none 0 0,Value.slice pa1 [1].length ca1]) st44 zo44 rfl rfl ?_)
 refine j_step rfl (x_alloc zo44 fun b2=>?_)
 refine j_step rfl (x_bst_all 0 rfl rfl rfl ld44 rfl rfl (by simp [Value.oneCell']) ?_)
 refine j_nf [.o [1,1,1,0,0] 0,.c [1,1,1,0,1],.c [1,1,1,1]] rfl ?_
 refine j_run it 1 rfl (by simp) ?_
 refine j_step rfl (x_len sl23 rfl ?_)
 refine j_run it 1 rfl (by simp) ?_
 refine j_nf [.c (pL 122),.blk 0,.c [1,1,1,1]] rfl ?_
 subst ea
 refine j_add (slF U32 none 0 0 []) (fun w A _=>slF_nil _ _ _ _ _) ?_
 refine j_loopG (X:=Nat × Rat × (Option Addr × Nat) × (Option Addr × Nat)) [0,1,4,5,6,17] [0,1,2,3] (fun x=>[(18,.int .i64 x.1)])
  (fun x=>[(some b2,44,[.bool (rt x.2.1).1,.slice x.2.2.1.1 (rt x.2.1).2.1.length x.2.2.1.2,.slice x.2.2.2.1 (rt x.2.1).2.2.length x.2.2.2.2]),(some b1,44,[.bool false,.slice none 0 0,.slice none 0 0])])
  (fun x=>[slF U32 x.2.2.1.1 (rt x.2.1).2.1.length x.2.2.1.2 (rt x.2.1).2.1,slF U32 x.2.2.2.1 (rt x.2.1).2.2.length x.2.2.2.2 (rt x.2.1).2.2])
  (fun x=>x.1 ≤ a.length ∧ x.2.1 = dotR (a.take x.1) (b.take x.1)) (fun x=>a.length - x.1) (0,0,(none,0),(pa1,ca1)) [0,1] rfl rfl rfl ⟨Nat.zero_le _,rfl⟩ (by repeat (first | exact Fr.sub_nil _ | refine Fr.sub_cons rfl ?_)) (by rw [rt_zero];rfl) (by rw [rt_zero];rfl) ?_
 rintro ⟨k,q,⟨pn,cn⟩,⟨pd,cd⟩⟩ ⟨hk,hq⟩ ih
 simp only [List.cons_append,List.nil_append] at hk hq ih ⊢
 by_cases hkl : k < a.length
 ·have z1:=okR_at ha hkl
  have z2:=okR_at hb (show k < b.length by omega)
  have b1 : bd 16000081 q:=bd_mono (by rw [hq];exact dotR_take_bd hK ha hb (by omega)) hZ
  have b2:=bd_mono (mul_bd2 hK z1 z2) (show 2 * K ≤ 2000000 by omega)
  obtain ⟨w1,w2⟩:=bd_len b1
  obtain ⟨w3,w4⟩:=bd_len b2
  have hL : ∀ r ∈ [a.getD k default,b.getD k default],r.2.1.length ≤ K ∧ r.2.2.length ≤ K:=fun r hr=>by
   rcases List.mem_cons.1 hr with rfl | hr
   ·exact z1.2.2
   ·rw [List.mem_singleton.1 hr];exact z2.2.2
  have ep : prodQ [((a.getD k default).1,(a.getD k default).2.1,(a.getD k default).2.2),((b.getD k default).1,(b.getD k default).2.1,(b.getD k default).2.2)] = vq (a.getD k default) * vq (b.getD k default):=prodQ_two _ _
  rw [← ep] at w3 w4
  refine j_nf [.o (pL 488) 0,.c (pL 489),.lp (pL 244),.blk 0,.c [1,1,1,1]] rfl ?_
  refine j_run it 1 rfl (by simp) ?_
  refine j_nf [.c (pL 978),.c (pL 979),.lp (pL 244),.blk 0,.c [1,1,1,1]] rfl ?_
  refine j_if rfl rfl (fun h2=>?_) (fun h2=>by exfalso;omega)
  refine j_nf [.o (pL 7832) 0,.c (pL 7833),.blk 1,.c (pL 1959),.lp (pL 244),.blk 0,.c [1,1,1,1]] rfl ?_
  refine j_run it 2 rfl (by simp) ?_
  refine j_nf [.c (pL 7833),.blk 1,.c (pL 1959),.lp (pL 244),.blk 0,.c [1,1,1,1]] rfl ?_
  (apply j_drawK it mx 12;(· rfl);(· rfl))
  (apply lxk_eq;(· rfl);(· exact d_bld_all 0 rfl rfl ld44 rfl))
  (apply lxk_run 2;(· rfl);(· simp))
  (apply lxk_pt;(· rfl);(· exact d_x fun _=>x_idx 4 (k) rfl rfl rfl sl23 rfl (by omega) fun z3 hz1 b3 o1=>(dk_ptD default hz1 0 rfl));intro b3 o1)
  (apply lxk_rq;(· rfl);(· exact d_x fun _=>x_ld_rt 0 rfl rfl ld44 fun pa2 ca2 pa3 ca3=>(dk_rq 0 1 rfl rfl));intro pn1 cn1 pd1 cd1)
  (apply lxk_run 2;(· rfl);(· simp))
  (apply lxk_pt;(· rfl);(· exact d_x fun _=>x_idx 5 (k) rfl rfl rfl sl23 rfl (by omega) fun z3 hz1 b4 o2=>(dk_ptD default hz1 0 rfl));intro b4 o2)
  (apply lxk_rq;(· rfl);(· exact d_x fun _=>x_ld_rt 0 rfl rfl ld44 fun pa2 ca2 pa3 ca3=>(dk_rq 0 1 rfl rfl));intro pn2 cn2 pd2 cd2)
  (apply lxk_sl;(· rfl);(· exact d_x fun _=>x_lit sl23 zo23e rfl rfl rfl rfl (by decide) (by decide) rfl fun b5=>dk_all (E:=RatE) [[Value.bool (a.getD k default).fst,Value.slice pn1 (a.getD k default).snd.fst.length cn1,Value.slice pd1 (a.getD k default).snd.snd.length cd1],[Value.bool (b.getD k default).fst,Value.slice pn2 (b.getD k default).snd.fst.length cn2,Value.slice pd2 (b.getD k default).snd.snd.length cd2]] [((a.getD k default).fst,(a.getD k default).snd.fst,(a.getD k default).snd.snd),((b.getD k default).fst,(b.getD k default).snd.fst,(b.getD k default).snd.snd)] (fun w A hG=>(allrd_cons (rd_rt (hG _ (fact_mem (n:=3) rfl)) (hG _ (fact_mem (n:=4) rfl))) (allrd_cons (rd_rt (hG _ (fact_mem (n:=0) rfl)) (hG _ (fact_mem (n:=1) rfl))) allrd_nil))) rfl rfl rfl (by first | decide | exact Nat.le_of_ble_eq_true rfl));intro pa2 ca2)
  (apply lxk_rq;(· rfl);(· exact d_x fun _=>x_call [0] rfl (S_rational_Mul (by first|omega|exact side _ (by assumption)|assumption|rfl|(simp;done)|(simp;omega)) (by first|omega|exact side _ (by assumption)|assumption|rfl|(simp;done)|(simp;omega)) (by first|omega|exact side _ (by assumption)|assumption|rfl|(simp;done)|(simp;omega)) (by first|omega|exact side _ (by assumption)|assumption|rfl|(simp;done)|(simp;omega))) rfl (by rintro _ _ _ ⟨pn3,cn3,pd3,cd3,rfl,rfl,rfl⟩;exact (dk_rq 0 1 rfl rfl)));intro pn3 cn3 pd3 cd3)
  simp only [vq_rt']
  (apply lxk_rq;(· rfl);(· exact d_x fun _=>x_call [9,10,0,1] rfl (S_rational_plus (by first|omega|exact side _ (by assumption)|assumption|rfl|(simp;done)|(simp;omega)) (by first|omega|exact side _ (by assumption)|assumption|rfl|(simp;done)|(simp;omega)) (by first|omega|exact side _ (by assumption)|assumption|rfl|(simp;done)|(simp;omega)) (by first|omega|exact side _ (by assumption)|assumption|rfl|(simp;done)|(simp;omega)) (by first|omega|exact side _ (by assumption)|assumption|rfl|(simp;done)|(simp;omega)) (by first|omega|exact side _ (by assumption)|assumption|rfl|(simp;done)|(simp;omega))) rfl (by rintro _ _ _ ⟨pn4,cn4,pd4,cd4,rfl,rfl,rfl⟩;exact (dk_rq 0 1 rfl rfl)));intro pn4 cn4 pd4 cd4)
  simp only [vq_rt']
  refine lxk_end rfl ?_
  simp only [List.map_cons,List.map_nil,List.cons_append,List.nil_append]
  refine j_step rfl (x_bst_all 0 rfl rfl rfl ld44 rfl rfl (by simp [Value.oneCell']) ?_)
  refine j_nf [.o (pL 1959) 0,.lp (pL 244),.blk 0,.c [1,1,1,1]] rfl ?_
  refine j_run it 2 rfl (by repeat' first | exact trivial | apply And.intro | omega) ?_
  refine j_nfn 1 [.lp (pL 244),.blk 0,.c [1,1,1,1]] rfl ?_
  rw [ep]
  refine j_to [0,1,13,14,15,16] (by repeat (first | exact Fr.sub_nil _ | refine Fr.sub_cons rfl ?_ | refine Fr.sub_consI rfl (by first | omega | (dsimp only;omega)) ?_ | refine Fr.sub_consS rfl (by first | omega | (dsimp only;omega)) (by first | omega | (dsimp only;omega)) ?_)) rfl rfl (ih (k + 1,q + vq (a.getD k default) * vq (b.getD k default),(pn4,cn4),(pd4,cd4)) (by dsimp only;omega) ⟨by dsimp only;omega,by dsimp only;rw [dotR_succ (getD_at hkl) (getD_at (show k < b.length by omega)),hq]⟩)
 ·obtain rfl : k = a.length:=by omega
  rw [List.take_length,show a.length = b.length by omega,List.take_length] at hq
  subst hq
  refine j_nf [.o (pL 488) 0,.c (pL 489),.lp (pL 244),.blk 0,.c [1,1,1,1]] rfl ?_
  refine j_run it 1 rfl (by simp) ?_
  refine j_nf [.c (pL 978),.c (pL 979),.lp (pL 244),.blk 0,.c [1,1,1,1]] rfl ?_
  refine j_if rfl rfl (fun h2=>by exfalso;omega) (fun h2=>?_)
  refine j_nf [.o [1,1,1,1,0] 0,.c [1,1,1,1,1]] rfl ?_
  refine j_step rfl (x_bld_all 0 rfl rfl ld44 rfl ?_)
  refine j_step rfl (x_bst_all 1 rfl rfl rfl ld44 rfl rfl (by simp [Value.oneCell']) ?_)
  refine j_run it 1 rfl (by simp) ?_
  refine j_nf [.c [1,1,1,1,1]] rfl ?_
  refine j_givC [0,1] rfl (.agg 1 rfl rfl ld44 rfl (.tmp rfl .nil)) rfl ⟨_,_,_,_,rfl,rfl,rfl⟩
theorem S_rational_Dot {pa pb : Option Addr} {n m ca cb K : Nat} {a b : List Rt} (hK : 1 ≤ K) (hK2 : K ≤ 100000) (hn : n ≤ 80) (ha : ∀ r ∈ a,okR K r) (hb : ∀ r ∈ b,okR K r) (hnm : n = m) :
  Ctr Try.prog 97 [.slice pa n ca,.slice pb m cb] [] [slF RatE pa n ca a,slF RatE pb m cb b] (RtErr (rt (dotR a b)) 0) :=
 S_rational_DotN 80 hK (by omega) (by omega) hn ha hb hnm
theorem S_simplex_product {pa pb : Option Addr} {n m ca cb K : Nat} {a b : List Rt} (hK : 1 ≤ K) (hK2 : K ≤ 100000) (hn : n ≤ 80) (ha : ∀ r ∈ a,okR K r) (hb : ∀ r ∈ b,okR K r) (hnm : n = m) :
  Ctr Try.prog 62 [.slice pa n ca,.slice pb m cb] [] [slF RatE pa n ca a,slF RatE pb m cb b] (RtV (rt (dotR a b))):=by
 refine Ctr_of_j' (F:=F_simplex_product) rfl fun C=>?_
 refine j_nf [.o [0] 0,.c [1]] rfl ?_
 refine j_step rfl (x_alloc zo44 fun b1=>?_)
 refine j_nf [.o [1,0] 0,.c [1,1]] rfl ?_
 refine j_run it 2 rfl (by simp) ?_
 refine j_step rfl (x_call [0,1] rfl (S_rational_Dot (by first|omega|exact side _ (by assumption)|assumption|rfl|(simp;done)|(simp;omega)) (by first|omega|exact side _ (by assumption)|assumption|rfl|(simp;done)|(simp;omega)) (by first|omega|exact side _ (by assumption)|assumption|rfl|(simp;done)|(simp;omega)) (by first|omega|exact side _ (by assumption)|assumption|rfl|(simp;done)|(simp;omega)) (by first|omega|exact side _ (by assumption)|assumption|rfl|(simp;done)|(simp;omega)) (by first|omega|exact side _ (by assumption)|assumption|rfl|(simp;done)|(simp;omega))) rfl ?_)
 rintro _ _ _ ⟨pn1,cn1,pd1,cd1,rfl,rfl,rfl⟩
 simp only [List.cons_append,List.nil_append]
 refine j_run it 3 rfl (by simp) ?_
 refine j_step rfl (x_alloc zo44 fun b2=>?_)
 refine j_step rfl (x_bst_all 0 rfl rfl rfl ld44 rfl rfl (by simp [Value.oneCell']) ?_)
 refine j_run it 1 rfl (by simp) ?_
 refine j_nf [.o [1,1,0] 0,.c [1,1,1]] rfl ?_
 refine j_step rfl (x_bld_all 0 rfl rfl ld44 rfl ?_)
 refine j_step rfl (x_bst_all 1 rfl rfl rfl ld44 rfl rfl (by simp [Value.oneCell']) ?_)
 refine j_nf [.c [1,1,1]] rfl ?_
 refine j_givC [0,1] rfl (.agg 1 rfl rfl ld44 rfl .nil) rfl ⟨_,_,_,_,rfl,rfl,rfl⟩
theorem S_codewrightref02_Dot {pa pb : Option Addr} {n m ca cb K : Nat} {a b : List Rt} (hK : 1 ≤ K) (hK2 : K ≤ 100000) (hn : n ≤ 80) (ha : ∀ r ∈ a,okR K r) (hb : ∀ r ∈ b,okR K r) :
  Ctr Try.prog 22 [.slice pa n ca,.slice pb m cb] [] [slF RatE pa n ca a,slF RatE pb m cb b] (RtV (rt (dotR a b))):=by
 refine Ctr_of_j' (F:=F_codewrightref02_Dot) rfl fun C=>?_
 refine j_len 0 rfl fun ea _ _=>?_
 refine j_len 1 rfl fun eb _ _=>?_
 subst ea
 subst eb
 have hi0 : InR .i64 (0 : Int):=by simp [InR]
 refine j_nf [.o [0] 0,.c [1]] rfl ?_
 refine j_step rfl (x_alloc zo44 fun b1=>?_)
 refine j_nf [.o [1,0] 0,.c [1,1]] rfl ?_
 refine j_step rfl (x_call [] rfl (S_codewrightref02_Int (by first|omega|exact side _ (by assumption)|assumption|rfl|(simp;done)|(simp;omega))) rfl ?_)
 rintro _ _ _ ⟨pn1,cn1,pd1,cd1,rfl,rfl,rfl⟩
 simp only [List.cons_append,List.nil_append]
 refine j_step rfl (x_alloc zo44 fun b2=>?_)
 refine j_step rfl (x_bst_all 0 rfl rfl rfl ld44 rfl rfl (by simp [Value.oneCell']) ?_)
 refine j_nf [.o [1,1,0,0] 0,.c [1,1,0,1],.c [1,1,1]] rfl ?_
 refine j_run it 1 rfl (by simp) ?_
 refine j_nf [.c [1,1,0,1,0],.blk 0,.c [1,1,1]] rfl ?_
 rw [show ((0 : Int) : Rat) = 0 from rfl]
 refine j_loopG (X:=Nat × Rat × (Option Addr × Nat) × (Option Addr × Nat)) [0,1,4,5] [0,1,2,3] (fun x=>[(6,.int .i64 x.1)])
  (fun x=>[(some b2,44,[.bool (rt x.2.1).1,.slice x.2.2.1.1 (rt x.2.1).2.1.length x.2.2.1.2,.slice x.2.2.2.1 (rt x.2.1).2.2.length x.2.2.2.2]),(some b1,44,[.bool false,.slice none 0 0,.slice none 0 0])])
  (fun x=>[slF U32 x.2.2.1.1 (rt x.2.1).2.1.length x.2.2.1.2 (rt x.2.1).2.1,slF U32 x.2.2.2.1 (rt x.2.1).2.2.length x.2.2.2.2 (rt x.2.1).2.2])
  (fun x=>x.1 ≤ min a.length b.length ∧ x.2.1 = dotR (a.take x.1) (b.take x.1)) (fun x=>a.length - x.1) (0,0,(pn1,cn1),(pd1,cd1)) [0,1] rfl rfl rfl ⟨Nat.zero_le _,rfl⟩ (by repeat (first | exact Fr.sub_nil _ | refine Fr.sub_cons rfl ?_)) rfl rfl ?_
 rintro ⟨k,q,⟨pn,cn⟩,⟨pd,cd⟩⟩ ⟨hk,hq⟩ ih
 simp only [List.cons_append,List.nil_append] at hk hq ih ⊢
 by_cases hkl : k < a.length ∧ k < b.length
 ·obtain ⟨hka,hkb⟩:=hkl
  have z1:=okR_at ha hka
  have z2:=okR_at hb hkb
  have b1 : bd ((2 * K + 1) * 80 + 1) q:=by rw [hq];exact dotR_take_bd hK ha hb (by omega)
  have b2:=mul_bd2 hK z1 z2
  obtain ⟨w1,w2⟩:=bd_len b1
  obtain ⟨w3,w4⟩:=bd_len b2
  obtain ⟨y1,y2⟩:=z1.2.2
  obtain ⟨y3,y4⟩:=z2.2.2
  have ep : vq ((a.getD k default).1,(a.getD k default).2.1,(a.getD k default).2.2) * vq ((b.getD k default).1,(b.getD k default).2.1,(b.getD k default).2.2) = vq (a.getD k default) * vq (b.getD k default):=rfl
  rw [← ep] at w3 w4
  refine j_nf [.o (pL 464) 0,.c (pL 465),.c (pL 233),.lp (pL 116),.blk 0,.c [1,1,1]] rfl ?_
  refine j_run it 2 rfl (by simp) ?_
  refine j_step rfl (x_len sl23 rfl ?_)
  refine j_run it 2 rfl (by simp) ?_
  refine j_split_dec (t:=12) rfl (fun h1=>?_) (fun h1=>by exfalso;omega)
  refine j_run it 2 rfl (by simp) ?_
  refine j_gstep rfl rfl (x_len sl23 rfl ?_)
  refine j_run it 2 rfl (by simp) ?_
  refine j_nf [.c (pL 465),.c (pL 233),.lp (pL 116),.blk 0,.c [1,1,1]] rfl ?_
  refine j_if rfl rfl (fun h2=>?_) (fun h2=>by exfalso;omega)
  refine j_nf [.c (pL 932),.blk 1,.c (pL 467),.lp (pL 116),.blk 0,.c [1,1,1]] rfl ?_
  (apply j_drawK it mx 11;(· rfl);(· rfl))
  (apply lxk_eq;(· rfl);(· exact d_bld_all 0 rfl rfl ld44 rfl))
  (apply lxk_run 2;(· rfl);(· simp))
  (apply lxk_pt;(· rfl);(· exact d_x fun _=>x_idx 4 (k) rfl rfl rfl sl23 rfl (by omega) fun z3 hz1 b3 o1=>(dk_ptD default hz1 0 rfl));intro b3 o1)
  (apply lxk_rq;(· rfl);(· exact d_x fun _=>x_ld_rt 0 rfl rfl ld44 fun pa1 ca1 pa2 ca2=>(dk_rq 0 1 rfl rfl));intro pn2 cn2 pd2 cd2)
  (apply lxk_run 2;(· rfl);(· simp))
  (apply lxk_pt;(· rfl);(· exact d_x fun _=>x_idx 5 (k) rfl rfl rfl sl23 rfl (by omega) fun z3 hz1 b4 o2=>(dk_ptD default hz1 0 rfl));intro b4 o2)
  (apply lxk_rq;(· rfl);(· exact d_x fun _=>x_ld_rt 0 rfl rfl ld44 fun pa1 ca1 pa2 ca2=>(dk_rq 0 1 rfl rfl));intro pn3 cn3 pd3 cd3)
  (apply lxk_rq;(· rfl);(· exact d_x fun _=>x_call [3,4,0,1] rfl (S_codewrightref02_Mul (by first|omega|exact side _ (by assumption)|assumption|rfl|(simp;done)|(simp;omega)) (by first|omega|exact side _ (by assumption)|assumption|rfl|(simp;done)|(simp;omega)) (by first|omega|exact side _ (by assumption)|assumption|rfl|(simp;done)|(simp;omega)) (by first|omega|exact side _ (by assumption)|assumption|rfl|(simp;done)|(simp;omega))) rfl (by rintro _ _ _ ⟨pn4,cn4,pd4,cd4,rfl,rfl,rfl⟩;exact (dk_rq 0 1 rfl rfl)));intro pn4 cn4 pd4 cd4)
  simp only [vq_rt']
  (apply lxk_rq;(· rfl);(· exact d_x fun _=>x_call [8,9,0,1] rfl (S_codewrightref02_Add (by first|omega|exact side _ (by assumption)|assumption|rfl|(simp;done)|(simp;omega)) (by first|omega|exact side _ (by assumption)|assumption|rfl|(simp;done)|(simp;omega)) (by first|omega|exact side _ (by assumption)|assumption|rfl|(simp;done)|(simp;omega)) (by first|omega|exact side _ (by assumption)|assumption|rfl|(simp;done)|(simp;omega))) rfl (by rintro _ _ _ ⟨pn5,cn5,pd5,cd5,rfl,rfl,rfl⟩;exact (dk_rq 0 1 rfl rfl)));intro pn5 cn5 pd5 cd5)
  simp only [vq_rt']
  refine lxk_end rfl ?_
  simp only [List.map_cons,List.map_nil,List.cons_append,List.nil_append]
  refine j_step rfl (x_bst_all 0 rfl rfl rfl ld44 rfl rfl (by simp [Value.oneCell']) ?_)
  refine j_nf [.o (pL 467) 0,.lp (pL 116),.blk 0,.c [1,1,1]] rfl ?_
  refine j_run it 3 rfl (by repeat' first | exact trivial | apply And.intro | omega) ?_
  refine j_nfn 1 [.lp (pL 116),.blk 0,.c [1,1,1]] rfl ?_
  refine j_to [0,1,12,13,14,15] (by repeat (first | exact Fr.sub_nil _ | refine Fr.sub_cons rfl ?_ | refine Fr.sub_consI rfl (by first | omega | (dsimp only;omega)) ?_ | refine Fr.sub_consS rfl (by first | omega | (dsimp only;omega)) (by first | omega | (dsimp only;omega)) ?_)) rfl rfl (ih (k + 1,q + vq (a.getD k default) * vq (b.getD k default),(pn5,cn5),(pd5,cd5)) (by dsimp only;omega) ⟨by dsimp only;omega,by dsimp only;rw [dotR_succ (getD_at hka) (getD_at hkb),hq]⟩)
 ·have ek : k = min a.length b.length:=by omega
  rw [ek,dotR_min] at hq
  subst hq
  by_cases hka : k < a.length
  ·have hkb : ¬ k < b.length:=by omega
   refine j_nf [.o (pL 464) 0,.c (pL 465),.c (pL 233),.lp (pL 116),.blk 0,.c [1,1,1]] rfl ?_
   refine j_run it 2 rfl (by simp) ?_
   refine j_step rfl (x_len sl23 rfl ?_)
   refine j_run it 2 rfl (by simp) ?_
   refine j_split_dec (t:=12) rfl (fun h1=>?_) (fun h1=>by exfalso;omega)
   refine j_run it 2 rfl (by simp) ?_
   refine j_gstep rfl rfl (x_len sl23 rfl ?_)
   refine j_run it 2 rfl (by simp) ?_
   refine j_nf [.c (pL 465),.c (pL 233),.lp (pL 116),.blk 0,.c [1,1,1]] rfl ?_
   refine j_if rfl rfl (fun h2=>by exfalso;omega) (fun h2=>?_)
   refine j_nf [.o [1,1,1,0] 0,.c [1,1,1,1]] rfl ?_
   refine j_step rfl (x_bld_all 0 rfl rfl ld44 rfl ?_)
   refine j_step rfl (x_bst_all 1 rfl rfl rfl ld44 rfl rfl (by simp [Value.oneCell']) ?_)
   refine j_nf [.c [1,1,1,1]] rfl ?_
   refine j_givC [0,1] rfl (.agg 1 rfl rfl ld44 rfl .nil) rfl ⟨_,_,_,_,rfl,rfl,rfl⟩
  ·refine j_nf [.o (pL 464) 0,.c (pL 465),.c (pL 233),.lp (pL 116),.blk 0,.c [1,1,1]] rfl ?_
   refine j_run it 2 rfl (by simp) ?_
   refine j_step rfl (x_len sl23 rfl ?_)
   refine j_run it 2 rfl (by simp) ?_
   refine j_split_dec (t:=12) rfl (fun h1=>by exfalso;omega) (fun h1=>?_)
   refine j_run it 5 rfl (by simp) ?_
   refine j_nf [.c (pL 465),.c (pL 233),.lp (pL 116),.blk 0,.c [1,1,1]] rfl ?_
   refine j_false rfl rfl ?_
   refine j_nf [.o [1,1,1,0] 0,.c [1,1,1,1]] rfl ?_
   refine j_step rfl (x_bld_all 0 rfl rfl ld44 rfl ?_)
   refine j_step rfl (x_bst_all 1 rfl rfl rfl ld44 rfl rfl (by simp [Value.oneCell']) ?_)
   refine j_nf [.c [1,1,1,1]] rfl ?_
   refine j_givC [0,1] rfl (.agg 1 rfl rfl ld44 rfl .nil) rfl ⟨_,_,_,_,rfl,rfl,rfl⟩
end Go.Proofs.Ythahejfpdhcpiaa

namespace Go.Proofs.Ythahejfpdhcpiaa
open Go Go.Fw
set_option maxRecDepth 100000
set_option linter.unusedVariables false
set_option linter.unusedSimpArgs false
set_option maxHeartbeats 4000000
theorem pos_step {x : List Rt} {k : Nat} {z : Rt} (hz : x[k]? = some z) (h : posB (x.take k) = true) (hs : ¬ (vq z).num.sign < 0) : posB (x.take (k + 1)) = true:=by
 rw [posB,List.take_add_one,hz,List.all_append]
 have h1 : (x.take k).all (fun r=>decide (0 ≤ vq r)) = true:=h
 have h2 : 0 ≤ vq z:=Rat.not_lt.1 fun h=>hs (sign_neg.2 h)
 simp [h1,h2]
theorem pos_stop {x : List Rt} {k : Nat} {z : Rt} (hz : x[k]? = some z) (hs : (vq z).num.sign < 0) : posB x = false:=by
 rw [posB,List.all_eq_false]
 exact ⟨z,List.mem_of_getElem? hz,by have:=sign_neg.1 hs;simpa using Rat.not_le.2 this⟩
theorem S_simplex_positive {pa : Option Addr} {n ca : Nat} {x : List Rt} : Ctr Try.prog 39 [.slice pa n ca] [] [slF RatE pa n ca x] (Rv (.bool (posB x)) []):=by
 refine Ctr_of_j' (F:=F_simplex_positive) rfl fun C=>?_
 refine j_len 0 rfl fun ea hb _=>?_
 have hb' : x.length * 56 ≤ 140737488355328:=hb
 subst ea
 refine j_nf [.o [0] 0,.c [1]] rfl ?_
 refine j_run it 1 rfl (by simp) ?_
 refine j_nf [.o [1,0,0] 0,.c [1,0,1],.c [1,1]] rfl ?_
 refine j_run it 1 rfl (by simp) ?_
 refine j_step rfl (x_len sl23 rfl ?_)
 refine j_run it 1 rfl (by simp) ?_
 refine j_nf [.c [1,0,1,0],.blk 0,.c [1,1]] rfl ?_
 refine j_loopG (X:=Nat) [5,6] [0] (fun k=>[(7,.int .i64 k)]) (fun _=>[]) (fun _=>[]) (fun k=>k ≤ x.length ∧ posB (x.take k) = true) (fun k=>x.length - k) 0 [] rfl rfl rfl ⟨Nat.zero_le _,rfl⟩ (by repeat (first | exact Fr.sub_nil _ | refine Fr.sub_cons rfl ?_)) rfl rfl ?_
 rintro k ⟨hk,hp⟩ ih
 simp only [List.cons_append,List.nil_append] at hk hp ih ⊢
 by_cases hkl : k < x.length
 ·have hz:=get_some (l:=x) (i:=k) (dflt:=default) hkl
  have hs : vq (x.getD k default) = vq (x.getD k default):=rfl
  refine j_nf [.o (pL 104) 0,.c (pL 105),.lp [1,0,1,0,0],.blk 0,.c [1,1]] rfl ?_
  refine j_run it 1 rfl (by simp) ?_
  refine j_nf [.c (pL 210),.c (pL 211),.lp [1,0,1,0,0],.blk 0,.c [1,1]] rfl ?_
  refine j_if rfl rfl (fun h1=>?_) (fun h1=>by exfalso;omega)
  refine j_nf [.o (pL 1688) 0,.c (pL 1689),.blk 1,.c (pL 423),.lp [1,0,1,0,0],.blk 0,.c [1,1]] rfl ?_
  refine j_step rfl (x_idx 0 (k) rfl rfl rfl sl23 rfl (by omega) fun z1 hz1 b1 o1=>?_)
  refine j_step rfl (x_ld_rt 0 rfl rfl ld44 fun pa1 ca1 pa2 ca2=>?_)
  refine j_step rfl (x_alloc zo44 fun b2=>?_)
  refine j_step rfl (x_bst_all 0 rfl rfl rfl ld44 rfl rfl (by simp [Value.oneCell']) ?_)
  refine j_nf [.o (pL 3378) 0,.c (pL 3379),.blk 1,.c (pL 423),.lp [1,0,1,0,0],.blk 0,.c [1,1]] rfl ?_
  refine j_step rfl (x_bld_all 0 rfl rfl ld44 rfl ?_)
  refine j_step rfl (x_call [0,1] rfl (S_rational_Sign) rfl ?_)
  rintro _ _ _ ⟨rfl,rfl,rfl⟩
  simp only [List.cons_append,List.nil_append]
  refine j_run it 1 rfl (by simp) ?_
  refine j_nf [.c (pL 3379),.blk 1,.c (pL 423),.lp [1,0,1,0,0],.blk 0,.c [1,1]] rfl ?_
  refine j_if rfl rfl (fun h2=>?_) (fun h2=>?_)
  ·rw [pos_stop hz1 (by assumption)]
   refine j_nf [.o (pL 13516) 0,.c (pL 13517),.blk 1,.c (pL 423),.lp [1,0,1,0,0],.blk 0,.c [1,1]] rfl ?_
   refine j_run it 1 rfl (by simp) ?_
   refine j_nf [.c (pL 13517),.blk 1,.c (pL 423),.lp [1,0,1,0,0],.blk 0,.c [1,1]] rfl ?_
   refine j_giv [] rfl rfl rfl ⟨rfl,rfl,rfl⟩
  ·refine j_nf [.o (pL 423) 0,.lp [1,0,1,0,0],.blk 0,.c [1,1]] rfl ?_
   refine j_run it 2 rfl (by repeat' first | exact trivial | apply And.intro | omega) ?_
   refine j_nfn 1 [.lp [1,0,1,0,0],.blk 0,.c [1,1]] rfl ?_
   refine j_toM [false] [3] (by repeat (first | exact Fr.sub_nil _ | refine Fr.sub_cons rfl ?_ | refine Fr.sub_consI rfl (by first | omega | (dsimp only;omega)) ?_ | refine Fr.sub_consS rfl (by first | omega | (dsimp only;omega)) (by first | omega | (dsimp only;omega)) ?_)) rfl rfl (ih (k + 1) (by omega) ⟨by omega,pos_step hz1 hp (by assumption)⟩)
 ·obtain rfl : x.length = k:=by omega
  rw [List.take_length] at hp
  rw [hp]
  refine j_nf [.o (pL 104) 0,.c (pL 105),.lp [1,0,1,0,0],.blk 0,.c [1,1]] rfl ?_
  refine j_run it 1 rfl (by simp) ?_
  refine j_nf [.c (pL 210),.c (pL 211),.lp [1,0,1,0,0],.blk 0,.c [1,1]] rfl ?_
  refine j_if rfl rfl (fun h1=>by exfalso;omega) (fun h1=>?_)
  refine j_nf [.o [1,1,0] 0,.c [1,1,1]] rfl ?_
  refine j_run it 1 rfl (by simp) ?_
  refine j_nf [.c [1,1,1]] rfl ?_
  refine j_giv [] rfl rfl rfl ⟨rfl,rfl,rfl⟩
theorem le_step {M : List (List Rt)} {b x : List Rt} {k : Nat} (h : leB M b x k = true) (hs : ¬ 0 < (dotR (M.getD k default) x - vq (b.getD k default)).num.sign) : leB M b x (k + 1) = true:=by
 rw [leB,range_all_succ]
 have h1 : (List.range k).all (fun i=>decide (dotR (M.getD i default) x ≤ vq (b.getD i default))) = true:=h
 have h2 : dotR (M.getD k default) x ≤ vq (b.getD k default):=Rat.not_lt.1 fun h=>hs (cmp_pos.2 h)
 rw [h1,decide_eq_true h2];rfl
theorem le_stop {M : List (List Rt)} {b x : List Rt} {k n : Nat} (hk : k < n) (hs : 0 < (dotR (M.getD k default) x - vq (b.getD k default)).num.sign) : leB M b x n = false :=
 range_all_false hk (decide_eq_false (Rat.not_le.2 (cmp_pos.1 hs)))
theorem S_simplex_feasible {p1 p2 p3 px : Option Addr} {nC nb c1 c2 c3 n cx K : Nat} {M : List (List Rt)} {b x : List Rt} (hK : 1 ≤ K) (hK2 : K ≤ 100000) (hA : ∀ row ∈ M,row.length = nC ∧ ∀ r ∈ row,okR K r) (hb : ∀ r ∈ b,okR K r) (hx : ∀ r ∈ x,okR K r) (hAB : M.length = b.length) (lC : nC ≤ 80) (lA : M.length ≤ 80) {res : Bool} (hres : feasB nC M b x = res) :
  Ctr Try.prog 61 [.agg #[.slice p1 nC c1,.slice p2 M.length c2,.slice p3 nb c3],.slice px n cx] [] [slF (encSl RatE) p2 M.length c2 M,slF RatE p3 nb c3 b,slF RatE px n cx x] (Rv (.bool res) []):=by
 subst hres
 refine Ctr_of_j' (F:=F_simplex_feasible) rfl fun C=>?_
 refine j_len 2 rfl fun ex _ _=>?_
 refine j_len 1 rfl fun eb _ _=>?_
 subst ex
 by_cases hl : x.length = nC
 ·refine j_nf [.o [0] 0,.c [1]] rfl ?_
  refine j_step rfl (x_box_agg rfl fun b1=>?_)
  refine j_run it 1 rfl (by simp) ?_
  refine j_nf [.o [1,0,0] 0,.c [1,0,1],.c [1,1]] rfl ?_
  refine j_run it 1 rfl (by simp) ?_
  refine j_step rfl (x_len sl23 rfl ?_)
  refine j_step rfl (x_field rfl fd26_0 ?_)
  refine j_step rfl (x_bld 0 rfl rfl ld23 rfl ?_)
  refine j_step rfl (x_len sl23 rfl ?_)
  refine j_run it 2 rfl (by simp) ?_
  refine j_split_ndec (t:=13) rfl (fun h1=>by exfalso;omega) (fun h1=>?_)
  refine j_run it 1 rfl (by simp) ?_
  refine j_gstep rfl rfl (x_call [2] rfl (S_simplex_positive) rfl ?_)
  rintro _ _ _ ⟨rfl,rfl,rfl⟩
  simp only [List.cons_append,List.nil_append]
  refine j_run it 2 rfl (by simp) ?_
  refine j_nf [.c [1,0,1],.c [1,1]] rfl ?_
  refine j_cond rfl rfl (fun h2=>?_) (fun h2=>?_)
  ·rw [feasB,(by simpa using h2 : posB x = false),Bool.and_false,Bool.false_and]
   refine j_nf [.o [1,0,1,0,0] 0,.c [1,0,1,0,1],.c [1,1]] rfl ?_
   refine j_run it 1 rfl (by simp) ?_
   refine j_nf [.c [1,0,1,0,1],.c [1,1]] rfl ?_
   refine j_giv [] rfl rfl rfl ⟨rfl,rfl,rfl⟩
  ·rw [feasB,(by simpa using h2 : posB x = true),decide_eq_true hl,Bool.true_and,Bool.true_and]
   refine j_nf [.o [1,1,0,0] 0,.c [1,1,0,1],.c [1,1,1]] rfl ?_
   refine j_step rfl (x_field rfl fd26_1 ?_)
   refine j_step rfl (x_bld 0 rfl rfl ld24 rfl ?_)
   refine j_step rfl (x_len sl24 rfl ?_)
   refine j_run it 1 rfl (by simp) ?_
   refine j_nf [.c [1,1,0,1,0],.blk 0,.c [1,1,1]] rfl ?_
   refine j_loopG (X:=Nat) [1,2,19,20] [0,1,2] (fun k=>[(21,.int .i64 k)]) (fun _=>[(some b1,26,[.slice p1 nC c1,.slice p2 M.length c2,.slice p3 nb c3])]) (fun _=>[]) (fun k=>k ≤ M.length ∧ leB M b x k = true) (fun k=>M.length - k) 0 [] rfl rfl rfl ⟨Nat.zero_le _,rfl⟩ (by repeat (first | exact Fr.sub_nil _ | refine Fr.sub_cons rfl ?_)) rfl rfl ?_
   rintro k ⟨hk,hp⟩ ih
   simp only [List.cons_append,List.nil_append] at hk hp ih ⊢
   by_cases hkl : k < M.length
   ·refine j_nf [.o (pL 232) 0,.c (pL 233),.lp (pL 116),.blk 0,.c [1,1,1]] rfl ?_
    refine j_run it 1 rfl (by simp) ?_
    refine j_nf [.c (pL 466),.c (pL 467),.lp (pL 116),.blk 0,.c [1,1,1]] rfl ?_
    refine j_if rfl rfl (fun h3=>?_) (fun h3=>by exfalso;omega)
    refine j_nf [.o (pL 3736) 0,.c (pL 3737),.blk 1,.c (pL 935),.lp (pL 116),.blk 0,.c [1,1,1]] rfl ?_
    refine j_run it 1 rfl (by simp) ?_
    refine j_step rfl (x_idx 0 (k) rfl rfl rfl sl24 rfl (by omega) fun z1 hz1 b2 o1=>?_)
    refine j_step rfl (x_ld_sl 0 rfl rfl ld23 fun pa1 ca1=>?_)
    refine j_run it 2 rfl (by simp) ?_
    refine j_nf [.c (pL 7474),.c (pL 7475),.blk 1,.c (pL 935),.lp (pL 116),.blk 0,.c [1,1,1]] rfl ?_
    (apply j_drawK it mx 10;(· rfl);(· rfl))
    (apply lxk_run 2;(· rfl);(· simp)) --ok
    have ez : M.getD k default = z1:=getD_some hz1
    obtain ⟨y1,y2⟩:=hA _ (List.mem_of_getElem? hz1)
    have y3:=okR_at hb (show k < b.length by omega)
    obtain ⟨y4,y5⟩:=y3.2.2
    have y6:=dotR_bd hK y2 hx
    have y7 : (2 * K + 1) * z1.length + 1 ≤ 33554432:=by
     have h1 : z1.length ≤ 80:=by omega
     have:=Nat.mul_le_mul (show 2 * K + 1 ≤ 200001 by omega) h1
     omega
    obtain ⟨y8,y9⟩:=bd_len (bd_mono y6 y7)
    (apply lxk_rq;(· rfl);(· exact d_x fun _=>x_call [0,4] rfl (S_simplex_product (by first|omega|exact side _ (by assumption)|assumption|rfl|(simp;done)|(simp;omega)) (by first|omega|exact side _ (by assumption)|assumption|rfl|(simp;done)|(simp;omega)) (by first|omega|exact side _ (by assumption)|assumption|rfl|(simp;done)|(simp;omega)) (by first|omega|exact side _ (by assumption)|assumption|rfl|(simp;done)|(simp;omega)) (by first|omega|exact side _ (by assumption)|assumption|rfl|(simp;done)|(simp;omega)) (by first|omega|exact side _ (by assumption)|assumption|rfl|(simp;done)|(simp;omega))) rfl (by rintro _ _ _ ⟨pn1,cn1,pd1,cd1,rfl,rfl,rfl⟩;exact (dk_rq 0 1 rfl rfl)));intro pn1 cn1 pd1 cd1)
    (apply lxk_eq;(· rfl);(· exact d_x fun _=>x_field rfl fd26_2 dk_eq))
    (apply lxk_eq;(· rfl);(· exact d_bld 0 rfl rfl ld23 rfl))
    (apply lxk_run 1;(· rfl);(· simp))
    (apply lxk_pt;(· rfl);(· exact d_x fun _=>x_idx 3 (k) rfl rfl rfl sl23 rfl (by omega) fun z2 hz2 b3 o2=>(dk_ptD default hz2 0 rfl));intro b3 o2)
    (apply lxk_rq;(· rfl);(· exact d_x fun _=>x_ld_rt 0 rfl rfl ld44 fun pa2 ca2 pa3 ca3=>(dk_rq 0 1 rfl rfl));intro pn2 cn2 pd2 cd2)
    (apply lxk_eq;(· rfl);(· exact d_x fun _=>x_call [3,4,0,1] rfl (S_rational_Cmp (by first|omega|exact side _ (by assumption)|assumption|rfl|(simp;done)|(simp;omega)) (by first|omega|exact side _ (by assumption)|assumption|rfl|(simp;done)|(simp;omega)) (by first|omega|exact side _ (by assumption)|assumption|rfl|(simp;done)|(simp;omega)) (by first|omega|exact side _ (by assumption)|assumption|rfl|(simp;done)|(simp;omega))) rfl (by rintro _ _ _ ⟨rfl,rfl,rfl⟩;exact dk_eq)))
    simp only [vq_rt']
    (apply lxk_run 1;(· rfl);(· simp))
    refine lxk_end rfl ?_
    simp only [List.map_cons,List.map_nil,List.cons_append,List.nil_append]
    refine j_nf [.c (pL 7475),.blk 1,.c (pL 935),.lp (pL 116),.blk 0,.c [1,1,1]] rfl ?_
    refine j_if rfl rfl (fun h4=>?_) (fun h4=>?_)
    ·rw [le_stop (n:=M.length) hkl (by rw [ez];assumption)]
     refine j_nf [.o (pL 29900) 0,.c (pL 29901),.blk 1,.c (pL 935),.lp (pL 116),.blk 0,.c [1,1,1]] rfl ?_
     refine j_run it 1 rfl (by simp) ?_
     refine j_nf [.c (pL 29901),.blk 1,.c (pL 935),.lp (pL 116),.blk 0,.c [1,1,1]] rfl ?_
     refine j_giv [] rfl rfl rfl ⟨rfl,rfl,rfl⟩
    ·refine j_nf [.o (pL 935) 0,.lp (pL 116),.blk 0,.c [1,1,1]] rfl ?_
     refine j_run it 2 rfl (by repeat' first | exact trivial | apply And.intro | omega) ?_
     refine j_nfn 1 [.lp (pL 116),.blk 0,.c [1,1,1]] rfl ?_
     refine j_to [7,8,9] (by repeat (first | exact Fr.sub_nil _ | refine Fr.sub_cons rfl ?_ | refine Fr.sub_consI rfl (by first | omega | (dsimp only;omega)) ?_ | refine Fr.sub_consS rfl (by first | omega | (dsimp only;omega)) (by first | omega | (dsimp only;omega)) ?_)) rfl rfl (ih (k + 1) (by omega) ⟨by omega,le_step hp (by rw [ez];assumption)⟩)
   ·obtain rfl : M.length = k:=by omega
    rw [hp]
    refine j_nf [.o (pL 232) 0,.c (pL 233),.lp (pL 116),.blk 0,.c [1,1,1]] rfl ?_
    refine j_run it 1 rfl (by simp) ?_
    refine j_nf [.c (pL 466),.c (pL 467),.lp (pL 116),.blk 0,.c [1,1,1]] rfl ?_
    refine j_if rfl rfl (fun h3=>by exfalso;omega) (fun h3=>?_)
    refine j_nf [.o [1,1,1,0] 0,.c [1,1,1,1]] rfl ?_
    refine j_run it 1 rfl (by simp) ?_
    refine j_nf [.c [1,1,1,1]] rfl ?_
    refine j_giv [] rfl rfl rfl ⟨rfl,rfl,rfl⟩
 ·rw [feasB,decide_eq_false hl,Bool.false_and,Bool.false_and]
  refine j_nf [.o [0] 0,.c [1]] rfl ?_
  refine j_step rfl (x_box_agg rfl fun b1=>?_)
  refine j_run it 1 rfl (by simp) ?_
  refine j_nf [.o [1,0,0] 0,.c [1,0,1],.c [1,1]] rfl ?_
  refine j_run it 1 rfl (by simp) ?_
  refine j_step rfl (x_len sl23 rfl ?_)
  refine j_step rfl (x_field rfl fd26_0 ?_)
  refine j_step rfl (x_bld 0 rfl rfl ld23 rfl ?_)
  refine j_step rfl (x_len sl23 rfl ?_)
  refine j_run it 2 rfl (by simp) ?_
  refine j_split_ndec (t:=13) rfl (fun h1=>?_) (fun h1=>by exfalso;omega)
  refine j_run it 4 rfl (by simp) ?_
  refine j_nf [.c [1,0,1],.c [1,1]] rfl ?_
  refine j_true rfl rfl ?_
  refine j_nf [.o [1,0,1,0,0] 0,.c [1,0,1,0,1],.c [1,1]] rfl ?_
  refine j_run it 1 rfl (by simp) ?_
  refine j_nf [.c [1,0,1,0,1],.c [1,1]] rfl ?_
  refine j_giv [] rfl rfl rfl ⟨rfl,rfl,rfl⟩
abbrev SvM {α : Type} (E : Enc α) (n : Nat) (l : List α) : Value → List Fact → List Blk → Prop:=fun v Φ β=>∃ pa ca,v = .slice pa n ca ∧ Φ = [slF E pa n ca l] ∧ β = []
theorem map_take_all {α β : Type} [Inhabited α] (f : α → β) (d : β) (M : List α) : mapTo (fun i=>f (M.getD i default)) d M.length M.length = M.map f:=by
 rw [mapTo_all]
 refine List.ext_getElem (by simp) fun i h1 h2=>?_
 have hi : i < M.length:=by simpa using h2
 simp [List.getD,hi]
theorem S_simplex_column {p1 p2 p3 py : Option Addr} {nC nB c1 c2 c3 n cy K : Nat} {M : List (List Rt)} {y : List Rt} (hK : 1 ≤ K) (hK2 : K ≤ 100000) (hA : ∀ row ∈ M,row.length = nC ∧ ∀ r ∈ row,okR K r) (hy : ∀ r ∈ y,okR K r) (hyA : n = M.length) (lC : nC ≤ 80) (lA : M.length ≤ 80) :
  Ctr Try.prog 116 [.agg #[.slice p1 nC c1,.slice p2 M.length c2,.slice p3 nB c3],.slice py n cy] [] [slF (encSl RatE) p2 M.length c2 M,slF RatE py n cy y] (SvM RatE nC ((List.range nC).map fun j=>rt (colR y M j))):=by
 refine Ctr_of_j' (F:=F_simplex_column) rfl fun C=>?_
 refine j_len 1 rfl fun ey _ _=>?_
 refine j_nf [.o [0] 0,.c [1]] rfl ?_
 refine j_step rfl (x_box_agg rfl fun b1=>?_)
 refine j_run it 1 rfl (by simp) ?_
 refine j_nf [.o [1,0] 0,.c [1,1]] rfl ?_
 refine j_step rfl (x_field rfl fd26_0 ?_)
 refine j_step rfl (x_bld 0 rfl rfl ld23 rfl ?_)
 refine j_step rfl (x_len sl23 rfl ?_)
 refine j_step rfl (x_makeR RatE default (nC) _ rfl rfl sl23 zo23e rfl rfl by23e (by omega) (by omega) (by omega) rz44 fun b2 cs1=>?_)
 refine j_run it 1 rfl (by simp) ?_
 refine j_nf [.o [1,1,0,0] 0,.c [1,1,0,1],.c [1,1,1]] rfl ?_
 refine j_run it 1 rfl (by simp) ?_
 refine j_step rfl (x_len sl23 rfl ?_)
 refine j_run it 1 rfl (by simp) ?_
 refine j_nf [.c [1,1,0,1,0],.blk 0,.c [1,1,1]] rfl ?_
 rw [← mapTo_zero (fun j=>rt (colR y M j))]
 refine j_loopG (X:=Nat × List Value) [1,2,4,5,15] [1,2] (fun x=>[(16,.int .i64 x.1)]) (fun x=>[(some b2,44,x.2),(some b1,26,[.slice p1 nC c1,.slice p2 M.length c2,.slice p3 nB c3])]) (fun x=>[rowF RatE ⟨some b2,nC,x.2⟩ nC (mapTo (fun j=>rt (colR y M j)) default nC x.1)])
  (fun x=>x.1 ≤ nC) (fun x=>nC - x.1) (0,cs1) [0] rfl rfl rfl (Nat.zero_le _) (by repeat (first | exact Fr.sub_nil _ | refine Fr.sub_cons rfl ?_)) rfl rfl ?_
 rintro ⟨j,cs⟩ hj ih
 simp only [List.cons_append,List.nil_append] at hj ih ⊢
 by_cases hjl : j < nC
 ·refine j_nf [.o (pL 232) 0,.c (pL 233),.lp (pL 116),.blk 0,.c [1,1,1]] rfl ?_
  refine j_run it 1 rfl (by simp) ?_
  refine j_nf [.c (pL 466),.c (pL 467),.lp (pL 116),.blk 0,.c [1,1,1]] rfl ?_
  refine j_if rfl rfl (fun h1=>?_) (fun h1=>by exfalso;omega)
  refine j_nf [.o (pL 3736) 0,.c (pL 3737),.blk 1,.c (pL 935),.lp (pL 116),.blk 0,.c [1,1,1]] rfl ?_
  refine j_run it 2 rfl (by simp) ?_
  refine j_nf [.o (pL 7474) 0,.c (pL 7475),.blk 1,.c (pL 935),.lp (pL 116),.blk 0,.c [1,1,1]] rfl ?_
  refine j_step rfl (x_field rfl fd26_1 ?_)
  refine j_step rfl (x_bld 1 rfl rfl ld24 rfl ?_)
  refine j_step rfl (x_len sl24 rfl ?_)
  refine j_step rfl (x_makeR RatE default (M.length) _ rfl rfl sl23 zo23e rfl rfl by23e (by omega) (by omega) (by omega) rz44 fun b3 cs2=>?_)
  refine j_run it 1 rfl (by simp) ?_
  refine j_nf [.o (pL 29900) 0,.c (pL 29901),.c (pL 14951),.blk 1,.c (pL 935),.lp (pL 116),.blk 0,.c [1,1,1]] rfl ?_
  refine j_step rfl (x_field rfl fd26_1 ?_)
  refine j_step rfl (x_bld 2 rfl rfl ld24 rfl ?_)
  refine j_step rfl (x_len sl24 rfl ?_)
  refine j_run it 1 rfl (by simp) ?_
  refine j_nf [.c (pL 59802),.blk 2,.c (pL 14951),.blk 1,.c (pL 935),.lp (pL 116),.blk 0,.c [1,1,1]] rfl ?_
  rw [← mapTo_zero (fun i=>(M.getD i default).getD j default)]
  refine j_loopG (X:=Nat × List Value) [1,2,4,5,6,7,15,16,17,18,19,20,21,22,23,24,25] [1,2,3] (fun x=>[(26,.int .i64 x.1)]) (fun x=>[(some b3,44,x.2),(some b2,44,cs),(some b1,26,[.slice p1 nC c1,.slice p2 M.length c2,.slice p3 nB c3])]) (fun x=>[rowF RatE ⟨some b3,M.length,x.2⟩ M.length (mapTo (fun i=>(M.getD i default).getD j default) default M.length x.1)])
   (fun x=>x.1 ≤ M.length) (fun x=>M.length - x.1) (0,cs2) [0] rfl rfl rfl (Nat.zero_le _) (by repeat (first | exact Fr.sub_nil _ | refine Fr.sub_cons rfl ?_)) rfl rfl ?_
  rintro ⟨i,ds⟩ hi ihi
  simp only [List.cons_append,List.nil_append] at hi ihi ⊢
  by_cases hil : i < M.length
  ·refine j_nf [.o (pL 239208) 0,.c (pL 239209),.lp (pL 119604),.blk 2,.c (pL 14951),.blk 1,.c (pL 935),.lp (pL 116),.blk 0,.c [1,1,1]] rfl ?_
   refine j_run it 1 rfl (by simp) ?_
   refine j_nf [.c (pL 478418),.c (pL 478419),.lp (pL 119604),.blk 2,.c (pL 14951),.blk 1,.c (pL 935),.lp (pL 116),.blk 0,.c [1,1,1]] rfl ?_
   refine j_if rfl rfl (fun h2=>?_) (fun h2=>by exfalso;omega)
   refine j_nf [.o (pL 3827352) 0,.c (pL 3827353),.blk 3,.c (pL 956839),.lp (pL 119604),.blk 2,.c (pL 14951),.blk 1,.c (pL 935),.lp (pL 116),.blk 0,.c [1,1,1]] rfl ?_
   refine j_run it 1 rfl (by simp) ?_
   refine j_step rfl (x_idx 2 (i) rfl rfl rfl sl24 rfl (by omega) fun z1 hz1 b4 o1=>?_)
   refine j_step rfl (x_ld_sl 0 rfl rfl ld23 fun pa1 ca1=>?_)
   refine j_run it 2 rfl (by simp) ?_
   refine j_nf [.o (pL 3827353) 0,.blk 3,.c (pL 956839),.lp (pL 119604),.blk 2,.c (pL 14951),.blk 1,.c (pL 935),.lp (pL 116),.blk 0,.c [1,1,1]] rfl ?_
   refine j_run it 4 rfl (by simp) ?_
   refine j_step rfl (x_idx 0 (j) rfl rfl rfl sl23 (by omega) ?_ fun z2 hz2 b5 o2=>?_) --ok
   ·have:=(hA z1 (List.mem_of_getElem? hz1)).1
    omega
   have ez : (M.getD i default).getD j default = z2:=by rw [getD_some hz1,getD_some hz2]
   refine j_step rfl (x_ld_rt 0 rfl rfl ld44 fun pa2 ca2 pa3 ca3=>?_)
   refine j_step rfl (x_idx_own (i) _ rfl rfl sl23 rfl (by omega) rfl ?_)
   refine j_step rfl (x_stR (vs:=[Value.bool z2.fst,Value.slice pa2 z2.snd.fst.length ca2,Value.slice pa3 z2.snd.snd.length ca3]) (z:=(z2.fst,(z2.snd.fst,z2.snd.snd))) 0 5 (i) rfl rfl rfl rfl rfl ld44 rfl (by omega) (fun w A hG=>(rd_pair (v1:=[Value.bool z2.fst]) (rd_bool _) (rd_pair (v1:=[Value.slice pa2 z2.snd.fst.length ca2]) (rd_of_slF (hG _ (fact_mem (n:=0) rfl))) (rd_of_slF (hG _ (fact_mem (n:=1) rfl)))))) fun cs3=>?_)
   refine j_nf [.o (pL 956839) 0,.lp (pL 119604),.blk 2,.c (pL 14951),.blk 1,.c (pL 935),.lp (pL 116),.blk 0,.c [1,1,1]] rfl ?_
   refine j_run it 2 rfl (by repeat' first | exact trivial | apply And.intro | omega) ?_
   refine j_nfn 1 [.lp (pL 119604),.blk 2,.c (pL 14951),.blk 1,.c (pL 935),.lp (pL 116),.blk 0,.c [1,1,1]] rfl ?_
   rw [← ez,mapTo_set (fun i=>(M.getD i default).getD j default)]
   refine j_to [0,7,8,9] (by repeat (first | exact Fr.sub_nil _ | refine Fr.sub_cons rfl ?_ | refine Fr.sub_consI rfl (by first | omega | (dsimp only;omega)) ?_ | refine Fr.sub_consS rfl (by first | omega | (dsimp only;omega)) (by first | omega | (dsimp only;omega)) ?_)) rfl rfl (ihi (i + 1,cs3) (by dsimp only;omega) (by dsimp only;omega))
  ·obtain rfl : M.length = i:=by omega
   rw [map_take_all (fun row : List Rt=>row.getD j default)]
   have hcol : ∀ r ∈ M.map (fun row : List Rt=>row.getD j default),okR K r:=fun r hr=>by
    obtain ⟨row,h1,rfl⟩:=List.mem_map.1 hr
    exact okR_at (hA row h1).2 (by rw [(hA row h1).1];exact hjl)
   refine j_nf [.o (pL 239208) 0,.c (pL 239209),.lp (pL 119604),.blk 2,.c (pL 14951),.blk 1,.c (pL 935),.lp (pL 116),.blk 0,.c [1,1,1]] rfl ?_
   refine j_run it 1 rfl (by simp) ?_
   refine j_nf [.c (pL 478418),.c (pL 478419),.lp (pL 119604),.blk 2,.c (pL 14951),.blk 1,.c (pL 935),.lp (pL 116),.blk 0,.c [1,1,1]] rfl ?_
   refine j_if rfl rfl (fun h2=>by exfalso;omega) (fun h2=>?_)
   refine j_nf [.o (pL 14951) 0,.blk 1,.c (pL 935),.lp (pL 116),.blk 0,.c [1,1,1]] rfl ?_
   refine j_run it 4 rfl (by simp) ?_
   refine j_pubRb 0 0 rfl rfl (by show (M.length) * 56 ≤ 140737488355328;omega) ?_
   refine j_step rfl (x_call [4,0] rfl (S_simplex_product (by first|omega|exact side _ (by assumption)|assumption|rfl|(simp;done)|(simp;omega)) (by first|omega|exact side _ (by assumption)|assumption|rfl|(simp;done)|(simp;omega)) (by first|omega|exact side _ (by assumption)|assumption|rfl|(simp;done)|(simp;omega)) (by first|omega|exact side _ (by assumption)|assumption|rfl|(simp;done)|(simp;omega)) (by first|omega|exact side _ (by assumption)|assumption|rfl|(simp;done)|(simp;omega)) (by first|omega|exact side _ (by assumption)|assumption|rfl|(simp;done)|(simp;omega))) rfl ?_)
   rintro _ _ _ ⟨pn1,cn1,pd1,cd1,rfl,rfl,rfl⟩
   simp only [List.cons_append,List.nil_append]
   refine j_step rfl (x_idx_own (j) _ rfl rfl sl23 rfl (by omega) rfl ?_)
   refine j_step rfl (x_stR (vs:=[Value.bool (rt (dotR y (List.map (fun row=>row.getD j default) M))).fst,Value.slice pn1 (rt (dotR y (List.map (fun row=>row.getD j default) M))).snd.fst.length cn1,Value.slice pd1 (rt (dotR y (List.map (fun row=>row.getD j default) M))).snd.snd.length cd1]) (z:=((rt (dotR y (List.map (fun row=>row.getD j default) M))).fst,((rt (dotR y (List.map (fun row=>row.getD j default) M))).snd.fst,(rt (dotR y (List.map (fun row=>row.getD j default) M))).snd.snd))) 0 4 (j) rfl rfl rfl rfl rfl ld44 rfl (by omega) (fun w A hG=>(rd_pair (v1:=[Value.bool (rt (dotR y (List.map (fun row=>row.getD j default) M))).fst]) (rd_bool _) (rd_pair (v1:=[Value.slice pn1 (rt (dotR y (List.map (fun row=>row.getD j default) M))).snd.fst.length cn1]) (rd_of_slF (hG _ (fact_mem (n:=0) rfl))) (rd_of_slF (hG _ (fact_mem (n:=1) rfl)))))) fun cs3=>?_)
   refine j_nf [.o (pL 935) 0,.lp (pL 116),.blk 0,.c [1,1,1]] rfl ?_
   refine j_run it 2 rfl (by repeat' first | exact trivial | apply And.intro | omega) ?_
   refine j_nfn 1 [.lp (pL 116),.blk 0,.c [1,1,1]] rfl ?_
   rw [show dotR y (M.map fun row : List Rt=>row.getD j default) = colR y M j from rfl,mapTo_set (fun j=>rt (colR y M j))]
   refine j_to [0,6,7] (by repeat (first | exact Fr.sub_nil _ | refine Fr.sub_cons rfl ?_ | refine Fr.sub_consI rfl (by first | omega | (dsimp only;omega)) ?_ | refine Fr.sub_consS rfl (by first | omega | (dsimp only;omega)) (by first | omega | (dsimp only;omega)) ?_)) rfl rfl (ih (j + 1,cs3) (by dsimp only;omega) (by dsimp only;omega))
 ·obtain rfl : nC = j:=by omega
  rw [mapTo_all]
  refine j_nf [.o (pL 232) 0,.c (pL 233),.lp (pL 116),.blk 0,.c [1,1,1]] rfl ?_
  refine j_run it 1 rfl (by simp) ?_
  refine j_nf [.c (pL 466),.c (pL 467),.lp (pL 116),.blk 0,.c [1,1,1]] rfl ?_
  refine j_if rfl rfl (fun h1=>by exfalso;omega) (fun h1=>?_)
  refine j_nf [.o [1,1,1,0] 0,.c [1,1,1,1]] rfl ?_
  refine j_run it 2 rfl (by simp) ?_
  refine j_nf [.c [1,1,1,1]] rfl ?_
  refine j_pubR 0 0 rfl rfl (by show nC * 56 ≤ 140737488355328;omega) ?_
  refine j_giv [0] rfl rfl rfl ⟨_,_,rfl,rfl,rfl⟩
theorem ge_step {M : List (List Rt)} {y c : List Rt} {k : Nat} (h : geB y M c k = true) (hs : ¬ (colR y M k - vq (c.getD k default)).num.sign < 0) : geB y M c (k + 1) = true:=by
 rw [geB,range_all_succ]
 have h1 : (List.range k).all (fun j=>decide (vq (c.getD j default) ≤ colR y M j)) = true:=h
 have h2 : vq (c.getD k default) ≤ colR y M k:=Rat.not_lt.1 fun h=>hs (cmp_neg.2 h)
 rw [h1,decide_eq_true h2];rfl
theorem ge_stop {M : List (List Rt)} {y c : List Rt} {k n : Nat} (hk : k < n) (hs : (colR y M k - vq (c.getD k default)).num.sign < 0) : geB y M c n = false :=
 range_all_false hk (decide_eq_false (Rat.not_le.2 (cmp_neg.1 hs)))
theorem col_bd {K n : Nat} (hK : 1 ≤ K) {M : List (List Rt)} {y : List Rt} {j : Nat} (hM : ∀ row ∈ M,row.length = n ∧ ∀ r ∈ row,okR K r) (hy : ∀ r ∈ y,okR K r) (hj : j < n) : bd ((2 * K + 1) * y.length + 1) (colR y M j) :=
 dotR_bd hK hy fun r hr=>by
  obtain ⟨row,h1,rfl⟩:=List.mem_map.1 hr
  exact okR_at (hM row h1).2 (by rw [(hM row h1).1];exact hj)
theorem S_simplex_covers {p1 p2 p3 py pc : Option Addr} {nC nB nc c1 c2 c3 n cy cc K : Nat} {M : List (List Rt)} {y c : List Rt} (hK : 1 ≤ K) (hK2 : K ≤ 100000) (hM : ∀ row ∈ M,row.length = nC ∧ ∀ r ∈ row,okR K r) (hy : ∀ r ∈ y,okR K r) (hc : ∀ r ∈ c,okR K r) (hcl : c.length = nC) (lC : nC ≤ 80) (lM : M.length ≤ 80) {res : Bool} (hres : covB nC M y c = res) :
  Ctr Try.prog 91 [.agg #[.slice p1 nC c1,.slice p2 M.length c2,.slice p3 nB c3],.slice py n cy,.slice pc nc cc] [] [slF (encSl RatE) p2 M.length c2 M,slF RatE py n cy y,slF RatE pc nc cc c] (Rv (.bool res) []):=by
 subst hres
 refine Ctr_of_j' (F:=F_simplex_covers) rfl fun C=>?_
 refine j_len 1 rfl fun ey _ _=>?_
 refine j_len 2 rfl fun ec _ _=>?_
 subst ey
 by_cases hl : y.length = M.length
 ·refine j_nf [.o [0] 0,.c [1]] rfl ?_
  refine j_step rfl (x_box_agg rfl fun b1=>?_)
  refine j_run it 1 rfl (by simp) ?_
  refine j_nf [.o [1,0,0] 0,.c [1,0,1],.c [1,1]] rfl ?_
  refine j_run it 1 rfl (by simp) ?_
  refine j_step rfl (x_len sl23 rfl ?_)
  refine j_step rfl (x_field rfl fd26_1 ?_)
  refine j_step rfl (x_bld 0 rfl rfl ld24 rfl ?_)
  refine j_step rfl (x_len sl24 rfl ?_)
  refine j_run it 2 rfl (by simp) ?_
  refine j_split_ndec (t:=15) rfl (fun h1=>by exfalso;omega) (fun h1=>?_)
  refine j_run it 1 rfl (by simp) ?_
  refine j_gstep rfl rfl (x_call [1] rfl (S_simplex_positive) rfl ?_)
  rintro _ _ _ ⟨rfl,rfl,rfl⟩
  simp only [List.cons_append,List.nil_append]
  refine j_run it 2 rfl (by simp) ?_
  refine j_nf [.c [1,0,1],.c [1,1]] rfl ?_
  refine j_cond rfl rfl (fun h2=>?_) (fun h2=>?_)
  ·rw [covB,(by simpa using h2 : posB y = false),Bool.and_false,Bool.false_and]
   refine j_nf [.o [1,0,1,0,0] 0,.c [1,0,1,0,1],.c [1,1]] rfl ?_
   refine j_run it 1 rfl (by simp) ?_
   refine j_nf [.c [1,0,1,0,1],.c [1,1]] rfl ?_
   refine j_giv [] rfl rfl rfl ⟨rfl,rfl,rfl⟩
  ·rw [covB,(by simpa using h2 : posB y = true),decide_eq_true hl,Bool.true_and,Bool.true_and]
   refine j_nf [.o [1,1,0,0] 0,.c [1,1,0,1],.c [1,1,1]] rfl ?_
   refine j_step rfl (x_bld_all 0 rfl rfl ld26 rfl ?_)
   refine j_run it 1 rfl (by simp) ?_
   refine j_step rfl (x_call [0,1] rfl (S_simplex_column (by first|omega|exact side _ (by assumption)|assumption|rfl|(simp;done)|(simp;omega)) (by first|omega|exact side _ (by assumption)|assumption|rfl|(simp;done)|(simp;omega)) (by first|omega|exact side _ (by assumption)|assumption|rfl|(simp;done)|(simp;omega)) (by first|omega|exact side _ (by assumption)|assumption|rfl|(simp;done)|(simp;omega)) (by first|omega|exact side _ (by assumption)|assumption|rfl|(simp;done)|(simp;omega)) (by first|omega|exact side _ (by assumption)|assumption|rfl|(simp;done)|(simp;omega)) (by first|omega|exact side _ (by assumption)|assumption|rfl|(simp;done)|(simp;omega))) rfl ?_)
   rintro _ _ _ ⟨pa1,ca1,rfl,rfl,rfl⟩
   simp only [List.cons_append,List.nil_append]
   refine j_step rfl (x_len sl23 rfl ?_)
   refine j_run it 1 rfl (by simp) ?_
   refine j_nf [.c [1,1,0,1,0],.blk 0,.c [1,1,1]] rfl ?_
   refine j_loopG (X:=Nat) [2,22,23] [0,1,2,3] (fun k=>[(24,.int .i64 k)]) (fun _=>[(some b1,26,[.slice p1 nC c1,.slice p2 M.length c2,.slice p3 nB c3])]) (fun _=>[]) (fun k=>k ≤ nC ∧ geB y M c k = true) (fun k=>nC - k) 0 [] rfl rfl rfl ⟨Nat.zero_le _,rfl⟩ (by repeat (first | exact Fr.sub_nil _ | refine Fr.sub_cons rfl ?_)) rfl rfl ?_
   rintro k ⟨hk,hp⟩ ih
   simp only [List.cons_append,List.nil_append] at hk hp ih ⊢
   by_cases hkl : k < nC
   ·refine j_nf [.o (pL 232) 0,.c (pL 233),.lp (pL 116),.blk 0,.c [1,1,1]] rfl ?_
    refine j_run it 1 rfl (by simp) ?_
    refine j_nf [.c (pL 466),.c (pL 467),.lp (pL 116),.blk 0,.c [1,1,1]] rfl ?_
    refine j_if rfl rfl (fun h3=>?_) (fun h3=>by exfalso;omega)
    refine j_nf [.o (pL 3736) 0,.c (pL 3737),.blk 1,.c (pL 935),.lp (pL 116),.blk 0,.c [1,1,1]] rfl ?_
    refine j_run it 1 rfl (by simp) ?_
    refine j_step rfl (x_idx 0 (k) rfl rfl rfl sl23 rfl (by omega) fun z1 hz1 b2 o1=>?_)
    refine j_step rfl (x_ld_rt 0 rfl rfl ld44 fun pa2 ca2 pa3 ca3=>?_)
    refine j_step rfl (x_alloc zo44 fun b3=>?_)
    refine j_run it 1 rfl (by simp) ?_
    refine j_step rfl (x_bst_all 0 rfl rfl rfl ld44 rfl rfl (by simp [Value.oneCell']) ?_)
    refine j_nf [.c (pL 7474),.c (pL 7475),.blk 1,.c (pL 935),.lp (pL 116),.blk 0,.c [1,1,1]] rfl ?_
    (apply j_drawK it mx 7;(· rfl);(· rfl))
    (apply lxk_eq;(· rfl);(· exact d_bld_all 0 rfl rfl ld44 rfl))
    (apply lxk_run 2;(· rfl);(· simp))
    (apply lxk_pt;(· rfl);(· exact d_x fun _=>x_idx 6 (k) rfl rfl rfl sl23 rfl (by omega) fun z2 hz2 b4 o2=>(dk_ptD default hz2 0 rfl));intro b4 o2)
    (apply lxk_rq;(· rfl);(· exact d_x fun _=>x_ld_rt 0 rfl rfl ld44 fun pa4 ca4 pa5 ca5=>(dk_rq 0 1 rfl rfl));intro pn1 cn1 pd1 cd1) --ok
    have ez : z1 = rt (colR y M k):=by
     rw [range_get _ hkl] at hz1
     exact (Option.some.inj hz1).symm
    subst ez
    have y3:=okR_at hc (show k < c.length by omega)
    obtain ⟨y4,y5⟩:=y3.2.2
    have y6:=col_bd hK hM hy hkl
    have y7 : (2 * K + 1) * y.length + 1 ≤ 33554432:=by
     have h1 : y.length ≤ 80:=by omega
     have:=Nat.mul_le_mul (show 2 * K + 1 ≤ 200001 by omega) h1
     omega
    obtain ⟨y8,y9⟩:=bd_len (bd_mono y6 y7)
    (apply lxk_eq;(· rfl);(· exact d_x fun _=>x_call [3,4,0,1] rfl (S_rational_Cmp (by first|omega|exact side _ (by assumption)|assumption|rfl|(simp;done)|(simp;omega)) (by first|omega|exact side _ (by assumption)|assumption|rfl|(simp;done)|(simp;omega)) (by first|omega|exact side _ (by assumption)|assumption|rfl|(simp;done)|(simp;omega)) (by first|omega|exact side _ (by assumption)|assumption|rfl|(simp;done)|(simp;omega))) rfl (by rintro _ _ _ ⟨rfl,rfl,rfl⟩;exact dk_eq)))
    simp only [vq_rt']
    (apply lxk_run 1;(· rfl);(· simp))
    refine lxk_end rfl ?_
    simp only [List.map_cons,List.map_nil,List.cons_append,List.nil_append]
    refine j_nf [.c (pL 7475),.blk 1,.c (pL 935),.lp (pL 116),.blk 0,.c [1,1,1]] rfl ?_
    refine j_if rfl rfl (fun h4=>?_) (fun h4=>?_)
    ·rw [ge_stop (n:=nC) hkl (by assumption)]
     refine j_nf [.o (pL 29900) 0,.c (pL 29901),.blk 1,.c (pL 935),.lp (pL 116),.blk 0,.c [1,1,1]] rfl ?_
     refine j_run it 1 rfl (by simp) ?_
     refine j_nf [.c (pL 29901),.blk 1,.c (pL 935),.lp (pL 116),.blk 0,.c [1,1,1]] rfl ?_
     refine j_giv [] rfl rfl rfl ⟨rfl,rfl,rfl⟩
    ·refine j_nf [.o (pL 935) 0,.lp (pL 116),.blk 0,.c [1,1,1]] rfl ?_
     refine j_run it 2 rfl (by repeat' first | exact trivial | apply And.intro | omega) ?_
     refine j_nfn 1 [.lp (pL 116),.blk 0,.c [1,1,1]] rfl ?_
     refine j_toM [false,true] [6,7,8,9] (by repeat (first | exact Fr.sub_nil _ | refine Fr.sub_cons rfl ?_ | refine Fr.sub_consI rfl (by first | omega | (dsimp only;omega)) ?_ | refine Fr.sub_consS rfl (by first | omega | (dsimp only;omega)) (by first | omega | (dsimp only;omega)) ?_)) rfl rfl (ih (k + 1) (by omega) ⟨by omega,ge_step hp (by assumption)⟩)
   ·obtain rfl : nC = k:=by omega
    rw [hp]
    refine j_nf [.o (pL 232) 0,.c (pL 233),.lp (pL 116),.blk 0,.c [1,1,1]] rfl ?_
    refine j_run it 1 rfl (by simp) ?_
    refine j_nf [.c (pL 466),.c (pL 467),.lp (pL 116),.blk 0,.c [1,1,1]] rfl ?_
    refine j_if rfl rfl (fun h3=>by exfalso;omega) (fun h3=>?_)
    refine j_nf [.o [1,1,1,0] 0,.c [1,1,1,1]] rfl ?_
    refine j_run it 1 rfl (by simp) ?_
    refine j_nf [.c [1,1,1,1]] rfl ?_
    refine j_giv [] rfl rfl rfl ⟨rfl,rfl,rfl⟩
 ·rw [covB,decide_eq_false hl,Bool.false_and,Bool.false_and]
  refine j_nf [.o [0] 0,.c [1]] rfl ?_
  refine j_step rfl (x_box_agg rfl fun b1=>?_)
  refine j_run it 1 rfl (by simp) ?_
  refine j_nf [.o [1,0,0] 0,.c [1,0,1],.c [1,1]] rfl ?_
  refine j_run it 1 rfl (by simp) ?_
  refine j_step rfl (x_len sl23 rfl ?_)
  refine j_step rfl (x_field rfl fd26_1 ?_)
  refine j_step rfl (x_bld 0 rfl rfl ld24 rfl ?_)
  refine j_step rfl (x_len sl24 rfl ?_)
  refine j_run it 2 rfl (by simp) ?_
  refine j_split_ndec (t:=15) rfl (fun h1=>?_) (fun h1=>by exfalso;omega)
  refine j_run it 4 rfl (by simp) ?_
  refine j_nf [.c [1,0,1],.c [1,1]] rfl ?_
  refine j_true rfl rfl ?_
  refine j_nf [.o [1,0,1,0,0] 0,.c [1,0,1,0,1],.c [1,1]] rfl ?_
  refine j_run it 1 rfl (by simp) ?_
  refine j_nf [.c [1,0,1,0,1],.c [1,1]] rfl ?_
  refine j_giv [] rfl rfl rfl ⟨rfl,rfl,rfl⟩
end Go.Proofs.Ythahejfpdhcpiaa

namespace Go.Proofs.Ythahejfpdhcpiaa
open Go Go.Fw
set_option maxRecDepth 100000
set_option linter.unusedVariables false
set_option linter.unusedSimpArgs false
set_option maxHeartbeats 4000000
theorem check_zero {C B : List Rt} {M : List (List Rt)} (h : checkOf (C,M,B) = 0) : C.length ≤ 80 ∧ M.length ≤ 80 ∧ M.length = B.length ∧ ∀ row ∈ M,row.length = C.length:=by
 unfold checkOf at h
 by_cases h1 : 80 < C.length ∨ 80 < M.length ∨ 80 < B.length
 ·rw [if_pos h1] at h;cases h
 ·rw [if_neg h1] at h
  by_cases h2 : M.length = B.length
  ·rw [if_neg (not_not_intro h2)] at h
   by_cases h3 : (M.all fun r=>r.length == C.length) = true
   ·refine ⟨by omega,by omega,h2,fun row hr=>?_⟩
    have:=List.all_eq_true.1 h3 row hr
    simpa using this
   ·rw [if_neg h3] at h;cases h
  ·rw [if_pos h2] at h;cases h
def accE (kind : Int) (C : List Rt) (M : List (List Rt)) (B X Y R : List Rt) : Int:=if checkOf (C,M,B) = 0 then (if accB kind C M B X Y R then 0 else 13) else checkOf (C,M,B)
theorem dot_lens {K : Nat} (hK : 1 ≤ K) (hK2 : K ≤ 100000) {a b : List Rt} (ha : ∀ r ∈ a,okR K r) (hb : ∀ r ∈ b,okR K r) (hn : a.length ≤ 80) : (rt (dotR a b)).2.1.length ≤ 33554432 ∧ (rt (dotR a b)).2.2.length ≤ 33554432 :=
 bd_len (bd_mono (dotR_bd hK ha hb) (by
  have:=Nat.mul_le_mul (show 2 * K + 1 ≤ 200001 by omega) hn
  omega))
end Go.Proofs.Ythahejfpdhcpiaa

namespace Go.Proofs.Ythahejfpdhcpiaa
open Go Go.Fw
set_option maxRecDepth 100000
set_option linter.unusedVariables false
set_option linter.unusedSimpArgs false
set_option maxHeartbeats 4000000
def fewR (r : Rt) : Bool:=decide (r.2.1.length + r.2.2.length ≤ 12)
def fewL (L : List Rt) : Bool:=decide (L.length ≤ 20) && L.all fewR
def fitsB (C : List Rt) (M : List (List Rt)) (B : List Rt) (Ls : List (List Rt)) : Bool:=Ls.all fewL && smallB 8 C M B
theorem all_stop {α : Type} {L : List α} {k : Nat} {z : α} {f : α → Bool} (hz : L[k]? = some z) (h : f z = false) : L.all f = false:=by
 rw [List.all_eq_false];exact ⟨z,List.mem_of_getElem? hz,by simp [h]⟩
theorem sl_rng {w : World} {A : Nat → Prop} {pa : Option Addr} {ca : Nat} {ls : List Rt} (hs : SlRd RatE w A pa ca ls) : ∀ r ∈ ls,(∀ x ∈ r.2.1,x < 4294967296) ∧ (∀ x ∈ r.2.2,x < 4294967296):=fun r hr=>by
 obtain ⟨_,_,hs⟩:=hs
 rcases hs with rfl | ⟨b,o,_,_,hel⟩
 ·cases hr
 ·obtain ⟨i,hi⟩:=List.getElem?_of_mem hr
  obtain ⟨vs,_,hrd⟩:=hel i r hi
  obtain ⟨_,_,_,_,_,h1,h2⟩:=rt_open hrd
  have key : ∀ {pa ca} {l : List Nat},SlRd U32 w A pa ca l → ∀ x ∈ l,x < 4294967296:=by
   intro pa ca l hs x hx
   obtain ⟨_,_,hs⟩:=hs
   rcases hs with rfl | ⟨b',o',_,_,hel'⟩
   ·cases hx
   ·obtain ⟨j,hj⟩:=List.getElem?_of_mem hx
    obtain ⟨vs,_,_,hR⟩:=hel' j x hj
    simp only [InR] at hR;omega
  exact ⟨key h1,key h2⟩
theorem rtss_rng {P : Program} {F : Fun P} {C : Cx} {S : List It} {σ : Fr} {β : List Blk} {Γ : List Fact} {R : Value → World → Prop} {pa : Option Addr} {n ca : Nat} {ls : List (List Rt)} (k : Nat) (hk : nth Γ k = some (slF (encSl RatE) pa n ca ls))
  (h : (∀ row ∈ ls,∀ r ∈ row,(∀ x ∈ r.2.1,x < 4294967296) ∧ (∀ x ∈ r.2.2,x < 4294967296)) → J F C S σ β Γ R) : J F C S σ β Γ R :=
 j_know (fun w A hG row hr=>by
  obtain ⟨_,_,_,hs⟩:=hG _ (fact_mem hk)
  rcases hs with rfl | ⟨b,o,_,_,hel⟩
  ·cases hr
  ·obtain ⟨i,hi⟩:=List.getElem?_of_mem hr
   obtain ⟨vs,_,pa',ca',rfl,hrd⟩:=hel i row hi
   exact sl_rng hrd) h
theorem sl_lens {w : World} {A : Nat → Prop} {pa : Option Addr} {ca : Nat} {ls : List Rt} (hs : SlRd RatE w A pa ca ls) : ∀ r ∈ ls,r.2.1.length ≤ 35184372088832 ∧ r.2.2.length ≤ 35184372088832:=fun r hr=>by
 obtain ⟨_,_,hs⟩:=hs
 rcases hs with rfl | ⟨b,o,_,_,hel⟩
 ·cases hr
 ·obtain ⟨i,hi⟩:=List.getElem?_of_mem hr
  obtain ⟨vs,_,hrd⟩:=hel i r hi
  obtain ⟨_,_,_,_,_,h1,h2⟩:=rt_open hrd
  have k1 : r.2.1.length * 4 ≤ 140737488355328:=h1.2.1
  have k2 : r.2.2.length * 4 ≤ 140737488355328:=h2.2.1
  omega
theorem rtss_len {P : Program} {F : Fun P} {C : Cx} {S : List It} {σ : Fr} {β : List Blk} {Γ : List Fact} {R : Value → World → Prop} {pa : Option Addr} {n ca : Nat} {ls : List (List Rt)} (k : Nat) (hk : nth Γ k = some (slF (encSl RatE) pa n ca ls))
  (h : (∀ row ∈ ls,∀ r ∈ row,r.2.1.length ≤ 35184372088832 ∧ r.2.2.length ≤ 35184372088832) → J F C S σ β Γ R) : J F C S σ β Γ R :=
 j_know (fun w A hG row hr=>by
  obtain ⟨_,_,_,hs⟩:=hG _ (fact_mem hk)
  rcases hs with rfl | ⟨b,o,_,_,hel⟩
  ·cases hr
  ·obtain ⟨i,hi⟩:=List.getElem?_of_mem hr
   obtain ⟨vs,_,pa',ca',rfl,hrd⟩:=hel i row hi
   exact sl_lens hrd) h
theorem S_codewrightlaw35_fits {p1 p2 p3 p4 : Option Addr} {c1 c2 c3 n c4 : Nat} {C B : List Rt} {M Ls : List (List Rt)} {res : Bool} (hres : fitsB C M B Ls = res) :
  Ctr Try.prog 24 [.agg #[.slice p1 C.length c1,.slice p2 M.length c2,.slice p3 B.length c3],.slice p4 n c4] [] [slF RatE p1 C.length c1 C,slF (encSl RatE) p2 M.length c2 M,slF RatE p3 B.length c3 B,slF (encSl RatE) p4 n c4 Ls] (Rv (.bool res) []):=by
 subst hres
 refine Ctr_of_j' (F:=F_codewrightlaw35_fits) rfl fun Cx=>?_
 refine j_len 3 rfl fun en hb _=>?_
 have hb' : Ls.length * 24 ≤ 140737488355328:=hb
 subst en
 refine rtss_len 3 rfl fun hlen=>?_
 refine j_nf [.o [0] 0,.c [1]] rfl ?_
 refine j_step rfl (x_box_agg rfl fun b1=>?_)
 refine j_run it 1 rfl (by simp) ?_
 refine j_nf [.o [1,0,0] 0,.c [1,0,1],.c [1,1]] rfl ?_
 refine j_run it 1 rfl (by simp) ?_
 refine j_nf [.c [1,0,1,0],.blk 0,.c [1,1]] rfl ?_
 refine j_loopG (X:=Nat) [1,2] [0,1,2,3] (fun k=>[(5,.int .i64 k)]) (fun _=>[(some b1,26,[.slice p1 C.length c1,.slice p2 M.length c2,.slice p3 B.length c3])]) (fun _=>[]) (fun k=>k ≤ Ls.length ∧ (Ls.take k).all fewL = true) (fun k=>Ls.length - k) 0 [] rfl rfl rfl ⟨Nat.zero_le _,rfl⟩ (by repeat (first | exact Fr.sub_nil _ | refine Fr.sub_cons rfl ?_)) rfl rfl ?_
 rintro k ⟨hk,hp⟩ ih
 simp only [List.cons_append,List.nil_append] at hk hp ih ⊢
 by_cases hkl : k < Ls.length
 ·refine j_nf [.o (pL 208) 0,.c (pL 209),.c (pL 105),.lp [1,0,1,0,0],.blk 0,.c [1,1]] rfl ?_
  refine j_run it 2 rfl (by simp) ?_
  refine j_step rfl (x_len sl24 rfl ?_)
  refine j_run it 1 rfl (by simp) ?_
  refine j_nf [.c (pL 209),.c (pL 105),.lp [1,0,1,0,0],.blk 0,.c [1,1]] rfl ?_
  refine j_if rfl rfl (fun h1=>?_) (fun h1=>by exfalso;omega)
  refine j_nf [.o (pL 1680) 0,.c (pL 1681),.c (pL 841),.blk 1,.c (pL 211),.lp [1,0,1,0,0],.blk 0,.c [1,1]] rfl ?_
  refine j_run it 2 rfl (by simp) ?_
  refine j_step rfl (x_idx 3 (k) rfl rfl rfl sl24 rfl (by omega) fun z1 hz1 b2 o1=>?_)
  refine j_step rfl (x_ld_sl 0 rfl rfl ld23 fun pa1 ca1=>?_)
  refine j_step rfl (x_len sl23 rfl ?_)
  refine j_run it 1 rfl (by simp) ?_
  refine j_nf [.c (pL 1681),.c (pL 841),.blk 1,.c (pL 211),.lp [1,0,1,0,0],.blk 0,.c [1,1]] rfl ?_
  refine j_if rfl rfl (fun h2=>?_) (fun h2=>?_)
  ·rw [fitsB,all_stop hz1 (by rw [fewL,decide_eq_false (by omega),Bool.false_and]),Bool.false_and]
   refine j_nf [.o (pL 6724) 0,.c (pL 6725),.c (pL 841),.blk 1,.c (pL 211),.lp [1,0,1,0,0],.blk 0,.c [1,1]] rfl ?_
   refine j_run it 1 rfl (by simp) ?_
   refine j_nf [.c (pL 6725),.c (pL 841),.blk 1,.c (pL 211),.lp [1,0,1,0,0],.blk 0,.c [1,1]] rfl ?_
   refine j_giv [] rfl rfl rfl ⟨rfl,rfl,rfl⟩
  ·have h20 : z1.length ≤ 20:=by omega
   refine j_nf [.o (pL 1682) 0,.c (pL 1683),.blk 1,.c (pL 211),.lp [1,0,1,0,0],.blk 0,.c [1,1]] rfl ?_
   refine j_run it 1 rfl (by simp) ?_
   refine j_nf [.c (pL 3366),.blk 2,.blk 1,.c (pL 211),.lp [1,0,1,0,0],.blk 0,.c [1,1]] rfl ?_
   refine j_loopG (X:=Nat) [1,2,5,7,8,9,10,13,14,15,16,17,18] [0,1,2,3,4,5] (fun j=>[(6,.int .i64 j)]) (fun _=>[(some b1,26,[.slice p1 C.length c1,.slice p2 M.length c2,.slice p3 B.length c3])]) (fun _=>[]) (fun j=>j ≤ z1.length ∧ (z1.take j).all fewR = true) (fun j=>z1.length - j) 0 [] rfl rfl rfl ⟨Nat.zero_le _,rfl⟩ (by repeat (first | exact Fr.sub_nil _ | refine Fr.sub_cons rfl ?_)) rfl rfl ?_
   rintro j ⟨hj,hq⟩ ihj
   simp only [List.cons_append,List.nil_append] at hj hq ihj ⊢
   have ez : Ls.getD k default = z1:=getD_some hz1
   by_cases hjl : j < z1.length
   ·have hjl' : j < (Ls.getD k default).length:=by rw [ez];exact hjl
    refine j_nf [.o (pL 26928) 0,.c (pL 26929),.c (pL 13465),.lp (pL 6732),.blk 2,.blk 1,.c (pL 211),.lp [1,0,1,0,0],.blk 0,.c [1,1]] rfl ?_
    refine j_run it 3 rfl (by simp) ?_
    refine j_step rfl (x_idx 5 (k) rfl rfl rfl sl24 rfl (by omega) fun z2 hz2 b3 o2=>?_)
    refine j_step rfl (x_ld_sl 0 rfl rfl ld23 fun pa2 ca2=>?_)
    refine j_step rfl (x_len sl23 rfl ?_)
    refine j_run it 1 rfl (by simp) ?_
    refine j_nf [.c (pL 26929),.c (pL 13465),.lp (pL 6732),.blk 2,.blk 1,.c (pL 211),.lp [1,0,1,0,0],.blk 0,.c [1,1]] rfl ?_
    refine j_if rfl rfl (fun h3=>?_) (fun h3=>?_)
    ·obtain rfl : z2 = z1:=Option.some.inj (hz2.symm.trans hz1)
     have hzj : z2[j]? = some (z2.getD j default):=getD_at hjl
     obtain ⟨l1,l2⟩:=hlen _ (List.mem_of_getElem? hz1) _ (List.mem_of_getElem? hzj)
     rw [← ez] at l1 l2
     refine j_nf [.c (pL 107720),.c (pL 107721),.blk 3,.c (pL 26931),.lp (pL 6732),.blk 2,.blk 1,.c (pL 211),.lp [1,0,1,0,0],.blk 0,.c [1,1]] rfl ?_
     (apply j_drawK it mx 20;(· rfl);(· rfl))
     (apply lxk_run 2;(· rfl);(· simp))
     (apply lxk_pt;(· rfl);(· exact d_x fun _=>x_idx 7 (k) rfl rfl rfl sl24 rfl (by omega) fun z1 hz3 b4 o3=>(dk_ptD default hz3 0 rfl));intro b4 o3)
     (apply lxk_sl;(· rfl);(· exact d_x fun _=>x_ld_sl 0 rfl rfl ld23 fun pa3 ca3=>(dk_sl 0 rfl));intro pa3 ca3)
     (apply lxk_run 1;(· rfl);(· simp))
     (apply lxk_pt;(· rfl);(· exact d_x fun _=>x_idx 0 (j) rfl rfl rfl sl23 rfl (by omega) fun z1 hz3 b5 o4=>(dk_ptD default hz3 0 rfl));intro b5 o4)
     (apply lxk_pt;(· rfl);(· exact d_x fun _=>x_field_rt rfl fd44_1 (fun w A hG=>rt_f1 (hG _ (fact_mem (n:=0) rfl))) (dk_pt 0 rfl));intro b6 o5)
     (apply lxk_sl;(· rfl);(· exact d_x fun _=>x_ld_sl 0 rfl rfl ld42 fun pa4 ca4=>(dk_sl 0 rfl));intro pa4 ca4)
     (apply lxk_eq;(· rfl);(· exact d_x fun _=>x_len sl42 rfl dk_eq))
     (apply lxk_run 2;(· rfl);(· simp))
     (apply lxk_pt;(· rfl);(· exact d_x fun _=>x_idx 7 (k) rfl rfl rfl sl24 rfl (by omega) fun z1 hz3 b7 o6=>(dk_ptD default hz3 0 rfl));intro b7 o6)
     (apply lxk_sl;(· rfl);(· exact d_x fun _=>x_ld_sl 0 rfl rfl ld23 fun pa5 ca5=>(dk_sl 0 rfl));intro pa5 ca5)
     (apply lxk_run 1;(· rfl);(· simp))
     (apply lxk_pt;(· rfl);(· exact d_x fun _=>x_idx 0 (j) rfl rfl rfl sl23 rfl (by omega) fun z1 hz3 b8 o7=>(dk_ptD default hz3 0 rfl));intro b8 o7)
     (apply lxk_pt;(· rfl);(· exact d_x fun _=>x_field_rt rfl fd44_2 (fun w A hG=>rt_f2 (hG _ (fact_mem (n:=0) rfl))) (dk_pt 0 rfl));intro b9 o8)
     (apply lxk_sl;(· rfl);(· exact d_x fun _=>x_ld_sl 0 rfl rfl ld42 fun pa6 ca6=>(dk_sl 0 rfl));intro pa6 ca6)
     (apply lxk_eq;(· rfl);(· exact d_x fun _=>x_len sl42 rfl dk_eq))
     (apply lxk_run 2;(· rfl);(· exact (by repeat' first | exact trivial | apply And.intro | omega)))
     refine lxk_end rfl ?_
     simp only [List.map_cons,List.map_nil,List.cons_append,List.nil_append]
     refine j_nf [.c (pL 107721),.blk 3,.c (pL 26931),.lp (pL 6732),.blk 2,.blk 1,.c (pL 211),.lp [1,0,1,0,0],.blk 0,.c [1,1]] rfl ?_
     refine j_if rfl rfl (fun h4=>?_) (fun h4=>?_)
     ·rw [fitsB,all_stop hz1 (by rw [fewL,all_stop hzj (by rw [fewR];refine decide_eq_false ?_;rw [← ez];omega),Bool.and_false]),Bool.false_and]
      refine j_nf [.o (pL 430884) 0,.c (pL 430885),.blk 3,.c (pL 26931),.lp (pL 6732),.blk 2,.blk 1,.c (pL 211),.lp [1,0,1,0,0],.blk 0,.c [1,1]] rfl ?_
      refine j_run it 1 rfl (by simp) ?_
      refine j_nf [.c (pL 430885),.blk 3,.c (pL 26931),.lp (pL 6732),.blk 2,.blk 1,.c (pL 211),.lp [1,0,1,0,0],.blk 0,.c [1,1]] rfl ?_
      refine j_giv [] rfl rfl rfl ⟨rfl,rfl,rfl⟩
     ·refine j_nf [.o (pL 26931) 0,.lp (pL 6732),.blk 2,.blk 1,.c (pL 211),.lp [1,0,1,0,0],.blk 0,.c [1,1]] rfl ?_
      refine j_run it 3 rfl (by repeat' first | exact trivial | apply And.intro | omega) ?_
      refine j_nfn 1 [.lp (pL 6732),.blk 2,.blk 1,.c (pL 211),.lp [1,0,1,0,0],.blk 0,.c [1,1]] rfl ?_
      refine j_to [12,13,14,15,16,17] (by repeat (first | exact Fr.sub_nil _ | refine Fr.sub_cons rfl ?_ | refine Fr.sub_consI rfl (by first | omega | (dsimp only;omega)) ?_ | refine Fr.sub_consS rfl (by first | omega | (dsimp only;omega)) (by first | omega | (dsimp only;omega)) ?_)) rfl rfl (ihj (j + 1) (by omega) ⟨by omega,all_take_succ hzj hq (by rw [fewR];refine decide_eq_true ?_;rw [← ez];omega)⟩)
    ·obtain rfl : z2 = z1:=Option.some.inj (hz2.symm.trans hz1)
     omega
   ·obtain rfl : j = z1.length:=by omega
    rw [List.take_length] at hq
    refine j_nf [.o (pL 26928) 0,.c (pL 26929),.c (pL 13465),.lp (pL 6732),.blk 2,.blk 1,.c (pL 211),.lp [1,0,1,0,0],.blk 0,.c [1,1]] rfl ?_
    refine j_run it 3 rfl (by simp) ?_
    refine j_step rfl (x_idx 5 (k) rfl rfl rfl sl24 rfl (by omega) fun z2 hz2 b3 o2=>?_)
    refine j_step rfl (x_ld_sl 0 rfl rfl ld23 fun pa2 ca2=>?_)
    refine j_step rfl (x_len sl23 rfl ?_)
    refine j_run it 1 rfl (by simp) ?_
    refine j_nf [.c (pL 26929),.c (pL 13465),.lp (pL 6732),.blk 2,.blk 1,.c (pL 211),.lp [1,0,1,0,0],.blk 0,.c [1,1]] rfl ?_
    refine j_if rfl rfl (fun h3=>?_) (fun h3=>?_)
    ·obtain rfl : z2 = z1:=Option.some.inj (hz2.symm.trans hz1)
     omega
    ·refine j_nf [.o (pL 211) 0,.lp [1,0,1,0,0],.blk 0,.c [1,1]] rfl ?_
     refine j_run it 3 rfl (by repeat' first | exact trivial | apply And.intro | omega) ?_
     refine j_nfn 1 [.lp [1,0,1,0,0],.blk 0,.c [1,1]] rfl ?_
     refine j_to [4,5,6,7] (by repeat (first | exact Fr.sub_nil _ | refine Fr.sub_cons rfl ?_ | refine Fr.sub_consI rfl (by first | omega | (dsimp only;omega)) ?_ | refine Fr.sub_consS rfl (by first | omega | (dsimp only;omega)) (by first | omega | (dsimp only;omega)) ?_)) rfl rfl (ih (k + 1) (by omega) ⟨by omega,all_take_succ hz1 hp (by rw [fewL,hq,decide_eq_true h20];rfl)⟩)
 ·obtain rfl : Ls.length = k:=by omega
  rw [List.take_length] at hp
  rw [fitsB,hp,Bool.true_and]
  refine j_nf [.o (pL 208) 0,.c (pL 209),.c (pL 105),.lp [1,0,1,0,0],.blk 0,.c [1,1]] rfl ?_
  refine j_run it 2 rfl (by simp) ?_
  refine j_step rfl (x_len sl24 rfl ?_)
  refine j_run it 1 rfl (by simp) ?_
  refine j_nf [.c (pL 209),.c (pL 105),.lp [1,0,1,0,0],.blk 0,.c [1,1]] rfl ?_
  refine j_if rfl rfl (fun h1=>by exfalso;omega) (fun h1=>?_)
  refine j_nf [.o [1,1,0] 0,.c [1,1,1]] rfl ?_
  refine j_step rfl (x_bld_all 0 rfl rfl ld26 rfl ?_)
  refine j_step rfl (x_call [0,1,2] rfl (S_codewrightref35_Small (by first|omega|exact side _ (by assumption)|assumption|rfl|(simp;done)|(simp;omega))) rfl ?_)
  rintro _ _ _ ⟨rfl,rfl,rfl⟩
  simp only [List.cons_append,List.nil_append]
  refine j_run it 1 rfl (by simp) ?_
  refine j_nf [.c [1,1,1]] rfl ?_
  refine j_giv [] rfl rfl rfl ⟨rfl,rfl,rfl⟩
end Go.Proofs.Ythahejfpdhcpiaa

namespace Go.Proofs.Ythahejfpdhcpiaa
open Go Go.Fw
set_option maxRecDepth 100000
set_option linter.unusedVariables false
set_option linter.unusedSimpArgs false
set_option maxHeartbeats 4000000
theorem bd1 : ∀ r ∈ [rt 1],okR 1 r:=fun r h=>by
 rw [List.mem_singleton.1 h];exact okR_rt (bd_one (Nat.le_refl 1))
theorem bd0 : ∀ r ∈ [rt 0],okR 1 r:=fun r h=>by
 rw [List.mem_singleton.1 h];exact okR_rt (bd_zero (Nat.le_refl 1))
theorem bd11 : ∀ row ∈ [[rt 1]],∀ r ∈ row,okR 1 r:=fun row h=>by
 rw [List.mem_singleton.1 h];exact bd1
theorem one_a : accE 0 [rt 1] [[rt 1]] [rt 1] [rt 1] [rt 1] [] = 0:=by
 have h1 : (0 : Rat) ≤ 1:=by decide
 simp [accE,checkOf,accB,feasB,covB,posB,leB,geB,colR,dotR,dot,vq_rt,h1,Rat.add_zero,Rat.le_refl]
theorem one_b : accE 0 [rt 1] [[rt 1]] [rt 1] [rt 0] [rt 1] [] = 13:=by
 have h1 : ¬ (0 : Rat) = 1:=by decide
 simp [accE,checkOf,accB,feasB,covB,posB,leB,geB,colR,dotR,dot,vq_rt,h1,Rat.add_zero,Rat.mul_zero]
end Go.Proofs.Ythahejfpdhcpiaa

namespace Go.Proofs.Ythahejfpdhcpiaa
open Go Go.Fw
set_option maxRecDepth 100000
set_option linter.unusedVariables false
set_option linter.unusedSimpArgs false
theorem few_ok {r : Rt} (h : fewR r = true) (hr : (∀ x ∈ r.2.1,x < 4294967296) ∧ (∀ x ∈ r.2.2,x < 4294967296)) : okR 12 r:=by
 have:=of_decide_eq_true h
 exact ⟨hr.1,hr.2,by omega,by omega⟩
theorem few_list {L : List Rt} (h : fewL L = true) (hr : ∀ r ∈ L,(∀ x ∈ r.2.1,x < 4294967296) ∧ (∀ x ∈ r.2.2,x < 4294967296)) : L.length ≤ 20 ∧ ∀ r ∈ L,okR 12 r:=by
 rw [fewL,Bool.and_eq_true,decide_eq_true_eq] at h
 exact ⟨h.1,fun r hm=>few_ok (List.all_eq_true.1 h.2 r hm) (hr r hm)⟩
section
variable {kind : Int} {C B X Y R : List Rt} {M : List (List Rt)}
end
end Go.Proofs.Ythahejfpdhcpiaa

namespace Go.Proofs.Ythahejfpdhcpiaa
open Go Go.Fw
set_option maxRecDepth 100000
set_option linter.unusedVariables false
set_option linter.unusedSimpArgs false
set_option maxHeartbeats 4000000
theorem vq_inv1 (q : Rat) : vq ((rt q).1,(rt q).2.2,(rt q).2.1) = q⁻¹:=by
 rw [vq_eq]
 simp only [num_rt,den_rt,neg_rt]
 rw [Rat.inv_def,← Rat.divInt_ofNat]
 by_cases h : q.num < 0
 ·rw [decide_eq_true h,show ((q.num.natAbs : Nat) : Int) = -q.num by omega,Rat.divInt_neg']
  show Rat.divInt (-(-(q.den : Int))) q.num = _
  rw [Int.neg_neg]
 ·rw [decide_eq_false h,show ((q.num.natAbs : Nat) : Int) = q.num by omega]
  rfl
theorem S_simplex_zero : Ctr Try.prog 72 [] [] [] (RtV (rt 0)):=by
 refine Ctr_of_j' (F:=F_simplex_zero) rfl fun C=>?_
 rw [rt_zero]
 refine j_nf [.o [0] 0,.c [1]] rfl ?_
 refine j_step rfl (x_alloc zo44 fun b1=>?_)
 refine j_nf [.o [1,0] 0,.c [1,1]] rfl ?_
 refine j_step rfl (x_lit sl42 zo42e rfl rfl rfl rfl (by decide) (by decide) rfl fun b2=>?_)
 refine j_step rfl (x_build (cs:=[Value.bool false,Value.slice none 0 0,Value.slice (some { block:=b2,off:=0 }) 1 1]) st44 zo44 rfl rfl ?_)
 refine j_step rfl (x_bst_all 1 rfl rfl rfl ld44 rfl rfl (by simp [Value.oneCell']) ?_)
 refine j_nf [.c [1,1]] rfl ?_
 refine j_pub_made (n:=1) (kd:=.u32) 4 [1] 0 rfl rfl (by simp [InR]) (by decide) (by decide) ?_
 refine j_add (slF U32 none 0 0 []) (fun w A _=>slF_nil _ _ _ _ _) ?_
 refine j_givC [0,1] rfl (.agg 0 rfl rfl ld44 rfl .nil) rfl ⟨_,_,_,_,rfl,rfl,rfl⟩
theorem S_simplex_one : Ctr Try.prog 77 [] [] [] (RtV (rt 1)):=by
 refine Ctr_of_j' (F:=F_simplex_one) rfl fun C=>?_
 rw [rt_one]
 refine j_nf [.o [0] 0,.c [1]] rfl ?_
 refine j_step rfl (x_alloc zo44 fun b1=>?_)
 refine j_nf [.o [1,0] 0,.c [1,1]] rfl ?_
 refine j_step rfl (x_lit sl42 zo42e rfl rfl rfl rfl (by decide) (by decide) rfl fun b2=>?_)
 refine j_step rfl (x_lit sl42 zo42e rfl rfl rfl rfl (by decide) (by decide) rfl fun b3=>?_)
 refine j_step rfl (x_build (cs:=[Value.bool false,Value.slice (some { block:=b2,off:=0 }) 1 1,Value.slice (some { block:=b3,off:=0 }) 1 1]) st44 zo44 rfl rfl ?_)
 refine j_step rfl (x_bst_all 2 rfl rfl rfl ld44 rfl rfl (by simp [Value.oneCell']) ?_)
 refine j_nf [.c [1,1]] rfl ?_
 refine j_pub_made (n:=1) (kd:=.u32) 4 [1] 0 rfl rfl (by simp [InR]) (by decide) (by decide) ?_
 refine j_pub_made (n:=1) (kd:=.u32) 4 [1] 0 rfl rfl (by simp [InR]) (by decide) (by decide) ?_
 refine j_givC [0,1] rfl (.agg 0 rfl rfl ld44 rfl .nil) rfl ⟨_,_,_,_,rfl,rfl,rfl⟩
theorem S_rational_Div {a b : Rat} {pn1 pd1 pn2 pd2 : Option Addr} {cn1 cd1 cn2 cd2 K : Nat} (hb : b ≠ 0) (hK : 1 ≤ K) (hK2 : K ≤ 33554432) (l1 : (rt a).2.1.length ≤ K) (l2 : (rt a).2.2.length ≤ K) (l3 : (rt b).2.1.length ≤ K) (l4 : (rt b).2.2.length ≤ K) :
  Ctr Try.prog 111 [.agg #[.bool (rt a).1,.slice pn1 (rt a).2.1.length cn1,.slice pd1 (rt a).2.2.length cd1],.agg #[.bool (rt b).1,.slice pn2 (rt b).2.1.length cn2,.slice pd2 (rt b).2.2.length cd2]] [] [slF U32 pn1 (rt a).2.1.length cn1 (rt a).2.1,slF U32 pd1 (rt a).2.2.length cd1 (rt a).2.2,slF U32 pn2 (rt b).2.1.length cn2 (rt b).2.1,slF U32 pd2 (rt b).2.2.length cd2 (rt b).2.2] (RtErr (rt (a * b⁻¹)) 0):=by
 refine Ctr_of_j' (F:=F_rational_Div) rfl fun C=>?_
 have hs : ¬ b.num.sign = 0:=fun h=>hb (Rat.num_eq_zero.1 (Int.sign_eq_zero_iff_zero.1 h))
 have side : ∀ r ∈ [(((rt a).1,(rt a).2.1,(rt a).2.2) : Rt),((rt b).1,(rt b).2.2,(rt b).2.1)],r.2.1.length ≤ K ∧ r.2.2.length ≤ K:=by
  intro r hr
  simp only [List.mem_cons,List.not_mem_nil,or_false] at hr
  rcases hr with rfl | rfl
  ·exact ⟨l1,l2⟩
  ·exact ⟨l4,l3⟩
 refine j_nf [.o [0] 0,.c [1]] rfl ?_
 refine j_step rfl (x_box_agg rfl fun b1=>?_)
 refine j_step rfl (x_box_agg rfl fun b2=>?_)
 refine j_step rfl (x_alloc zo44 fun b3=>?_)
 refine j_run it 1 rfl (by simp) ?_
 refine j_nf [.o [1,0,0] 0,.c [1,0,1],.c [1,1]] rfl ?_
 refine j_step rfl (x_bld_all 1 rfl rfl ld44 rfl ?_)
 refine j_step rfl (x_call [2,3] rfl (S_rational_Sign) rfl ?_)
 rintro _ _ _ ⟨rfl,rfl,rfl⟩
 simp only [List.cons_append,List.nil_append]
 simp only [vq_rt']
 refine j_run it 1 rfl (by simp) ?_
 refine j_nf [.c [1,0,1],.c [1,1]] rfl ?_
 refine j_if rfl rfl (fun h1=>by exfalso;omega) (fun h1=>?_)
 refine j_nf [.o [1,1,0] 0,.c [1,1,1]] rfl ?_
 refine j_step rfl (x_bld_all 2 rfl rfl ld44 rfl ?_)
 refine j_step rfl (x_field rfl fd44_0 ?_)
 refine j_step rfl (x_bld 1 rfl rfl ld4 rfl ?_)
 refine j_step rfl (x_field rfl fd44_2 ?_)
 refine j_step rfl (x_bld 1 rfl rfl ld42 rfl ?_)
 refine j_step rfl (x_field rfl fd44_1 ?_)
 refine j_step rfl (x_bld 1 rfl rfl ld42 rfl ?_)
 refine j_step rfl (x_build (cs:=[Value.bool (rt b).fst,Value.slice pd2 (rt b).snd.snd.length cd2,Value.slice pn2 (rt b).snd.fst.length cn2]) st44 zo44 rfl rfl ?_)
 refine j_step rfl (x_lit sl23 zo23e rfl rfl rfl rfl (by decide) (by decide) rfl fun b4=>?_)
 refine j_pub_all (E:=RatE) (n:=2) [[Value.bool (rt a).fst,Value.slice pn1 (rt a).snd.fst.length cn1,Value.slice pd1 (rt a).snd.snd.length cd1],[Value.bool (rt b).fst,Value.slice pd2 (rt b).snd.snd.length cd2,Value.slice pn2 (rt b).snd.fst.length cn2]] [((rt a).fst,(rt a).snd.fst,(rt a).snd.snd),((rt b).fst,(rt b).snd.snd,(rt b).snd.fst)] 0 (fun w A hG=>(allrd_cons (rd_rt (hG _ (fact_mem (n:=0) rfl)) (hG _ (fact_mem (n:=1) rfl))) (allrd_cons (rd_rt (hG _ (fact_mem (n:=3) rfl)) (hG _ (fact_mem (n:=2) rfl))) allrd_nil))) rfl rfl rfl rfl (by first | decide | exact Nat.le_of_ble_eq_true rfl) (by first | decide | exact Nat.le_of_ble_eq_true rfl) ?_
 refine j_step rfl (x_call [0] rfl (S_rational_Mul (by first|omega|exact side _ (by assumption)|assumption|rfl|(simp;done)|(simp;omega)) (by first|omega|exact side _ (by assumption)|assumption|rfl|(simp;done)|(simp;omega)) (by first|omega|exact side _ (by assumption)|assumption|rfl|(simp;done)|(simp;omega)) (by first|omega|exact side _ (by assumption)|assumption|rfl|(simp;done)|(simp;omega))) rfl ?_)
 rintro _ _ _ ⟨pn3,cn3,pd3,cd3,rfl,rfl,rfl⟩
 simp only [List.cons_append,List.nil_append]
 refine j_step rfl (x_bst_all 0 rfl rfl rfl ld44 rfl rfl (by simp [Value.oneCell']) ?_)
 refine j_run it 1 rfl (by simp) ?_
 refine j_nf [.c [1,1,1]] rfl ?_
 have e : prodQ [(((rt a).1,(rt a).2.1,(rt a).2.2) : Rt),((rt b).1,(rt b).2.2,(rt b).2.1)] = a * b⁻¹:=by
  simp only [prodQ]
  rw [vq_rt',vq_inv1,Rat.mul_one]
 rw [e]
 refine j_givC [0,1] rfl (.agg 0 rfl rfl ld44 rfl (.tmp rfl .nil)) rfl ⟨_,_,_,_,rfl,rfl,rfl⟩
end Go.Proofs.Ythahejfpdhcpiaa
