/-
The document's fields: irreducible polynomials, Check, elements, their digits and sums. The document's fields: elements, their digits, sums and products. The document's fields: products. The document's fields: sums of products; rows of elements. The words that rows generate, as the document lists them. All words of a length, as the document lists them. The words that are orthogonal to rows, as the document lists them. The weights of words, as the document counts them. The words of a law: a code, its dual, all words. Moments of the weights of a code and of its dual. The dual distribution: the transform of numbers, divided by their sum. The division of long numbers, limb by limb (Knuth's algorithm D): the arithmetic of one step. The division of long numbers: how many digits a shifted number has, and what the whole division comes to. Contracts of nat.Cmp and nat.Sub. The contract of nat.step, first part: what is done when the guess was too great by one. The contract of nat.shift. The contract of nat.step, second part: multiplied and taken away. The contract of nat.step.
-/
import Derived.Test.YtlelanmgijhjfaaDelsarte3
set_option linter.unusedVariables false
set_option linter.unusedSimpArgs false
namespace Go.Proofs.Ytlelanmgijhjfaa
open Go Go.Fw
set_option maxRecDepth 100000
set_option linter.unusedVariables false
set_option linter.unusedSimpArgs false
set_option maxHeartbeats 4000000
theorem toI_digs {l : List Nat} {p : Nat} (h : ∀ x ∈ l,x < p) : ∀ x ∈ toI l,0 ≤ x ∧ x < (p : Int):=fun x hx=>by
 obtain ⟨n,hn,rfl⟩:=List.mem_map.1 hx
 have:=h n hn
 omega
open Classical in
theorem S_codewrightref04_irreducible {pm : Option Addr} {nm cm p : Nat} {md : List Nat} (hp : 2 ≤ p) (hp2 : p ≤ 256) (hq : p ^ md.length ≤ 256) (hm : md.length ≤ 8) (rm : ∀ x ∈ md,x < p) {res : Bool} (hres : res = true ↔ irrP p md) :
  Ctr Try.prog 56 [.slice pm nm cm,.int .i64 p] [] [slF I64 pm nm cm (toI md)] (Rv (.bool res) []):=by
 refine Ctr_of_j' (F:=F_codewrightref04_irreducible) rfl fun C=>?_
 refine j_len 0 rfl fun hn1 _ _=>?_
 rw [toI_len] at hn1
 subst hn1
 have rI:=toI_digs rm
 have lI:=toI_len md
 refine j_nf [_,_] rfl (j_run it 1 rfl (by simp) ?_)
 refine j_nf [_,_] rfl (j_run it 1 rfl (by simp) ?_)
 refine j_nf [_,_,_] rfl (j_run it 1 rfl (by simp) ?_)
 refine j_nf [_,_,_] rfl ?_
 refine j_loopG (X:=Nat) [0,1] [0] (fun d=>[(6,.int .i64 ((d + 1 : Nat) : Int)),(5,.int .i64 ((p ^ d : Nat) : Int))]) (fun _=>[]) (fun _=>[]) (fun d=>2 * d ≤ md.length ∧ ∀ e,1 ≤ e → e ≤ d → ∀ v,v < p ^ e → ¬ cg p (evL (Xg (toI (dig p e v))) (toI md++[1]) oneV)) (fun d=>md.length - d) 0 [] rfl rfl rfl ⟨Nat.zero_le _,fun e h1 h2=>by omega⟩ (by refine Fr.sub_cons rfl ?_;refine Fr.sub_consI rfl (by simp) ?_;repeat (first | exact Fr.sub_nil _ | refine Fr.sub_cons rfl ?_)) rfl rfl ?_
 rintro d ⟨hd,hall⟩ ih
 simp only [List.cons_append,List.nil_append] at hd hall ih ⊢
 have hpd : p ^ d ≤ 256:=Nat.le_trans (Nat.pow_le_pow_right (by omega) (by omega)) hq
 by_cases hdl : 2 * (d + 1) ≤ md.length
 ·have hpe : p ^ (d + 1) ≤ 256:=Nat.le_trans (Nat.pow_le_pow_right (by omega) (by omega)) hq
  have ee : ((p ^ d : Nat) : Int) * (p : Int) = ((p ^ (d + 1) : Nat) : Int):=by rw [Nat.pow_succ,Int.natCast_mul]
  have ih':=ih (d + 1) (by omega)
  generalize hP : p ^ (d + 1) = P at *
  generalize p ^ d = Q at *
  have hQP : 0 ≤ (Q : Int) * (p : Int) ∧ (Q : Int) * (p : Int) ≤ 256:=by omega
  refine j_nf [_,_,_,_,_,_] rfl (j_run it 3 rfl ⟨trivial,⟨by omega,by omega⟩,trivial,trivial⟩ ?_)
  refine j_step rfl (x_len sl22 rfl ?_)
  refine j_run it 1 rfl (by simp) ?_
  refine j_nf [_,_,_,_,_] rfl (j_if rfl rfl (fun h1=>?_) (fun h1=>by exfalso;omega))
  refine j_nf [_,_,_,_,_,_,_] rfl (j_run it 4 rfl ⟨trivial,⟨by omega,by omega⟩,trivial,trivial,trivial⟩ ?_)
  refine j_nf [_,_,_,_,_,_,_] rfl (j_run it 1 rfl (by simp) ?_)
  refine j_nf [_,_,_,_,_,_,_] rfl ?_
  rw [ee]
  refine j_loopG (X:=Nat) [0,1,5,6,8,9,10,11,12,15,16,17] [0] (fun v=>[(7,.int .i64 (v : Int))]) (fun _=>[]) (fun _=>[]) (fun v=>v ≤ P ∧ ∀ u,u < v → ¬ cg p (evL (Xg (toI (dig p (d + 1) u))) (toI md++[1]) oneV)) (fun v=>P - v) 0 [] rfl rfl rfl ⟨Nat.zero_le _,fun u h=>by omega⟩ (by repeat (first | exact Fr.sub_nil _ | refine Fr.sub_cons rfl ?_)) rfl rfl ?_
  rintro v ⟨hv,hvall⟩ ihv
  simp only [List.cons_append,List.nil_append] at hv hvall ihv ⊢
  by_cases hvl : v < P
  ·have gl : (toI (dig p (d + 1) v)).length = d + 1:=by rw [toI_len,dig_len]
   have gr:=toI_digs fun x hx=>dig_lt (p:=p) (n:=d + 1) (x:=v) (by omega) x hx
   have c_codewrightref04_divides:=fun {pg pm : Option Addr} {ng nm cg' cm : Nat} {res : Bool} hres=>S_codewrightref04_divides (pg:=pg) (pm:=pm) (ng:=ng) (nm:=nm) (cg':=cg') (cm:=cm) (p:=p) (g:=toI (dig p (d + 1) v)) (md:=toI md) (by omega) hp2 (by omega) (by omega) (by omega) gr rI (by omega) (res:=res) hres
   by_cases hdv : cg p (evL (Xg (toI (dig p (d + 1) v))) (toI md++[1]) oneV)
   ·have hf : res = false:=by
     cases res with
     | false=>rfl
     | true=>exact absurd hdv ((hres.1 rfl) (d + 1) (by omega) hdl v (by rw [hP];exact hvl))
    have hr : (true = true ↔ cg p (evL (Xg (toI (dig p (d + 1) v))) (toI md++[1]) oneV)):=⟨fun _=>hdv,fun _=>rfl⟩
    rw [hf]
    refine j_nf [_,_,_,_,_,_,_,_,_,_] rfl (j_run it 3 rfl (by simp) ?_)
    refine j_nf [_,_,_,_,_,_,_,_,_] rfl (j_if rfl rfl (fun h2=>?_) (fun h2=>by exfalso;omega))
    refine j_nf [_,_,_,_,_,_,_,_,_,_,_] rfl (j_run it 3 rfl (by simp) ?_)
    refine j_step rfl (x_call [] rfl (S_codewrightref04_digits (by omega) (by omega) (by omega) (by omega)) rfl ?_)
    rintro _ _ _ ⟨pa1,ca1,rfl,rfl,rfl⟩
    simp only [List.cons_append,List.nil_append]
    refine j_run it 2 rfl (by simp) ?_
    refine j_step rfl (x_call [0,1] rfl (c_codewrightref04_divides (by omega)) rfl ?_)
    rintro _ _ _ ⟨rfl,rfl,rfl⟩
    simp only [List.cons_append,List.nil_append]
    refine j_nf [_,_,_,_,_,_,_,_,_,_] rfl ?_
    refine j_true rfl rfl ?_
    refine j_nf [_,_,_,_,_,_,_,_,_,_,_] rfl (j_run it 1 rfl (by simp) ?_)
    refine j_nf [_,_,_,_,_,_,_,_,_,_] rfl ?_
    refine j_giv [] rfl rfl rfl ⟨rfl,rfl,rfl⟩
   ·have hr : (false = true ↔ cg p (evL (Xg (toI (dig p (d + 1) v))) (toI md++[1]) oneV)):=⟨fun h=>(by cases h),fun h=>absurd h hdv⟩
    refine j_nf [_,_,_,_,_,_,_,_,_,_] rfl (j_run it 3 rfl (by simp) ?_)
    refine j_nf [_,_,_,_,_,_,_,_,_] rfl (j_if rfl rfl (fun h2=>?_) (fun h2=>by exfalso;omega))
    refine j_nf [_,_,_,_,_,_,_,_,_,_,_] rfl (j_run it 3 rfl (by simp) ?_)
    refine j_step rfl (x_call [] rfl (S_codewrightref04_digits (by omega) (by omega) (by omega) (by omega)) rfl ?_)
    rintro _ _ _ ⟨pa1,ca1,rfl,rfl,rfl⟩
    simp only [List.cons_append,List.nil_append]
    refine j_run it 2 rfl (by simp) ?_
    refine j_step rfl (x_call [0,1] rfl (c_codewrightref04_divides (by omega)) rfl ?_)
    rintro _ _ _ ⟨rfl,rfl,rfl⟩
    simp only [List.cons_append,List.nil_append]
    refine j_nf [_,_,_,_,_,_,_,_,_,_] rfl ?_
    refine j_false rfl rfl ?_
    refine j_nf [_,_,_,_,_,_,_,_] rfl (j_run it 3 rfl ⟨trivial,⟨by omega,by omega⟩,trivial,trivial⟩ ?_)
    refine j_nfn 1 [.lp (pL 14924),.blk 2,.blk 1,.c (pL 467),.lp (pL 116),.blk 0,.c [1,1,1]] rfl ?_
    refine j_to [1] (by exact fra rfl) rfl rfl (ihv (v + 1) (by omega) ⟨by omega,fun u hu=>by
     rcases Nat.lt_succ_iff_lt_or_eq.1 hu with h | rfl
     ·exact hvall u h
     ·exact hdv⟩)
  ·obtain rfl : v = P:=by omega
   refine j_nf [_,_,_,_,_,_,_,_,_,_] rfl (j_run it 3 rfl (by simp) ?_)
   refine j_nf [_,_,_,_,_,_,_,_,_] rfl (j_if rfl rfl (fun h2=>by exfalso;omega) (fun h2=>?_))
   refine j_nf [_,_,_,_] rfl (j_run it 3 rfl ⟨trivial,⟨by omega,by omega⟩,trivial,trivial⟩ ?_)
   refine j_nfn 1 [.lp (pL 116),.blk 0,.c [1,1,1]] rfl ?_
   refine j_to [0] (by exact fra rfl) rfl rfl (ih' ⟨by omega,fun e h1 h2 u hu=>by
    rcases Nat.lt_succ_iff_lt_or_eq.1 (Nat.lt_succ_of_le h2) with h | rfl
    ·exact hall e h1 (by omega) u hu
    ·exact hvall u (by rw [← hP];exact hu)⟩)
 ·have ht : res = true:=hres.2 fun e h1 h2 v hv=>hall e h1 (by omega) v hv
  rw [ht]
  refine j_nf [_,_,_,_,_,_] rfl (j_run it 3 rfl ⟨trivial,⟨by omega,by omega⟩,trivial,trivial⟩ ?_)
  refine j_step rfl (x_len sl22 rfl ?_)
  refine j_run it 1 rfl (by simp) ?_
  refine j_nf [_,_,_,_,_] rfl (j_if rfl rfl (fun h1=>by exfalso;omega) (fun h1=>?_))
  refine j_nf [_,_] rfl (j_run it 1 rfl (by simp) ?_)
  refine j_nf [_] rfl ?_
  refine j_giv [] rfl rfl rfl ⟨rfl,rfl,rfl⟩
def chkF (P M : Int) (md : List Int) : Prop:=ordP P M ∧ Prm P.toNat ∧ (M = 1 → md.length = 0) ∧ (M ≠ 1 → (md.length : Int) = M ∧ (∀ x ∈ md,0 ≤ x ∧ x < P) ∧ irrP P.toNat (md.map Int.toNat))
theorem toI_toNat {l : List Int} (h : ∀ x ∈ l,0 ≤ x) : toI (l.map Int.toNat) = l:=by
 rw [toI,List.map_map]
 conv=>rhs;rw [← List.map_id l]
 refine List.map_congr_left fun x hx=>?_
 have:=h x hx
 show ((x.toNat : Nat) : Int) = x
 omega
open Classical in
theorem S_codewrightref04_Check {P M : Int} {pm : Option Addr} {nm cm : Nat} {md : List Int} {e : Int} (he : e = if chkF P M md then 0 else 1) : Ctr Try.prog 25 [.agg #[.int .i64 P,.int .i64 M,.slice pm nm cm]] [] [slF I64 pm nm cm md] (Rv (.int .i64 e) []):=by
 refine Ctr_of_j' (F:=F_codewrightref04_Check) rfl fun C=>?_
 refine j_len 0 rfl fun hn1 hb1 _=>?_
 subst hn1
 have no : ¬ chkF P M md → e = 1:=fun h=>by rw [he,if_neg h]
 by_cases ho : ordP P M
 case neg =>
  have hI : ordI P M = 0:=by rw [ordI,if_neg ho]
  rw [no fun h=>ho h.1]
  refine j_nf [_,_] rfl ?_
  refine j_step rfl (x_box_agg rfl fun b1=>?_)
  refine j_run it 1 rfl (by simp) ?_
  refine j_nf [_,_,_] rfl ?_
  refine j_step rfl (x_bld_all 0 rfl rfl ld24 rfl ?_)
  refine j_step rfl (x_call [] rfl (S_codewrightref04_Order (by omega)) rfl ?_)
  rintro _ _ _ ⟨rfl,rfl,rfl⟩
  simp only [List.cons_append,List.nil_append]
  refine j_run it 7 rfl (by simp) ?_
  refine j_nf [_,_] rfl ?_
  refine j_true rfl rfl ?_
  refine j_nf [_,_,_] rfl ?_
  refine j_run it 1 rfl (by simp) ?_
  refine j_nf [_,_] rfl ?_
  refine j_giv [] rfl rfl rfl ⟨rfl,rfl,rfl⟩
 obtain ⟨h1,h2,h3,h4⟩:=ho
 obtain ⟨p,rfl⟩ : ∃ p : Nat,P = p:=⟨P.toNat,by omega⟩
 obtain ⟨m,rfl⟩ : ∃ m : Nat,M = m:=⟨M.toNat,by omega⟩
 simp only [Int.toNat_natCast] at h4
 have hI : ordI (p : Int) (m : Int) = ((p ^ m : Nat) : Int):=by rw [ordI,if_pos ⟨h1,h2,h3,by simpa using h4⟩];simp
 have hpm : p ≤ p ^ m:=Nat.le_self_pow (by omega) p
 have hq0 : ¬ ((p ^ m : Nat) : Int) = 0:=by omega
 by_cases hp : Prm p
 case neg =>
  have hr : (false = true ↔ Prm p):=⟨fun h=>(by cases h),fun h=>absurd h hp⟩
  rw [no fun h=>hp (by simpa using h.2.1)]
  generalize p ^ m = Q at *
  refine j_nf [_,_] rfl ?_
  refine j_step rfl (x_box_agg rfl fun b1=>?_)
  refine j_run it 1 rfl (by simp) ?_
  refine j_nf [_,_,_] rfl ?_
  refine j_step rfl (x_bld_all 0 rfl rfl ld24 rfl ?_)
  refine j_step rfl (x_call [] rfl (S_codewrightref04_Order (by omega)) rfl ?_)
  rintro _ _ _ ⟨rfl,rfl,rfl⟩
  simp only [List.cons_append,List.nil_append]
  refine j_run it 2 rfl (by simp) ?_
  refine j_split_dec (t:=7) rfl (fun h5=>by exfalso;omega) (fun h5=>?_)
  refine j_gstep rfl rfl (x_field rfl fd24_0 ?_)
  refine j_gstep rfl rfl (x_bld 0 rfl rfl ld3 rfl ?_)
  refine j_gstep rfl rfl (x_call [] rfl (S_codewrightref04_prime (by omega) (by omega) (by omega)) rfl ?_)
  rintro _ _ _ ⟨rfl,rfl,rfl⟩
  simp only [List.cons_append,List.nil_append]
  refine j_run it 2 rfl (by simp) ?_
  refine j_nf [_,_] rfl ?_
  refine j_true rfl rfl ?_
  refine j_nf [_,_,_] rfl ?_
  refine j_run it 1 rfl (by simp) ?_
  refine j_nf [_,_] rfl ?_
  refine j_giv [] rfl rfl rfl ⟨rfl,rfl,rfl⟩
 have hr : (true = true ↔ Prm p):=⟨fun _=>hp,fun _=>rfl⟩
 by_cases hm1 : m = 1
 ·subst hm1
  by_cases hl : md.length = 0
  ·have : e = 0:=by rw [he,if_pos ⟨⟨h1,h2,h3,by simpa using h4⟩,by simpa using hp,fun _=>hl,fun h=>absurd rfl h⟩]
   rw [this]
   generalize p ^ 1 = Q at *
   refine j_nf [_,_] rfl ?_
   refine j_step rfl (x_box_agg rfl fun b1=>?_)
   refine j_run it 1 rfl (by simp) ?_
   refine j_nf [_,_,_] rfl ?_
   refine j_step rfl (x_bld_all 0 rfl rfl ld24 rfl ?_)
   refine j_step rfl (x_call [] rfl (S_codewrightref04_Order (by omega)) rfl ?_)
   rintro _ _ _ ⟨rfl,rfl,rfl⟩
   simp only [List.cons_append,List.nil_append]
   refine j_run it 2 rfl (by simp) ?_
   refine j_split_dec (t:=7) rfl (fun h5=>by exfalso;omega) (fun h5=>?_)
   refine j_gstep rfl rfl (x_field rfl fd24_0 ?_)
   refine j_gstep rfl rfl (x_bld 0 rfl rfl ld3 rfl ?_)
   refine j_gstep rfl rfl (x_call [] rfl (S_codewrightref04_prime (by omega) (by omega) (by omega)) rfl ?_)
   rintro _ _ _ ⟨rfl,rfl,rfl⟩
   simp only [List.cons_append,List.nil_append]
   refine j_run it 2 rfl (by simp) ?_
   refine j_nf [_,_] rfl ?_
   refine j_false rfl rfl ?_
   refine j_nf [_,_,_] rfl ?_
   refine j_step rfl (x_field rfl fd24_1 ?_)
   refine j_step rfl (x_bld 0 rfl rfl ld3 rfl ?_)
   refine j_run it 1 rfl (by simp) ?_
   refine j_nf [_,_] rfl ?_
   refine j_if rfl rfl (fun h6=>?_) (fun h6=>by exfalso;omega)
   refine j_nf [_,_,_,_] rfl ?_
   refine j_step rfl (x_field rfl fd24_2 ?_)
   refine j_step rfl (x_bld 0 rfl rfl ld22 rfl ?_)
   refine j_step rfl (x_len sl22 rfl ?_)
   refine j_run it 1 rfl (by simp) ?_
   refine j_nf [_,_,_] rfl ?_
   refine j_ifn rfl rfl (fun h7=>by exfalso;omega) (fun h7=>?_)
   refine j_nf [_,_,_] rfl ?_
   refine j_run it 1 rfl (by simp) ?_
   refine j_nf [_,_] rfl ?_
   refine j_giv [] rfl rfl rfl ⟨rfl,rfl,rfl⟩
  ·rw [no fun h=>hl (h.2.2.1 rfl)]
   generalize p ^ 1 = Q at *
   refine j_nf [_,_] rfl ?_
   refine j_step rfl (x_box_agg rfl fun b1=>?_)
   refine j_run it 1 rfl (by simp) ?_
   refine j_nf [_,_,_] rfl ?_
   refine j_step rfl (x_bld_all 0 rfl rfl ld24 rfl ?_)
   refine j_step rfl (x_call [] rfl (S_codewrightref04_Order (by omega)) rfl ?_)
   rintro _ _ _ ⟨rfl,rfl,rfl⟩
   simp only [List.cons_append,List.nil_append]
   refine j_run it 2 rfl (by simp) ?_
   refine j_split_dec (t:=7) rfl (fun h5=>by exfalso;omega) (fun h5=>?_)
   refine j_gstep rfl rfl (x_field rfl fd24_0 ?_)
   refine j_gstep rfl rfl (x_bld 0 rfl rfl ld3 rfl ?_)
   refine j_gstep rfl rfl (x_call [] rfl (S_codewrightref04_prime (by omega) (by omega) (by omega)) rfl ?_)
   rintro _ _ _ ⟨rfl,rfl,rfl⟩
   simp only [List.cons_append,List.nil_append]
   refine j_run it 2 rfl (by simp) ?_
   refine j_nf [_,_] rfl ?_
   refine j_false rfl rfl ?_
   refine j_nf [_,_,_] rfl ?_
   refine j_step rfl (x_field rfl fd24_1 ?_)
   refine j_step rfl (x_bld 0 rfl rfl ld3 rfl ?_)
   refine j_run it 1 rfl (by simp) ?_
   refine j_nf [_,_] rfl ?_
   refine j_if rfl rfl (fun h6=>?_) (fun h6=>by exfalso;omega)
   refine j_nf [_,_,_,_] rfl ?_
   refine j_step rfl (x_field rfl fd24_2 ?_)
   refine j_step rfl (x_bld 0 rfl rfl ld22 rfl ?_)
   refine j_step rfl (x_len sl22 rfl ?_)
   refine j_run it 1 rfl (by simp) ?_
   refine j_nf [_,_,_] rfl ?_
   refine j_ifn rfl rfl (fun h7=>?_) (fun h7=>by exfalso;omega)
   refine j_nf [_,_,_,_] rfl ?_
   refine j_run it 1 rfl (by simp) ?_
   refine j_nf [_,_,_] rfl ?_
   refine j_giv [] rfl rfl rfl ⟨rfl,rfl,rfl⟩
 have hm1' : ¬ (m : Int) = 1:=by omega
 by_cases hl : md.length = m
 case neg =>
  rw [no fun h=>hl (by have:=(h.2.2.2 hm1').1;omega)]
  generalize p ^ m = Q at *
  refine j_nf [_,_] rfl ?_
  refine j_step rfl (x_box_agg rfl fun b1=>?_)
  refine j_run it 1 rfl (by simp) ?_
  refine j_nf [_,_,_] rfl ?_
  refine j_step rfl (x_bld_all 0 rfl rfl ld24 rfl ?_)
  refine j_step rfl (x_call [] rfl (S_codewrightref04_Order (by omega)) rfl ?_)
  rintro _ _ _ ⟨rfl,rfl,rfl⟩
  simp only [List.cons_append,List.nil_append]
  refine j_run it 2 rfl (by simp) ?_
  refine j_split_dec (t:=7) rfl (fun h5=>by exfalso;omega) (fun h5=>?_)
  refine j_gstep rfl rfl (x_field rfl fd24_0 ?_)
  refine j_gstep rfl rfl (x_bld 0 rfl rfl ld3 rfl ?_)
  refine j_gstep rfl rfl (x_call [] rfl (S_codewrightref04_prime (by omega) (by omega) (by omega)) rfl ?_)
  rintro _ _ _ ⟨rfl,rfl,rfl⟩
  simp only [List.cons_append,List.nil_append]
  refine j_run it 2 rfl (by simp) ?_
  refine j_nf [_,_] rfl ?_
  refine j_false rfl rfl ?_
  refine j_nf [_,_,_] rfl ?_
  refine j_step rfl (x_field rfl fd24_1 ?_)
  refine j_step rfl (x_bld 0 rfl rfl ld3 rfl ?_)
  refine j_run it 1 rfl (by simp) ?_
  refine j_nf [_,_] rfl ?_
  refine j_if rfl rfl (fun h6=>by exfalso;omega) (fun h6=>?_)
  refine j_nf [_,_,_] rfl ?_
  refine j_step rfl (x_field rfl fd24_2 ?_)
  refine j_step rfl (x_bld 0 rfl rfl ld22 rfl ?_)
  refine j_step rfl (x_len sl22 rfl ?_)
  refine j_step rfl (x_field rfl fd24_1 ?_)
  refine j_step rfl (x_bld 0 rfl rfl ld3 rfl ?_)
  refine j_run it 1 rfl (by simp) ?_
  refine j_nf [_,_] rfl ?_
  refine j_ifn rfl rfl (fun h7=>?_) (fun h7=>by exfalso;omega)
  refine j_nf [_,_,_] rfl ?_
  refine j_run it 1 rfl (by simp) ?_
  refine j_nf [_,_] rfl ?_
  refine j_giv [] rfl rfl rfl ⟨rfl,rfl,rfl⟩
 subst hl
 have hm8 : md.length ≤ 8:=by omega
 generalize hQ : p ^ md.length = Q at *
 refine j_nf [_,_] rfl ?_
 refine j_step rfl (x_box_agg rfl fun b1=>?_)
 refine j_run it 1 rfl (by simp) ?_
 refine j_nf [_,_,_] rfl ?_
 refine j_step rfl (x_bld_all 0 rfl rfl ld24 rfl ?_)
 refine j_step rfl (x_call [] rfl (S_codewrightref04_Order (by omega)) rfl ?_)
 rintro _ _ _ ⟨rfl,rfl,rfl⟩
 simp only [List.cons_append,List.nil_append]
 refine j_run it 2 rfl (by simp) ?_
 refine j_split_dec (t:=7) rfl (fun h5=>by exfalso;omega) (fun h5=>?_)
 refine j_gstep rfl rfl (x_field rfl fd24_0 ?_)
 refine j_gstep rfl rfl (x_bld 0 rfl rfl ld3 rfl ?_)
 refine j_gstep rfl rfl (x_call [] rfl (S_codewrightref04_prime (by omega) (by omega) (by omega)) rfl ?_)
 rintro _ _ _ ⟨rfl,rfl,rfl⟩
 simp only [List.cons_append,List.nil_append]
 refine j_run it 2 rfl (by simp) ?_
 refine j_nf [_,_] rfl ?_
 refine j_false rfl rfl ?_
 refine j_nf [_,_,_] rfl ?_
 refine j_step rfl (x_field rfl fd24_1 ?_)
 refine j_step rfl (x_bld 0 rfl rfl ld3 rfl ?_)
 refine j_run it 1 rfl (by simp) ?_
 refine j_nf [_,_] rfl ?_
 refine j_if rfl rfl (fun h6=>by exfalso;omega) (fun h6=>?_)
 refine j_nf [_,_,_] rfl ?_
 refine j_step rfl (x_field rfl fd24_2 ?_)
 refine j_step rfl (x_bld 0 rfl rfl ld22 rfl ?_)
 refine j_step rfl (x_len sl22 rfl ?_)
 refine j_step rfl (x_field rfl fd24_1 ?_)
 refine j_step rfl (x_bld 0 rfl rfl ld3 rfl ?_)
 refine j_run it 1 rfl (by simp) ?_
 refine j_nf [_,_] rfl ?_
 refine j_ifn rfl rfl (fun h7=>by exfalso;omega) (fun h7=>?_)
 refine j_nf [_,_,_] rfl ?_
 refine j_run it 1 rfl (by simp) ?_
 refine j_nf [_,_,_] rfl ?_
 refine j_loopG (X:=Nat) [1] [0] (fun i=>[(3,.int .i64 (i : Int))]) (fun _=>[(some b1,24,[.int .i64 (p : Int),.int .i64 (md.length : Int),.slice pm md.length cm])]) (fun _=>[]) (fun i=>i ≤ md.length ∧ ∀ k,k < i → 0 ≤ md.getD k 0 ∧ md.getD k 0 < p) (fun i=>md.length - i) 0 [] rfl rfl rfl ⟨Nat.zero_le _,fun k hk=>by omega⟩ (by repeat (first | exact Fr.sub_nil _ | refine Fr.sub_cons rfl ?_)) rfl rfl ?_
 rintro i ⟨hi,hall⟩ ih
 simp only [List.cons_append,List.nil_append] at hi hall ih ⊢
 by_cases hil : i < md.length
 ·have hz : md[i]? = some (md.getD i 0):=by rw [List.getD_eq_getElem?_getD,List.getElem?_eq_getElem hil];rfl
  have hdd : md.getD i 0 = md.getD i default:=rfl
  rw [hdd] at hz
  by_cases ha : md.getD i default < 0
  ·rw [no fun h=>by have:=(h.2.2.2 hm1').2.1 _ (List.mem_of_getElem? hz);omega]
   refine j_nf [_,_,_,_,_,_] rfl ?_
   refine j_run it 1 rfl (by simp) ?_
   refine j_step rfl (x_field rfl fd24_1 ?_)
   refine j_step rfl (x_bld 0 rfl rfl ld3 rfl ?_)
   refine j_run it 1 rfl (by simp) ?_
   refine j_nf [_,_,_,_,_] rfl ?_
   refine j_if rfl rfl (fun h8=>?_) (fun h8=>by exfalso;omega)
   refine j_nf [_,_,_,_,_,_,_] rfl ?_
   (apply j_drawK it mx 16;(· rfl);(· rfl))
   (apply lxk_eq;(· rfl);(· exact d_x fun _=>x_field rfl fd24_2 dk_eq))
   (apply lxk_eq;(· rfl);(· exact d_bld 0 rfl rfl ld22 rfl))
   (apply lxk_run 1;(· rfl);(· simp))
   (apply lxk_pt;(· rfl);(· exact d_x fun _=>x_idx 0 (i) rfl rfl rfl sl22 rfl (by omega) fun z1 hz1 b2 o1=>(dk_ptD default hz1 0 rfl));intro b2 o1)
   (apply lxk_eq;(· rfl);(· exact d_x fun _=>x_ld_int 0 rfl rfl ld3 fun ⟨r1,r2⟩=>dk_eq))
   (apply lxk_eq;(· rfl);(· exact d_x fun _=>x_true it rfl (by trivial) (by omega) dk_eq))
   (apply lxk_run 8;(· rfl);(· simp))
   (apply lxk_run 2;(· rfl);(· simp))
   refine lxk_end rfl ?_
   simp only [List.map_cons,List.map_nil,List.cons_append,List.nil_append]
   refine j_nf [_,_,_,_,_,_] rfl ?_
   refine j_true rfl rfl ?_
   refine j_nf [_,_,_,_,_,_,_] rfl ?_
   refine j_run it 1 rfl (by simp) ?_
   refine j_nf [_,_,_,_,_,_] rfl ?_
   refine j_giv [] rfl rfl rfl ⟨rfl,rfl,rfl⟩
  by_cases hb : (p : Int) ≤ md.getD i default
  ·rw [no fun h=>by have:=(h.2.2.2 hm1').2.1 _ (List.mem_of_getElem? hz);omega]
   refine j_nf [_,_,_,_,_,_] rfl ?_
   refine j_run it 1 rfl (by simp) ?_
   refine j_step rfl (x_field rfl fd24_1 ?_)
   refine j_step rfl (x_bld 0 rfl rfl ld3 rfl ?_)
   refine j_run it 1 rfl (by simp) ?_
   refine j_nf [_,_,_,_,_] rfl ?_
   refine j_if rfl rfl (fun h8=>?_) (fun h8=>by exfalso;omega)
   refine j_nf [_,_,_,_,_,_,_] rfl ?_
   (apply j_drawK it mx 16;(· rfl);(· rfl))
   (apply lxk_eq;(· rfl);(· exact d_x fun _=>x_field rfl fd24_2 dk_eq))
   (apply lxk_eq;(· rfl);(· exact d_bld 0 rfl rfl ld22 rfl))
   (apply lxk_run 1;(· rfl);(· simp))
   (apply lxk_pt;(· rfl);(· exact d_x fun _=>x_idx 0 (i) rfl rfl rfl sl22 rfl (by omega) fun z1 hz1 b2 o1=>(dk_ptD default hz1 0 rfl));intro b2 o1)
   (apply lxk_eq;(· rfl);(· exact d_x fun _=>x_ld_int 0 rfl rfl ld3 fun ⟨r1,r2⟩=>dk_eq))
   (apply lxk_eq;(· rfl);(· exact d_x fun _=>x_false it rfl (by trivial) (by omega) dk_eq))
   (apply lxk_run 1;(· rfl);(· simp))
   (apply lxk_eq;(· rfl);(· exact d_x fun _=>x_field rfl fd24_2 dk_eq))
   (apply lxk_eq;(· rfl);(· exact d_bld 0 rfl rfl ld22 rfl))
   (apply lxk_run 1;(· rfl);(· simp))
   (apply lxk_pt;(· rfl);(· exact d_x fun _=>x_idx 1 (i) rfl rfl rfl sl22 rfl (by omega) fun z1 hz1 b3 o2=>(dk_ptD default hz1 0 rfl));intro b3 o2)
   (apply lxk_eq;(· rfl);(· exact d_x fun _=>x_ld_int 0 rfl rfl ld3 fun ⟨r1,r2⟩=>dk_eq))
   (apply lxk_eq;(· rfl);(· exact d_x fun _=>x_field rfl fd24_0 dk_eq))
   (apply lxk_eq;(· rfl);(· exact d_bld 0 rfl rfl ld3 rfl))
   (apply lxk_eq;(· rfl);(· exact d_x fun _=>x_true it rfl (by trivial) (by omega) dk_eq))
   (apply lxk_run 1;(· rfl);(· simp))
   refine lxk_end rfl ?_
   simp only [List.map_cons,List.map_nil,List.cons_append,List.nil_append]
   refine j_nf [_,_,_,_,_,_] rfl ?_
   refine j_true rfl rfl ?_
   refine j_nf [_,_,_,_,_,_,_] rfl ?_
   refine j_run it 1 rfl (by simp) ?_
   refine j_nf [_,_,_,_,_,_] rfl ?_
   refine j_giv [] rfl rfl rfl ⟨rfl,rfl,rfl⟩
  ·refine j_nf [_,_,_,_,_,_] rfl ?_
   refine j_run it 1 rfl (by simp) ?_
   refine j_step rfl (x_field rfl fd24_1 ?_)
   refine j_step rfl (x_bld 0 rfl rfl ld3 rfl ?_)
   refine j_run it 1 rfl (by simp) ?_
   refine j_nf [_,_,_,_,_] rfl ?_
   refine j_if rfl rfl (fun h8=>?_) (fun h8=>by exfalso;omega)
   refine j_nf [_,_,_,_,_,_,_] rfl ?_
   (apply j_drawK it mx 16;(· rfl);(· rfl))
   (apply lxk_eq;(· rfl);(· exact d_x fun _=>x_field rfl fd24_2 dk_eq))
   (apply lxk_eq;(· rfl);(· exact d_bld 0 rfl rfl ld22 rfl))
   (apply lxk_run 1;(· rfl);(· simp))
   (apply lxk_pt;(· rfl);(· exact d_x fun _=>x_idx 0 (i) rfl rfl rfl sl22 rfl (by omega) fun z1 hz1 b2 o1=>(dk_ptD default hz1 0 rfl));intro b2 o1)
   (apply lxk_eq;(· rfl);(· exact d_x fun _=>x_ld_int 0 rfl rfl ld3 fun ⟨r1,r2⟩=>dk_eq))
   (apply lxk_eq;(· rfl);(· exact d_x fun _=>x_false it rfl (by trivial) (by omega) dk_eq))
   (apply lxk_run 1;(· rfl);(· simp))
   (apply lxk_eq;(· rfl);(· exact d_x fun _=>x_field rfl fd24_2 dk_eq))
   (apply lxk_eq;(· rfl);(· exact d_bld 0 rfl rfl ld22 rfl))
   (apply lxk_run 1;(· rfl);(· simp))
   (apply lxk_pt;(· rfl);(· exact d_x fun _=>x_idx 1 (i) rfl rfl rfl sl22 rfl (by omega) fun z1 hz1 b3 o2=>(dk_ptD default hz1 0 rfl));intro b3 o2)
   (apply lxk_eq;(· rfl);(· exact d_x fun _=>x_ld_int 0 rfl rfl ld3 fun ⟨r1,r2⟩=>dk_eq))
   (apply lxk_eq;(· rfl);(· exact d_x fun _=>x_field rfl fd24_0 dk_eq))
   (apply lxk_eq;(· rfl);(· exact d_bld 0 rfl rfl ld3 rfl))
   (apply lxk_eq;(· rfl);(· exact d_x fun _=>x_false it rfl (by trivial) (by omega) dk_eq))
   (apply lxk_run 1;(· rfl);(· simp))
   refine lxk_end rfl ?_
   simp only [List.map_cons,List.map_nil,List.cons_append,List.nil_append]
   refine j_nf [_,_,_,_,_,_] rfl ?_
   refine j_false rfl rfl ?_
   refine j_nf [_,_,_,_] rfl ?_
   refine j_run it 3 rfl ⟨trivial,⟨by omega,by omega⟩,trivial,trivial⟩ ?_
   refine j_nfn 1 [.lp (pL 500),.blk 0,.c [1,1,1,1,1]] rfl ?_
   refine j_to [2] (by exact fra rfl) rfl rfl (ih (i + 1) (by omega) ⟨by omega,fun k hk=>by
    rcases Nat.lt_succ_iff_lt_or_eq.1 hk with h | rfl
    ·exact hall k h
    ·rw [hdd];omega⟩)
 ·obtain rfl : i = md.length:=by omega
  have hrng : ∀ x ∈ md,0 ≤ x ∧ x < (p : Int):=fun x hx=>by
   obtain ⟨k,hk⟩:=List.getElem?_of_mem hx
   have hkl:=(List.getElem?_eq_some_iff.1 hk).1
   have:=hall k hkl
   rw [List.getD_eq_getElem?_getD,hk] at this
   exact this
  have eI:=toI_toNat fun x hx=>(hrng x hx).1
  have lN : (md.map Int.toNat).length = md.length:=List.length_map _
  have rN : ∀ x ∈ md.map Int.toNat,x < p:=fun x hx=>by
   obtain ⟨y,hy,rfl⟩:=List.mem_map.1 hx
   have:=hrng y hy
   omega
  have c_codewrightref04_irreducible:=fun {pm : Option Addr} {nm cm : Nat} {res : Bool} hres=>S_codewrightref04_irreducible (pm:=pm) (nm:=nm) (cm:=cm) (p:=p) (md:=md.map Int.toNat) hp.1 (by omega) (by rw [lN,hQ];exact h4) (by omega) rN (res:=res) hres
  rw [eI] at c_codewrightref04_irreducible
  by_cases hirr : irrP p (md.map Int.toNat)
  ·have hri : (true = true ↔ irrP p (md.map Int.toNat)):=⟨fun _=>hirr,fun _=>rfl⟩
   have : e = 0:=by rw [he,if_pos ⟨⟨h1,h2,h3,by simpa [hQ] using h4⟩,by simpa using hp,fun h=>absurd h hm1',fun _=>⟨rfl,hrng,by simpa using hirr⟩⟩]
   rw [this]
   refine j_nf [_,_,_,_,_,_] rfl ?_
   refine j_run it 1 rfl (by simp) ?_
   refine j_step rfl (x_field rfl fd24_1 ?_)
   refine j_step rfl (x_bld 0 rfl rfl ld3 rfl ?_)
   refine j_run it 1 rfl (by simp) ?_
   refine j_nf [_,_,_,_,_] rfl ?_
   refine j_if rfl rfl (fun h8=>by exfalso;omega) (fun h8=>?_)
   refine j_nf [_,_,_] rfl ?_
   refine j_step rfl (x_field rfl fd24_2 ?_)
   refine j_step rfl (x_bld 0 rfl rfl ld22 rfl ?_)
   refine j_step rfl (x_field rfl fd24_0 ?_)
   refine j_step rfl (x_bld 0 rfl rfl ld3 rfl ?_)
   refine j_step rfl (x_call [0] rfl (c_codewrightref04_irreducible (by omega)) rfl ?_)
   rintro _ _ _ ⟨rfl,rfl,rfl⟩
   simp only [List.cons_append,List.nil_append]
   refine j_run it 1 rfl (by simp) ?_
   refine j_nf [_,_] rfl ?_
   refine j_false rfl rfl ?_
   refine j_nf [_,_] rfl ?_
   refine j_run it 1 rfl (by simp) ?_
   refine j_nf [_] rfl ?_
   refine j_giv [] rfl rfl rfl ⟨rfl,rfl,rfl⟩
  ·have hri : (false = true ↔ irrP p (md.map Int.toNat)):=⟨fun h=>(by cases h),fun h=>absurd h hirr⟩
   rw [no fun h=>hirr (by have:=(h.2.2.2 hm1').2.2;simpa using this)]
   refine j_nf [_,_,_,_,_,_] rfl ?_
   refine j_run it 1 rfl (by simp) ?_
   refine j_step rfl (x_field rfl fd24_1 ?_)
   refine j_step rfl (x_bld 0 rfl rfl ld3 rfl ?_)
   refine j_run it 1 rfl (by simp) ?_
   refine j_nf [_,_,_,_,_] rfl ?_
   refine j_if rfl rfl (fun h8=>by exfalso;omega) (fun h8=>?_)
   refine j_nf [_,_,_] rfl ?_
   refine j_step rfl (x_field rfl fd24_2 ?_)
   refine j_step rfl (x_bld 0 rfl rfl ld22 rfl ?_)
   refine j_step rfl (x_field rfl fd24_0 ?_)
   refine j_step rfl (x_bld 0 rfl rfl ld3 rfl ?_)
   refine j_step rfl (x_call [0] rfl (c_codewrightref04_irreducible (by omega)) rfl ?_)
   rintro _ _ _ ⟨rfl,rfl,rfl⟩
   simp only [List.cons_append,List.nil_append]
   refine j_run it 1 rfl (by simp) ?_
   refine j_nf [_,_] rfl ?_
   refine j_true rfl rfl ?_
   refine j_nf [_,_,_] rfl ?_
   refine j_run it 1 rfl (by simp) ?_
   refine j_nf [_,_] rfl ?_
   refine j_giv [] rfl rfl rfl ⟨rfl,rfl,rfl⟩
structure Fok (p m : Nat) (md : List Int) : Prop where
 pr : Prm p
 m1 : 1 ≤ m
 m8 : m ≤ 8
 q : p ^ m ≤ 256
 one : m = 1 → md = []
 len : m ≠ 1 → md.length = m
 rng : ∀ x ∈ md,0 ≤ x ∧ x < (p : Int)
 irr : m ≠ 1 → irrP p (md.map Int.toNat)
theorem chk_ok {P M : Int} {md : List Int} (h : chkF P M md) : ∃ p m : Nat,P = p ∧ M = m ∧ Fok p m md:=by
 obtain ⟨⟨h1,h2,h3,h4⟩,hp,ho,hn⟩:=h
 refine ⟨P.toNat,M.toNat,by omega,by omega,hp,by omega,by omega,h4,fun e=>List.length_eq_zero_iff.1 (ho (by omega)),fun e=>?_,fun x hx=>?_,fun e=>(hn (by omega)).2.2⟩
 ·have:=(hn (by omega)).1;omega
 ·by_cases e : M = 1
  ·have:=List.length_eq_zero_iff.1 (ho e)
   rw [this] at hx;cases hx
  ·have:=(hn e).2.1 x hx
   omega
def fpo (m : Nat) (md : List Int) : List Int:=if m = 1 then [0] else md
section
variable {p m : Nat} {md : List Int} (K : Fok p m md)
include K
theorem Fok.p2 : 2 ≤ p:=K.pr.1
theorem Fok.p256 : p ≤ 256:=Nat.le_trans (Nat.le_self_pow (by have:=K.m1;omega) p) K.q
theorem Fok.flen : (fpo m md).length = m:=by
 unfold fpo
 by_cases h : m = 1
 ·rw [if_pos h,h];rfl
 ·rw [if_neg h,K.len h]
theorem Fok.fi : FI (p ^ m) (liftI (fA p m)) (liftI (fM p (fpo m md))):=by
 have hl:=K.flen
 have h:=fld_of K.pr (f:=fpo m md) (by rw [hl];exact K.m1) (by
  unfold fpo
  by_cases h : m = 1
  ·rw [if_pos h]
   rintro ⟨g,s,h1,h2,h3,_⟩
   simp at h3;omega
  ·rw [if_neg h,← toI_toNat fun x hx=>(K.rng x hx).1]
   exact irr_splits (by have:=K.p2;omega) (K.irr h))
 rw [hl] at h
 exact fi_of h
theorem Fok.ord : ordI p m = ((p ^ m : Nat) : Int):=by
 have:=K.p2;have:=K.m1;have:=K.m8
 rw [ordI,if_pos ⟨by omega,by omega,by omega,by simpa using K.q⟩];simp
end
theorem S_codewrightref04_Is {P M x : Int} {pm : Option Addr} {n c : Nat} {res : Bool} (hres : decide (0 ≤ x ∧ x < ordI P M) = res) : Ctr Try.prog 85 [.agg #[.int .i64 P,.int .i64 M,.slice pm n c],.int .i64 x] [] [] (Rv (.bool res) []):=by
 subst hres
 refine Ctr_of_j' (F:=F_codewrightref04_Is) rfl fun C=>?_
 by_cases h : 0 ≤ x
 ·rw [show decide (0 ≤ x ∧ x < ordI P M) = decide (x < ordI P M) from decide_eq_decide.2 ⟨fun h=>h.2,fun h2=>⟨h,h2⟩⟩]
  refine j_nf [_,_] rfl (j_step rfl (x_box_agg rfl fun b1=>?_))
  refine j_run it 1 rfl (by simp) ?_
  refine j_nf [_,_] rfl (j_run it 3 rfl (by simp) ?_)
  refine j_split_dec (t:=7) rfl (fun h1=>?_) (fun h1=>by exfalso;omega)
  refine j_run it 1 rfl (by simp) ?_
  refine j_gstep rfl rfl (x_bld_all 0 rfl rfl ld24 rfl ?_)
  refine j_gstep rfl rfl (x_call [] rfl (S_codewrightref04_Order (by rfl)) rfl ?_)
  rintro _ _ _ ⟨rfl,rfl,rfl⟩
  simp only [List.cons_append,List.nil_append]
  refine j_run it 3 rfl (by simp) ?_
  refine j_nf [_] rfl ?_
  refine j_giv [] rfl rfl rfl ⟨rfl,rfl,rfl⟩
 ·rw [decide_eq_false fun h2=>h h2.1]
  refine j_nf [_,_] rfl (j_step rfl (x_box_agg rfl fun b1=>?_))
  refine j_run it 1 rfl (by simp) ?_
  refine j_nf [_,_] rfl (j_run it 3 rfl (by simp) ?_)
  refine j_split_dec (t:=7) rfl (fun h1=>by exfalso;omega) (fun h1=>?_)
  refine j_run it 6 rfl (by simp) ?_
  refine j_nf [_] rfl ?_
  refine j_giv [] rfl rfl rfl ⟨rfl,rfl,rfl⟩
def inI (q x : Int) : Int:=if 0 ≤ x ∧ x < q then x else 0
theorem S_codewrightref04_In {P M x : Int} {pm : Option Addr} {n c : Nat} {res : Int} (hres : inI (ordI P M) x = res) : Ctr Try.prog 53 [.agg #[.int .i64 P,.int .i64 M,.slice pm n c],.int .i64 x] [] [] (Rv (.int .i64 res) []):=by
 subst hres
 refine Ctr_of_j' (F:=F_codewrightref04_In) rfl fun C=>?_
 by_cases h : 0 ≤ x ∧ x < ordI P M
 ·have hd : decide (0 ≤ x ∧ x < ordI P M) = true:=decide_eq_true h
  rw [inI,if_pos h]
  refine j_nf [_,_] rfl (j_step rfl (x_box_agg rfl fun b1=>?_))
  refine j_run it 1 rfl (by simp) ?_
  refine j_nf [_,_,_] rfl (j_step rfl (x_bld_all 0 rfl rfl ld24 rfl ?_))
  refine j_run it 1 rfl (by simp) ?_
  refine j_step rfl (x_call [] rfl (S_codewrightref04_Is (by omega)) rfl ?_)
  rintro _ _ _ ⟨rfl,rfl,rfl⟩
  simp only [List.cons_append,List.nil_append]
  refine j_nf [_,_] rfl ?_
  refine j_true rfl rfl ?_
  refine j_nf [_,_,_] rfl (j_run it 2 rfl (by simp) ?_)
  refine j_nf [_,_] rfl ?_
  refine j_giv [] rfl rfl rfl ⟨rfl,rfl,rfl⟩
 ·have hd : decide (0 ≤ x ∧ x < ordI P M) = false:=decide_eq_false h
  rw [inI,if_neg h]
  refine j_nf [_,_] rfl (j_step rfl (x_box_agg rfl fun b1=>?_))
  refine j_run it 1 rfl (by simp) ?_
  refine j_nf [_,_,_] rfl (j_step rfl (x_bld_all 0 rfl rfl ld24 rfl ?_))
  refine j_run it 1 rfl (by simp) ?_
  refine j_step rfl (x_call [] rfl (S_codewrightref04_Is (by omega)) rfl ?_)
  rintro _ _ _ ⟨rfl,rfl,rfl⟩
  simp only [List.cons_append,List.nil_append]
  refine j_nf [_,_] rfl ?_
  refine j_false rfl rfl ?_
  refine j_nf [_,_] rfl (j_run it 1 rfl (by simp) ?_)
  refine j_nf [_] rfl ?_
  refine j_giv [] rfl rfl rfl ⟨rfl,rfl,rfl⟩
abbrev OvI (e : TypeId) (n : Nat) (l : List Nat) : Value → List Fact → List Blk → Prop:=fun v Φ β=>∃ b,v = .slice (some ⟨b,0,none⟩) n n ∧ Φ = [] ∧ β = [(some b,e,natCells .i64 l)]
theorem O_codewrightref04_digits {p n x : Nat} (hp : 1 ≤ p) (hp2 : p ≤ 1000000) (hn : n ≤ 100) (hx : x ≤ 1000000000) : Ctr Try.prog 87 [.int .i64 x,.int .i64 p,.int .i64 n] [] [] (OvI 3 n (dig p n x)):=by
 refine Ctr_of_j' (F:=F_codewrightref04_digits) rfl fun C=>?_
 have hl:=dig_len p n x
 refine j_nf [_,_] rfl (j_run it 1 rfl (by simp) ?_)
 refine j_nf [_,_] rfl (j_run it 1 rfl (by simp) ?_)
 refine j_step rfl (x_make_nat (n) _ rfl rfl sl22 zo22e by22e (by omega) (by omega) (by omega) fun b1=>?_)
 refine j_run it 1 rfl (by simp) ?_
 refine j_nf [_,_,_] rfl (j_run it 1 rfl (by simp) ?_)
 refine j_nf [_,_,_] rfl ?_
 rw [show List.replicate n 0 = (dig p n x).take 0++List.replicate (n - 0) 0 by simp]
 refine j_loopG (X:=Nat) [1,2,6,7] [] (fun i=>[(8,.int .i64 (i : Int)),(0,.int .i64 ((x / p ^ i : Nat) : Int))]) (fun i=>[(some b1,3,natCells .i64 ((dig p n x).take i++List.replicate (n - i) 0))]) (fun _=>[]) (fun i=>i ≤ n) (fun i=>n - i) 0 [] rfl rfl rfl (Nat.zero_le _) (by refine Fr.sub_cons rfl ?_;refine Fr.sub_consI rfl (by simp) ?_;repeat (first | exact Fr.sub_nil _ | refine Fr.sub_cons rfl ?_)) rfl rfl ?_
 rintro i hi ih
 simp only [List.cons_append,List.nil_append] at hi ih ⊢
 have hxi : x / p ^ i ≤ x:=Nat.div_le_self _ _
 have hz:=fun h=>dig_at (p:=p) (n:=n) (i:=i) (x:=x) h
 have hnx : x / p ^ (i + 1) = x / p ^ i / p:=by rw [Nat.pow_succ,← Nat.div_div_eq_div_mul]
 by_cases hil : i < n
 ·have ih':=ih (i + 1) (by omega) (by omega)
  rw [hnx,← fill_set hl hil (hz hil)] at ih'
  generalize x / p ^ i = y at *
  have e1 : (y : Int) % (p : Int) = ((y % p : Nat) : Int):=(Int.natCast_emod _ _).symm
  have e2 : (y : Int) / (p : Int) = ((y / p : Nat) : Int):=(Int.natCast_ediv _ _).symm
  have hlen : ((dig p n x).take i++List.replicate (n - i) 0).length = n:=by simp [hl];omega
  refine j_nf [_,_,_,_,_,_] rfl (j_run it 3 rfl (by simp) ?_)
  refine j_nf [_,_,_,_,_] rfl (j_if rfl rfl (fun h1=>?_) (fun h1=>by exfalso;omega))
  refine j_nf [_,_,_,_,_,_,_] rfl (j_run it 5 rfl ⟨⟨by omega,by omega⟩,trivial,trivial,trivial,trivial,trivial⟩ ?_)
  refine j_step rfl (x_idx_own (i) (i) rfl rfl sl22 rfl (by omega) (Nat.mul_one _) ?_)
  refine j_step rfl (x_bst_nat 0 ((y) % (p)) rfl rfl rfl ld3 (by first | rfl | omega) (by first | omega | (simp;omega)) ?_)
  refine j_nf [_,_,_,_,_,_] rfl (j_run it 4 rfl ⟨trivial,⟨by omega,by omega,by omega,by omega⟩,trivial,trivial,trivial⟩ ?_)
  refine j_nf [_,_,_,_] rfl (j_run it 3 rfl ⟨trivial,⟨by omega,by omega⟩,trivial,trivial⟩ ?_)
  refine j_nfn 1 [.lp (pL 116),.blk 0,.c [1,1,1]] rfl ?_
  rw [e2]
  refine j_to [] (by exact fra rfl) rfl rfl (ih')
 ·obtain rfl : i = n:=by omega
  clear hz hnx
  rw [List.take_of_length_le (by omega),Nat.sub_self,List.replicate_zero,List.append_nil]
  refine j_nf [_,_,_,_,_,_] rfl (j_run it 3 rfl (by simp) ?_)
  refine j_nf [_,_,_,_,_] rfl (j_if rfl rfl (fun h1=>by exfalso;omega) (fun h1=>?_))
  refine j_nf [_,_] rfl (j_run it 2 rfl (by simp) ?_)
  refine j_nf [_] rfl ?_
  refine j_gives [] rfl rfl rfl ⟨_,rfl,rfl,rfl⟩
theorem S_codewrightref04_Digits {p m nm cm : Nat} {md : List Int} {pm : Option Addr} (K : Fok p m md) {x : Int} (x0 : 0 ≤ x) (x1 : x < ((p ^ m : Nat) : Int)) : Ctr Try.prog 88 [.agg #[.int .i64 p,.int .i64 m,.slice pm nm cm],.int .i64 x] [] [] (OvI 3 m (dig p m x.toNat)):=by
 refine Ctr_of_j' (F:=F_codewrightref04_Digits) rfl fun C=>?_
 have h1:=K.p2
 have h2:=K.p256
 have h3:=K.m8
 have h4:=K.q
 have hi : inI (ordI (p : Int) (m : Int)) x = ((x.toNat : Nat) : Int):=by rw [K.ord,inI,if_pos ⟨x0,x1⟩];omega
 have hx : x.toNat ≤ 1000000000:=by omega
 have c_codewrightref04_digits:=@O_codewrightref04_digits
 refine j_nf [_,_] rfl ?_
 refine j_step rfl (x_box_agg rfl fun b1=>?_)
 refine j_run it 1 rfl (by simp) ?_
 refine j_nf [_,_] rfl ?_
 (apply j_drawK it mx 7;(· rfl);(· rfl))
 (apply lxk_eq;(· rfl);(· exact d_bld_all 0 rfl rfl ld24 rfl))
 (apply lxk_run 1;(· rfl);(· simp))
 (apply lxk_eq;(· rfl);(· exact d_x fun _=>x_call [] rfl (S_codewrightref04_In (by omega)) rfl (by rintro _ _ _ ⟨rfl,rfl,rfl⟩;exact dk_eq)))
 (apply lxk_eq;(· rfl);(· exact d_x fun _=>x_field rfl fd24_0 dk_eq))
 (apply lxk_eq;(· rfl);(· exact d_bld 0 rfl rfl ld3 rfl))
 (apply lxk_eq;(· rfl);(· exact d_x fun _=>x_field rfl fd24_1 dk_eq))
 (apply lxk_eq;(· rfl);(· exact d_bld 0 rfl rfl ld3 rfl))
 refine lxk_end rfl ?_
 simp only [List.map_cons,List.map_nil,List.cons_append,List.nil_append]
 refine j_step rfl (x_call [] rfl (c_codewrightref04_digits (by omega) (by omega) (by omega) (by omega)) rfl ?_)
 rintro _ _ _ ⟨b2,rfl,rfl,rfl⟩
 simp only [List.cons_append,List.nil_append]
 refine j_run it 1 rfl (by simp) ?_
 refine j_nf [_] rfl ?_
 refine j_givK 2 [0] [] rfl (.tmp rfl .nil) rfl rfl rfl ⟨_,rfl,rfl,rfl⟩
theorem mix_set {T D : List Nat} {i n : Nat} (hT : T.length = n) (hD : D.length = n) (hi : i < n) {z : Nat} (hz : T[i]? = some z) : (T.take i++D.drop i).set i z = T.take (i + 1)++D.drop (i + 1):=by
 have hl : (T.take i).length = i:=by rw [List.length_take];omega
 rw [List.set_append,if_neg (by omega),hl,Nat.sub_self,List.drop_eq_getElem_cons (by omega),List.set_cons_zero,List.take_add_one,hz]
 simp
theorem mix_at {T D : List Nat} {i n : Nat} (hT : T.length = n) (hD : D.length = n) (hi : i < n) : (T.take i++D.drop i)[i]? = D[i]?:=by
 have hl : (T.take i).length = i:=by rw [List.length_take];omega
 rw [List.getElem?_append_right (by omega),hl,Nat.sub_self,List.getElem?_drop,Nat.add_zero]
theorem S_codewrightref04_Add {p m nm cm : Nat} {md : List Int} {pm : Option Addr} (K : Fok p m md) {x y : Int} (x0 : 0 ≤ x) (x1 : x < ((p ^ m : Nat) : Int)) (y0 : 0 ≤ y) (y1 : y < ((p ^ m : Nat) : Int)) :
  Ctr Try.prog 58 [.agg #[.int .i64 p,.int .i64 m,.slice pm nm cm],.int .i64 x,.int .i64 y] [] [] (Rv (.int .i64 (liftI (fA p m) x y)) []):=by
 refine Ctr_of_j' (F:=F_codewrightref04_Add) rfl fun C=>?_
 have h1:=K.p2
 have h2:=K.p256
 have h3:=K.m8
 have h4:=K.q
 let T : List Nat:=(List.range m).map fun j=>((dig p m x.toNat).getD j 0 + (dig p m y.toNat).getD j 0) % p
 have lT : T.length = m:=by simp [T]
 have lx:=dig_len p m x.toNat
 have ly:=dig_len p m y.toNat
 have eT : valP p T = fA p m x.toNat y.toNat:=by
  rw [fA,un]
  congr 1
  refine List.map_congr_left fun j hj=>?_
  have hj:=List.mem_range.1 hj
  rw [rep_at hj,rep_at hj,← Int.natCast_add,← Int.natCast_emod]
  exact (Int.toNat_natCast _).symm
 have rT : ∀ d ∈ T,d < p:=fun d hd=>by
  obtain ⟨j,_,rfl⟩:=List.mem_map.1 hd
  exact Nat.mod_lt _ (by omega)
 have tz : ∀ i,i < m → T[i]? = some (((dig p m x.toNat).getD i 0 + (dig p m y.toNat).getD i 0) % p):=fun i hi=>by
  rw [List.getElem?_map,List.getElem?_range hi];rfl
 have xr:=fun d hd=>dig_lt (p:=p) (n:=m) (x:=x.toNat) (by omega) d hd
 have yr:=fun d hd=>dig_lt (p:=p) (n:=m) (x:=y.toNat) (by omega) d hd
 have eR : liftI (fA p m) x y = ((valP p T : Nat) : Int):=by rw [eT];rfl
 rw [eR]
 clear eR eT
 clear_value T
 have ep : p ^ T.length ≤ 1000000:=by rw [lT];omega
 refine j_nf [_,_] rfl ?_
 refine j_step rfl (x_box_agg rfl fun b1=>?_)
 refine j_run it 1 rfl (by simp) ?_
 refine j_nf [_,_] rfl ?_
 refine j_step rfl (x_bld_all 0 rfl rfl ld24 rfl ?_)
 refine j_run it 1 rfl (by simp) ?_
 refine j_step rfl (x_call [] rfl (S_codewrightref04_Digits (by omega) (by omega) (by omega)) rfl ?_)
 rintro _ _ _ ⟨b2,rfl,rfl,rfl⟩
 simp only [List.cons_append,List.nil_append]
 refine j_run it 1 rfl (by simp) ?_
 refine j_nf [_,_] rfl ?_
 refine j_step rfl (x_bld_all 1 rfl rfl ld24 rfl ?_)
 refine j_run it 1 rfl (by simp) ?_
 refine j_step rfl (x_call [] rfl (S_codewrightref04_Digits (by omega) (by omega) (by omega)) rfl ?_)
 rintro _ _ _ ⟨b3,rfl,rfl,rfl⟩
 simp only [List.cons_append,List.nil_append]
 refine j_run it 1 rfl (by simp) ?_
 refine j_nf [_,_,_] rfl ?_
 refine j_run it 1 rfl (by simp) ?_
 refine j_nf [_,_,_] rfl ?_
 rw [show natCells .i64 (dig p m x.toNat) = natCells .i64 (T.take 0++(dig p m x.toNat).drop 0) by simp]
 refine j_loopG (X:=Nat) [3,6,7,8] [] (fun i=>[(9,.int .i64 (i : Int))]) (fun i=>[(some b3,3,natCells .i64 (dig p m y.toNat)),(some b2,3,natCells .i64 (T.take i++(dig p m x.toNat).drop i)),(some b1,24,[.int .i64 p,.int .i64 m,.slice pm nm cm])]) (fun _=>[]) (fun i=>i ≤ m) (fun i=>m - i) 0 [] rfl rfl rfl (Nat.zero_le _) (by repeat (first | exact Fr.sub_nil _ | refine Fr.sub_cons rfl ?_)) rfl rfl ?_
 rintro i hi ih
 simp only [List.cons_append,List.nil_append] at hi ih ⊢
 by_cases hil : i < m
 ·have zx : (dig p m x.toNat)[i]? = some ((dig p m x.toNat).getD i 0):=by rw [List.getD_eq_getElem?_getD,List.getElem?_eq_getElem (by omega)];rfl
  have zy : (dig p m y.toNat)[i]? = some ((dig p m y.toNat).getD i 0):=by rw [List.getD_eq_getElem?_getD,List.getElem?_eq_getElem (by omega)];rfl
  have zt:=tz i hil
  have bx:=xr _ (List.mem_of_getElem? zx)
  have by':=yr _ (List.mem_of_getElem? zy)
  have ih':=ih (i + 1) (by omega) (by omega)
  have zm:=(mix_at (T:=T) (D:=dig p m x.toNat) lT lx hil).trans zx
  have lm : (T.take i++(dig p m x.toNat).drop i).length = m:=by rw [List.length_append,List.length_take,List.length_drop];omega
  rw [← mix_set lT lx hil zt] at ih'
  generalize (dig p m x.toNat).getD i 0 = u at *
  generalize (dig p m y.toNat).getD i 0 = v at *
  have em : ((u : Int) + (v : Int)) % (p : Int) = (((u + v) % p : Nat) : Int):=by rw [← Int.natCast_add,← Int.natCast_emod]
  refine j_nf [_,_,_,_,_,_] rfl ?_
  refine j_run it 2 rfl (by simp) ?_
  refine j_step rfl (x_len sl22 rfl ?_)
  refine j_run it 1 rfl (by simp) ?_
  refine j_nf [_,_,_,_,_] rfl ?_
  refine j_if rfl rfl (fun h5=>?_) (fun h5=>by exfalso;omega)
  refine j_nf [_,_,_,_,_,_] rfl ?_
  (apply j_drawK it mx 14;(· rfl);(· rfl))
  (apply lxk_run 4;(· rfl);(· simp))
  (apply lxk_eq;(· rfl);(· exact d_x fun _=>x_idx_own (i) (i) rfl rfl sl22 rfl (by omega) (Nat.mul_one _) dk_eq))
  (apply lxk_eq;(· rfl);(· exact d_bld_nat 1 rfl rfl ld3 (by assumption)))
  (apply lxk_run 2;(· rfl);(· simp))
  (apply lxk_eq;(· rfl);(· exact d_x fun _=>x_idx_own (i) (i) rfl rfl sl22 rfl (by omega) (Nat.mul_one _) dk_eq))
  (apply lxk_eq;(· rfl);(· exact d_bld_nat 0 rfl rfl ld3 (by assumption)))
  (apply lxk_run 1;(· rfl);(· exact ⟨⟨by omega,by omega⟩,trivial⟩))
  (apply lxk_eq;(· rfl);(· exact d_x fun _=>x_field rfl fd24_0 dk_eq))
  (apply lxk_eq;(· rfl);(· exact d_bld 2 rfl rfl ld3 rfl))
  (apply lxk_run 1;(· rfl);(· exact ⟨⟨by omega,by omega⟩,trivial⟩))
  refine lxk_end rfl ?_
  simp only [List.map_cons,List.map_nil,List.cons_append,List.nil_append]
  refine j_step rfl (x_idx_own (i) (i) rfl rfl sl22 rfl (by omega) (Nat.mul_one _) ?_)
  refine j_step rfl (x_bst_nat 1 (((u) + (v)) % (p)) rfl rfl rfl ld3 (by first | rfl | omega) (by first | omega | (simp;omega)) ?_)
  refine j_nf [_,_,_,_] rfl ?_
  refine j_run it 3 rfl ⟨trivial,⟨by omega,by omega⟩,trivial,trivial⟩ ?_
  refine j_nfn 1 [.lp (pL 244),.blk 0,.c [1,1,1,1]] rfl ?_
  refine j_to [] (by exact fra rfl) rfl rfl (ih')
 ·obtain rfl : i = m:=by omega
  clear ih
  rw [List.take_of_length_le (by omega),List.drop_of_length_le (by omega),List.append_nil,natCells_toI .i64 T]
  refine j_nf [_,_,_,_,_,_] rfl ?_
  refine j_run it 2 rfl (by simp) ?_
  refine j_step rfl (x_len sl22 rfl ?_)
  refine j_run it 1 rfl (by simp) ?_
  refine j_nf [_,_,_,_,_] rfl ?_
  refine j_if rfl rfl (fun h5=>by exfalso;omega) (fun h5=>?_)
  refine j_nf [_,_] rfl ?_
  refine j_step rfl (x_bld_all 2 rfl rfl ld24 rfl ?_)
  refine j_run it 1 rfl (by simp) ?_
  refine j_pub_madei 8 (toI T) 1 rfl (by rw [toI_len,lT]) (toI_rng fun d hd=>by have:=rT d hd;omega) (by omega) (by omega) ?_
  simp only [List.eraseIdx_cons_zero,List.eraseIdx_cons_succ]
  refine j_step rfl (x_call [0] rfl (S_codewrightref04_Value (by rfl) (by omega) (by omega) (by omega) (by omega)) rfl ?_)
  rintro _ _ _ ⟨rfl,rfl,rfl⟩
  simp only [List.cons_append,List.nil_append]
  refine j_run it 1 rfl (by simp) ?_
  refine j_nf [_] rfl ?_
  refine j_giv [] rfl rfl rfl ⟨rfl,rfl,rfl⟩
open Go Go.Fw
set_option maxRecDepth 100000
set_option linter.unusedVariables false
set_option linter.unusedSimpArgs false
set_option maxHeartbeats 4000000
theorem toI_set (l : List Nat) (i z : Nat) : toI (l.set i z) = (toI l).set i (z : Int):=by simp [toI,List.map_set]
theorem toI_getD {l : List Nat} {i : Nat} : (toI l).getD i 0 = ((l.getD i 0 : Nat) : Int):=by
 rw [toI,List.getD_eq_getElem?_getD,List.getD_eq_getElem?_getD,List.getElem?_map]
 cases l[i]? <;> rfl
theorem getD_z {l : List Nat} {i : Nat} (h : i < l.length) : l[i]? = some (l.getD i 0):=by
 rw [List.getD_eq_getElem?_getD,List.getElem?_eq_getElem h];rfl
theorem toI_zeros (n : Nat) : toI (List.replicate n 0) = List.replicate n 0:=by simp [toI]
theorem S_codewrightref04_Mul {p m nm cm : Nat} {md : List Int} {pm : Option Addr} (K : Fok p m md) {x y : Int} (x0 : 0 ≤ x) (x1 : x < ((p ^ m : Nat) : Int)) (y0 : 0 ≤ y) (y1 : y < ((p ^ m : Nat) : Int)) :
  Ctr Try.prog 59 [.agg #[.int .i64 p,.int .i64 m,.slice pm nm cm],.int .i64 x,.int .i64 y] [] [slF I64 pm nm cm md] (Rv (.int .i64 (liftI (fM p (fpo m md)) x y)) []):=by
 refine Ctr_of_j' (F:=F_codewrightref04_Mul) rfl fun C=>?_
 have h1:=K.p2
 have h2:=K.p256
 have h3:=K.m8
 have h4:=K.q
 have h5:=K.m1
 have lx:=dig_len p m x.toNat
 have ly:=dig_len p m y.toNat
 have fl:=K.flen
 have md0:=mul_digs (p:=p) (by omega) (f:=fpo m md) (by omega) x.toNat y.toNat
 rw [fl] at md0
 have xr:=fun d hd=>dig_lt (p:=p) (n:=m) (x:=x.toNat) (by omega) d hd
 have yr:=fun d hd=>dig_lt (p:=p) (n:=m) (x:=y.toNat) (by omega) d hd
 have eR : liftI (fM p (fpo m md)) x y = ((valP p ((List.range m).map fun j=>(mulV (fpo m md) (rep p m x.toNat) (rep p m y.toNat) j % p).toNat) : Nat) : Int):=by
  rw [liftI,fM,un,fl]
 rw [eR]
 clear eR
 refine j_len 0 rfl fun hn _ _=>?_
 subst hn
 generalize hT : (List.range m).map (fun j=>(mulV (fpo m md) (rep p m x.toNat) (rep p m y.toNat) j % p).toNat) = T at *
 have lT : T.length = m:=by rw [← hT];simp
 have rT : ∀ d ∈ T,d < p:=fun d hd=>by rw [← hT] at hd;exact un_digs (by omega) _ d hd
 clear hT
 have ep : p ^ T.length ≤ 1000000:=by rw [lT];omega
 have c_codewrightref04_Digits:=fun {z : Int} (z0 : 0 ≤ z) (z1 : z < ((p ^ m : Nat) : Int))=>S_codewrightref04_Digits (nm:=md.length) (cm:=cm) (pm:=pm) K z0 z1
 refine j_nf [_,_] rfl ?_
 refine j_step rfl (x_box_agg rfl fun b1=>?_)
 refine j_run it 1 rfl (by simp) ?_
 refine j_nf [_,_] rfl ?_
 refine j_step rfl (x_bld_all 0 rfl rfl ld24 rfl ?_)
 refine j_run it 1 rfl (by simp) ?_
 refine j_step rfl (x_call [] rfl (c_codewrightref04_Digits (by omega) (by omega)) rfl ?_)
 rintro _ _ _ ⟨b2,rfl,rfl,rfl⟩
 simp only [List.cons_append,List.nil_append]
 refine j_run it 1 rfl (by simp) ?_
 refine j_nf [_,_] rfl ?_
 refine j_step rfl (x_bld_all 1 rfl rfl ld24 rfl ?_)
 refine j_run it 1 rfl (by simp) ?_
 refine j_step rfl (x_call [] rfl (c_codewrightref04_Digits (by omega) (by omega)) rfl ?_)
 rintro _ _ _ ⟨b3,rfl,rfl,rfl⟩
 simp only [List.cons_append,List.nil_append]
 refine j_run it 1 rfl (by simp) ?_
 refine j_nf [_,_] rfl ?_
 refine j_step rfl (x_field rfl fd24_1 ?_)
 refine j_step rfl (x_bld 2 rfl rfl ld3 rfl ?_)
 refine j_run it 2 rfl ⟨⟨by omega,by omega⟩,⟨by omega,by omega⟩,trivial⟩ ?_
 refine j_step rfl (x_make_nat ((2 * (m)) - 1) _ rfl rfl sl22 zo22e by22e (by omega) (by omega) (by omega) fun b4=>?_)
 refine j_run it 1 rfl (by simp) ?_
 refine j_nf [_,_,_] rfl ?_
 refine j_run it 1 rfl (by simp) ?_
 refine j_nf [_,_,_] rfl ?_
 generalize hDX : dig p m x.toNat = DX at *
 generalize hDY : dig p m y.toNat = DY at *
 have mL:=mulR_len p m (toI DX) (toI DY)
 have mR:=mulR_rng (p:=p) (by omega) m (toI DX) (toI DY)
 refine j_loopG (X:=Nat × List Nat) [3,6,7,8,9] [0] (fun x=>[(10,.int .i64 (x.1 : Int))]) (fun x=>[(some b4,3,natCells .i64 x.2),(some b3,3,natCells .i64 DY),(some b2,3,natCells .i64 DX),(some b1,24,[.int .i64 p,.int .i64 m,.slice pm md.length cm])]) (fun _=>[])
  (fun x=>x.1 ≤ m ∧ toI x.2 = mulR p m (toI DX) (toI DY) x.1) (fun x=>m - x.1) (0,List.replicate (2 * m - 1) 0) [] rfl rfl rfl ⟨Nat.zero_le _,toI_zeros _⟩ (by repeat (first | exact Fr.sub_nil _ | refine Fr.sub_cons rfl ?_)) rfl rfl ?_
 rintro ⟨i,L⟩ ⟨hi,hL⟩ ih
 simp only [List.cons_append,List.nil_append] at hi hL ih ⊢
 by_cases hil : i < m
 ·refine j_nf [_,_,_,_,_,_] rfl ?_
  refine j_run it 1 rfl (by simp) ?_
  refine j_step rfl (x_field rfl fd24_1 ?_)
  refine j_step rfl (x_bld 3 rfl rfl ld3 rfl ?_)
  refine j_run it 1 rfl (by simp) ?_
  refine j_nf [_,_,_,_,_] rfl ?_
  refine j_if rfl rfl (fun h6=>?_) (fun h6=>by exfalso;omega)
  refine j_nf [_,_,_,_,_,_,_] rfl ?_
  refine j_run it 1 rfl (by simp) ?_
  refine j_nf [_,_,_,_,_,_,_] rfl ?_
  have ihn:=fun l h=>ih (i + 1,l) (by dsimp only;omega) ⟨by dsimp only;omega,h⟩
  simp only [mulR] at ihn
  rw [← hL] at ihn
  have lL : L.length = 2 * m - 1:=by rw [← toI_len,hL,mL]
  have rL : ∀ z ∈ toI L,0 ≤ z ∧ z < (p : Int):=by rw [hL];exact mR i
  have zx:=getD_z (l:=DX) (i:=i) (by omega)
  have bx:=xr _ (List.mem_of_getElem? zx)
  rw [toI_getD] at ihn
  generalize DX.getD i 0 = u at *
  refine j_loopG (X:=Nat × List Nat) [3,6,7,8,9,10,25,26,27,28] [0] (fun x=>[(11,.int .i64 (x.1 : Int))]) (fun x=>[(some b4,3,natCells .i64 x.2),(some b3,3,natCells .i64 DY),(some b2,3,natCells .i64 DX),(some b1,24,[.int .i64 p,.int .i64 m,.slice pm md.length cm])]) (fun _=>[])
   (fun x=>x.1 ≤ m ∧ toI x.2 = stepR p (u : Int) (toI DY) i x.1 (toI L)) (fun x=>m - x.1) (0,L) [] rfl rfl rfl ⟨Nat.zero_le _,rfl⟩ (by repeat (first | exact Fr.sub_nil _ | refine Fr.sub_cons rfl ?_)) rfl rfl ?_
  rintro ⟨j,S⟩ ⟨hj,hS⟩ ihj
  simp only [List.cons_append,List.nil_append] at hj hS ihj ⊢
  by_cases hjl : j < m
  ·have lS : S.length = 2 * m - 1:=by rw [← toI_len,hS,stepR_len,toI_len,lL]
   have rS:=stepR_rng (p:=p) (by omega) (u : Int) (toI DY) i rL j
   rw [← hS] at rS
   have ihj':=fun l h=>ihj (j + 1,l) (by dsimp only;omega) ⟨by dsimp only;omega,h⟩
   simp only [stepR] at ihj'
   rw [← hS] at ihj'
   simp only [toI_getD] at ihj'
   have zy:=getD_z (l:=DY) (i:=j) (by omega)
   have by':=yr _ (List.mem_of_getElem? zy)
   have zs:=getD_z (l:=S) (i:=i + j) (by omega)
   have bs:=rS _ (List.mem_of_getElem? (toI_at zs))
   generalize DY.getD j 0 = v at *
   generalize S.getD (i + j) 0 = s at *
   have huv : u * v ≤ 65536:=Nat.le_trans (Nat.mul_le_mul (show u ≤ 256 by omega) (show v ≤ 256 by omega)) (by decide)
   have huv' : (u : Int) * (v : Int) = ((u * v : Nat) : Int):=by omega
   have hb0 : 0 ≤ (u : Int) * (v : Int) ∧ (u : Int) * (v : Int) ≤ 65536:=by omega
   have em : ((s : Int) + (u : Int) * (v : Int)) % (p : Int) = (((s + u * v) % p : Nat) : Int):=by rw [huv',← Int.natCast_add,← Int.natCast_emod]
   have hmod : (s + u * v) % p < p:=Nat.mod_lt _ (by omega)
   refine j_nf [_,_,_,_,_,_,_,_,_,_] rfl ?_
   refine j_run it 1 rfl (by simp) ?_
   refine j_step rfl (x_field rfl fd24_1 ?_)
   refine j_step rfl (x_bld 3 rfl rfl ld3 rfl ?_)
   refine j_run it 1 rfl (by simp) ?_
   refine j_nf [_,_,_,_,_,_,_,_,_] rfl ?_
   refine j_if rfl rfl (fun h7=>?_) (fun h7=>by exfalso;omega)
   refine j_nf [_,_,_,_,_,_,_,_,_,_] rfl ?_
   (apply j_drawK it mx 23;(· rfl);(· rfl))
   (apply lxk_run 8;(· rfl);(· exact ⟨⟨by omega,by omega⟩,trivial,trivial,trivial,⟨by omega,by omega⟩,trivial,trivial,trivial,trivial⟩))
   (apply lxk_eq;(· rfl);(· exact d_x fun _=>x_idx_own ((i) + (j)) ((i) + (j)) rfl rfl sl22 (by omega) (by omega) (Nat.mul_one _) dk_eq))
   (apply lxk_eq;(· rfl);(· exact d_bld_nat 0 rfl rfl ld3 (by assumption)))
   (apply lxk_run 2;(· rfl);(· simp))
   (apply lxk_eq;(· rfl);(· exact d_x fun _=>x_idx_own (i) (i) rfl rfl sl22 rfl (by omega) (Nat.mul_one _) dk_eq))
   (apply lxk_eq;(· rfl);(· exact d_bld_nat 2 rfl rfl ld3 (by assumption)))
   (apply lxk_run 2;(· rfl);(· simp))
   (apply lxk_eq;(· rfl);(· exact d_x fun _=>x_idx_own (j) (j) rfl rfl sl22 rfl (by omega) (Nat.mul_one _) dk_eq))
   (apply lxk_eq;(· rfl);(· exact d_bld_nat 1 rfl rfl ld3 (by assumption)))
   (apply lxk_run 2;(· rfl);(· exact ⟨⟨by omega,by omega⟩,⟨by omega,by omega⟩,trivial⟩))
   (apply lxk_eq;(· rfl);(· exact d_x fun _=>x_field rfl fd24_0 dk_eq))
   (apply lxk_eq;(· rfl);(· exact d_bld 3 rfl rfl ld3 rfl))
   (apply lxk_run 1;(· rfl);(· exact ⟨⟨by omega,by omega⟩,trivial⟩))
   refine lxk_end rfl ?_
   simp only [List.map_cons,List.map_nil,List.cons_append,List.nil_append]
   refine j_step rfl (x_idx_own ((i) + (j)) ((i) + (j)) rfl rfl sl22 (by omega) (by omega) (Nat.mul_one _) ?_)
   refine j_step rfl (x_bst_nat 0 (((s) + ((u) * (v))) % (p)) rfl rfl rfl ld3 (by first | rfl | omega) (by first | omega | (simp;omega)) ?_)
   refine j_nf [_,_,_,_,_,_,_,_] rfl ?_
   refine j_run it 3 rfl ⟨trivial,⟨by omega,by omega⟩,trivial,trivial⟩ ?_
   refine j_nfn 1 [.lp (pL 32036),.blk 2,.blk 1,.c (pL 2003),.lp (pL 500),.blk 0,.c [1,1,1,1,1]] rfl ?_
   refine j_to [0] (by exact fra rfl) rfl rfl (ihj' (S.set (i + j) ((s + u * v) % p)) (by rw [toI_set,← em]))
  ·obtain rfl : j = m:=by omega
   refine j_nf [_,_,_,_,_,_,_,_,_,_] rfl ?_
   refine j_run it 1 rfl (by simp) ?_
   refine j_step rfl (x_field rfl fd24_1 ?_)
   refine j_step rfl (x_bld 3 rfl rfl ld3 rfl ?_)
   refine j_run it 1 rfl (by simp) ?_
   refine j_nf [_,_,_,_,_,_,_,_,_] rfl ?_
   refine j_if rfl rfl (fun h7=>by exfalso;omega) (fun h7=>?_)
   refine j_nf [_,_,_,_] rfl ?_
   refine j_run it 3 rfl ⟨trivial,⟨by omega,by omega⟩,trivial,trivial⟩ ?_
   refine j_nfn 1 [.lp (pL 500),.blk 0,.c [1,1,1,1,1]] rfl ?_
   refine j_to [0] (by exact fra rfl) rfl rfl (ihn S hS)
 ·obtain rfl : i = m:=by omega
  clear ih
  rw [← hL] at md0
  have lL : L.length = 2 * i - 1:=by rw [← toI_len,hL,mL]
  have rL : ∀ z ∈ toI L,0 ≤ z ∧ z < (p : Int):=by rw [hL];exact mR i
  clear hL mL mR
  have kL:=redL_len p (fpo i md) (toI L)
  have kR:=redL_rng (p:=p) (by omega) (fpo i md) rL
  have tl : (toI L).length = 2 * i - 1:=by rw [toI_len,lL]
  rw [tl] at kL
  refine j_nf [_,_,_,_,_,_] rfl ?_
  refine j_run it 1 rfl (by simp) ?_
  refine j_step rfl (x_field rfl fd24_1 ?_)
  refine j_step rfl (x_bld 3 rfl rfl ld3 rfl ?_)
  refine j_run it 1 rfl (by simp) ?_
  refine j_nf [_,_,_,_,_] rfl ?_
  refine j_if rfl rfl (fun h6=>by exfalso;omega) (fun h6=>?_)
  refine j_nf [_,_,_] rfl ?_
  refine j_step rfl (x_field rfl fd24_1 ?_)
  refine j_step rfl (x_bld 3 rfl rfl ld3 rfl ?_)
  refine j_run it 3 rfl ⟨trivial,⟨by omega,by omega⟩,⟨by omega,by omega⟩,trivial⟩ ?_
  refine j_nf [_,_,_] rfl ?_
  refine j_loopG (X:=Nat × List Nat) [3,6,9] [0] (fun x=>[(12,.int .i64 (2 * (i : Int) - 2 - (x.1 : Int)))]) (fun x=>[(some b4,3,natCells .i64 x.2),(some b3,3,natCells .i64 DY),(some b2,3,natCells .i64 DX),(some b1,24,[.int .i64 p,.int .i64 i,.slice pm md.length cm])]) (fun _=>[])
   (fun x=>x.1 ≤ i - 1 ∧ toI x.2 = redL p (fpo i md) (toI L) x.1) (fun x=>i - 1 - x.1) (0,L) [] rfl rfl rfl ⟨Nat.zero_le _,rfl⟩ (by refine Fr.sub_consI rfl (by simp) ?_;repeat (first | exact Fr.sub_nil _ | refine Fr.sub_cons rfl ?_)) rfl rfl ?_
  rintro ⟨n,Z⟩ ⟨hn,hZ⟩ ih
  simp only [List.cons_append,List.nil_append] at hn hZ ih ⊢
  by_cases hnl : n < i - 1
  ·have hi1 : i ≠ 1:=by omega
   have hfp : fpo i md = md:=if_neg hi1
   have hml : md.length = i:=K.len hi1
   have hrm:=K.rng
   refine j_nf [_,_,_,_,_,_] rfl ?_
   refine j_run it 1 rfl (by simp) ?_
   refine j_step rfl (x_field rfl fd24_1 ?_)
   refine j_step rfl (x_bld 3 rfl rfl ld3 rfl ?_)
   refine j_run it 1 rfl (by simp) ?_
   refine j_nf [_,_,_,_,_] rfl ?_
   refine j_if rfl rfl (fun h7=>?_) (fun h7=>by exfalso;omega)
   refine j_nf [_,_,_,_,_,_,_] rfl ?_
   refine j_run it 1 rfl (by simp) ?_
   refine j_nf [_,_,_,_,_,_,_] rfl ?_
   have ihn:=fun l h=>ih (n + 1,l) (by dsimp only;omega) ⟨by dsimp only;omega,h⟩
   simp only [redL] at ihn
   rw [← hZ,tl,hfp,toI_getD,show 2 * i - 1 - 1 - n = 2 * i - 2 - n by omega] at ihn
   have lZ : Z.length = 2 * i - 1:=by rw [← toI_len,hZ,kL]
   have rZ : ∀ z ∈ toI Z,0 ≤ z ∧ z < (p : Int):=by rw [hZ];exact kR n
   have zc:=getD_z (l:=Z) (i:=2 * i - 2 - n) (by omega)
   have bc:=rZ _ (List.mem_of_getElem? (toI_at zc))
   generalize hcv : Z.getD (2 * i - 2 - n) 0 = c at *
   have hpc : (p : Int) - (c : Int) = ((p - c : Nat) : Int):=by omega
   rw [hpc] at ihn
   refine j_loopG (X:=Nat × List Nat) [3,6,9,12,65,66,67,68] [0] (fun x=>[(13,.int .i64 (x.1 : Int))]) (fun x=>[(some b4,3,natCells .i64 x.2),(some b3,3,natCells .i64 DY),(some b2,3,natCells .i64 DX),(some b1,24,[.int .i64 p,.int .i64 i,.slice pm md.length cm])]) (fun _=>[])
    (fun x=>x.1 ≤ i ∧ toI x.2 = stepR p ((p - c : Nat) : Int) md (2 * i - 2 - n - i) x.1 (toI Z)) (fun x=>i - x.1) (0,Z) [] rfl rfl rfl ⟨Nat.zero_le _,rfl⟩ (by repeat (first | exact Fr.sub_nil _ | refine Fr.sub_cons rfl ?_)) rfl rfl ?_
   rintro ⟨j,S⟩ ⟨hj,hS⟩ ihj
   simp only [List.cons_append,List.nil_append] at hj hS ihj ⊢
   by_cases hjl : j < i
   ·have lS : S.length = 2 * i - 1:=by rw [← toI_len,hS,stepR_len,toI_len,lZ]
    have rS:=stepR_rng (p:=p) (by omega) ((p - c : Nat) : Int) md (2 * i - 2 - n - i) rZ j
    rw [← hS] at rS
    have oS:=stepR_out p ((p - c : Nat) : Int) md (2 * i - 2 - n - i) (toI Z) (i:=2 * i - 2 - n) j (by omega)
    rw [← hS,toI_getD,toI_getD,hcv] at oS
    have ihj':=fun l h=>ihj (j + 1,l) (by dsimp only;omega) ⟨by dsimp only;omega,h⟩
    simp only [stepR] at ihj'
    rw [← hS] at ihj'
    simp only [toI_getD] at ihj'
    have hdd : md.getD j 0 = md.getD j default:=rfl
    rw [hdd] at ihj'
    have zm : md[j]? = some (md.getD j default):=by rw [List.getD_eq_getElem?_getD,List.getElem?_eq_getElem (by omega)];rfl
    have bm:=hrm _ (List.mem_of_getElem? zm)
    have zi:=getD_z (l:=S) (i:=2 * i - 2 - n) (by omega)
    rw [show S.getD (2 * i - 2 - n) 0 = c by omega] at zi
    have zs:=getD_z (l:=S) (i:=2 * i - 2 - n - i + j) (by omega)
    have bs:=rS _ (List.mem_of_getElem? (toI_at zs))
    generalize S.getD (2 * i - 2 - n - i + j) 0 = s at *
    have hb0 : 0 ≤ ((p - c : Nat) : Int) * md.getD j default:=Int.mul_nonneg (by omega) bm.1
    have hb1 : ((p - c : Nat) : Int) * md.getD j default ≤ 65536:=Int.le_trans (Int.mul_le_mul (show ((p - c : Nat) : Int) ≤ 256 by omega) (show md.getD j default ≤ 256 by omega) bm.1 (by decide)) (by decide)
    have em0 : 0 ≤ ((s : Int) + ((p - c : Nat) : Int) * md.getD j default) % (p : Int):=Int.emod_nonneg _ (by omega)
    have em1 : ((s : Int) + ((p - c : Nat) : Int) * md.getD j default) % (p : Int) < p:=Int.emod_lt_of_pos _ (by omega)
    refine j_nf [_,_,_,_,_,_,_,_,_,_] rfl ?_
    refine j_run it 1 rfl (by simp) ?_
    refine j_step rfl (x_field rfl fd24_1 ?_)
    refine j_step rfl (x_bld 3 rfl rfl ld3 rfl ?_)
    refine j_run it 1 rfl (by simp) ?_
    refine j_nf [_,_,_,_,_,_,_,_,_] rfl ?_
    refine j_if rfl rfl (fun h8=>?_) (fun h8=>by exfalso;omega)
    refine j_nf [_,_,_,_,_,_,_,_,_,_] rfl ?_
    (apply j_drawK it mx 33;(· rfl);(· rfl))
    (apply lxk_run 2;(· rfl);(· simp))
    (apply lxk_eq;(· rfl);(· exact d_x fun _=>x_field rfl fd24_1 dk_eq))
    (apply lxk_eq;(· rfl);(· exact d_bld 3 rfl rfl ld3 rfl))
    (apply lxk_eq (v:=Value.int IntKind.i64 ((((((2 * (i)) - 2) - (n)) - (i) : Nat)) : Int));(· rfl);(· exact d_x fun _=>x_asN it _ rfl ⟨by omega,by omega⟩ (by omega) dk_eq))
    simp only [Nat.add_sub_cancel]
    (apply lxk_run 4;(· rfl);(· exact ⟨trivial,trivial,⟨by omega,by omega⟩,trivial,trivial⟩))
    (apply lxk_eq;(· rfl);(· exact d_x fun _=>x_field rfl fd24_1 dk_eq))
    (apply lxk_eq;(· rfl);(· exact d_bld 3 rfl rfl ld3 rfl))
    (apply lxk_eq (v:=Value.int IntKind.i64 ((((((2 * (i)) - 2) - (n)) - (i) : Nat)) : Int));(· rfl);(· exact d_x fun _=>x_asN it _ rfl ⟨by omega,by omega⟩ (by omega) dk_eq))
    simp only [Nat.add_sub_cancel]
    (apply lxk_run 2;(· rfl);(· exact ⟨⟨by omega,by omega⟩,trivial,trivial⟩))
    (apply lxk_eq;(· rfl);(· exact d_x fun _=>x_idx_own ((2 * i - 2 - n - i) + (j)) ((2 * i - 2 - n - i) + (j)) rfl rfl sl22 (by omega) (by omega) (Nat.mul_one _) dk_eq))
    (apply lxk_eq;(· rfl);(· exact d_bld_nat 0 rfl rfl ld3 (by assumption)))
    (apply lxk_eq;(· rfl);(· exact d_x fun _=>x_field rfl fd24_0 dk_eq))
    (apply lxk_eq;(· rfl);(· exact d_bld 3 rfl rfl ld3 rfl))
    (apply lxk_run 2;(· rfl);(· simp))
    (apply lxk_eq;(· rfl);(· exact d_x fun _=>x_idx_own (((2 * (i)) - 2) - (n)) (((2 * (i)) - 2) - (n)) rfl rfl sl22 (by omega) (by omega) (Nat.mul_one _) dk_eq))
    (apply lxk_eq;(· rfl);(· exact d_bld_nat 0 rfl rfl ld3 (by assumption)))
    (apply lxk_eq (v:=Value.int IntKind.i64 ((((p) - (c) : Nat)) : Int));(· rfl);(· exact d_x fun _=>x_asN it _ rfl ⟨by omega,by omega⟩ (by omega) dk_eq))
    simp only [Nat.add_sub_cancel]
    (apply lxk_eq;(· rfl);(· exact d_x fun _=>x_field rfl fd24_2 dk_eq))
    (apply lxk_eq;(· rfl);(· exact d_bld 3 rfl rfl ld22 rfl))
    (apply lxk_run 1;(· rfl);(· simp))
    (apply lxk_pt;(· rfl);(· exact d_x fun _=>x_idx 0 (j) rfl rfl rfl sl22 rfl (by omega) fun z1 hz1 b5 o1=>(dk_ptD default hz1 0 rfl));intro b5 o1)
    (apply lxk_eq;(· rfl);(· exact d_x fun _=>x_ld_int 0 rfl rfl ld3 fun ⟨r1,r2⟩=>dk_eq))
    (apply lxk_run 2;(· rfl);(· exact ⟨⟨by omega,by omega⟩,⟨by omega,by omega⟩,trivial⟩))
    (apply lxk_eq;(· rfl);(· exact d_x fun _=>x_field rfl fd24_0 dk_eq))
    (apply lxk_eq;(· rfl);(· exact d_bld 3 rfl rfl ld3 rfl))
    (apply lxk_run 1;(· rfl);(· exact ⟨⟨by omega,by omega⟩,trivial⟩))
    refine lxk_end rfl ?_
    simp only [List.map_cons,List.map_nil,List.cons_append,List.nil_append]
    refine j_step rfl (x_idx_own ((2 * i - 2 - n - i) + (j)) ((2 * i - 2 - n - i) + (j)) rfl rfl sl22 (by omega) (by omega) (Nat.mul_one _) ?_)
    refine j_step rfl (x_bst_nat 0 (((s) + ((p - c) * ((md.getD j default : Int).toNat))) % (p)) rfl rfl rfl ld3 ?_ ?_ ?_)
    ·rw [Int.natCast_emod,Int.natCast_add,Int.natCast_mul,Int.toNat_of_nonneg bm.1]
    ·rw [lS];omega
    refine j_nf [_,_,_,_,_,_,_,_] rfl ?_
    refine j_run it 3 rfl ⟨trivial,⟨by omega,by omega⟩,trivial,trivial⟩ ?_
    refine j_nfn 1 [.lp (pL 64804),.blk 6,.blk 5,.c (pL 4051),.lp (pL 1012),.blk 4,.c (pL 127)] rfl ?_
    refine j_to [1] (by exact fra rfl) rfl rfl (ihj' (S.set (2 * i - 2 - n - i + j) ((s + (p - c) * (md.getD j default).toNat) % p)) (by rw [toI_set,Int.natCast_emod,Int.natCast_add,Int.natCast_mul,Int.toNat_of_nonneg bm.1]))
   ·obtain rfl : j = i:=by omega
    refine j_nf [_,_,_,_,_,_,_,_,_,_] rfl ?_
    refine j_run it 1 rfl (by simp) ?_
    refine j_step rfl (x_field rfl fd24_1 ?_)
    refine j_step rfl (x_bld 3 rfl rfl ld3 rfl ?_)
    refine j_run it 1 rfl (by simp) ?_
    refine j_nf [_,_,_,_,_,_,_,_,_] rfl ?_
    refine j_if rfl rfl (fun h8=>by exfalso;omega) (fun h8=>?_)
    refine j_nf [_,_,_,_] rfl ?_
    refine j_run it 3 rfl ⟨trivial,⟨by omega,by omega⟩,trivial,trivial⟩ ?_
    refine j_nfn 1 [.lp (pL 1012),.blk 4,.c (pL 127)] rfl ?_
    refine j_to [0] (by exact fii rfl (by omega) (fcc rfl (fcc rfl (fcc rfl (fzz _))))) rfl rfl (ihn S (by rw [hml];exact hS))
  ·obtain rfl : n = i - 1:=by omega
   rw [← hZ] at md0
   have lZ : Z.length = 2 * i - 1:=by rw [← toI_len,hZ,kL]
   have rZ : ∀ z ∈ toI Z,0 ≤ z ∧ z < (p : Int):=by rw [hZ];exact kR (i - 1)
   have c_codewrightref04_Value:=fun {pd : Option Addr} {cd : Nat}=>S_codewrightref04_Value (P:=(p : Int)) (M:=(i : Int)) (pm:=pm) (pd:=pd) (nm:=md.length) (cm:=cm) (nd:=i) (cd:=cd) (p:=p) (l:=T) rfl (by omega) h2 rT ep
   rw [← md0] at c_codewrightref04_Value
   rw [natCells_toI .i64 Z]
   refine j_pub_madei 8 (toI Z) 0 rfl (by rw [toI_len,lZ]) (fun z hz=>by have:=rZ z hz;simp only [InR];omega) (by omega) (by omega) ?_
   simp only [List.eraseIdx_cons_zero]
   generalize (some (⟨b4,0,none⟩ : Addr)) = pc
   refine j_nf [_,_,_,_,_,_] rfl ?_
   refine j_run it 1 rfl (by simp) ?_
   refine j_step rfl (x_field rfl fd24_1 ?_)
   refine j_step rfl (x_bld 2 rfl rfl ld3 rfl ?_)
   refine j_run it 1 rfl (by simp) ?_
   refine j_nf [_,_,_,_,_] rfl ?_
   refine j_if rfl rfl (fun h7=>by exfalso;omega) (fun h7=>?_)
   refine j_nf [_,_] rfl ?_
   (apply j_drawK it mx 6;(· rfl);(· rfl))
   (apply lxk_eq;(· rfl);(· exact d_bld_all 2 rfl rfl ld24 rfl))
   (apply lxk_run 1;(· rfl);(· simp))
   (apply lxk_eq;(· rfl);(· exact d_x fun _=>x_field rfl fd24_1 dk_eq))
   (apply lxk_eq;(· rfl);(· exact d_bld 2 rfl rfl ld3 rfl))
   (apply lxk_sl;(· rfl);(· exact d_x fun _=>x_slice_h 0 (i) rfl rfl rfl sl22 (by omega) (by omega) (dk_sl 0 rfl));intro pa1 ca1)
   (apply lxk_eq;(· rfl);(· exact d_x fun _=>x_call [0] rfl (c_codewrightref04_Value) rfl (by rintro _ _ _ ⟨rfl,rfl,rfl⟩;exact dk_eq)))
   refine lxk_end rfl ?_
   simp only [List.map_cons,List.map_nil,List.cons_append,List.nil_append]
   refine j_run it 1 rfl (by simp) ?_
   refine j_nf [_] rfl ?_
   refine j_giv [] rfl rfl rfl ⟨rfl,rfl,rfl⟩
abbrev aF (p m : Nat) : Int → Int → Int:=liftI (fA p m)
abbrev mF (p m : Nat) (md : List Int) : Int → Int → Int:=liftI (fM p (fpo m md))
theorem dot_snoc {q : Nat} {A M : Int → Int → Int} (F : FI q A M) : ∀ {n : Nat} {u v : List Int} {x y : Int},Wd q n u → Wd q n v → 0 ≤ x → x < q → 0 ≤ y → y < q → dotL A M (u++[x]) (v++[y]) = A (dotL A M u v) (M x y)
 | 0,u,v,x,y,hu,hv,x0,x1,y0,y1=>by
  rw [List.length_eq_zero_iff.1 hu.1,List.length_eq_zero_iff.1 hv.1]
  obtain ⟨m0,m1⟩:=F.ml x y x0 x1 y0 y1
  show A (M x y) 0 = A 0 (M x y)
  exact F.ac _ _ m0 m1 (Int.le_refl 0) F.z
 | n + 1,[],_,_,_,h,_,_,_,_,_=>by have:=h.1;simp at this
 | n + 1,_::_,[],_,_,_,h,_,_,_,_=>by have:=h.1;simp at this
 | n + 1,a::u,b::v,x,y,hu,hv,x0,x1,y0,y1=>by
  obtain ⟨a0,a1⟩:=hu.2 a (.head _)
  obtain ⟨b0,b1⟩:=hv.2 b (.head _)
  have hu' : Wd q n u:=⟨by simpa using hu.1,fun z hz=>hu.2 z (.tail _ hz)⟩
  have hv' : Wd q n v:=⟨by simpa using hv.1,fun z hz=>hv.2 z (.tail _ hz)⟩
  obtain ⟨m0,m1⟩:=F.ml a b a0 a1 b0 b1
  obtain ⟨k0,k1⟩:=F.ml x y x0 x1 y0 y1
  obtain ⟨d0,d1⟩:=F.dlt hu' hv'
  show A (M a b) (dotL A M (u++[x]) (v++[y])) = A (A (M a b) (dotL A M u v)) (M x y)
  rw [dot_snoc F hu' hv' x0 x1 y0 y1,F.aa _ _ _ m0 m1 d0 d1 k0 k1]
theorem wd_take {q n k : Nat} {u : List Int} (h : Wd q n u) (hk : k ≤ n) : Wd q k (u.take k):=⟨by rw [List.length_take,h.1];omega,fun x hx=>h.2 x (List.mem_of_mem_take hx)⟩
theorem wd_at {q n k : Nat} {u : List Int} (h : Wd q n u) (hk : k < n) : 0 ≤ u.getD k default ∧ u.getD k default < q:=h.2 _ (List.mem_of_getElem? (i:=k) (by rw [List.getD_eq_getElem?_getD,List.getElem?_eq_getElem (by rw [h.1];exact hk)];rfl))
theorem take_getD {u : List Int} {k : Nat} (hk : k < u.length) : u.take (k + 1) = u.take k++[u.getD k default]:=by
 rw [List.take_succ_eq_append_getElem hk,List.getD_eq_getElem?_getD,List.getElem?_eq_getElem hk];rfl
theorem S_codewrightref04_Dot {p m nm cm n na ca nb cb : Nat} {md a b : List Int} {pm pa pb : Option Addr} (K : Fok p m md) (ha : Wd (p ^ m) n a) (hb : Wd (p ^ m) n b) :
  Ctr Try.prog 76 [.agg #[.int .i64 p,.int .i64 m,.slice pm nm cm],.slice pa na ca,.slice pb nb cb] [] [slF I64 pm nm cm md,slF I64 pa na ca a,slF I64 pb nb cb b] (Rv (.int .i64 (dotL (aF p m) (mF p m md) a b)) []):=by
 refine Ctr_of_j' (F:=F_codewrightref04_Dot) rfl fun C=>?_
 have h2:=K.q
 have F:=K.fi
 refine j_len 1 rfl fun e1 hba _=>?_
 refine j_len 2 rfl fun e2 _ _=>?_
 have hba' : a.length * 8 ≤ 140737488355328:=hba
 rw [ha.1] at e1 hba'
 rw [hb.1] at e2
 subst e1;subst e2
 refine j_nf [_,_] rfl ?_
 refine j_step rfl (x_box_agg rfl fun b1=>?_)
 refine j_run it 1 rfl (by simp) ?_
 refine j_nf [_,_] rfl ?_
 refine j_run it 1 rfl (by simp) ?_
 refine j_nf [_,_,_] rfl ?_
 refine j_run it 1 rfl (by simp) ?_
 refine j_nf [_,_,_] rfl ?_
 refine j_loopG (X:=Nat) [1,2,3,6] [0,1,2] (fun k=>[(8,.int .i64 (k : Int)),(7,.int .i64 (dotL (aF p m) (mF p m md) (a.take k) (b.take k)))]) (fun _=>[(some b1,24,[.int .i64 p,.int .i64 m,.slice pm nm cm])]) (fun _=>[]) (fun k=>k ≤ nb) (fun k=>nb - k) 0 [] rfl rfl rfl (Nat.zero_le _) (by repeat (first | exact Fr.sub_nil _ | refine Fr.sub_cons rfl ?_)) rfl rfl ?_
 rintro k hk ih
 simp only [List.cons_append,List.nil_append] at hk ih ⊢
 obtain ⟨d0,d1⟩:=F.dlt (wd_take ha hk) (wd_take hb hk)
 by_cases hkl : k < nb
 ·have wa:=wd_at ha hkl
  have wb:=wd_at hb hkl
  obtain ⟨m0,m1⟩:=F.ml _ _ wa.1 wa.2 wb.1 wb.2
  have ih':=ih (k + 1) (by omega) (by omega)
  rw [take_getD (by rw [ha.1];exact hkl),take_getD (by rw [hb.1];exact hkl),dot_snoc F (wd_take ha hk) (wd_take hb hk) wa.1 wa.2 wb.1 wb.2] at ih'
  have la:=ha.1
  have lb:=hb.1
  generalize dotL (aF p m) (mF p m md) (a.take k) (b.take k) = s at *
  have c_codewrightref04_Mul:=fun {x y : Int} (x0 : 0 ≤ x) (x1 : x < ((p ^ m : Nat) : Int)) (y0 : 0 ≤ y) (y1 : y < ((p ^ m : Nat) : Int))=>S_codewrightref04_Mul (pm:=pm) (nm:=nm) (cm:=cm) K x0 x1 y0 y1
  have c_codewrightref04_Add:=fun {x y : Int} (x0 : 0 ≤ x) (x1 : x < ((p ^ m : Nat) : Int)) (y0 : 0 ≤ y) (y1 : y < ((p ^ m : Nat) : Int))=>S_codewrightref04_Add (pm:=pm) (nm:=nm) (cm:=cm) K x0 x1 y0 y1
  refine j_nf [_,_,_,_,_,_] rfl ?_
  refine j_run it 2 rfl (by simp) ?_
  refine j_step rfl (x_len sl22 rfl ?_)
  refine j_run it 2 rfl (by simp) ?_
  refine j_split_dec (t:=13) rfl (fun h1=>?_) (fun h1=>by exfalso;omega)
  refine j_run it 2 rfl (by simp) ?_
  refine j_gstep rfl rfl (x_len sl22 rfl ?_)
  refine j_run it 2 rfl (by simp) ?_
  refine j_nf [_,_,_,_,_] rfl ?_
  refine j_if rfl rfl (fun h3=>?_) (fun h3=>by exfalso;omega)
  refine j_nf [_,_,_,_,_,_] rfl ?_
  (apply j_drawK it mx 13;(· rfl);(· rfl))
  (apply lxk_eq;(· rfl);(· exact d_bld_all 0 rfl rfl ld24 rfl))
  (apply lxk_run 1;(· rfl);(· simp))
  (apply lxk_eq;(· rfl);(· exact d_bld_all 0 rfl rfl ld24 rfl))
  (apply lxk_run 2;(· rfl);(· simp))
  (apply lxk_pt;(· rfl);(· exact d_x fun _=>x_idx 1 (k) rfl rfl rfl sl22 rfl (by omega) fun z1 hz1 b2 o1=>(dk_ptD default hz1 0 rfl));intro b2 o1)
  (apply lxk_eq;(· rfl);(· exact d_x fun _=>x_ld_int 0 rfl rfl ld3 fun ⟨r1,r2⟩=>dk_eq))
  (apply lxk_run 2;(· rfl);(· simp))
  (apply lxk_pt;(· rfl);(· exact d_x fun _=>x_idx 2 (k) rfl rfl rfl sl22 rfl (by omega) fun z1 hz1 b3 o2=>(dk_ptD default hz1 0 rfl));intro b3 o2)
  (apply lxk_eq;(· rfl);(· exact d_x fun _=>x_ld_int 0 rfl rfl ld3 fun ⟨r1,r2⟩=>dk_eq))
  (apply lxk_eq;(· rfl);(· exact d_x fun _=>x_call [2] rfl (c_codewrightref04_Mul (by omega) (by omega) (by omega) (by omega)) rfl (by rintro _ _ _ ⟨rfl,rfl,rfl⟩;exact dk_eq)))
  (apply lxk_eq;(· rfl);(· exact d_x fun _=>x_call [] rfl (c_codewrightref04_Add (by omega) (by omega) (by omega) (by omega)) rfl (by rintro _ _ _ ⟨rfl,rfl,rfl⟩;exact dk_eq)))
  refine lxk_end rfl ?_
  simp only [List.map_cons,List.map_nil,List.cons_append,List.nil_append]
  refine j_run it 1 rfl (by simp) ?_
  refine j_nf [_,_,_,_] rfl ?_
  refine j_run it 3 rfl ⟨trivial,⟨by omega,by omega⟩,trivial,trivial⟩ ?_
  refine j_nfn 1 [.lp (pL 116),.blk 0,.c [1,1,1]] rfl ?_
  refine j_to [2,3,4] (by exact fra rfl) rfl rfl (ih')
 ·obtain rfl : k = nb:=by omega
  rw [List.take_of_length_le (by rw [ha.1];exact Nat.le_refl _),List.take_of_length_le (by rw [hb.1];exact Nat.le_refl _)]
  refine j_nf [_,_,_,_,_,_] rfl ?_
  refine j_run it 2 rfl (by simp) ?_
  refine j_step rfl (x_len sl22 rfl ?_)
  refine j_run it 2 rfl (by simp) ?_
  refine j_split_dec (t:=13) rfl (fun h1=>by exfalso;omega) (fun h1=>?_)
  refine j_run it 5 rfl (by simp) ?_
  refine j_nf [_,_,_,_,_] rfl ?_
  refine j_false rfl rfl ?_
  refine j_nf [_,_] rfl ?_
  refine j_run it 2 rfl (by simp) ?_
  refine j_nf [_] rfl ?_
  refine j_giv [] rfl rfl rfl ⟨rfl,rfl,rfl⟩
def rowW (q : Int) (n : Nat) (l : List Int) : List Int:=(List.range n).map fun i=>if i < l.length then inI q (l.getD i 0) else 0
theorem inI_rng {q x : Int} (hq : 0 < q) : 0 ≤ inI q x ∧ inI q x < q:=by
 unfold inI;split
 ·assumption
 ·exact ⟨Int.le_refl 0,hq⟩
theorem rowW_wd {q n : Nat} (hq : 0 < q) (l : List Int) : Wd q n (rowW q n l):=⟨by simp [rowW],fun x hx=>by
 obtain ⟨i,_,rfl⟩:=List.mem_map.1 hx
 split
 ·exact inI_rng (by omega)
 ·omega⟩
theorem S_codewrightref24_Row {P M : Int} {n nm cm nl cl : Nat} {pm pl : Option Addr} {l : List Int} (ho : ordP P M) (hn : n ≤ 1000) :
  Ctr Try.prog 22 [.agg #[.int .i64 P,.int .i64 M,.slice pm nm cm],.int .i64 n,.slice pl nl cl] [] [slF I64 pl nl cl l] (SvI n (rowW (ordI P M) n l)):=by
 refine Ctr_of_j' (F:=F_codewrightref24_Row) rfl fun C=>?_
 have hq : 0 < ordI P M ∧ ordI P M ≤ 256:=by
  rw [ordI,if_pos ho]
  have h1:=ho.1
  have:=Nat.pow_pos (n:=M.toNat) (show 0 < P.toNat by omega)
  have:=ho.2.2.2
  omega
 refine j_len 0 rfl fun e1 hba _=>?_
 have hba' : l.length * 8 ≤ 140737488355328:=hba
 subst e1
 generalize hQ : ordI P M = Q at *
 have lT : (rowW Q n l).length = n:=by simp [rowW]
 have rT : ∀ x ∈ rowW Q n l,0 ≤ x ∧ x < Q:=fun x hx=>by
  obtain ⟨i,_,rfl⟩:=List.mem_map.1 hx
  split
  ·exact inI_rng hq.1
  ·exact ⟨Int.le_refl 0,hq.1⟩
 have tz : ∀ i,i < n → (rowW Q n l)[i]? = some (if i < l.length then inI Q (l.getD i 0) else 0):=fun i hi=>by
  rw [rowW,List.getElem?_map,List.getElem?_range hi];rfl
 have eT:=toI_toNat fun x hx=>(rT x hx).1
 have lN : ((rowW Q n l).map Int.toNat).length = n:=by rw [List.length_map,lT]
 have nz : ∀ i,i < n → ((rowW Q n l).map Int.toNat)[i]? = some (if i < l.length then inI Q (l.getD i 0) else 0).toNat:=fun i hi=>by
  rw [List.getElem?_map,tz i hi];rfl
 rw [← eT]
 have rN : ∀ d ∈ (rowW Q n l).map Int.toNat,d ≤ 9223372036854775807:=fun d hd=>by
  obtain ⟨x,hx,rfl⟩:=List.mem_map.1 hd
  have:=rT x hx;omega
 generalize (rowW Q n l).map Int.toNat = T at *
 have c_codewrightref04_In:=fun {x : Int}=>S_codewrightref04_In (P:=P) (M:=M) (x:=x) (pm:=pm) (n:=nm) (c:=cm) (res:=inI Q x) (by rw [hQ])
 refine j_nf [_,_] rfl ?_
 refine j_step rfl (x_box_agg rfl fun b1=>?_)
 refine j_run it 1 rfl (by simp) ?_
 refine j_nf [_,_] rfl ?_
 refine j_run it 1 rfl (by simp) ?_
 refine j_step rfl (x_make_nat (n) _ rfl rfl sl22 zo22e by22e (by omega) (by omega) (by omega) fun b2=>?_)
 refine j_run it 1 rfl (by simp) ?_
 refine j_nf [_,_,_] rfl ?_
 refine j_run it 1 rfl (by simp) ?_
 refine j_nf [_,_,_] rfl ?_
 rw [show List.replicate n 0 = T.take 0++List.replicate (n - 0) 0 by simp]
 refine j_loopG (X:=Nat) [1,2,3,6,7] [0] (fun i=>[(8,.int .i64 (i : Int))]) (fun i=>[(some b2,3,natCells .i64 (T.take i++List.replicate (n - i) 0)),(some b1,24,[.int .i64 P,.int .i64 M,.slice pm nm cm])]) (fun _=>[]) (fun i=>i ≤ n ∧ i ≤ l.length) (fun i=>n - i) 0 [] rfl rfl rfl ⟨Nat.zero_le _,Nat.zero_le _⟩ (by repeat (first | exact Fr.sub_nil _ | refine Fr.sub_cons rfl ?_)) rfl rfl ?_
 rintro i ⟨hi,hil⟩ ih
 simp only [List.cons_append,List.nil_append] at hi hil ih ⊢
 have fin : i = n ∨ i = l.length → T.take i++List.replicate (n - i) 0 = T:=fun h=>by
  refine List.ext_getElem? fun j=>?_
  have hl : (T.take i).length = i:=by rw [List.length_take];omega
  by_cases hj : j < i
  ·rw [List.getElem?_append_left (by omega),List.getElem?_take,if_pos hj]
  ·rw [List.getElem?_append_right (by omega),hl,List.getElem?_replicate]
   by_cases hjn : j < n
   ·rw [if_pos (by omega),nz j hjn,if_neg (by omega)];rfl
   ·rw [if_neg (by omega),List.getElem?_eq_none (by omega)]
 by_cases h1 : i < n
 ·by_cases h2 : i < l.length
  ·have ih':=ih (i + 1) (by omega) ⟨by omega,by omega⟩
   have zz:=nz i h1
   rw [if_pos h2] at zz
   have hdd : l.getD i 0 = l.getD i default:=rfl
   rw [hdd] at zz
   have br:=inI_rng (q:=Q) (x:=l.getD i default) hq.1
   rw [← fill_set lN h1 zz] at ih'
   have lf : (T.take i++List.replicate (n - i) 0).length = n:=by rw [List.length_append,List.length_take,List.length_replicate];omega
   have en : (((inI Q (l.getD i default)).toNat : Nat) : Int) = inI Q (l.getD i default):=Int.toNat_of_nonneg br.1
   refine j_nf [_,_,_,_,_,_] rfl ?_
   refine j_run it 4 rfl (by simp) ?_
   refine j_split_dec (t:=14) rfl (fun h3=>?_) (fun h3=>by exfalso;omega)
   refine j_run it 2 rfl (by simp) ?_
   refine j_gstep rfl rfl (x_len sl22 rfl ?_)
   refine j_run it 2 rfl (by simp) ?_
   refine j_nf [_,_,_,_,_] rfl ?_
   refine j_if rfl rfl (fun h4=>?_) (fun h4=>by exfalso;omega)
   refine j_nf [_,_,_,_,_,_] rfl ?_
   (apply j_drawK it mx 8;(· rfl);(· rfl))
   (apply lxk_run 2;(· rfl);(· simp))
   (apply lxk_eq;(· rfl);(· exact d_bld_all 1 rfl rfl ld24 rfl))
   (apply lxk_run 2;(· rfl);(· simp))
   (apply lxk_pt;(· rfl);(· exact d_x fun _=>x_idx 0 (i) rfl rfl rfl sl22 rfl (by omega) fun z1 hz1 b3 o1=>(dk_ptD default hz1 0 rfl));intro b3 o1)
   (apply lxk_eq;(· rfl);(· exact d_x fun _=>x_ld_int 0 rfl rfl ld3 fun ⟨r1,r2⟩=>dk_eq))
   (apply lxk_eq;(· rfl);(· exact d_x fun _=>x_call [] rfl (c_codewrightref04_In) rfl (by rintro _ _ _ ⟨rfl,rfl,rfl⟩;exact dk_eq)))
   refine lxk_end rfl ?_
   simp only [List.map_cons,List.map_nil,List.cons_append,List.nil_append]
   refine j_step rfl (x_idx_own (i) (i) rfl rfl sl22 rfl (by omega) (Nat.mul_one _) ?_)
   refine j_step rfl (x_bst_nat 0 ((inI Q (l.getD i default) : Int).toNat) rfl rfl rfl ld3 (by first | rfl | omega) (by first | omega | (simp;omega)) ?_)
   refine j_nf [_,_,_,_] rfl ?_
   refine j_run it 3 rfl ⟨trivial,⟨by omega,by omega⟩,trivial,trivial⟩ ?_
   refine j_nfn 1 [.lp (pL 116),.blk 0,.c [1,1,1]] rfl ?_
   refine j_to [1] (by exact fra rfl) rfl rfl (ih')
  ·rw [fin (.inr (by omega)),natCells_toI]
   refine j_nf [_,_,_,_,_,_] rfl ?_
   refine j_run it 4 rfl (by simp) ?_
   refine j_split_dec (t:=14) rfl (fun h3=>?_) (fun h3=>by exfalso;omega)
   refine j_run it 2 rfl (by simp) ?_
   refine j_gstep rfl rfl (x_len sl22 rfl ?_)
   refine j_run it 2 rfl (by simp) ?_
   refine j_nf [_,_,_,_,_] rfl ?_
   refine j_if rfl rfl (fun h4=>by exfalso;omega) (fun h4=>?_)
   refine j_nf [_,_] rfl ?_
   refine j_run it 2 rfl (by simp) ?_
   refine j_nf [_] rfl ?_
   refine j_pub_madei 8 (toI T) 0 rfl (by rw [toI_len,lN]) (toI_rng rN) (by omega) (by omega) ?_
   refine j_giv [0] rfl rfl rfl ⟨_,_,rfl,rfl,rfl⟩
 ·rw [fin (.inl (by omega)),natCells_toI]
  refine j_nf [_,_,_,_,_,_] rfl ?_
  refine j_run it 4 rfl (by simp) ?_
  refine j_split_dec (t:=14) rfl (fun h2=>by exfalso;omega) (fun h2=>?_)
  refine j_run it 5 rfl (by simp) ?_
  refine j_nf [_,_,_,_,_] rfl ?_
  refine j_false rfl rfl ?_
  refine j_nf [_,_] rfl ?_
  refine j_run it 2 rfl (by simp) ?_
  refine j_nf [_] rfl ?_
  refine j_pub_madei 8 (toI T) 0 rfl (by rw [toI_len,lN]) (toI_rng rN) (by omega) (by omega) ?_
  refine j_giv [0] rfl rfl rfl ⟨_,_,rfl,rfl,rfl⟩
set_option maxHeartbeats 8000000
theorem dist_zero : ∀ {u v : List Int},u.length = v.length → (dist u v = 0 ↔ u = v)
 | [],[],_=>⟨fun _=>rfl,fun _=>rfl⟩
 | [],_::_,h=>by simp at h
 | _::_,[],h=>by simp at h
 | x::u,y::v,h=>by
  have ih:=dist_zero (u:=u) (v:=v) (by simpa using h)
  rw [dist,List.cons.injEq,← ih]
  by_cases e : x = y
  ·rw [if_pos e];exact ⟨fun h=>⟨e,by omega⟩,fun h=>by omega⟩
  ·rw [if_neg e];exact ⟨fun h=>by omega,fun h=>absurd h.1 e⟩
theorem S_codewrightref24_has {pl pw : Option Addr} {nl cl nw cw n : Nat} {L : List (List Int)} {w : List Int} (hL : ∀ u ∈ L,u.length = n) (hw : w.length = n) {res : Bool} (hres : decide (w ∈ L) = res) :
  Ctr Try.prog 57 [.slice pl nl cl,.slice pw nw cw] [] [slF (encSl I64) pl nl cl L,slF I64 pw nw cw w] (Rv (.bool res) []):=by
 subst hres
 refine Ctr_of_j' (F:=F_codewrightref24_has) rfl fun C=>?_
 refine j_len 0 rfl fun e1 hb1 _=>?_
 refine j_len 1 rfl fun e2 _ _=>?_
 have hb1' : L.length * 24 ≤ 140737488355328:=hb1
 subst e1
 rw [hw] at e2
 subst e2
 refine j_nf [_,_] rfl (j_run it 1 rfl (by simp) ?_)
 refine j_nf [_,_,_] rfl (j_run it 1 rfl (by simp) ?_)
 refine j_nf [_,_,_] rfl ?_
 refine j_loopG (X:=Nat) [0,1] [0,1] (fun i=>[(5,.int .i64 (i : Int))]) (fun _=>[]) (fun _=>[]) (fun i=>i ≤ L.length ∧ w ∉ L.take i) (fun i=>L.length - i) 0 [] rfl rfl rfl ⟨Nat.zero_le _,by simp⟩ (by repeat (first | exact Fr.sub_nil _ | refine Fr.sub_cons rfl ?_)) rfl rfl ?_
 rintro i ⟨hi,hn⟩ ih
 simp only [List.cons_append,List.nil_append] at hi hn ih ⊢
 by_cases hil : i < L.length
 ·have hz : L[i]? = some (L.getD i default):=by rw [List.getD_eq_getElem?_getD,List.getElem?_eq_getElem hil];rfl
  have hl:=hL _ (List.mem_of_getElem? hz)
  have hdz:=dist_zero (u:=L.getD i default) (v:=w) (by rw [hl,hw])
  have htk : L.take (i + 1) = L.take i++[L.getD i default]:=by rw [List.take_succ_eq_append_getElem hil,List.getD_eq_getElem?_getD,List.getElem?_eq_getElem hil];rfl
  by_cases hd : dist (L.getD i default) w = 0
  ·rw [decide_eq_true (by rw [← hdz.1 hd];exact List.mem_of_getElem? hz)]
   refine j_nf [_,_,_,_,_,_] rfl (j_run it 2 rfl (by simp) ?_)
   refine j_step rfl (x_len sl25 rfl ?_)
   refine j_run it 1 rfl (by simp) ?_
   refine j_nf [_,_,_,_,_] rfl (j_if rfl rfl (fun h1=>?_) (fun h1=>by exfalso;omega))
   refine j_nf [_,_,_,_,_,_,_] rfl (j_run it 2 rfl (by simp) ?_)
   refine j_step rfl (x_idx 0 (i) rfl rfl rfl sl25 rfl (by omega) fun z1 hz1 b1 o1=>?_)
   refine j_step rfl (x_ld_sl 0 rfl rfl ld22 fun pa1 ca1=>?_)
   refine j_run it 1 rfl (by simp) ?_
   obtain rfl : z1 = L.getD i default:=Option.some.inj (hz1.symm.trans hz)
   refine j_step rfl (x_call [0,3] rfl (S_codewrightref24_Distance (by omega)) rfl ?_)
   rintro _ _ _ ⟨rfl,rfl,rfl⟩
   simp only [List.cons_append,List.nil_append]
   refine j_run it 1 rfl (by simp) ?_
   refine j_nf [_,_,_,_,_,_] rfl (j_if rfl rfl (fun h2=>?_) (fun h2=>by exfalso;omega))
   refine j_nf [_,_,_,_,_,_,_] rfl (j_run it 1 rfl (by simp) ?_)
   refine j_nf [_,_,_,_,_,_] rfl ?_
   refine j_giv [] rfl rfl rfl ⟨rfl,rfl,rfl⟩
  ·refine j_nf [_,_,_,_,_,_] rfl (j_run it 2 rfl (by simp) ?_)
   refine j_step rfl (x_len sl25 rfl ?_)
   refine j_run it 1 rfl (by simp) ?_
   refine j_nf [_,_,_,_,_] rfl (j_if rfl rfl (fun h1=>?_) (fun h1=>by exfalso;omega))
   refine j_nf [_,_,_,_,_,_,_] rfl (j_run it 2 rfl (by simp) ?_)
   refine j_step rfl (x_idx 0 (i) rfl rfl rfl sl25 rfl (by omega) fun z1 hz1 b1 o1=>?_)
   refine j_step rfl (x_ld_sl 0 rfl rfl ld22 fun pa1 ca1=>?_)
   refine j_run it 1 rfl (by simp) ?_
   obtain rfl : z1 = L.getD i default:=Option.some.inj (hz1.symm.trans hz)
   refine j_step rfl (x_call [0,3] rfl (S_codewrightref24_Distance (by omega)) rfl ?_)
   rintro _ _ _ ⟨rfl,rfl,rfl⟩
   simp only [List.cons_append,List.nil_append]
   refine j_run it 1 rfl (by simp) ?_
   refine j_nf [_,_,_,_,_,_] rfl (j_if rfl rfl (fun h2=>by exfalso;omega) (fun h2=>?_))
   refine j_nf [_,_,_,_] rfl (j_run it 3 rfl ⟨trivial,⟨by omega,by omega⟩,trivial,trivial⟩ ?_)
   refine j_nfn 1 [.lp [1,0,1,0,0],.blk 0,.c [1,1]] rfl ?_
   refine j_to [2,3] (by exact fra rfl) rfl rfl (ih (i + 1) (by omega) ⟨by omega,fun hm=>by
    rw [htk] at hm
    rcases List.mem_append.1 hm with h | h
    ·exact hn h
    ·rw [List.mem_singleton] at h
     exact hd (by rw [← h];exact (dist_zero rfl).2 rfl)⟩)
 ·obtain rfl : i = L.length:=by omega
  rw [List.take_length] at hn
  rw [decide_eq_false hn]
  refine j_nf [_,_,_,_,_,_] rfl (j_run it 2 rfl (by simp) ?_)
  refine j_step rfl (x_len sl25 rfl ?_)
  refine j_run it 1 rfl (by simp) ?_
  refine j_nf [_,_,_,_,_] rfl (j_if rfl rfl (fun h1=>by exfalso;omega) (fun h1=>?_))
  refine j_nf [_,_] rfl (j_run it 1 rfl (by simp) ?_)
  refine j_nf [_] rfl ?_
  refine j_giv [] rfl rfl rfl ⟨rfl,rfl,rfl⟩
theorem wd_nth {q n : Nat} {L : List (List Int)} (h : ∀ u ∈ L,Wd q n u) {i : Nat} (hi : i < L.length) : Wd q n (L.getD i default):=h _ (List.mem_of_getElem? (i:=i) (by rw [List.getD_eq_getElem?_getD,List.getElem?_eq_getElem hi];rfl))
theorem axp_at {A M : Int → Int → Int} {a : Int} {r u : List Int} {k n : Nat} (hr : r.length = n) (hu : u.length = n) (hk : k < n) : (axp A M a r u)[k]? = some (A (u.getD k default) (M a (r.getD k default))):=by
 rw [axp,List.getElem?_zipWith,List.getD_eq_getElem?_getD,List.getD_eq_getElem?_getD,List.getElem?_eq_getElem (by omega),List.getElem?_eq_getElem (by omega)];rfl
abbrev SpanE (n : Nat) (o : Option (List (List Int))) : Value → List Fact → List Blk → Prop:=fun v Φ β=>∃ (L : List (List Int)) (pa : Option Addr) (ca : Nat),L = o.getD [] ∧ v = .slice pa L.length ca ∧ Φ = [slF (encSl I64) pa L.length ca L] ∧ β = []
theorem S_codewrightref24_Span {p m nm cm n most nr cr : Nat} {md : List Int} {pm pr : Option Addr} {rows : List (List Int)} (K : Fok p m md) (hn : n ≤ 100) (hmost : most ≤ 100000) :
  Ctr Try.prog 26 [.agg #[.int .i64 p,.int .i64 m,.slice pm nm cm],.int .i64 n,.slice pr nr cr,.int .i64 most] [] [slF I64 pm nm cm md,slF (encSl I64) pr nr cr rows]
   (SpanE n (spanS (p ^ m) most (aF p m) (mF p m md) (rows.map (rowW ((p ^ m : Nat) : Int) n)) [zW n])):=by
 refine Ctr_of_j' (F:=F_codewrightref24_Span) rfl fun C=>?_
 have F:=K.fi
 have hq2:=F.q2
 have hq:=K.q
 have hord:=K.ord
 have hordP : ordP (p : Int) (m : Int):=by
  have:=K.p2;have:=K.m1;have:=K.m8
  exact ⟨by omega,by omega,by omega,by simpa using K.q⟩
 refine j_len 1 rfl fun e1 hb1 _=>?_
 have hb1' : rows.length * 24 ≤ 140737488355328:=hb1
 subst e1
 have c_codewrightref04_Mul:=fun {x y : Int} (x0 : 0 ≤ x) (x1 : x < ((p ^ m : Nat) : Int)) (y0 : 0 ≤ y) (y1 : y < ((p ^ m : Nat) : Int))=>S_codewrightref04_Mul (pm:=pm) (nm:=nm) (cm:=cm) K x0 x1 y0 y1
 have c_codewrightref04_Add:=fun {x y : Int} (x0 : 0 ≤ x) (x1 : x < ((p ^ m : Nat) : Int)) (y0 : 0 ≤ y) (y1 : y < ((p ^ m : Nat) : Int))=>S_codewrightref04_Add (pm:=pm) (nm:=nm) (cm:=cm) K x0 x1 y0 y1
 have c_codewrightref04_Order:=S_codewrightref04_Order (P:=(p : Int)) (M:=(m : Int)) (pm:=pm) (n:=nm) (c:=cm) hord
 have c_codewrightref24_Row:=fun {pl : Option Addr} {nl cl : Nat} {l : List Int}=>S_codewrightref24_Row (P:=(p : Int)) (M:=(m : Int)) (n:=n) (nm:=nm) (cm:=cm) (nl:=nl) (cl:=cl) (pm:=pm) (pl:=pl) (l:=l) hordP (by omega)
 rw [hord] at c_codewrightref24_Row
 have hqI : (2 : Int) ≤ ((p ^ m : Nat) : Int) ∧ ((p ^ m : Nat) : Int) ≤ 256:=by omega
 generalize hQ : p ^ m = q at *
 refine j_nf [_,_] rfl ?_
 refine j_step rfl (x_box_agg rfl fun b1=>?_)
 refine j_run it 1 rfl (by simp) ?_
 refine j_nf [_,_] rfl ?_
 refine j_run it 1 rfl (by simp) ?_
 refine j_step rfl (x_make_nat (n) _ rfl rfl sl22 zo22e by22e (by omega) (by omega) (by omega) fun b2=>?_)
 refine j_step rfl (x_lit sl25 zo25e rfl rfl rfl rfl (by decide) (by decide) rfl fun b3=>?_)
 refine j_run it 1 rfl (by simp) ?_
 refine j_nf [_,_,_] rfl ?_
 refine j_run it 1 rfl (by simp) ?_
 refine j_nf [_,_,_] rfl ?_
 rw [natCells_toI,toI_zeros]
 refine j_pub_madei (n:=n) 8 (zW n) 1 rfl (by simp) (fun x hx=>by rw [(List.mem_replicate.1 hx).2];simp [InR]) (by omega) (by omega) ?_
 simp only [List.eraseIdx_cons_zero,List.eraseIdx_cons_succ]
 refine j_pub_row (E:=I64) (n:=1) [0] [[.slice (some ⟨b2,0,none⟩) n n]] [zW n] 0 rfl rfl ⟨rfl,trivial⟩ rfl rfl (by decide) ?_
 simp only [List.eraseIdx_cons_zero]
 have rwd : ∀ l,Wd q n (rowW (q : Int) n l):=fun l=>rowW_wd (by omega) l
 generalize hR : rows.map (rowW (q : Int) n) = rows' at *
 have lR : rows'.length = rows.length:=by rw [← hR,List.length_map]
 have zR : ∀ i,i < rows.length → rows'.drop i = rowW (q : Int) n (rows.getD i default)::rows'.drop (i + 1):=fun i hi=>by
  rw [List.drop_eq_getElem_cons (by omega)]
  congr 1
  subst hR
  rw [List.getElem_map,List.getD_eq_getElem?_getD,List.getElem?_eq_getElem hi];rfl
 generalize hS : spanS q most (aF p m) (mF p m md) rows' [zW n] = res
 refine j_loopG (X:=Nat × List (List Int) × Option Addr × Nat) [1,2,3,4] [1,2,3] (fun x=>[(10,.int .i64 (x.1 : Int)),(9,.slice x.2.2.1 x.2.1.length x.2.2.2)]) (fun _=>[(some b1,24,[.int .i64 p,.int .i64 m,.slice pm nm cm])]) (fun x=>[slF (encSl I64) x.2.2.1 x.2.1.length x.2.2.2 x.2.1])
  (fun x=>x.1 ≤ rows.length ∧ (∀ u ∈ x.2.1,Wd q n u) ∧ x.2.1.length ≤ 100000 ∧ spanS q most (aF p m) (mF p m md) (rows'.drop x.1) x.2.1 = res) (fun x=>rows.length - x.1) (0,[zW n],some ⟨b3,0,none⟩,1) [0] rfl rfl rfl ⟨Nat.zero_le _,fun u hu=>by rw [List.mem_singleton.1 hu];exact zW_wd hq2,by simp,hS⟩ (by repeat (first | exact Fr.sub_nil _ | refine Fr.sub_cons rfl ?_)) rfl rfl ?_
 rintro ⟨i,L,pa,ca⟩ ⟨hi,hw,hlen,he⟩ ih
 simp only [List.cons_append,List.nil_append] at hi hw hlen he ih ⊢
 by_cases hil : i < rows.length
 ·have hz : rows[i]? = some (rows.getD i default):=by rw [List.getD_eq_getElem?_getD,List.getElem?_eq_getElem hil];rfl
  rw [zR i hil,spanS] at he
  have hrw:=rwd (rows.getD i default)
  have c_codewrightref24_has:=fun {pl pw : Option Addr} {nl cl nw cw : Nat} {res : Bool} hres=>S_codewrightref24_has (pl:=pl) (pw:=pw) (nl:=nl) (cl:=cl) (nw:=nw) (cw:=cw) (n:=n) (L:=L) (w:=rowW (q : Int) n (rows.getD i default)) (fun u hu=>(hw u hu).1) hrw.1 (res:=res) hres
  by_cases hm : rowW (q : Int) n (rows.getD i default) ∈ L
  ·rw [if_pos hm] at he
   have hd:=decide_eq_true hm
   refine j_nf [_,_,_,_,_,_] rfl ?_
   refine j_run it 2 rfl (by simp) ?_
   refine j_step rfl (x_len sl25 rfl ?_)
   refine j_run it 1 rfl (by simp) ?_
   refine j_nf [_,_,_,_,_] rfl ?_
   refine j_if rfl rfl (fun h1=>?_) (fun h1=>by exfalso;omega)
   refine j_nf [_,_,_,_,_,_,_] rfl ?_
   (apply j_drawK it mx 7;(· rfl);(· rfl))
   (apply lxk_eq;(· rfl);(· exact d_bld_all 0 rfl rfl ld24 rfl))
   (apply lxk_run 3;(· rfl);(· simp))
   (apply lxk_pt;(· rfl);(· exact d_x fun _=>x_idx 3 (i) rfl rfl rfl sl25 rfl (by omega) fun z1 hz1 b4 o1=>(dk_ptD default hz1 0 rfl));intro b4 o1)
   (apply lxk_sl;(· rfl);(· exact d_x fun _=>x_ld_sl 0 rfl rfl ld22 fun pa1 ca1=>(dk_sl 0 rfl));intro pa1 ca1)
   (apply lxk_sl;(· rfl);(· exact d_x fun _=>x_call [0] rfl (c_codewrightref24_Row) rfl (by rintro _ _ _ ⟨pa2,ca2,rfl,rfl,rfl⟩;exact (dk_sl 0 rfl)));intro pa2 ca2)
   refine lxk_end rfl ?_
   simp only [List.map_cons,List.map_nil,List.cons_append,List.nil_append]
   refine j_run it 1 rfl (by simp) ?_
   refine j_nf [_,_,_,_,_,_,_,_] rfl ?_
   refine j_run it 2 rfl (by simp) ?_
   refine j_step rfl (x_call [3,0] rfl (c_codewrightref24_has (by omega)) rfl ?_)
   rintro _ _ _ ⟨rfl,rfl,rfl⟩
   simp only [List.cons_append,List.nil_append]
   refine j_nf [_,_,_,_,_,_,_] rfl ?_
   refine j_true rfl rfl ?_
   refine j_nf [_,_,_,_] rfl ?_
   refine j_run it 3 rfl ⟨trivial,⟨by omega,by omega⟩,trivial,trivial⟩ ?_
   refine j_nfn 1 [.lp (pL 116),.blk 0,.c [1,1,1]] rfl ?_
   refine j_to [3,4,5,6] (by exact fra rfl) rfl rfl (ih (i + 1,L,pa,ca) (by dsimp only;omega) ⟨by dsimp only;omega,hw,hlen,he⟩)
  ·rw [if_neg hm] at he
   have hd:=decide_eq_false hm
   have hdiv : (most : Int) / (q : Int) = ((most / q : Nat) : Int):=(Int.natCast_ediv _ _).symm
   by_cases hb : most / q < L.length
   ·rw [if_pos hb] at he
    subst he
    refine j_nf [_,_,_,_,_,_] rfl ?_
    refine j_run it 2 rfl (by simp) ?_
    refine j_step rfl (x_len sl25 rfl ?_)
    refine j_run it 1 rfl (by simp) ?_
    refine j_nf [_,_,_,_,_] rfl ?_
    refine j_if rfl rfl (fun h1=>?_) (fun h1=>by exfalso;omega)
    refine j_nf [_,_,_,_,_,_,_] rfl ?_
    (apply j_drawK it mx 7;(· rfl);(· rfl))
    (apply lxk_eq;(· rfl);(· exact d_bld_all 0 rfl rfl ld24 rfl))
    (apply lxk_run 3;(· rfl);(· simp))
    (apply lxk_pt;(· rfl);(· exact d_x fun _=>x_idx 3 (i) rfl rfl rfl sl25 rfl (by omega) fun z1 hz1 b4 o1=>(dk_ptD default hz1 0 rfl));intro b4 o1)
    (apply lxk_sl;(· rfl);(· exact d_x fun _=>x_ld_sl 0 rfl rfl ld22 fun pa1 ca1=>(dk_sl 0 rfl));intro pa1 ca1)
    (apply lxk_sl;(· rfl);(· exact d_x fun _=>x_call [0] rfl (c_codewrightref24_Row) rfl (by rintro _ _ _ ⟨pa2,ca2,rfl,rfl,rfl⟩;exact (dk_sl 0 rfl)));intro pa2 ca2)
    refine lxk_end rfl ?_
    simp only [List.map_cons,List.map_nil,List.cons_append,List.nil_append]
    refine j_run it 1 rfl (by simp) ?_
    refine j_nf [_,_,_,_,_,_,_,_] rfl ?_
    refine j_run it 2 rfl (by simp) ?_
    refine j_step rfl (x_call [3,0] rfl (c_codewrightref24_has (by omega)) rfl ?_)
    rintro _ _ _ ⟨rfl,rfl,rfl⟩
    simp only [List.cons_append,List.nil_append]
    refine j_nf [_,_,_,_,_,_,_] rfl ?_
    refine j_false rfl rfl ?_
    refine j_nf [_,_,_,_,_,_,_,_] rfl ?_
    refine j_run it 1 rfl (by simp) ?_
    refine j_step rfl (x_len sl25 rfl ?_)
    refine j_run it 1 rfl (by simp) ?_
    refine j_step rfl (x_bld_all 0 rfl rfl ld24 rfl ?_)
    refine j_step rfl (x_call [] rfl (c_codewrightref04_Order) rfl ?_)
    rintro _ _ _ ⟨rfl,rfl,rfl⟩
    simp only [List.cons_append,List.nil_append]
    refine j_run it 2 rfl ⟨trivial,⟨by omega,by omega,by omega,by omega⟩,trivial⟩ ?_
    refine j_nf [_,_,_,_,_,_,_] rfl ?_
    refine j_if rfl rfl (fun h2=>?_) (fun h2=>by exfalso;omega)
    refine j_nf [_,_,_,_,_,_,_,_] rfl ?_
    refine j_run it 1 rfl (by simp) ?_
    refine j_nf [_,_,_,_,_,_,_] rfl ?_
    refine j_add (slF (encSl I64) none 0 0 []) (fun w A _=>slF_nil _ _ _ _ _) ?_
    refine j_giv [0] rfl rfl rfl ⟨[],_,_,rfl,rfl,rfl,rfl⟩
   ·rw [if_neg hb] at he
    have hqL : q * L.length ≤ 100000:=by
     have h1 : q * L.length ≤ q * (most / q):=Nat.mul_le_mul_left _ (by omega)
     have h2:=Nat.mul_div_le most q
     omega
    refine j_nf [_,_,_,_,_,_] rfl ?_
    refine j_run it 2 rfl (by simp) ?_
    refine j_step rfl (x_len sl25 rfl ?_)
    refine j_run it 1 rfl (by simp) ?_
    refine j_nf [_,_,_,_,_] rfl ?_
    refine j_if rfl rfl (fun h1=>?_) (fun h1=>by exfalso;omega)
    refine j_nf [_,_,_,_,_,_,_] rfl ?_
    (apply j_drawK it mx 7;(· rfl);(· rfl))
    (apply lxk_eq;(· rfl);(· exact d_bld_all 0 rfl rfl ld24 rfl))
    (apply lxk_run 3;(· rfl);(· simp))
    (apply lxk_pt;(· rfl);(· exact d_x fun _=>x_idx 3 (i) rfl rfl rfl sl25 rfl (by omega) fun z1 hz1 b4 o1=>(dk_ptD default hz1 0 rfl));intro b4 o1)
    (apply lxk_sl;(· rfl);(· exact d_x fun _=>x_ld_sl 0 rfl rfl ld22 fun pa1 ca1=>(dk_sl 0 rfl));intro pa1 ca1)
    (apply lxk_sl;(· rfl);(· exact d_x fun _=>x_call [0] rfl (c_codewrightref24_Row) rfl (by rintro _ _ _ ⟨pa2,ca2,rfl,rfl,rfl⟩;exact (dk_sl 0 rfl)));intro pa2 ca2)
    refine lxk_end rfl ?_
    simp only [List.map_cons,List.map_nil,List.cons_append,List.nil_append]
    refine j_run it 1 rfl (by simp) ?_
    refine j_nf [_,_,_,_,_,_,_,_] rfl ?_
    refine j_run it 2 rfl (by simp) ?_
    refine j_step rfl (x_call [3,0] rfl (c_codewrightref24_has (by omega)) rfl ?_)
    rintro _ _ _ ⟨rfl,rfl,rfl⟩
    simp only [List.cons_append,List.nil_append]
    refine j_nf [_,_,_,_,_,_,_] rfl ?_
    refine j_false rfl rfl ?_
    refine j_nf [_,_,_,_,_,_,_,_] rfl ?_
    refine j_run it 1 rfl (by simp) ?_
    refine j_step rfl (x_len sl25 rfl ?_)
    refine j_run it 1 rfl (by simp) ?_
    refine j_step rfl (x_bld_all 0 rfl rfl ld24 rfl ?_)
    refine j_step rfl (x_call [] rfl (c_codewrightref04_Order) rfl ?_)
    rintro _ _ _ ⟨rfl,rfl,rfl⟩
    simp only [List.cons_append,List.nil_append]
    refine j_run it 2 rfl ⟨trivial,⟨by omega,by omega,by omega,by omega⟩,trivial⟩ ?_
    refine j_nf [_,_,_,_,_,_,_] rfl ?_
    refine j_if rfl rfl (fun h2=>by exfalso;omega) (fun h2=>?_)
    refine j_nf [_,_,_,_,_,_,_] rfl ?_
    refine j_run it 1 rfl (by simp) ?_
    refine j_nf [_,_,_,_,_,_,_,_] rfl ?_
    refine j_run it 1 rfl (by simp) ?_
    refine j_nf [_,_,_,_,_,_,_,_] rfl ?_
    clear c_codewrightref24_has
    generalize rowW (q : Int) n (rows.getD i default) = R at *
    refine j_row0 (encSl I64) 22 ?_
    refine j_loopG (X:=Nat × Row) [1,2,3,4,9,10,11,20,21,22,23,26,27,28,29,30,31,32,33,34,35,36,37,38,39,40,41,42] [0,1,2,3,4,5,6,7] (fun x=>[(13,.int .i64 (x.1 : Int)),(12,.slice (ad x.2.bo) (L.length * x.1) x.2.cap)]) (fun x=>[(x.2.bo,22,x.2.cs),(some b1,24,[.int .i64 p,.int .i64 m,.slice pm nm cm])]) (fun x=>[rowF (encSl I64) x.2 (L.length * x.1) ((List.range x.1).flatMap fun a : Nat=>L.map fun u=>axp (aF p m) (mF p m md) a R u)])
     (fun x=>x.1 ≤ q) (fun x=>q - x.1) (0,⟨none,0,[]⟩) [0] rfl rfl rfl (Nat.zero_le _) (by repeat (first | exact Fr.sub_nil _ | refine Fr.sub_cons rfl ?_)) rfl rfl ?_
    rintro ⟨a,r⟩ ha ih2
    simp only [List.cons_append,List.nil_append] at ha ih2 ⊢
    by_cases haq : a < q
    ·have hk : L.length * a + L.length ≤ 100000:=by
      have : L.length * a + L.length = L.length * (a + 1):=rfl
      have:=Nat.mul_le_mul_left L.length (show a + 1 ≤ q by omega)
      rw [Nat.mul_comm q] at hqL
      omega
     have ih2':=fun r1=>ih2 (a + 1,r1) (by dsimp only;omega) (by dsimp only;omega)
     dsimp only at ih2'
     clear ih2
     rw [Nat.mul_succ,List.range_succ,List.flatMap_append,List.flatMap_cons,List.flatMap_nil,List.append_nil] at ih2'
     generalize hf : ((List.range a).flatMap fun a : Nat=>L.map fun u=>axp (aF p m) (mF p m md) a R u) = fl at *
     generalize hal : L.length * a = al at *
     refine j_nf [_,_,_,_,_,_,_,_,_,_,_] rfl ?_
     refine j_run it 1 rfl (by simp) ?_
     refine j_step rfl (x_bld_all 1 rfl rfl ld24 rfl ?_)
     refine j_step rfl (x_call [] rfl (c_codewrightref04_Order) rfl ?_)
     rintro _ _ _ ⟨rfl,rfl,rfl⟩
     simp only [List.cons_append,List.nil_append]
     refine j_run it 1 rfl (by simp) ?_
     refine j_nf [_,_,_,_,_,_,_,_,_,_] rfl ?_
     refine j_if rfl rfl (fun h3=>?_) (fun h3=>by exfalso;omega)
     refine j_nf [_,_,_,_,_,_,_,_,_,_,_,_] rfl ?_
     refine j_run it 1 rfl (by simp) ?_
     refine j_nf [_,_,_,_,_,_,_,_,_,_,_,_] rfl ?_
     rw [show fl = fl++(L.take 0).map fun u=>axp (aF p m) (mF p m md) a R u by simp]
     refine j_loopG (X:=Nat × Row) [1,2,3,4,9,10,11,13,20,21,22,23,26,27,28,29,30,31,32,33,34,35,36,37,38,39,40,41,42,43,44,45,46] [0,1,2,3,4,5,6,7,8] (fun x=>[(14,.int .i64 (x.1 : Int)),(12,.slice (ad x.2.bo) (al + x.1) x.2.cap)]) (fun x=>[(x.2.bo,22,x.2.cs),(some b1,24,[.int .i64 p,.int .i64 m,.slice pm nm cm])]) (fun x=>[rowF (encSl I64) x.2 (al + x.1) (fl++(L.take x.1).map fun u=>axp (aF p m) (mF p m md) a R u)])
      (fun x=>x.1 ≤ L.length) (fun x=>L.length - x.1) (0,r) [0] rfl rfl rfl (Nat.zero_le _) (by repeat (first | exact Fr.sub_nil _ | refine Fr.sub_cons rfl ?_)) rfl rfl ?_
     rintro ⟨j,r2⟩ hj ih3
     simp only [List.cons_append,List.nil_append] at hj ih3 ⊢
     by_cases hjl : j < L.length
     ·have hz2 : L[j]? = some (L.getD j default):=by rw [List.getD_eq_getElem?_getD,List.getElem?_eq_getElem hjl];rfl
      have wu:=wd_nth hw hjl
      have ih3':=fun r1=>ih3 (j + 1,r1) (by dsimp only;omega) (by dsimp only;omega)
      dsimp only at ih3'
      clear ih3
      rw [← Nat.add_assoc,show L.take (j + 1) = L.take j++[L.getD j default] by rw [List.take_succ_eq_append_getElem hjl,List.getD_eq_getElem?_getD,List.getElem?_eq_getElem hjl];rfl,List.map_append,List.map_cons,List.map_nil,← List.append_assoc] at ih3'
      refine j_nf [_,_,_,_,_,_,_,_,_,_,_,_,_,_,_] rfl ?_
      refine j_run it 2 rfl (by simp) ?_
      refine j_step rfl (x_len sl25 rfl ?_)
      refine j_run it 1 rfl (by simp) ?_
      refine j_nf [_,_,_,_,_,_,_,_,_,_,_,_,_,_] rfl ?_
      refine j_if rfl rfl (fun h4=>?_) (fun h4=>by exfalso;omega)
      refine j_nf [_,_,_,_,_,_,_,_,_,_,_,_,_,_,_,_] rfl ?_
      refine j_run it 1 rfl (by simp) ?_
      refine j_step rfl (x_make_nat (n) _ rfl rfl sl22 zo22e by22e (by omega) (by omega) (by omega) fun b5=>?_)
      refine j_run it 1 rfl (by simp) ?_
      refine j_nf [_,_,_,_,_,_,_,_,_,_,_,_,_,_,_,_,_] rfl ?_
      refine j_run it 1 rfl (by simp) ?_
      refine j_nf [_,_,_,_,_,_,_,_,_,_,_,_,_,_,_,_,_] rfl ?_
      have wW : Wd q n (axp (aF p m) (mF p m md) a R (L.getD j default)):=F.axw (by omega) (by omega) hrw wu
      have lu:=wu.1
      have lR2:=hrw.1
      have tz : ∀ k,k < n → (axp (aF p m) (mF p m md) a R (L.getD j default))[k]? = some (aF p m ((L.getD j default).getD k default) (mF p m md a (R.getD k default))):=fun k hk=>axp_at lR2 lu hk
      have eT:=toI_toNat fun x hx=>(wW.2 x hx).1
      have lN : ((axp (aF p m) (mF p m md) a R (L.getD j default)).map Int.toNat).length = n:=by rw [List.length_map,wW.1]
      have nz : ∀ k,k < n → ((axp (aF p m) (mF p m md) a R (L.getD j default)).map Int.toNat)[k]? = some (aF p m ((L.getD j default).getD k default) (mF p m md a (R.getD k default))).toNat:=fun k hk=>by
       rw [List.getElem?_map,tz k hk];rfl
      have rN : ∀ d ∈ (axp (aF p m) (mF p m md) a R (L.getD j default)).map Int.toNat,d ≤ 9223372036854775807:=fun d hd=>by
       obtain ⟨x,hx,rfl⟩:=List.mem_map.1 hd
       have:=wW.2 x hx;omega
      rw [← eT] at ih3'
      generalize (axp (aF p m) (mF p m md) a R (L.getD j default)).map Int.toNat = T at *
      rw [show List.replicate n 0 = T.take 0++List.replicate (n - 0) 0 by simp]
      refine j_loopG (X:=Nat) [1,2,3,4,9,10,11,12,13,14,15,20,21,22,23,26,27,28,29,30,31,32,33,34,35,36,37,38,39,40,41,42,43,44,45,46,49,50,51,52,55,56] [0,1,2,3,4,5,6,7,8,9] (fun k=>[(16,.int .i64 (k : Int))]) (fun k=>[(some b5,3,natCells .i64 (T.take k++List.replicate (n - k) 0)),(r2.bo,22,r2.cs),(some b1,24,[.int .i64 p,.int .i64 m,.slice pm nm cm])]) (fun _=>[]) (fun k=>k ≤ n) (fun k=>n - k) 0 [] rfl rfl rfl (Nat.zero_le _) (by repeat (first | exact Fr.sub_nil _ | refine Fr.sub_cons rfl ?_)) rfl rfl ?_
      rintro k hk4 ih4
      simp only [List.cons_append,List.nil_append] at hk4 ih4 ⊢
      by_cases hkn : k < n
      ·have ih4':=ih4 (k + 1) (by omega) (by omega)
       have zz:=nz k hkn
       rw [← fill_set lN hkn zz] at ih4'
       have lf : (T.take k++List.replicate (n - k) 0).length = n:=by rw [List.length_append,List.length_take,List.length_replicate];omega
       have wa:=wd_at wu hkn
       have wb:=wd_at hrw hkn
       obtain ⟨m0,m1⟩:=F.ml a _ (by omega) (by omega) wb.1 wb.2
       obtain ⟨a0,a1⟩:=F.al _ _ wa.1 wa.2 m0 m1
       have en : (((aF p m ((L.getD j default).getD k default) (mF p m md a (R.getD k default))).toNat : Nat) : Int) = aF p m ((L.getD j default).getD k default) (mF p m md a (R.getD k default)):=Int.toNat_of_nonneg a0
       refine j_nf [_,_,_,_,_,_,_,_,_,_,_,_,_,_,_,_,_,_,_,_] rfl ?_
       refine j_run it 3 rfl (by simp) ?_
       refine j_nf [_,_,_,_,_,_,_,_,_,_,_,_,_,_,_,_,_,_,_] rfl ?_
       refine j_if rfl rfl (fun h5=>?_) (fun h5=>by exfalso;omega)
       refine j_nf [_,_,_,_,_,_,_,_,_,_,_,_,_,_,_,_,_,_,_,_] rfl ?_
       (apply j_drawK it mx 18;(· rfl);(· rfl))
       (apply lxk_run 2;(· rfl);(· simp))
       (apply lxk_eq;(· rfl);(· exact d_bld_all 2 rfl rfl ld24 rfl))
       (apply lxk_run 2;(· rfl);(· simp))
       (apply lxk_pt;(· rfl);(· exact d_x fun _=>x_idx 6 (j) rfl rfl rfl sl25 rfl (by omega) fun z1 hz1 b6 o2=>(dk_ptD default hz1 0 rfl));intro b6 o2)
       (apply lxk_sl;(· rfl);(· exact d_x fun _=>x_ld_sl 0 rfl rfl ld22 fun pa3 ca3=>(dk_sl 0 rfl));intro pa3 ca3)
       (apply lxk_run 1;(· rfl);(· simp))
       (apply lxk_pt;(· rfl);(· exact d_x fun _=>x_idx 0 (k) rfl rfl rfl sl22 rfl (by omega) fun z1 hz1 b7 o3=>(dk_ptD default hz1 0 rfl));intro b7 o3)
       (apply lxk_eq;(· rfl);(· exact d_x fun _=>x_ld_int 0 rfl rfl ld3 fun ⟨r1,r3⟩=>dk_eq))
       (apply lxk_eq;(· rfl);(· exact d_bld_all 2 rfl rfl ld24 rfl))
       (apply lxk_run 3;(· rfl);(· simp))
       (apply lxk_pt;(· rfl);(· exact d_x fun _=>x_idx 3 (k) rfl rfl rfl sl22 rfl (by omega) fun z1 hz1 b8 o4=>(dk_ptD default hz1 0 rfl));intro b8 o4)
       (apply lxk_eq;(· rfl);(· exact d_x fun _=>x_ld_int 0 rfl rfl ld3 fun ⟨r1,r3⟩=>dk_eq))
       (apply lxk_eq;(· rfl);(· exact d_x fun _=>x_call [9] rfl (c_codewrightref04_Mul (by omega) (by omega) (by omega) (by omega)) rfl (by rintro _ _ _ ⟨rfl,rfl,rfl⟩;exact dk_eq)))
       (apply lxk_eq;(· rfl);(· exact d_x fun _=>x_call [] rfl (c_codewrightref04_Add (by omega) (by omega) (by omega) (by omega)) rfl (by rintro _ _ _ ⟨rfl,rfl,rfl⟩;exact dk_eq)))
       refine lxk_end rfl ?_
       simp only [List.map_cons,List.map_nil,List.cons_append,List.nil_append]
       refine j_step rfl (x_idx_own (k) (k) rfl rfl sl22 rfl (by omega) (Nat.mul_one _) ?_)
       refine j_step rfl (x_bst_nat 0 ((liftI (fA p m) ((L.getD j default).getD k default) (liftI (fM p (fpo m md)) (↑a) (R.getD k default)) : Int).toNat) rfl rfl rfl ld3 (by first | rfl | omega) (by first | omega | (simp;omega)) ?_)
       refine j_nf [_,_,_,_,_,_,_,_,_,_,_,_,_,_,_,_,_,_] rfl ?_
       refine j_run it 3 rfl ⟨trivial,⟨by omega,by omega⟩,trivial,trivial⟩ ?_
       refine j_nfn 1 [.lp (pL 3913098388),.blk 6,.c (pL 489137299),.blk 5,.c (pL 61142163),.lp (pL 15285540),.blk 4,.blk 3,.c (pL 955347),.lp (pL 238836),.blk 2,.c (pL 29855),.blk 1,.c (pL 467),.lp (pL 116),.blk 0,.c [1,1,1]] rfl ?_
       refine j_to [4,5,6,7,8,9,10,11,12,13] (by exact fra rfl) rfl rfl (ih4')
      ·obtain rfl : k = n:=by omega
       rw [Nat.sub_self,List.replicate_zero,List.append_nil,List.take_of_length_le (by omega),natCells_toI]
       refine j_pub_madei 8 (toI T) 0 rfl (by rw [toI_len,lN]) (toI_rng rN) (by omega) (by omega) ?_
       simp only [List.eraseIdx_cons_zero]
       refine j_nf [_,_,_,_,_,_,_,_,_,_,_,_,_,_,_,_,_,_,_,_] rfl ?_
       refine j_run it 3 rfl (by simp) ?_
       refine j_nf [_,_,_,_,_,_,_,_,_,_,_,_,_,_,_,_,_,_,_] rfl ?_
       refine j_if rfl rfl (fun h5=>by exfalso;omega) (fun h5=>?_)
       refine j_nf [_,_,_,_,_,_,_,_,_,_,_,_,_,_,_] rfl ?_
       refine j_run it 2 rfl (by simp) ?_
       refine j_step rfl (x_lit sl25 zo25e rfl rfl rfl rfl (by decide) (by decide) rfl fun b6=>?_)
       refine j_step rfl (x_appR (z:=toI T) 1 0 1 rfl rfl rfl rfl rfl sl25 zo25e rfl (fun w A hG=>(rd_of_slF (hG _ (fact_mem (n:=0) rfl)))) (by omega) _ by25e (by omega) fun r1=>?_)
       refine j_run it 1 rfl (by simp) ?_
       refine j_nf [_,_,_,_,_,_,_,_,_,_,_,_,_] rfl ?_
       refine j_run it 3 rfl ⟨trivial,⟨by omega,by omega⟩,trivial,trivial⟩ ?_
       refine j_nfn 1 [.lp (pL 15285540),.blk 4,.blk 3,.c (pL 955347),.lp (pL 238836),.blk 2,.c (pL 29855),.blk 1,.c (pL 467),.lp (pL 116),.blk 0,.c [1,1,1]] rfl ?_
       refine j_toM [true,false,true] [0,3,4,5,6,7,8,9,10,11] (by exact fra rfl) rfl rfl (ih3' r1)
     ·obtain rfl : j = L.length:=by omega
      rw [List.take_length]
      refine j_nf [_,_,_,_,_,_,_,_,_,_,_,_,_,_,_] rfl ?_
      refine j_run it 2 rfl (by simp) ?_
      refine j_step rfl (x_len sl25 rfl ?_)
      refine j_run it 1 rfl (by simp) ?_
      refine j_nf [_,_,_,_,_,_,_,_,_,_,_,_,_,_] rfl ?_
      refine j_if rfl rfl (fun h4=>by exfalso;omega) (fun h4=>?_)
      refine j_nf [_,_,_,_,_,_,_,_,_] rfl ?_
      refine j_run it 3 rfl ⟨trivial,⟨by omega,by omega⟩,trivial,trivial⟩ ?_
      refine j_nfn 1 [.lp (pL 238836),.blk 2,.c (pL 29855),.blk 1,.c (pL 467),.lp (pL 116),.blk 0,.c [1,1,1]] rfl ?_
      refine j_to [0,2,3,4,5,6,7,8,9] (by exact fra rfl) rfl rfl (ih2' r2)
    ·obtain rfl : a = q:=by omega
     have hlx : (extL a (aF p m) (mF p m md) L R).length = L.length * a:=by
      rw [ext_len,Nat.mul_comm]
     rw [← extL]
     refine j_nf [_,_,_,_,_,_,_,_,_,_,_] rfl ?_
     refine j_run it 1 rfl (by simp) ?_
     refine j_step rfl (x_bld_all 1 rfl rfl ld24 rfl ?_)
     refine j_step rfl (x_call [] rfl (c_codewrightref04_Order) rfl ?_)
     rintro _ _ _ ⟨rfl,rfl,rfl⟩
     simp only [List.cons_append,List.nil_append]
     refine j_run it 1 rfl (by simp) ?_
     refine j_nf [_,_,_,_,_,_,_,_,_,_] rfl ?_
     refine j_if rfl rfl (fun h3=>by exfalso;omega) (fun h3=>?_)
     refine j_nf [_,_,_,_,_,_] rfl ?_
     refine j_run it 2 rfl (by simp) ?_
     refine j_nf [_,_,_,_] rfl ?_
     refine j_run it 3 rfl ⟨trivial,⟨by omega,by omega⟩,trivial,trivial⟩ ?_
     refine j_nfn 1 [.lp (pL 116),.blk 0,.c [1,1,1]] rfl ?_
     refine j_pubR 0 0 rfl rfl (by show L.length * a * 24 ≤ _;rw [Nat.mul_comm a] at hqL;omega) ?_
     rw [← hlx]
     refine j_to [0,7,8,9] (by exact fra rfl) rfl rfl (ih (i + 1,extL a (aF p m) (mF p m md) L R,ad r.bo,r.cap) (by dsimp only;omega) ⟨by dsimp only;omega,fun u hu=>by obtain ⟨a',v,ha',hv,rfl⟩:=ext_mem hu;exact F.axw (by omega) (by omega) hrw (hw v hv),by dsimp only;rw [hlx,Nat.mul_comm];omega,he⟩)
 ·obtain rfl : i = rows.length:=by omega
  rw [List.drop_of_length_le (by omega),spanS] at he
  subst he
  refine j_nf [_,_,_,_,_,_] rfl ?_
  refine j_run it 2 rfl (by simp) ?_
  refine j_step rfl (x_len sl25 rfl ?_)
  refine j_run it 1 rfl (by simp) ?_
  refine j_nf [_,_,_,_,_] rfl ?_
  refine j_if rfl rfl (fun h1=>by exfalso;omega) (fun h1=>?_)
  refine j_nf [_,_] rfl ?_
  refine j_run it 2 rfl (by simp) ?_
  refine j_nf [_] rfl ?_
  refine j_giv [0] rfl rfl rfl ⟨_,_,_,rfl,rfl,rfl,rfl⟩
theorem unit_toI (n i : Nat) : toI ((List.replicate n 0).set i 1) = unitW n i:=by
 rw [toI,List.map_set,List.map_replicate,unitW];rfl
theorem rowW_self {q n : Nat} {u : List Int} (h : Wd q n u) : rowW (q : Int) n u = u:=by
 refine List.ext_getElem? fun k=>?_
 rw [rowW,List.getElem?_map]
 have hl:=h.1
 by_cases hk : k < n
 ·rw [List.getElem?_range hk]
  have e : u[k]? = some (u.getD k 0):=by rw [List.getD_eq_getElem?_getD,List.getElem?_eq_getElem (by omega)];rfl
  have hb:=h.2 _ (List.mem_of_getElem? e)
  rw [Option.map_some,if_pos (by omega),e,inI,if_pos (by omega)]
 ·rw [List.getElem?_eq_none (by simp;omega),List.getElem?_eq_none (by omega)];rfl
theorem unit_wd' {q n i : Nat} (hq : 2 ≤ q) : Wd q n (unitW n i):=⟨by simp [unitW],fun x hx=>by
 rcases List.mem_or_eq_of_mem_set hx with h | h
 ·rw [(List.mem_replicate.1 h).2];omega
 ·omega⟩
theorem rows_units {q n : Nat} (hq : 2 ≤ q) : ((List.range n).map (unitW n)).map (rowW (q : Int) n) = (List.range n).map (unitW n):=by
 rw [List.map_map]
 exact List.map_congr_left fun i _=>rowW_self (unit_wd' hq)
theorem S_codewrightref24_All {p m nm cm n most : Nat} {md : List Int} {pm : Option Addr} (K : Fok p m md) (hn : n ≤ 100) (hmost : most ≤ 100000) :
  Ctr Try.prog 40 [.agg #[.int .i64 p,.int .i64 m,.slice pm nm cm],.int .i64 n,.int .i64 most] [] [slF I64 pm nm cm md]
   (SpanE n (spanS (p ^ m) most (aF p m) (mF p m md) ((List.range n).map (unitW n)) [zW n])):=by
 refine Ctr_of_j' (F:=F_codewrightref24_All) rfl fun C=>?_
 have F:=K.fi
 have hq2:=F.q2
 have e0:=rows_units (n:=n) hq2
 have c_codewrightref24_Span:=fun {nr cr : Nat} {pr : Option Addr} {rows : List (List Int)}=>S_codewrightref24_Span (nm:=nm) (cm:=cm) (pm:=pm) (n:=n) (most:=most) (nr:=nr) (cr:=cr) (pr:=pr) (rows:=rows) K hn hmost
 refine j_nf [_,_] rfl (j_step rfl (x_box_agg rfl fun b1=>?_))
 refine j_run it 1 rfl (by simp) ?_
 refine j_nf [_,_] rfl (j_run it 1 rfl (by simp) ?_)
 refine j_nf [_,_,_] rfl (j_run it 1 rfl (by simp) ?_)
 refine j_nf [_,_,_] rfl ?_
 refine j_row0 (encSl I64) 22 ?_
 refine j_loopG (X:=Nat × Row) [1,2,3,6] [0,1] (fun x=>[(8,.int .i64 (x.1 : Int)),(7,.slice (ad x.2.bo) x.1 x.2.cap)]) (fun x=>[(x.2.bo,22,x.2.cs),(some b1,24,[.int .i64 p,.int .i64 m,.slice pm nm cm])]) (fun x=>[rowF (encSl I64) x.2 x.1 ((List.range x.1).map (unitW n))])
  (fun x=>x.1 ≤ n) (fun x=>n - x.1) (0,⟨none,0,[]⟩) [0] rfl rfl rfl (Nat.zero_le _) (by repeat (first | exact Fr.sub_nil _ | refine Fr.sub_cons rfl ?_)) rfl rfl ?_
 rintro ⟨i,r⟩ hi ih
 simp only [List.cons_append,List.nil_append] at hi ih ⊢
 by_cases hin : i < n
 ·have ih':=fun r1=>ih (i + 1,r1) (by dsimp only;omega) (by dsimp only;omega)
  dsimp only at ih'
  rw [range_snoc] at ih'
  have lz : (List.replicate n 0).length = n:=by simp
  have e1 : ((1 : Nat) : Int) = 1:=rfl
  refine j_nf [_,_,_,_,_,_] rfl (j_run it 3 rfl (by simp) ?_)
  refine j_nf [_,_,_,_,_] rfl (j_if rfl rfl (fun h1=>?_) (fun h1=>by exfalso;omega))
  refine j_nf [_,_,_,_,_,_,_] rfl (j_run it 1 rfl (by simp) ?_)
  refine j_step rfl (x_make_nat (n) _ rfl rfl sl22 zo22e by22e (by omega) (by omega) (by omega) fun b2=>?_)
  refine j_run it 1 rfl (by simp) ?_
  refine j_nf [_,_,_,_,_,_,_] rfl (j_run it 2 rfl (by simp) ?_)
  refine j_step rfl (x_idx_own (i) (i) rfl rfl sl22 rfl (by omega) (Nat.mul_one _) ?_)
  refine j_step rfl (x_bst_nat 0 1 rfl rfl rfl ld3 (by first | rfl | omega) (by first | omega | (simp;omega)) ?_)
  refine j_nf [_,_,_,_,_,_] rfl (j_run it 2 rfl (by simp) ?_)
  refine j_step rfl (x_lit sl25 zo25e rfl rfl rfl rfl (by decide) (by decide) rfl fun b3=>?_) --ok
  rw [show natCells .i64 ((List.replicate n 0).set i 1) = intCells .i64 (unitW n i) from by rw [natCells_toI,unit_toI]]
  refine j_pub_madei (kd:=.i64) (n:=n) 8 (unitW n i) 1 rfl (by simp [unitW]) (fun x hx=>by have:=(unit_wd' (q:=2) (n:=n) (i:=i) (by omega)).2 x hx;simp only [InR];omega) (by omega) (by omega) ?_
  simp only [List.eraseIdx_cons_zero,List.eraseIdx_cons_succ]
  refine j_step rfl (x_appR (z:=unitW n i) 1 0 1 rfl rfl rfl rfl rfl sl25 zo25e rfl (fun w A hG=>(rd_of_slF (hG _ (fact_mem (n:=0) rfl)))) (by omega) _ by25e (by omega) fun r1=>?_)
  refine j_run it 1 rfl (by simp) ?_
  refine j_nf [_,_,_,_] rfl (j_run it 3 rfl ⟨trivial,⟨by omega,by omega⟩,trivial,trivial⟩ ?_)
  refine j_nfn 1 [.lp (pL 116),.blk 0,.c [1,1,1]] rfl ?_
  refine j_toM [true,false,true] [0,3,4] (by exact fra rfl) rfl rfl (ih' r1)
 ·obtain rfl : i = n:=by omega
  refine j_nf [_,_,_,_,_,_] rfl (j_run it 3 rfl (by simp) ?_)
  refine j_nf [_,_,_,_,_] rfl (j_if rfl rfl (fun h1=>by exfalso;omega) (fun h1=>?_))
  refine j_nf [_,_] rfl (j_step rfl (x_bld_all 1 rfl rfl ld24 rfl ?_))
  refine j_run it 3 rfl (by simp) ?_
  refine j_pubR 0 0 rfl rfl (by show (i) * 24 ≤ 140737488355328;omega) ?_
  refine j_step rfl (x_call [3,0] rfl (c_codewrightref24_Span) rfl ?_)
  rintro _ _ _ ⟨L1,pa1,ca1,rfl,rfl,rfl,rfl⟩
  simp only [List.cons_append,List.nil_append]
  refine j_run it 1 rfl (by simp) ?_
  refine j_nf [_] rfl ?_
  rw [e0]
  refine j_giv [0] rfl rfl rfl ⟨_,_,_,rfl,rfl,rfl,rfl⟩
abbrev SvL (L : List (List Int)) : Value → List Fact → List Blk → Prop:=fun v Φ β=>∃ (pa : Option Addr) (ca : Nat),v = .slice pa L.length ca ∧ Φ = [slF (encSl I64) pa L.length ca L] ∧ β = []
theorem S_codewrightref24_Orthogonal {p m nm cm n nl cl nr cr : Nat} {md : List Int} {pm pl pr : Option Addr} {L rows : List (List Int)} (K : Fok p m md) (hL : ∀ u ∈ L,Wd (p ^ m) n u) (hR : ∀ u ∈ rows,Wd (p ^ m) n u) :
  Ctr Try.prog 41 [.agg #[.int .i64 p,.int .i64 m,.slice pm nm cm],.slice pl nl cl,.slice pr nr cr] [] [slF I64 pm nm cm md,slF (encSl I64) pl nl cl L,slF (encSl I64) pr nr cr rows]
   (SvL (L.filter (orthB (aF p m) (mF p m md) rows))):=by
 refine Ctr_of_j' (F:=F_codewrightref24_Orthogonal) rfl fun C=>?_
 have F:=K.fi
 refine j_len 1 rfl fun e1 hb1 _=>?_
 refine j_len 2 rfl fun e2 hb2 _=>?_
 have hb1' : L.length * 24 ≤ 140737488355328:=hb1
 have hb2' : rows.length * 24 ≤ 140737488355328:=hb2
 subst e1 e2
 refine j_nf [_,_] rfl ?_
 refine j_step rfl (x_box_agg rfl fun b1=>?_)
 refine j_run it 1 rfl (by simp) ?_
 refine j_nf [_,_] rfl ?_
 refine j_run it 1 rfl (by simp) ?_
 refine j_nf [_,_,_] rfl ?_
 refine j_run it 1 rfl (by simp) ?_
 refine j_nf [_,_,_] rfl ?_
 refine j_row0 (encSl I64) 22 ?_
 refine j_loopG (X:=Nat × Row) [1,2,3,6] [0,1,2,3] (fun x=>[(8,.int .i64 (x.1 : Int)),(7,.slice (ad x.2.bo) ((L.take x.1).filter (orthB (aF p m) (mF p m md) rows)).length x.2.cap)]) (fun x=>[(x.2.bo,22,x.2.cs),(some b1,24,[.int .i64 p,.int .i64 m,.slice pm nm cm])]) (fun x=>[rowF (encSl I64) x.2 ((L.take x.1).filter (orthB (aF p m) (mF p m md) rows)).length ((L.take x.1).filter (orthB (aF p m) (mF p m md) rows))])
  (fun x=>x.1 ≤ L.length) (fun x=>L.length - x.1) (0,⟨none,0,[]⟩) [0] rfl rfl rfl (Nat.zero_le _) (by repeat (first | exact Fr.sub_nil _ | refine Fr.sub_cons rfl ?_)) rfl rfl ?_
 rintro ⟨i,r⟩ hi ih
 simp only [List.cons_append,List.nil_append] at hi ih ⊢
 have hfl : ((L.take i).filter (orthB (aF p m) (mF p m md) rows)).length ≤ i:=by
  have h1:=List.length_filter_le (orthB (aF p m) (mF p m md) rows) (L.take i)
  rw [List.length_take] at h1;omega
 by_cases hil : i < L.length
 ·have hz : L[i]? = some (L.getD i default):=by rw [List.getD_eq_getElem?_getD,List.getElem?_eq_getElem hil];rfl
  have wu:=wd_nth hL hil
  have ih':=fun r1=>ih (i + 1,r1) (by dsimp only;omega) (by dsimp only;omega)
  dsimp only at ih'
  rw [show L.take (i + 1) = L.take i++[L.getD i default] by rw [List.take_succ_eq_append_getElem hil,List.getD_eq_getElem?_getD,List.getElem?_eq_getElem hil];rfl,List.filter_append] at ih'
  generalize (L.take i).filter (orthB (aF p m) (mF p m md) rows) = fl at *
  refine j_nf [_,_,_,_,_,_] rfl ?_
  refine j_run it 2 rfl (by simp) ?_
  refine j_step rfl (x_len sl25 rfl ?_)
  refine j_run it 1 rfl (by simp) ?_
  refine j_nf [_,_,_,_,_] rfl ?_
  refine j_if rfl rfl (fun h1=>?_) (fun h1=>by exfalso;omega)
  refine j_nf [_,_,_,_,_,_,_] rfl ?_
  refine j_run it 1 rfl (by simp) ?_
  refine j_nf [_,_,_,_,_,_,_,_] rfl ?_
  refine j_run it 1 rfl (by simp) ?_
  refine j_nf [_,_,_,_,_,_,_,_] rfl ?_
  refine j_loopG (X:=Nat) [1,2,3,6,7,8,11,12,13,14] [0,1,2,3,4] (fun j=>[(10,.int .i64 (j : Int)),(9,.bool (orthB (aF p m) (mF p m md) (rows.take j) (L.getD i default)))]) (fun _=>[(r.bo,22,r.cs),(some b1,24,[.int .i64 p,.int .i64 m,.slice pm nm cm])]) (fun _=>[])
   (fun j=>j ≤ rows.length) (fun j=>rows.length - j) 0 [] rfl rfl rfl (Nat.zero_le _) (by repeat (first | exact Fr.sub_nil _ | refine Fr.sub_cons rfl ?_)) rfl rfl ?_
  rintro j hj ih2
  simp only [List.cons_append,List.nil_append] at hj ih2 ⊢
  by_cases hjl : j < rows.length
  ·have wr:=wd_nth hR hjl
   have ih2':=ih2 (j + 1) (by omega) (by omega)
   rw [show rows.take (j + 1) = rows.take j++[rows.getD j default] by rw [List.take_succ_eq_append_getElem hjl,List.getD_eq_getElem?_getD,List.getElem?_eq_getElem hjl];rfl,orth_snoc] at ih2'
   have c_codewrightref04_Dot:=fun {na ca nb cb : Nat} {pa pb : Option Addr}=>S_codewrightref04_Dot (nm:=nm) (cm:=cm) (pm:=pm) (na:=na) (ca:=ca) (nb:=nb) (cb:=cb) (pa:=pa) (pb:=pb) K wu wr
   cases hb : orthB (aF p m) (mF p m md) (rows.take j) (L.getD i default) with
   | false =>
    rw [hb,Bool.false_and] at ih2'
    refine j_nf [_,_,_,_,_,_,_,_,_,_,_] rfl ?_
    refine j_run it 2 rfl (by simp) ?_
    refine j_step rfl (x_len sl25 rfl ?_)
    refine j_run it 1 rfl (by simp) ?_
    refine j_nf [_,_,_,_,_,_,_,_,_,_] rfl ?_
    refine j_if rfl rfl (fun h2=>?_) (fun h2=>by exfalso;omega)
    refine j_nf [_,_,_,_,_,_,_,_,_,_,_] rfl ?_
    (apply j_drawK it mx 14;(· rfl);(· rfl))
    (apply lxk_run 12;(· rfl);(· simp))
    (apply lxk_run 2;(· rfl);(· simp))
    refine lxk_end rfl ?_
    simp only [List.map_cons,List.map_nil,List.cons_append,List.nil_append]
    refine j_run it 1 rfl (by simp) ?_
    refine j_nf [_,_,_,_,_,_,_,_,_] rfl ?_
    refine j_run it 3 rfl ⟨trivial,⟨by omega,by omega⟩,trivial,trivial⟩ ?_
    refine j_nfn 1 [.lp (pL 29844),.blk 2,.c (pL 3731),.blk 1,.c (pL 467),.lp (pL 116),.blk 0,.c [1,1,1]] rfl ?_
    refine j_to [0,1,2,3,4] (by exact fra rfl) rfl rfl (ih2')
   | true =>
    rw [hb,Bool.true_and] at ih2'
    refine j_nf [_,_,_,_,_,_,_,_,_,_,_] rfl ?_
    refine j_run it 2 rfl (by simp) ?_
    refine j_step rfl (x_len sl25 rfl ?_)
    refine j_run it 1 rfl (by simp) ?_
    refine j_nf [_,_,_,_,_,_,_,_,_,_] rfl ?_
    refine j_if rfl rfl (fun h2=>?_) (fun h2=>by exfalso;omega)
    refine j_nf [_,_,_,_,_,_,_,_,_,_,_] rfl ?_
    (apply j_drawK it mx 14;(· rfl);(· rfl))
    (apply lxk_run 2;(· rfl);(· simp))
    (apply lxk_eq;(· rfl);(· exact d_bld_all 1 rfl rfl ld24 rfl))
    (apply lxk_run 2;(· rfl);(· simp))
    (apply lxk_pt;(· rfl);(· exact d_x fun _=>x_idx 3 (i) rfl rfl rfl sl25 rfl (by omega) fun z1 hz1 b2 o1=>(dk_ptD default hz1 0 rfl));intro b2 o1)
    (apply lxk_sl;(· rfl);(· exact d_x fun _=>x_ld_sl 0 rfl rfl ld22 fun pa1 ca1=>(dk_sl 0 rfl));intro pa1 ca1)
    (apply lxk_run 2;(· rfl);(· simp))
    (apply lxk_pt;(· rfl);(· exact d_x fun _=>x_idx 4 (j) rfl rfl rfl sl25 rfl (by omega) fun z1 hz1 b3 o2=>(dk_ptD default hz1 0 rfl));intro b3 o2)
    (apply lxk_sl;(· rfl);(· exact d_x fun _=>x_ld_sl 0 rfl rfl ld22 fun pa2 ca2=>(dk_sl 0 rfl));intro pa2 ca2)
    (apply lxk_eq;(· rfl);(· exact d_x fun _=>x_call [6,2,0] rfl (c_codewrightref04_Dot) rfl (by rintro _ _ _ ⟨rfl,rfl,rfl⟩;exact dk_eq)))
    (apply lxk_run 2;(· rfl);(· simp))
    refine lxk_end rfl ?_
    simp only [List.map_cons,List.map_nil,List.cons_append,List.nil_append]
    refine j_run it 1 rfl (by simp) ?_
    refine j_nf [_,_,_,_,_,_,_,_,_] rfl ?_
    refine j_run it 3 rfl ⟨trivial,⟨by omega,by omega⟩,trivial,trivial⟩ ?_
    refine j_nfn 1 [.lp (pL 29844),.blk 2,.c (pL 3731),.blk 1,.c (pL 467),.lp (pL 116),.blk 0,.c [1,1,1]] rfl ?_
    refine j_to [4,5,6,7,8] (by exact fra rfl) rfl rfl (ih2')
  ·obtain rfl : j = rows.length:=by omega
   rw [List.take_length]
   cases hb : orthB (aF p m) (mF p m md) rows (L.getD i default) with
   | false =>
    rw [List.filter_cons,if_neg (by rw [hb];decide),List.filter_nil,List.append_nil] at ih'
    refine j_nf [_,_,_,_,_,_,_,_,_,_,_] rfl ?_
    refine j_run it 2 rfl (by simp) ?_
    refine j_step rfl (x_len sl25 rfl ?_)
    refine j_run it 1 rfl (by simp) ?_
    refine j_nf [_,_,_,_,_,_,_,_,_,_] rfl ?_
    refine j_if rfl rfl (fun h2=>by exfalso;omega) (fun h2=>?_)
    refine j_nf [_,_,_,_,_,_,_] rfl ?_
    refine j_run it 1 rfl (by simp) ?_
    refine j_nf [_,_,_,_,_,_] rfl ?_
    refine j_false rfl rfl ?_
    refine j_nf [_,_,_,_] rfl ?_
    refine j_run it 3 rfl ⟨trivial,⟨by omega,by omega⟩,trivial,trivial⟩ ?_
    refine j_nfn 1 [.lp (pL 116),.blk 0,.c [1,1,1]] rfl ?_
    refine j_to [0,1,2,3,4] (by exact fra rfl) rfl rfl (ih' r)
   | true =>
    rw [List.filter_cons,if_pos hb,List.filter_nil,List.length_append,List.length_singleton] at ih'
    refine j_nf [_,_,_,_,_,_,_,_,_,_,_] rfl ?_
    refine j_run it 2 rfl (by simp) ?_
    refine j_step rfl (x_len sl25 rfl ?_)
    refine j_run it 1 rfl (by simp) ?_
    refine j_nf [_,_,_,_,_,_,_,_,_,_] rfl ?_
    refine j_if rfl rfl (fun h2=>by exfalso;omega) (fun h2=>?_)
    refine j_nf [_,_,_,_,_,_,_] rfl ?_
    refine j_run it 1 rfl (by simp) ?_
    refine j_nf [_,_,_,_,_,_] rfl ?_
    refine j_true rfl rfl ?_
    refine j_nf [_,_,_,_,_,_] rfl ?_
    refine j_run it 3 rfl (by simp) ?_
    refine j_step rfl (x_idx 3 (i) rfl rfl rfl sl25 rfl (by omega) fun z1 hz1 b2 o1=>?_)
    refine j_step rfl (x_ld_sl 0 rfl rfl ld22 fun pa1 ca1=>?_)
    refine j_step rfl (x_lit sl25 zo25e rfl rfl rfl rfl (by decide) (by decide) rfl fun b3=>?_)
    refine j_step rfl (x_appR (z:=z1) 1 0 2 rfl rfl rfl rfl rfl sl25 zo25e rfl (fun w A hG=>(rd_of_slF (hG _ (fact_mem (n:=0) rfl)))) (by omega) _ by25e (by omega) fun r1=>?_)
    refine j_run it 1 rfl (by simp) ?_
    refine j_nf [_,_,_,_] rfl ?_
    refine j_run it 3 rfl ⟨trivial,⟨by omega,by omega⟩,trivial,trivial⟩ ?_
    refine j_nfn 1 [.lp (pL 116),.blk 0,.c [1,1,1]] rfl ?_
    obtain rfl : z1 = L.getD i default:=Option.some.inj (hz1.symm.trans hz)
    refine j_toM [true,false,true] [0,4,5,6,7] (by exact fra rfl) rfl rfl (ih' r1)
 ·obtain rfl : i = L.length:=by omega
  rw [List.take_length] at hfl ⊢
  refine j_nf [_,_,_,_,_,_] rfl ?_
  refine j_run it 2 rfl (by simp) ?_
  refine j_step rfl (x_len sl25 rfl ?_)
  refine j_run it 1 rfl (by simp) ?_
  refine j_nf [_,_,_,_,_] rfl ?_
  refine j_if rfl rfl (fun h1=>by exfalso;omega) (fun h1=>?_)
  refine j_nf [_,_] rfl ?_
  refine j_run it 2 rfl (by simp) ?_
  refine j_nf [_] rfl ?_
  refine j_pubR 0 0 rfl rfl (by show _ * 24 ≤ _;omega) ?_
  refine j_giv [0] rfl rfl rfl ⟨_,_,rfl,rfl,rfl⟩
def cwN (L : List (List Int)) (j : Nat) : Nat:=(L.filter fun u=>decide (wt u = j)).length
theorem cwN_snoc (L : List (List Int)) (u : List Int) (j : Nat) : cwN (L++[u]) j = cwN L j + if wt u = j then 1 else 0:=by
 rw [cwN,List.filter_append,List.length_append,← cwN]
 congr 1
 by_cases h : wt u = j
 ·rw [if_pos h,List.filter_cons,if_pos (decide_eq_true h)];rfl
 ·rw [if_neg h,List.filter_cons,if_neg (by simp [h])];rfl
theorem cwN_le (L : List (List Int)) (j : Nat) : cwN L j ≤ L.length:=List.length_filter_le _ _
theorem cntW_cw : ∀ (L : List (List Int)) (j : Nat),cntW L j = (cwN L j : Int)
 | [],j=>rfl
 | u::L,j=>by
  have ih:=cntW_cw L j
  rw [cntW] at ih ⊢
  rw [lsum,ih,cwN,cwN,List.filter_cons]
  by_cases h : wt u = j
  ·rw [if_pos h,if_pos (decide_eq_true h),List.length_cons];omega
  ·rw [if_neg h,if_neg (by simp [h])];omega
def cwS (n : Nat) (L : List (List Int)) : List Nat:=(List.range (n + 1)).map (cwN L)
theorem cwS_len (n : Nat) (L : List (List Int)) : (cwS n L).length = n + 1:=by simp [cwS]
theorem cwS_at {n j : Nat} {L : List (List Int)} (h : j ≤ n) : (cwS n L)[j]? = some (cwN L j):=by rw [cwS,List.getElem?_map,List.getElem?_range (by omega)];rfl
theorem cwS_snoc {n : Nat} {L : List (List Int)} {u : List Int} : cwS n (L++[u]) = (cwS n L).set (wt u) (cwN L (wt u) + 1):=by
 refine List.ext_getElem? fun k=>?_
 rw [List.getElem?_set]
 by_cases hk : k ≤ n
 ·rw [cwS_at hk,cwN_snoc]
  by_cases e : wt u = k
  ·rw [if_pos e,if_pos e,cwS_len,if_pos (by omega),e]
  ·rw [if_neg e,if_neg e,cwS_at hk];rfl
 ·rw [List.getElem?_eq_none (by rw [cwS_len];omega),List.getElem?_eq_none (by rw [cwS_len];omega),cwS_len]
  by_cases e : wt u = k
  ·rw [if_pos e,if_neg (by omega)]
  ·rw [if_neg e]
theorem cwS_nil (n : Nat) : cwS n [] = List.replicate (n + 1) 0:=by
 refine List.ext_getElem? fun k=>?_
 rw [List.getElem?_replicate]
 by_cases hk : k ≤ n
 ·rw [cwS_at hk,if_pos (by omega)];rfl
 ·rw [List.getElem?_eq_none (by rw [cwS_len];omega),if_neg (by omega)]
def cwL (n : Nat) (L : List (List Int)) : List (List Nat):=(List.range (n + 1)).map fun j=>limbs (cwN L j)
theorem S_codewrightref24_Weights {n nl cl : Nat} {pl : Option Addr} {L : List (List Int)} (hn : n ≤ 100) (hL : ∀ u ∈ L,u.length = n) :
  Ctr Try.prog 12 [.int .i64 n,.slice pl nl cl] [] [slF (encSl I64) pl nl cl L] (fun v Φ β=>∃ pa ca,v = .slice pa (n + 1) ca ∧ Φ = [slF NatE pa (n + 1) ca (cwL n L)] ∧ β = []):=by
 refine Ctr_of_j' (F:=F_codewrightref24_Weights) rfl fun C=>?_
 refine j_len 0 rfl fun e1 hb1 _=>?_
 have hb1' : L.length * 24 ≤ 140737488355328:=hb1
 subst e1
 refine j_nf [_,_] rfl (j_run it 1 rfl (by simp) ?_)
 refine j_nf [_,_] rfl (j_run it 2 rfl ⟨⟨by omega,by omega⟩,trivial,trivial⟩ ?_)
 refine j_step rfl (x_make_nat ((n) + 1) _ rfl rfl sl22 zo22e by22e (by omega) (by omega) (by omega) fun b1=>?_)
 refine j_run it 1 rfl (by simp) ?_
 refine j_nf [_,_] rfl (j_run it 1 rfl (by simp) ?_)
 refine j_step rfl (x_make_nat (n) _ rfl rfl sl22 zo22e by22e (by omega) (by omega) (by omega) fun b2=>?_)
 refine j_run it 1 rfl (by simp) ?_
 refine j_nf [_,_,_] rfl (j_run it 1 rfl (by simp) ?_)
 refine j_nf [_,_,_] rfl ?_
 rw [show natCells .i64 (List.replicate n 0) = intCells .i64 (zW n) from by rw [natCells_toI,toI_zeros]]
 refine j_pub_madei (kd:=.i64) (n:=n) 8 (zW n) 0 rfl (by simp) (fun x hx=>by rw [(List.mem_replicate.1 hx).2];simp [InR]) (by omega) (by omega) ?_
 simp only [List.eraseIdx_cons_zero,List.eraseIdx_cons_succ]
 rw [← cwS_nil]
 refine j_loopG (X:=Nat) [0,1,4,5,6] [0,1] (fun i=>[(7,.int .i64 (i : Int))]) (fun i=>[(some b1,3,natCells .i64 (cwS n (L.take i)))]) (fun _=>[]) (fun i=>i ≤ L.length) (fun i=>L.length - i) 0 [] rfl rfl rfl (Nat.zero_le _) (by repeat (first | exact Fr.sub_nil _ | refine Fr.sub_cons rfl ?_)) rfl rfl ?_
 rintro i hi ih
 simp only [List.cons_append,List.nil_append] at hi ih ⊢
 by_cases hil : i < L.length
 ·have hz : L[i]? = some (L.getD i default):=by rw [List.getD_eq_getElem?_getD,List.getElem?_eq_getElem hil];rfl
  have hl:=hL _ (List.mem_of_getElem? hz)
  have ih':=ih (i + 1) (by omega) (by omega)
  rw [show L.take (i + 1) = L.take i++[L.getD i default] by rw [List.take_succ_eq_append_getElem hil,List.getD_eq_getElem?_getD,List.getElem?_eq_getElem hil];rfl,cwS_snoc] at ih'
  have hdw:=dist_zW n _ hl
  have hwn:=wt_le (L.getD i default)
  rw [hl] at hwn
  have hsa:=cwS_at (L:=L.take i) hwn
  have hlc:=cwS_len n (L.take i)
  have hcl : cwN (L.take i) (wt (L.getD i default)) ≤ L.length:=by
   have:=cwN_le (L.take i) (wt (L.getD i default))
   rw [List.length_take] at this;omega
  rw [← hdw] at ih' hsa hwn hcl
  refine j_nf [_,_,_,_,_,_] rfl (j_run it 2 rfl (by simp) ?_)
  refine j_step rfl (x_len sl25 rfl ?_)
  refine j_run it 1 rfl (by simp) ?_
  refine j_nf [_,_,_,_,_] rfl (j_if rfl rfl (fun h1=>?_) (fun h1=>by exfalso;omega))
  refine j_nf [_,_,_,_,_,_] rfl (j_run it 3 rfl (by simp) ?_)
  refine j_step rfl (x_idx 1 (i) rfl rfl rfl sl25 rfl (by omega) fun z1 hz1 b3 o1=>?_)
  refine j_step rfl (x_ld_sl 0 rfl rfl ld22 fun pa1 ca1=>?_)
  refine j_run it 1 rfl (by simp) ?_
  obtain rfl : z1 = L.getD i default:=Option.some.inj (hz1.symm.trans hz)
  refine j_step rfl (x_call [0,2] rfl (S_codewrightref24_Distance (by omega)) rfl ?_)
  rintro _ _ _ ⟨rfl,rfl,rfl⟩
  simp only [List.cons_append,List.nil_append]
  refine j_step rfl (x_idx_own (dist (L.getD i default) (zW n)) (dist (L.getD i default) (zW n)) rfl rfl sl22 rfl (by omega) (Nat.mul_one _) ?_)
  refine j_step rfl (x_bld_nat 0 rfl rfl ld3 (by first | omega | (simp;omega)) fun z1 hz2=>?_) --ok
  obtain rfl:=Option.some.inj (hz2.symm.trans hsa)
  refine j_run it 1 rfl ⟨⟨by omega,by omega⟩,trivial⟩ ?_
  refine j_step rfl (x_idx_own (dist (L.getD i default) (zW n)) (dist (L.getD i default) (zW n)) rfl rfl sl22 rfl (by omega) (Nat.mul_one _) ?_)
  refine j_step rfl (x_bst_nat 0 ((cwN (List.take i L) (dist (L.getD i default) (zW n))) + 1) rfl rfl rfl ld3 (by first | rfl | omega) (by first | omega | (simp;omega)) ?_)
  refine j_nf [_,_,_,_] rfl (j_run it 3 rfl ⟨trivial,⟨by omega,by omega⟩,trivial,trivial⟩ ?_)
  refine j_nfn 1 [.lp (pL 244),.blk 0,.c [1,1,1,1]] rfl ?_
  refine j_to [2,3] (by exact fra rfl) rfl rfl (ih')
 ·obtain rfl : i = L.length:=by omega
  rw [List.take_length]
  have hlc:=cwS_len n L
  refine j_nf [_,_,_,_,_,_] rfl (j_run it 2 rfl (by simp) ?_)
  refine j_step rfl (x_len sl25 rfl ?_)
  refine j_run it 1 rfl (by simp) ?_
  refine j_nf [_,_,_,_,_] rfl (j_if rfl rfl (fun h1=>by exfalso;omega) (fun h1=>?_))
  refine j_nf [_,_] rfl (j_run it 1 rfl (by simp) ?_)
  refine j_nf [_,_,_] rfl (j_run it 1 rfl (by simp) ?_)
  refine j_nf [_,_,_] rfl ?_
  refine j_row0 NatE 29 ?_
  refine j_loopG (X:=Nat × Row) [0,4,5] [0,1,2] (fun x=>[(9,.int .i64 (x.1 : Int)),(8,.slice (ad x.2.bo) x.1 x.2.cap)]) (fun x=>[(x.2.bo,29,x.2.cs),(some b1,3,natCells .i64 (cwS n L))]) (fun x=>[rowF NatE x.2 x.1 ((List.range x.1).map fun j=>limbs (cwN L j))])
   (fun x=>x.1 ≤ n + 1) (fun x=>n + 1 - x.1) (0,⟨none,0,[]⟩) [0] rfl rfl rfl (Nat.zero_le _) (by repeat (first | exact Fr.sub_nil _ | refine Fr.sub_cons rfl ?_)) rfl rfl ?_
  rintro ⟨k,r⟩ hk ih2
  simp only [List.cons_append,List.nil_append] at hk ih2 ⊢
  by_cases hkn : k < n + 1
  ·have ih2':=fun r1=>ih2 (k + 1,r1) (by dsimp only;omega) (by dsimp only;omega)
   dsimp only at ih2'
   rw [range_snoc] at ih2'
   have hsa:=cwS_at (L:=L) (show k ≤ n by omega)
   have hcl:=cwN_le L k
   refine j_nf [_,_,_,_,_,_] rfl (j_run it 3 rfl (by simp) ?_)
   refine j_nf [_,_,_,_,_] rfl (j_if rfl rfl (fun h2=>?_) (fun h2=>by exfalso;omega))
   refine j_nf [_,_,_,_,_,_] rfl (j_run it 3 rfl (by simp) ?_)
   refine j_step rfl (x_idx_own (k) (k) rfl rfl sl22 rfl (by omega) (Nat.mul_one _) ?_)
   refine j_step rfl (x_bld_nat 1 rfl rfl ld3 (by first | omega | (simp;omega)) fun z1 hz1=>?_)
   refine j_step rfl (x_conv_u64 it rfl rfl rfl ?_)
   refine j_recast (t:=42) ((((z1) % 18446744073709551616) : Nat) : Int) rfl (by omega) ?_
   refine j_step rfl (x_call [] rfl (S_codewrightref01_Of (by omega)) rfl ?_)
   rintro _ _ _ ⟨pa1,ca1,rfl,rfl,rfl⟩
   simp only [List.cons_append,List.nil_append]
   refine j_step rfl (x_lit sl33 zo33e rfl rfl rfl rfl (by decide) (by decide) rfl fun b3=>?_)
   refine j_step rfl (x_appR (z:=limbs (z1 % 18446744073709551616)) 1 0 1 rfl rfl rfl rfl rfl sl33 zo33e rfl (fun w A hG=>(rd_of_slF (hG _ (fact_mem (n:=0) rfl)))) (by omega) _ by33e (by omega) fun r1=>?_)
   refine j_run it 1 rfl (by simp) ?_
   refine j_nf [_,_,_,_] rfl (j_run it 3 rfl ⟨trivial,⟨by omega,by omega⟩,trivial,trivial⟩ ?_)
   refine j_nfn 1 [.lp (pL 1012),.blk 2,.c (pL 127)] rfl ?_
   obtain rfl:=Option.some.inj (hz1.symm.trans hsa)
   rw [Nat.mod_eq_of_lt (show cwN L k < 18446744073709551616 by omega)]
   refine j_toM [true,false,true] [0,3,4,5] (by exact fra rfl) rfl rfl (ih2' r1)
  ·obtain rfl : k = n + 1:=by omega
   refine j_nf [_,_,_,_,_,_] rfl (j_run it 3 rfl (by simp) ?_)
   refine j_nf [_,_,_,_,_] rfl (j_if rfl rfl (fun h2=>by exfalso;omega) (fun h2=>?_))
   refine j_nf [_,_] rfl (j_run it 2 rfl (by simp) ?_)
   refine j_nf [_] rfl ?_
   refine j_pubR 0 0 rfl rfl (by show (n + 1) * 24 ≤ _;omega) ?_
   refine j_giv [0] rfl rfl rfl ⟨_,_,rfl,rfl,rfl⟩
def CodesE (P M : Int) (md : List Int) (n : Nat) (rows : List (List Int)) : Value → List Fact → List Blk → Prop:=fun v Φ β =>
 (v = .tuple #[.int .i64 0,.slice none 0 0,.slice none 0 0,.slice none 0 0,.bool false] ∧ Φ = [] ∧ β = []) ∨
 ∃ (p m : Nat) (L K : List (List Int)) (pa pb pc : Option Addr) (ca cb cc : Nat),P = p ∧ M = m ∧ Fok p m md ∧ rows.length ≤ 12 ∧
  spanS (p ^ m) 4096 (aF p m) (mF p m md) (rows.map (rowW ((p ^ m : Nat) : Int) n)) [zW n] = some L ∧ spanS (p ^ m) 4096 (aF p m) (mF p m md) ((List.range n).map (unitW n)) [zW n] = some K ∧
  v = .tuple #[.int .i64 n,.slice pa L.length ca,.slice pb (K.filter (orthB (aF p m) (mF p m md) (rows.map (rowW ((p ^ m : Nat) : Int) n)))).length cb,.slice pc K.length cc,.bool true] ∧
  Φ = [slF (encSl I64) pa L.length ca L,slF (encSl I64) pb (K.filter (orthB (aF p m) (mF p m md) (rows.map (rowW ((p ^ m : Nat) : Int) n)))).length cb (K.filter (orthB (aF p m) (mF p m md) (rows.map (rowW ((p ^ m : Nat) : Int) n)))),slF (encSl I64) pc K.length cc K] ∧ β = []
theorem spanE_some (n : Nat) (L : List (List Int)) : SpanE n (some L) = SvL L:=by
 funext v Φ β;exact propext ⟨fun ⟨_,pa,ca,e,h⟩=>by subst e;exact ⟨pa,ca,h⟩,fun ⟨pa,ca,h⟩=>⟨L,pa,ca,rfl,h⟩⟩
theorem spanE_none (n : Nat) : SpanE n none = SvL []:=by
 funext v Φ β;exact propext ⟨fun ⟨_,pa,ca,e,h⟩=>by subst e;exact ⟨pa,ca,h⟩,fun ⟨pa,ca,h⟩=>⟨[],pa,ca,rfl,h⟩⟩
open Classical in
theorem S_codewrightlaw24_codes {P M : Int} {x nm cm nr cr : Nat} {md : List Int} {pm pr : Option Addr} {rows : List (List Int)} (hx : x < 256) :
  Ctr Try.prog 10 [.agg #[.int .i64 P,.int .i64 M,.slice pm nm cm],.int .u8 x,.slice pr nr cr] [] [slF I64 pm nm cm md,slF (encSl I64) pr nr cr rows]
   (CodesE P M md (x % 12 + 1) rows):=by
 refine Ctr_of_j' (F:=F_codewrightlaw24_codes) rfl fun C=>?_
 refine j_len 1 rfl fun e1 hb1 _=>?_
 have hb1' : rows.length * 24 ≤ 140737488355328:=hb1
 subst e1
 have c_codewrightref04_Check:=fun {e : Int} he=>S_codewrightref04_Check (P:=P) (M:=M) (pm:=pm) (nm:=nm) (cm:=cm) (md:=md) (e:=e) he
 by_cases hc : chkF P M md
 case neg =>
  have hc1 : (1 : Int) = if chkF P M md then 0 else 1:=by rw [if_neg hc]
  refine j_nf [_,_] rfl ?_
  refine j_step rfl (x_box_agg rfl fun b1=>?_)
  refine j_run it 5 rfl (by simp) ?_
  refine j_nf [_,_] rfl ?_
  refine j_run it 5 rfl ⟨trivial,⟨by omega,by omega⟩,⟨by omega,by omega⟩,⟨by omega,by omega⟩,trivial,trivial⟩ ?_
  refine j_nf [_,_,_] rfl ?_
  refine j_step rfl (x_bld_all 0 rfl rfl ld24 rfl ?_)
  refine j_step rfl (x_call [0] rfl (c_codewrightref04_Check (by omega)) rfl ?_)
  rintro _ _ _ ⟨rfl,rfl,rfl⟩
  simp only [List.cons_append,List.nil_append]
  refine j_run it 6 rfl (by simp) ?_
  refine j_nf [_,_] rfl ?_
  refine j_true rfl rfl ?_
  refine j_nf [_,_,_] rfl ?_
  refine j_run it 5 rfl (by simp) ?_
  refine j_nf [_,_] rfl ?_
  refine j_giv [] rfl rfl rfl (.inl ⟨rfl,rfl,rfl⟩)
 have hc0 : (0 : Int) = if chkF P M md then 0 else 1:=by rw [if_pos hc]
 obtain ⟨p,m,rfl,rfl,K⟩:=chk_ok hc
 by_cases h12 : rows.length ≤ 12
 case neg =>
  refine j_nf [_,_] rfl ?_
  refine j_step rfl (x_box_agg rfl fun b1=>?_)
  refine j_run it 5 rfl (by simp) ?_
  refine j_nf [_,_] rfl ?_
  refine j_run it 5 rfl ⟨trivial,⟨by omega,by omega⟩,⟨by omega,by omega⟩,⟨by omega,by omega⟩,trivial,trivial⟩ ?_
  refine j_nf [_,_,_] rfl ?_
  refine j_step rfl (x_bld_all 0 rfl rfl ld24 rfl ?_)
  refine j_step rfl (x_call [0] rfl (c_codewrightref04_Check (by omega)) rfl ?_)
  rintro _ _ _ ⟨rfl,rfl,rfl⟩
  simp only [List.cons_append,List.nil_append]
  refine j_run it 3 rfl (by simp) ?_
  refine j_split_ndec (t:=20) rfl (fun h1=>by exfalso;omega) (fun h1=>?_)
  refine j_gstep rfl rfl (x_len sl25 rfl ?_)
  refine j_run it 2 rfl (by simp) ?_
  refine j_nf [_,_] rfl ?_
  refine j_if rfl rfl (fun h2=>?_) (fun h2=>by exfalso;omega)
  refine j_nf [_,_,_] rfl ?_
  refine j_run it 5 rfl (by simp) ?_
  refine j_nf [_,_] rfl ?_
  refine j_giv [] rfl rfl rfl (.inl ⟨rfl,rfl,rfl⟩)
 have en : (((x % 12 + 1 : Nat)) : Int) = (x : Int) % 12 + 1:=by omega
 have hn12 : x % 12 + 1 ≤ 12:=by omega
 refine j_nf [_,_] rfl ?_
 refine j_step rfl (x_box_agg rfl fun b1=>?_)
 refine j_run it 5 rfl (by simp) ?_
 refine j_nf [_,_] rfl ?_
 refine j_run it 5 rfl ⟨trivial,⟨by omega,by omega⟩,⟨by omega,by omega⟩,⟨by omega,by omega⟩,trivial,trivial⟩ ?_
 refine j_nf [_,_,_] rfl ?_
 refine j_step rfl (x_bld_all 0 rfl rfl ld24 rfl ?_)
 refine j_step rfl (x_call [0] rfl (c_codewrightref04_Check (by omega)) rfl ?_)
 rintro _ _ _ ⟨rfl,rfl,rfl⟩
 simp only [List.cons_append,List.nil_append]
 refine j_run it 3 rfl (by simp) ?_
 refine j_split_ndec (t:=20) rfl (fun h1=>by exfalso;omega) (fun h1=>?_)
 refine j_gstep rfl rfl (x_len sl25 rfl ?_)
 refine j_run it 2 rfl (by simp) ?_
 refine j_nf [_,_] rfl ?_
 refine j_if rfl rfl (fun h2=>by exfalso;omega) (fun h2=>?_)
 refine j_nf [_,_] rfl ?_
 refine j_step rfl (x_bld_all 0 rfl rfl ld24 rfl ?_)
 refine j_run it 2 rfl (by simp) ?_
 rw [← en]
 generalize x % 12 + 1 = n at *
 have F:=K.fi
 have e00 : ([] : List (List Int)).length = 0:=rfl
 have hq2:=F.q2
 have hq:=K.q
 have c_codewrightref24_Span:=S_codewrightref24_Span (nm:=nm) (cm:=cm) (pm:=pm) (n:=n) (most:=4096) (nr:=rows.length) (cr:=cr) (pr:=pr) (rows:=rows) K (by omega) (by omega)
 have c_codewrightref24_All:=S_codewrightref24_All (nm:=nm) (cm:=cm) (pm:=pm) (n:=n) (most:=4096) K (by omega) (by omega)
 have hord:=K.ord
 have hordP : ordP (p : Int) (m : Int):=by
  have:=K.p2;have:=K.m1;have:=K.m8
  exact ⟨by omega,by omega,by omega,by simpa using K.q⟩
 have c_codewrightref24_Row:=fun {pl : Option Addr} {nl cl : Nat} {l : List Int}=>S_codewrightref24_Row (P:=(p : Int)) (M:=(m : Int)) (n:=n) (nm:=nm) (cm:=cm) (nl:=nl) (cl:=cl) (pm:=pm) (pl:=pl) (l:=l) hordP (by omega)
 rw [hord] at c_codewrightref24_Row
 cases hA : spanS (p ^ m) 4096 (aF p m) (mF p m md) (rows.map (rowW ((p ^ m : Nat) : Int) n)) [zW n] with
 | none =>
  rw [hA,spanE_none] at c_codewrightref24_Span
  cases hB : spanS (p ^ m) 4096 (aF p m) (mF p m md) ((List.range n).map (unitW n)) [zW n] with
  | none =>
   rw [hB,spanE_none] at c_codewrightref24_All
   refine j_step rfl (x_call [0,1] rfl (c_codewrightref24_Span) rfl ?_)
   rintro _ _ _ ⟨pa1,ca1,rfl,rfl,rfl⟩
   simp only [List.cons_append,List.nil_append]
   simp only [decide_true]
   refine j_run it 1 rfl (by simp) ?_
   refine j_nf [_,_] rfl ?_
   refine j_step rfl (x_bld_all 0 rfl rfl ld24 rfl ?_)
   refine j_run it 1 rfl (by simp) ?_
   refine j_step rfl (x_call [1] rfl (c_codewrightref24_All) rfl ?_)
   rintro _ _ _ ⟨pa2,ca2,rfl,rfl,rfl⟩
   simp only [List.cons_append,List.nil_append]
   refine j_run it 1 rfl (by simp) ?_
   refine j_nf [_,_,_] rfl ?_
   refine j_run it 1 rfl (by simp) ?_
   refine j_step rfl (x_len sl25 rfl ?_)
   refine j_run it 6 rfl (by simp) ?_
   refine j_nf [_,_] rfl ?_
   refine j_true rfl rfl ?_
   refine j_nf [_,_,_] rfl ?_
   refine j_run it 5 rfl (by simp) ?_
   refine j_nf [_,_] rfl ?_
   refine j_giv [] rfl rfl rfl (.inl ⟨rfl,rfl,rfl⟩)
  | some T =>
   rw [hB,spanE_some] at c_codewrightref24_All
   refine j_step rfl (x_call [0,1] rfl (c_codewrightref24_Span) rfl ?_)
   rintro _ _ _ ⟨pa1,ca1,rfl,rfl,rfl⟩
   simp only [List.cons_append,List.nil_append]
   simp only [decide_true]
   refine j_run it 1 rfl (by simp) ?_
   refine j_nf [_,_] rfl ?_
   refine j_step rfl (x_bld_all 0 rfl rfl ld24 rfl ?_)
   refine j_run it 1 rfl (by simp) ?_
   refine j_step rfl (x_call [1] rfl (c_codewrightref24_All) rfl ?_)
   rintro _ _ _ ⟨pa2,ca2,rfl,rfl,rfl⟩
   simp only [List.cons_append,List.nil_append]
   refine j_run it 1 rfl (by simp) ?_
   refine j_nf [_,_,_] rfl ?_
   refine j_run it 1 rfl (by simp) ?_
   refine j_step rfl (x_len sl25 rfl ?_)
   refine j_run it 6 rfl (by simp) ?_
   refine j_nf [_,_] rfl ?_
   refine j_true rfl rfl ?_
   refine j_nf [_,_,_] rfl ?_
   refine j_run it 5 rfl (by simp) ?_
   refine j_nf [_,_] rfl ?_
   refine j_giv [] rfl rfl rfl (.inl ⟨rfl,rfl,rfl⟩)
 | some L =>
 rw [hA,spanE_some] at c_codewrightref24_Span
 have wR : ∀ r ∈ rows.map (rowW ((p ^ m : Nat) : Int) n),Wd (p ^ m) n r:=fun r hr=>by
  obtain ⟨l,_,rfl⟩:=List.mem_map.1 hr
  exact rowW_wd (by omega) l
 have hL:=spI_span F (spI_start F n) wR hA
 have lL:=hL.pos
 cases hB : spanS (p ^ m) 4096 (aF p m) (mF p m md) ((List.range n).map (unitW n)) [zW n] with
 | none =>
  rw [hB,spanE_none] at c_codewrightref24_All
  refine j_step rfl (x_call [0,1] rfl (c_codewrightref24_Span) rfl ?_)
  rintro _ _ _ ⟨pa1,ca1,rfl,rfl,rfl⟩
  simp only [List.cons_append,List.nil_append]
  simp only [decide_true]
  refine j_run it 1 rfl (by simp) ?_
  refine j_nf [_,_] rfl ?_
  refine j_step rfl (x_bld_all 0 rfl rfl ld24 rfl ?_)
  refine j_run it 1 rfl (by simp) ?_
  refine j_step rfl (x_call [1] rfl (c_codewrightref24_All) rfl ?_)
  rintro _ _ _ ⟨pa2,ca2,rfl,rfl,rfl⟩
  simp only [List.cons_append,List.nil_append]
  refine j_run it 1 rfl (by simp) ?_
  refine j_nf [_,_,_] rfl ?_
  refine j_run it 1 rfl (by simp) ?_
  refine j_step rfl (x_len sl25 rfl ?_)
  refine j_run it 2 rfl (by simp) ?_
  refine j_split_dec (t:=35) rfl (fun h3=>by exfalso;omega) (fun h3=>?_)
  refine j_run it 1 rfl (by simp) ?_
  refine j_gstep rfl rfl (x_len sl25 rfl ?_)
  refine j_run it 2 rfl (by simp) ?_
  refine j_nf [_,_] rfl ?_
  refine j_if rfl rfl (fun h4=>?_) (fun h4=>by exfalso;omega)
  refine j_nf [_,_,_] rfl ?_
  refine j_run it 5 rfl (by simp) ?_
  refine j_nf [_,_] rfl ?_
  refine j_giv [] rfl rfl rfl (.inl ⟨rfl,rfl,rfl⟩)
 | some T =>
 rw [hB,spanE_some] at c_codewrightref24_All
 have wU : ∀ r ∈ (List.range n).map (unitW n),Wd (p ^ m) n r:=fun r hr=>by
  obtain ⟨i,_,rfl⟩:=List.mem_map.1 hr
  exact unit_wd' hq2
 have hT:=spI_span F (spI_start F n) wU hB
 have lT:=hT.pos
 have wT:=hT.wd
 have c_codewrightref24_Orthogonal:=fun {nl cl nr cr : Nat} {pl pr : Option Addr}=>S_codewrightref24_Orthogonal (nm:=nm) (cm:=cm) (pm:=pm) (n:=n) (nl:=nl) (cl:=cl) (nr:=nr) (cr:=cr) (pl:=pl) (pr:=pr) (L:=T) (rows:=rows.map (rowW ((p ^ m : Nat) : Int) n)) K wT wR
 refine j_step rfl (x_call [0,1] rfl (c_codewrightref24_Span) rfl ?_)
 rintro _ _ _ ⟨pa1,ca1,rfl,rfl,rfl⟩
 simp only [List.cons_append,List.nil_append]
 simp only [decide_true]
 refine j_run it 1 rfl (by simp) ?_
 refine j_nf [_,_] rfl ?_
 refine j_step rfl (x_bld_all 0 rfl rfl ld24 rfl ?_)
 refine j_run it 1 rfl (by simp) ?_
 refine j_step rfl (x_call [1] rfl (c_codewrightref24_All) rfl ?_)
 rintro _ _ _ ⟨pa2,ca2,rfl,rfl,rfl⟩
 simp only [List.cons_append,List.nil_append]
 refine j_run it 1 rfl (by simp) ?_
 refine j_nf [_,_,_] rfl ?_
 refine j_run it 1 rfl (by simp) ?_
 refine j_step rfl (x_len sl25 rfl ?_)
 refine j_run it 2 rfl (by simp) ?_
 refine j_split_dec (t:=35) rfl (fun h3=>by exfalso;omega) (fun h3=>?_)
 refine j_run it 1 rfl (by simp) ?_
 refine j_gstep rfl rfl (x_len sl25 rfl ?_)
 refine j_run it 2 rfl (by simp) ?_
 refine j_nf [_,_] rfl ?_
 refine j_if rfl rfl (fun h4=>by exfalso;omega) (fun h4=>?_)
 refine j_nf [_,_] rfl ?_
 refine j_run it 1 rfl (by simp) ?_
 refine j_nf [_,_,_] rfl ?_
 refine j_run it 1 rfl (by simp) ?_
 refine j_nf [_,_,_] rfl ?_
 refine j_row0 (encSl I64) 22 ?_
 refine j_loopG (X:=Nat × Row) [2,3,6,7,8,9,10] [0,1,2,3,4] (fun x=>[(12,.int .i64 (x.1 : Int)),(11,.slice (ad x.2.bo) x.1 x.2.cap)]) (fun x=>[(x.2.bo,22,x.2.cs),(some b1,24,[.int .i64 p,.int .i64 m,.slice pm nm cm])]) (fun x=>[rowF (encSl I64) x.2 x.1 ((rows.take x.1).map (rowW ((p ^ m : Nat) : Int) n))])
  (fun x=>x.1 ≤ rows.length) (fun x=>rows.length - x.1) (0,⟨none,0,[]⟩) [0] rfl rfl rfl (Nat.zero_le _) (by repeat (first | exact Fr.sub_nil _ | refine Fr.sub_cons rfl ?_)) rfl rfl ?_
 rintro ⟨i,r⟩ hi ih
 simp only [List.cons_append,List.nil_append] at hi ih ⊢
 by_cases hil : i < rows.length
 ·have hz : rows[i]? = some (rows.getD i default):=by rw [List.getD_eq_getElem?_getD,List.getElem?_eq_getElem hil];rfl
  have ih':=fun r1=>ih (i + 1,r1) (by dsimp only;omega) (by dsimp only;omega)
  dsimp only at ih'
  rw [show rows.take (i + 1) = rows.take i++[rows.getD i default] by rw [List.take_succ_eq_append_getElem hil,List.getD_eq_getElem?_getD,List.getElem?_eq_getElem hil];rfl,List.map_append,List.map_cons,List.map_nil] at ih'
  refine j_nf [_,_,_,_,_,_] rfl ?_
  refine j_run it 2 rfl (by simp) ?_
  refine j_step rfl (x_len sl25 rfl ?_)
  refine j_run it 1 rfl (by simp) ?_
  refine j_nf [_,_,_,_,_] rfl ?_
  refine j_if rfl rfl (fun h5=>?_) (fun h5=>by exfalso;omega)
  refine j_nf [_,_,_,_,_,_] rfl ?_
  (apply j_drawK it mx 9;(· rfl);(· rfl))
  (apply lxk_run 1;(· rfl);(· simp))
  (apply lxk_eq;(· rfl);(· exact d_bld_all 1 rfl rfl ld24 rfl))
  (apply lxk_run 3;(· rfl);(· simp))
  (apply lxk_pt;(· rfl);(· exact d_x fun _=>x_idx 5 (i) rfl rfl rfl sl25 rfl (by omega) fun z1 hz1 b2 o1=>(dk_ptD default hz1 0 rfl));intro b2 o1)
  (apply lxk_sl;(· rfl);(· exact d_x fun _=>x_ld_sl 0 rfl rfl ld22 fun pa3 ca3=>(dk_sl 0 rfl));intro pa3 ca3)
  (apply lxk_sl;(· rfl);(· exact d_x fun _=>x_call [0] rfl (c_codewrightref24_Row) rfl (by rintro _ _ _ ⟨pa4,ca4,rfl,rfl,rfl⟩;exact (dk_sl 0 rfl)));intro pa4 ca4)
  (apply lxk_sl;(· rfl);(· exact d_x fun _=>x_lit sl25 zo25e rfl rfl rfl rfl (by decide) (by decide) rfl fun b3=>dk_all (E:=(encSl I64)) [[Value.slice pa4 n ca4]] [rowW (↑(p ^ m)) n (rows.getD i default)] (fun w A hG=>(allrd_cons (rd_of_slF (hG _ (fact_mem (n:=0) rfl))) allrd_nil)) rfl rfl rfl (by first | decide | exact Nat.le_of_ble_eq_true rfl));intro pa5 ca5)
  refine lxk_end rfl ?_
  simp only [List.map_cons,List.map_nil,List.cons_append,List.nil_append]
  refine j_step rfl (x_appS 0 4 0 rfl rfl rfl rfl rfl sl25 zo25e rfl (by omega) _ by25e (by omega) fun r1=>?_)
  refine j_run it 1 rfl (by simp) ?_
  refine j_nf [_,_,_,_] rfl ?_
  refine j_run it 3 rfl ⟨trivial,⟨by omega,by omega⟩,trivial,trivial⟩ ?_
  refine j_nfn 1 [.lp (pL 4084),.blk 0,.c (pL 511)] rfl ?_
  refine j_to [0,6,7,8,9,10] (by exact fra rfl) rfl rfl (ih' r1)
 ·obtain rfl : i = rows.length:=by omega
  rw [List.take_length]
  refine j_nf [_,_,_,_,_,_] rfl ?_
  refine j_run it 2 rfl (by simp) ?_
  refine j_step rfl (x_len sl25 rfl ?_)
  refine j_run it 1 rfl (by simp) ?_
  refine j_nf [_,_,_,_,_] rfl ?_
  refine j_if rfl rfl (fun h5=>by exfalso;omega) (fun h5=>?_)
  refine j_nf [_,_] rfl ?_
  refine j_run it 2 rfl (by simp) ?_
  refine j_step rfl (x_bld_all 1 rfl rfl ld24 rfl ?_)
  refine j_run it 2 rfl (by simp) ?_
  refine j_pubR 0 0 rfl rfl (by show (rows.length) * 24 ≤ 140737488355328;omega) ?_
  refine j_step rfl (x_call [5,3,0] rfl (c_codewrightref24_Orthogonal) rfl ?_)
  rintro _ _ _ ⟨pa3,ca3,rfl,rfl,rfl⟩
  simp only [List.cons_append,List.nil_append]
  refine j_run it 6 rfl (by simp) ?_
  refine j_nf [_] rfl ?_
  refine j_giv [5,0,4] rfl rfl rfl (.inr ⟨p,m,L,T,_,_,_,_,_,_,rfl,rfl,K,h12,hA,hB,rfl,rfl,rfl⟩)
theorem cwL_len (n : Nat) (L : List (List Int)) : (cwL n L).length = n + 1:=by simp [cwL]
theorem cwL_at {n j : Nat} {L : List (List Int)} (h : j ≤ n) : (cwL n L).getD j default = limbs (cwN L j):=by
 rw [List.getD_eq_getElem?_getD,cwL,List.getElem?_map,List.getElem?_range (by omega)];rfl
theorem cwL_small {n : Nat} {L : List (List Int)} (hL : L.length < 4294967296) : ∀ l ∈ cwL n L,l.length ≤ 20:=fun l hl=>by
 obtain ⟨j,_,rfl⟩:=List.mem_map.1 hl
 exact Nat.le_trans (limbs_length_le (k:=1) (by have:=cwN_le L j;omega)) (by decide)
theorem cwL_lt {n : Nat} {L : List (List Int)} : ∀ l ∈ cwL n L,∀ x ∈ l,x < 4294967296:=fun l hl=>by
 obtain ⟨j,_,rfl⟩:=List.mem_map.1 hl
 exact limbs_lt _
theorem spanS_le {q most : Nat} {A M : Int → Int → Int} : ∀ {rs L K : List (List Int)},L.length ≤ most → spanS q most A M rs L = some K → K.length ≤ most
 | [],L,K,h,e=>by
  rw [spanS,Option.some.injEq] at e;subst e;exact h
 | r::rs,L,K,h,e=>by
  rw [spanS] at e
  by_cases h1 : r ∈ L
  ·rw [if_pos h1] at e;exact spanS_le h e
  ·rw [if_neg h1] at e
   by_cases h2 : most / q < L.length
   ·rw [if_pos h2] at e;cases e
   ·rw [if_neg h2] at e
    refine spanS_le ?_ e
    rw [ext_len]
    exact Nat.le_trans (Nat.mul_le_mul_left q (by omega)) (Nat.mul_div_le most q)
section
variable {q : Nat} {A M : Int → Int → Int} (F : FI q A M)
include F
end
theorem units_eq (n : Nat) : (List.range n).map (unitW n) = (List.range' 0 n).map (unitW n):=by rw [List.range_eq_range']
set_option maxRecDepth 100000
set_option linter.unusedVariables false
set_option linter.unusedSimpArgs false
def toP (L : List (List Nat)) : Nat → Nat
 | 0=>0
 | k + 1=>toP L k + val (L.getD k default)
theorem toP_all (L : List (List Nat)) : toP L L.length = sumV L:=by
 have key : ∀ k,k ≤ L.length → toP L k = sumV (L.take k):=by
  intro k
  induction k with
  | zero=>intro _;simp [toP,sumV]
  | succ k ih =>
   intro hk
   have hz : L[k]? = some (L.getD k default):=by rw [List.getD,List.getElem?_eq_getElem (by omega)];rfl
   rw [toP,ih (by omega),sumV_take_succ hz]
 rw [key _ (Nat.le_refl _),List.take_length]
def duS (q n : Nat) (L : List (List Nat)) (j : Nat) : Int:=sm (n + 1) fun i=>(val (L.getD i default) : Int) * kr ((q : Int) - 1) n j i
def duZ (q n : Nat) (L : List (List Nat)) (j : Nat) : Zs:=szP (fun i=>(false,val (L.getD i default))) (fun i=>tz q n i j) (n + 1)
theorem duZ_iv {q n : Nat} (hq : 1 ≤ q) (L : List (List Nat)) (j : Nat) : iv (duZ q n L j) = duS q n L j:=by
 rw [duZ,szP_iv,duS]
 refine sm_congr fun i hi=>?_
 rw [tz_iv hq i (by omega)];rfl
def duOk (q n : Nat) (L : List (List Nat)) (j : Nat) : Prop:=0 ≤ duS q n L j ∧ (duS q n L j).natAbs % toP L (n + 1) = 0
instance (q n : Nat) (L : List (List Nat)) (j : Nat) : Decidable (duOk q n L j):=by unfold duOk;infer_instance
def duV (q n : Nat) (L : List (List Nat)) (j : Nat) : Nat:=(duS q n L j).natAbs / toP L (n + 1)
theorem duZ_abs {q n : Nat} (hq : 1 ≤ q) (L : List (List Nat)) (j : Nat) : (duZ q n L j).2 = (duS q n L j).natAbs:=by rw [← duZ_iv hq,iv_abs]
theorem duZ_neg {q n : Nat} (hq : 1 ≤ q) (L : List (List Nat)) (j : Nat) : ((duZ q n L j).1 = true ∧ 0 < (duZ q n L j).2) ↔ duS q n L j < 0:=by
 rw [← duZ_iv hq,iv]
 generalize duZ q n L j = z
 obtain ⟨g,m⟩:=z
 cases g <;> simp [sg] <;> omega
theorem val_top3 {l : List Nat} {k x y z : Nat} (hl : l.length = k + 3) (hx : l[k]? = some x) (hy : l[k + 1]? = some y) (hz : l[k + 2]? = some z) : val l = val (l.take k) + 4294967296 ^ k * (x + 4294967296 * (y + 4294967296 * z)):=by
 rw [val_take_drop l k (by omega),val_drop hx,val_drop hy,val_drop hz,List.drop_of_length_le (by omega)]
 rfl
theorem val_top2 {l : List Nat} {k x y : Nat} (hl : l.length = k + 2) (hx : l[k]? = some x) (hy : l[k + 1]? = some y) : val l = val (l.take k) + 4294967296 ^ k * (x + 4294967296 * y):=by
 rw [val_take_drop l k (by omega),val_drop hx,val_drop hy,List.drop_of_length_le (by omega)]
 rfl
section
variable {P U V ul vl U0 U1 U2 V1 V2 q r : Nat}
theorem kn_low (hU : U = ul + P * (U2 + 4294967296 * (U1 + 4294967296 * U0))) (hul : ul < P) : U < P * (U2 + 4294967296 * (U1 + 4294967296 * U0) + 1):=by
 rw [Nat.mul_succ];omega
theorem kn_high (hV : V = vl + P * (V2 + 4294967296 * V1)) (hvl : vl < P) : V ≤ P * (V2 + 4294967296 * V1 + 1):=by
 rw [Nat.mul_succ];omega
theorem kn_mul (hU : U = ul + P * (U2 + 4294967296 * (U1 + 4294967296 * U0))) (hul : ul < P) (hV : V = vl + P * (V2 + 4294967296 * V1)) (h : q * V ≤ U) : q * (V2 + 4294967296 * V1) ≤ U2 + 4294967296 * (U1 + 4294967296 * U0):=by
 have h1:=kn_low hU hul
 have h2 : P * (q * (V2 + 4294967296 * V1)) ≤ q * V:=by rw [hV,← Nat.mul_assoc,Nat.mul_comm P q,Nat.mul_assoc];exact Nat.mul_le_mul_left _ (Nat.le_add_left _ _)
 have h3 : P * (q * (V2 + 4294967296 * V1)) < P * (U2 + 4294967296 * (U1 + 4294967296 * U0) + 1):=Nat.lt_of_le_of_lt (Nat.le_trans h2 h) h1
 have:=Nat.lt_of_mul_lt_mul_left h3
 omega
theorem kn_first (hU : U = ul + P * (U2 + 4294967296 * (U1 + 4294967296 * U0))) (hul : ul < P) (hV : V = vl + P * (V2 + 4294967296 * V1)) (hV1 : 0 < V1) (hU2 : U2 < 4294967296) (hq : q * V ≤ U) : q ≤ (U1 + 4294967296 * U0) / V1:=by
 have h:=kn_mul hU hul hV hq
 rw [Nat.le_div_iff_mul_le hV1]
 have e : q * (V2 + 4294967296 * V1) = q * V2 + 4294967296 * (q * V1):=by rw [Nat.mul_add,Nat.mul_left_comm]
 rw [e] at h
 have : 4294967296 * (q * V1) < 4294967296 * (U1 + 4294967296 * U0 + 1):=by omega
 have:=Nat.lt_of_mul_lt_mul_left this
 omega
theorem kn_less (hU : U = ul + P * (U2 + 4294967296 * (U1 + 4294967296 * U0))) (hul : ul < P) (hV : V = vl + P * (V2 + 4294967296 * V1)) (htop : q * V1 + r = U1 + 4294967296 * U0) (hq : q * V ≤ U) : q * V2 ≤ r * 4294967296 + U2:=by
 have h:=kn_mul hU hul hV hq
 have e : q * (V2 + 4294967296 * V1) = q * V2 + 4294967296 * (q * V1):=by rw [Nat.mul_add,Nat.mul_left_comm]
 rw [e,← htop] at h
 omega
theorem kn_end (hU : U = ul + P * (U2 + 4294967296 * (U1 + 4294967296 * U0))) (hV : V = vl + P * (V2 + 4294967296 * V1)) (hvl : vl < P) (htop : (q + 1) * V1 + r = U1 + 4294967296 * U0) (hq : q + 1 < 4294967296) (hV1 : 1 ≤ V1) (h : (q + 1) * V2 ≤ r * 4294967296 + U2) : q * V ≤ U:=by
 have h1 : q * V ≤ P * (q * (V2 + 4294967296 * V1 + 1)):=by
  rw [← Nat.mul_assoc,Nat.mul_comm P q,Nat.mul_assoc];exact Nat.mul_le_mul_left _ (kn_high hV hvl)
 have e2 : q * (V2 + 4294967296 * V1 + 1) = q * V2 + 4294967296 * (q * V1) + q:=by rw [Nat.mul_succ,Nat.mul_add,Nat.mul_left_comm]
 have e3 : (q + 1) * V2 = q * V2 + V2:=Nat.succ_mul _ _
 have e4 : (q + 1) * V1 = q * V1 + V1:=Nat.succ_mul _ _
 rw [e3] at h
 rw [e4] at htop
 have h3 : q * (V2 + 4294967296 * V1 + 1) ≤ U2 + 4294967296 * (U1 + 4294967296 * U0):=by rw [e2];omega
 have h4:=Nat.mul_le_mul_left P h3
 omega
theorem kn_top (hU : U = ul + P * (U2 + 4294967296 * (U1 + 4294967296 * U0))) (hV : V = vl + P * (V2 + 4294967296 * V1)) (hvl : vl < P) (hV2 : V2 < 4294967296) (h : U < 4294967296 * V) : U0 ≤ V1:=by
 rcases Nat.lt_or_ge V1 U0 with h1 | h1
 ·exfalso
  have h2:=kn_high hV hvl
  have h3 : P * (V2 + 4294967296 * V1 + 1) ≤ P * (4294967296 * U0):=Nat.mul_le_mul_left _ (by omega)
  have h4 : P * (4294967296 * (4294967296 * U0)) ≤ P * (U2 + 4294967296 * (U1 + 4294967296 * U0)):=Nat.mul_le_mul_left _ (by omega)
  have h5 : P * (4294967296 * (4294967296 * U0)) = 4294967296 * (P * (4294967296 * U0)):=Nat.mul_left_comm _ _ _
  omega
 ·exact h1
end
theorem mulsub_step {A U P c b q y u p d : Nat} {W : Nat} (h : A + q * W = U + P * (c + b)) (hb : b ≤ 1) (hu : u < 4294967296) (hp : p = q * y + c) (hd : d = ((u + 18446744073709551616 - p % 4294967296) % 18446744073709551616 + 18446744073709551616 - b) % 18446744073709551616) :
  A + P * (d % 4294967296) + q * (W + P * y) = U + P * u + P * 4294967296 * (p / 4294967296 + d / 9223372036854775808) ∧ d / 9223372036854775808 ≤ 1:=by
 have e : d % 4294967296 + p % 4294967296 + b = u + 4294967296 * (d / 9223372036854775808) ∧ d / 9223372036854775808 ≤ 1:=by omega
 refine ⟨?_,e.2⟩
 have e1:=e.1
 have e2 : P * (d % 4294967296) + P * (q * y) + P * (c + b) = P * u + P * 4294967296 * (p / 4294967296 + d / 9223372036854775808):=by
  have e3 : d % 4294967296 + q * y + (c + b) = u + 4294967296 * (p / 4294967296 + d / 9223372036854775808):=by clear hd h;omega
  rw [Nat.mul_assoc,← Nat.mul_add,← Nat.mul_add,← Nat.mul_add,e3]
 have e4 : q * (W + P * y) = q * W + P * (q * y):=by rw [Nat.mul_add,Nat.mul_left_comm]
 have e5 : P * (c + b) = P * c + P * b:=Nat.mul_add _ _ _
 rw [e4]
 clear hd hp e1 e
 omega
theorem kn_right {u V q R Q U P uk c b : Nat} (hU : U = u + P * uk) (h : R + q * V = u + P * (c + b)) (hle : c + b ≤ uk) (hQ : Q = U / V) (hQq : Q ≤ q) (hV : 0 < V) : q = Q ∧ R + P * (uk - (c + b)) = U % V:=by
 have e : R + P * (uk - (c + b)) + q * V = U:=by
  have : P * uk = P * (uk - (c + b)) + P * (c + b):=by rw [← Nat.mul_add];congr 1;omega
  omega
 have hq : q ≤ Q:=by rw [hQ,Nat.le_div_iff_mul_le hV];omega
 have hqQ : q = Q:=by omega
 refine ⟨hqQ,?_⟩
 have h2:=Nat.div_add_mod U V
 rw [← hQ,← hqQ,Nat.mul_comm] at h2
 omega
theorem kn_wrong {u V q R Q U P uk c b : Nat} (hU : U = u + P * uk) (h : R + q * V = u + P * (c + b)) (hlt : uk < c + b) (hR : R < P) (hQ : Q = U / V) (hQ1 : q ≤ Q + 1) (hV : 0 < V) : q = Q + 1 ∧ R + V + P * uk = U % V + P * (c + b):=by
 have e : R + q * V + P * uk = U + P * (c + b):=by omega
 have h1 : P * (uk + 1) ≤ P * (c + b):=Nat.mul_le_mul_left _ hlt
 have hgt : U < q * V:=by rw [Nat.mul_succ] at h1;omega
 have h2:=Nat.div_add_mod U V
 rw [← hQ,Nat.mul_comm] at h2
 have hq : q = Q + 1:=by
  rcases Nat.lt_or_ge Q q with h | h
  ·omega
  ·have:=Nat.mul_le_mul_right V h
   omega
 refine ⟨hq,?_⟩
 rw [hq,Nat.succ_mul] at e
 omega
theorem shr_digit {x y z n : Nat} (hn : n < 32) : ((x + 4294967296 * (y + 4294967296 * z)) / 2 ^ n) % 4294967296 = ((x + 4294967296 * y) / 2 ^ n) % 4294967296:=by
 have hB : (4294967296 : Nat) = 2 ^ n * 2 ^ (32 - n):=by rw [← Nat.pow_add,show n + (32 - n) = 32 by omega]
 have e : x + 4294967296 * (y + 4294967296 * z) = (x + 4294967296 * y) + 2 ^ n * (4294967296 * (2 ^ (32 - n) * z)):=by
  have : 2 ^ n * (4294967296 * (2 ^ (32 - n) * z)) = 4294967296 * (4294967296 * z):=by
   rw [Nat.mul_left_comm,← Nat.mul_assoc (2 ^ n),← hB]
  rw [this];omega
 rw [e,Nat.add_mul_div_left _ _ (Nat.pow_pos (by decide)),Nat.add_mul_mod_self_left]
theorem two_parts {a b P x y : Nat} (h : a + P * x = b + P * y) (ha : a < P) (hb : b < P) : a = b ∧ x = y:=by
 have hP : 0 < P:=by omega
 have e1 : (a + P * x) % P = a:=by rw [Nat.add_mul_mod_self_left,Nat.mod_eq_of_lt ha]
 have e2 : (b + P * y) % P = b:=by rw [Nat.add_mul_mod_self_left,Nat.mod_eq_of_lt hb]
 have e3 : a = b:=by rw [← e1,h,e2]
 refine ⟨e3,?_⟩
 have : P * x = P * y:=by omega
 exact Nat.eq_of_mul_eq_mul_left hP this
theorem kn_back {w R V U P uk c b cy : Nat} (h1 : w + P * cy = R + V) (h2 : R + V + P * uk = U % V + P * (c + b)) (hw : w < P) (hV : V ≤ P) (hV0 : 0 < V) : w = U % V ∧ cy + uk = c + b:=by
 have h3 : w + P * (cy + uk) = U % V + P * (c + b):=by rw [Nat.mul_add];omega
 exact two_parts h3 hw (Nat.lt_of_lt_of_le (Nat.mod_lt _ hV0) hV)
theorem prod_fits {q z c : Nat} (hq : q < 4294967296) (hz : z < 4294967296) (hc : c < 4294967296) : (q * z + c) / 4294967296 < 4294967296 ∧ q * z + c < 18446744073709551616:=by
 have h : q * z ≤ 4294967295 * 4294967295:=Nat.mul_le_mul (by omega) (by omega)
 omega
set_option maxRecDepth 100000
set_option linter.unusedVariables false
set_option linter.unusedSimpArgs false
theorem blen_lt (n : Nat) : n < 2 ^ blen n:=by
 induction n using Nat.strongRecOn with
 | _ n ih =>
  by_cases h : n = 0
  ·subst h;rw [blen_zero];decide
  ·rw [blen_pos h,Nat.pow_succ]
   have:=ih (n / 2) (by omega)
   omega
theorem blen_ge {n : Nat} (h : n ≠ 0) : 2 ^ (blen n - 1) ≤ n:=by
 induction n using Nat.strongRecOn with
 | _ n ih =>
  rw [blen_pos h,Nat.add_sub_cancel]
  by_cases h1 : n / 2 = 0
  ·rw [h1,blen_zero];show 1 ≤ n;omega
  ·have:=ih (n / 2) (by omega) h1
   have e : blen (n / 2) = (blen (n / 2) - 1) + 1:=by have:=blen_pos h1;omega
   rw [e,Nat.pow_succ]
   omega
theorem norm_limb {t : Nat} (h0 : t ≠ 0) (ht : t < 4294967296) : 2147483648 ≤ t * 2 ^ (32 - blen t) ∧ (t + 1) * 2 ^ (32 - blen t) ≤ 4294967296:=by
 have h1:=blen_lt t
 have h2:=blen_ge h0
 have h3 : blen t ≤ 32:=blen_le (by simpa using ht)
 have h4 : 1 ≤ blen t:=by have:=blen_pos h0;omega
 constructor
 ·have:=Nat.mul_le_mul_right (2 ^ (32 - blen t)) h2
  rw [← Nat.pow_add,show blen t - 1 + (32 - blen t) = 31 by omega] at this
  exact this
 ·have:=Nat.mul_le_mul_right (2 ^ (32 - blen t)) (show t + 1 ≤ 2 ^ blen t from h1)
  rw [← Nat.pow_add,show blen t + (32 - blen t) = 32 by omega] at this
  exact this
theorem top_split {l : List Nat} {k t : Nat} (hl : l.length = k + 1) (ht : l[k]? = some t) : val l = val (l.take k) + 4294967296 ^ k * t:=by
 have h:=val_take_succ ht
 rwa [List.take_of_length_le (by omega)] at h
theorem norm_div {b : List Nat} {k t : Nat} (hb : ∀ x ∈ b,x < 4294967296) (hl : b.length = k + 1) (ht : b[k]? = some t) (h0 : t ≠ 0) :
  (limbs (val b * 2 ^ (32 - blen t))).length = k + 1 ∧ ∃ w,(limbs (val b * 2 ^ (32 - blen t)))[k]? = some w ∧ 2147483648 ≤ w:=by
 have htl:=hb t (List.mem_of_getElem? ht)
 obtain ⟨h1,h2⟩:=norm_limb h0 htl
 have hv:=top_split hl ht
 have hlow:=take_lt (k:=k) hb (by omega)
 generalize hS : 2 ^ (32 - blen t) = s at *
 have hup : val b * s < 4294967296 ^ (k + 1):=by
  have h3 : val b < 4294967296 ^ k * (t + 1):=by rw [Nat.mul_succ];omega
  have h4 : 4294967296 ^ k * (t + 1) * s ≤ 4294967296 ^ k * 4294967296:=by rw [Nat.mul_assoc];exact Nat.mul_le_mul_left _ h2
  have hs : 0 < s:=by rw [← hS];exact Nat.pow_pos (by decide)
  have h5 : val b * s < 4294967296 ^ k * (t + 1) * s:=Nat.mul_lt_mul_of_pos_right h3 hs
  rw [Nat.pow_succ]
  omega
 have hdn : 4294967296 ^ k * 2147483648 ≤ val b * s:=by
  have h3 : 4294967296 ^ k * (t * s) ≤ val b * s:=by rw [← Nat.mul_assoc];exact Nat.mul_le_mul_right _ (by omega)
  exact Nat.le_trans (Nat.mul_le_mul_left _ h1) h3
 have hle:=limbs_length_le hup
 have hge : k + 1 ≤ (limbs (val b * s)).length:=by
  rcases Nat.lt_or_ge (limbs (val b * s)).length (k + 1) with h | h
  ·have h3:=limbs_le_length (n:=val b * s) (k:=k) (by omega)
   have : 4294967296 ^ k * 1 ≤ 4294967296 ^ k * 2147483648:=Nat.mul_le_mul_left _ (by decide)
   omega
  ·exact h
 have hlen : (limbs (val b * s)).length = k + 1:=by omega
 refine ⟨hlen,(limbs (val b * s))[k],by simp [hlen],?_⟩
 have hx : (limbs (val b * s))[k]? = some (limbs (val b * s))[k]:=by simp [hlen]
 have h3:=top_split hlen hx
 rw [val_limbs] at h3
 have h4:=take_lt (k:=k) (limbs_lt (val b * s)) (by omega)
 generalize (limbs (val b * s))[k] = w at *
 rcases Nat.lt_or_ge w 2147483648 with h | h
 ·have : 4294967296 ^ k * (w + 1) ≤ 4294967296 ^ k * 2147483648:=Nat.mul_le_mul_left _ h
  rw [Nat.mul_succ] at this
  omega
 ·exact h
theorem drop_zero {l : List Nat} {k : Nat} (h : val l < 4294967296 ^ k) : val (l.drop k) = 0:=by
 rcases Nat.le_total l.length k with h1 | h1
 ·rw [List.drop_of_length_le h1];rfl
 ·have e:=val_take_drop l k h1
  rcases Nat.eq_zero_or_pos (val (l.drop k)) with h2 | h2
  ·exact h2
  ·have : 4294967296 ^ k * 1 ≤ 4294967296 ^ k * val (l.drop k):=Nat.mul_le_mul_left _ h2
   omega
theorem drop_div {l : List Nat} (hl : ∀ x ∈ l,x < 4294967296) (k : Nat) (hk : k ≤ l.length) : val (l.drop k) = val l / 4294967296 ^ k:=by
 have e:=val_take_drop l k hk
 have h:=take_lt hl hk
 rw [e,Nat.add_mul_div_left _ _ (Nat.pow_pos (by decide)),Nat.div_eq_of_lt h,Nat.zero_add]
theorem long_start {A V n la k m : Nat} {uu : List Nat} (huu : ∀ x ∈ uu,x < 4294967296) (hlen : uu.length = la + 1) (hU : val uu = A * 2 ^ n) (hA : A < 4294967296 ^ la) (hV : 4294967296 ^ k * 2 ^ n ≤ V) (hm : m + k = la) (hml : m ≤ uu.length) : val (uu.drop m) < V:=by
 rw [drop_div huu m hml,hU]
 refine Nat.lt_of_lt_of_le ?_ hV
 rw [Nat.div_lt_iff_lt_mul (Nat.pow_pos (by decide))]
 have h1 : A * 2 ^ n < 4294967296 ^ la * 2 ^ n:=Nat.mul_lt_mul_of_pos_right hA (Nat.pow_pos (by decide))
 have e : 4294967296 ^ k * 2 ^ n * 4294967296 ^ m = 4294967296 ^ la * 2 ^ n:=by rw [← hm,Nat.pow_add];simp only [Nat.mul_comm,Nat.mul_left_comm,Nat.mul_assoc]
 rw [e];exact h1
theorem long_step {P V pre mid Q N q r : Nat} (he : pre + P * mid + P * 4294967296 * V * Q = N) (hq : q = mid / V) (hr : r = mid % V) : pre + P * r + P * V * (q + 4294967296 * Q) = N:=by
 have h:=Nat.div_add_mod mid V
 rw [← hq,← hr] at h
 rw [← h] at he
 rw [← he,Nat.mul_add,Nat.mul_add]
 simp only [Nat.mul_comm,Nat.mul_left_comm,Nat.mul_assoc]
 omega
theorem long_end {U V Q A B s : Nat} (h : U + V * Q = A * s) (hV : V = B * s) (hU : U < V) (hs : 0 < s) : Q = A / B ∧ U = (A % B) * s:=by
 have e1 : A * s / V = Q:=by
  rw [← h,Nat.add_mul_div_left _ _ (by omega),Nat.div_eq_of_lt hU,Nat.zero_add]
 have e2 : A * s % V = U:=by
  rw [← h,Nat.add_mul_mod_self_left,Nat.mod_eq_of_lt hU]
 subst hV
 rw [Nat.mul_div_mul_right _ _ hs] at e1
 rw [Nat.mul_mod_mul_right] at e2
 exact ⟨e1.symm,e2.symm⟩
theorem rem_digit {l : List Nat} {i x y n : Nat} (hl : ∀ z ∈ l,z < 4294967296) (hx : l[i]? = some x) (hy : l[i + 1]? = some y) (hn : n < 32) : val l / 2 ^ n % 4294967296 ^ (i + 1) = val l / 2 ^ n % 4294967296 ^ i + 4294967296 ^ i * ((x + 4294967296 * y) / 2 ^ n % 4294967296):=by
 have hi : i < l.length:=(List.getElem?_eq_some_iff.1 hx).1
 have e : val l / 2 ^ n / 4294967296 ^ i = (x + 4294967296 * (y + 4294967296 * val (l.drop (i + 2)))) / 2 ^ n:=by
  rw [Nat.div_div_eq_div_mul,Nat.mul_comm,← Nat.div_div_eq_div_mul,← drop_div hl i (by omega),val_drop hx,val_drop hy]
 rw [Nat.pow_succ,Nat.mod_mul,e,shr_digit hn]
theorem limbs_top {n k : Nat} (h : (limbs n).length = k + 1) : ∃ t,(limbs n)[k]? = some t ∧ t ≠ 0:=by
 have ht : (limbs n)[k]? = some (limbs n)[k]:=by simp [h]
 refine ⟨_,ht,fun h0=>?_⟩
 have h3:=top_split h ht
 rw [h0,Nat.mul_zero,Nat.add_zero,val_limbs] at h3
 have h4:=take_lt (k:=k) (limbs_lt n) (by omega)
 have:=limbs_length_le (n:=n) (k:=k) (by omega)
 omega
open Go Go.Fw
set_option maxHeartbeats 1000000
theorem S_nat_Cmp {pa pb : Option Addr} {n m ca cb : Nat} {a b : List Nat} :
  Ctr Try.prog 64 [.slice pa n ca,.slice pb m cb] [] [slF U32 pa n ca a,slF U32 pb m cb b] (Rv (.int .i64 (cmpN (val a) (val b))) []):=by
 refine Ctr_of_j' (F:=F_nat_Cmp) rfl fun C=>?_
 refine j_len 0 rfl fun hn hba _=>?_
 refine j_len 1 rfl fun hm hbb _=>?_
 subst hn;subst hm
 have hba' : a.length * 4 ≤ 140737488355328:=hba
 have hbb' : b.length * 4 ≤ 140737488355328:=hbb
 refine j_range 0 rfl fun hra=>?_
 refine j_range 1 rfl fun hrb=>?_
 have hra' : ∀ x ∈ a,x < 4294967296:=fun x hx=>by have:=hra x hx;simp only [InR] at this;omega
 have hrb' : ∀ x ∈ b,x < 4294967296:=fun x hx=>by have:=hrb x hx;simp only [InR] at this;omega
 have ea:=trim_eq hra'
 have eb:=trim_eq hrb'
 have la:=trim_length_le a
 have lb:=trim_length_le b
 by_cases hA : (trim a).length < (trim b).length
 ·have : val a < val b:=lt_of_len (by rw [← ea,← eb];exact hA)
  rw [cmpN_lt this]
  refine j_nf [_,_] rfl ?_
  refine j_run it 1 rfl (by simp) ?_
  refine j_nf [_,_] rfl ?_
  refine j_run it 1 rfl (by simp) ?_
  refine j_step rfl (x_call [0] rfl (S_nat_short) rfl ?_)
  rintro _ _ _ ⟨rfl,rfl,rfl⟩
  simp only [List.cons_append,List.nil_append]
  refine j_run it 1 rfl (by simp) ?_
  refine j_step rfl (x_call [2] rfl (S_nat_short) rfl ?_)
  rintro _ _ _ ⟨rfl,rfl,rfl⟩
  simp only [List.cons_append,List.nil_append]
  refine j_run it 2 rfl (by simp) ?_
  refine j_nf [_,_,_] rfl ?_
  refine j_run it 1 rfl (by simp) ?_
  refine j_step rfl (x_len sl29 rfl ?_)
  refine j_run it 1 rfl (by simp) ?_
  refine j_step rfl (x_len sl29 rfl ?_)
  refine j_run it 1 rfl (by simp) ?_
  refine j_nf [_,_] rfl ?_
  refine j_ifn rfl rfl (fun h1=>?_) (fun h1=>by exfalso;omega)
  refine j_nf [_,_,_,_] rfl ?_
  refine j_run it 1 rfl (by simp) ?_
  refine j_step rfl (x_len sl29 rfl ?_)
  refine j_run it 1 rfl (by simp) ?_
  refine j_step rfl (x_len sl29 rfl ?_)
  refine j_run it 1 rfl (by simp) ?_
  refine j_nf [_,_,_] rfl ?_
  refine j_if rfl rfl (fun h2=>?_) (fun h2=>by exfalso;omega)
  refine j_nf [_,_,_,_] rfl ?_
  refine j_run it 1 rfl (by simp) ?_
  refine j_nf [_,_,_] rfl ?_
  refine j_giv [] rfl rfl rfl ⟨rfl,rfl,rfl⟩
 by_cases hB : (trim b).length < (trim a).length
 ·have : val b < val a:=lt_of_len (by rw [← ea,← eb];exact hB)
  rw [cmpN_gt this]
  refine j_nf [_,_] rfl ?_
  refine j_run it 1 rfl (by simp) ?_
  refine j_nf [_,_] rfl ?_
  refine j_run it 1 rfl (by simp) ?_
  refine j_step rfl (x_call [0] rfl (S_nat_short) rfl ?_)
  rintro _ _ _ ⟨rfl,rfl,rfl⟩
  simp only [List.cons_append,List.nil_append]
  refine j_run it 1 rfl (by simp) ?_
  refine j_step rfl (x_call [2] rfl (S_nat_short) rfl ?_)
  rintro _ _ _ ⟨rfl,rfl,rfl⟩
  simp only [List.cons_append,List.nil_append]
  refine j_run it 2 rfl (by simp) ?_
  refine j_nf [_,_,_] rfl ?_
  refine j_run it 1 rfl (by simp) ?_
  refine j_step rfl (x_len sl29 rfl ?_)
  refine j_run it 1 rfl (by simp) ?_
  refine j_step rfl (x_len sl29 rfl ?_)
  refine j_run it 1 rfl (by simp) ?_
  refine j_nf [_,_] rfl ?_
  refine j_ifn rfl rfl (fun h1=>?_) (fun h1=>by exfalso;omega)
  refine j_nf [_,_,_,_] rfl ?_
  refine j_run it 1 rfl (by simp) ?_
  refine j_step rfl (x_len sl29 rfl ?_)
  refine j_run it 1 rfl (by simp) ?_
  refine j_step rfl (x_len sl29 rfl ?_)
  refine j_run it 1 rfl (by simp) ?_
  refine j_nf [_,_,_] rfl ?_
  refine j_if rfl rfl (fun h2=>by exfalso;omega) (fun h2=>?_)
  refine j_nf [_,_,_] rfl ?_
  refine j_run it 1 rfl (by simp) ?_
  refine j_nf [_,_] rfl ?_
  refine j_giv [] rfl rfl rfl ⟨rfl,rfl,rfl⟩
 have hta : ∀ x ∈ trim a,x < 4294967296:=fun x hx=>hra' x (mem_trim hx)
 have htb : ∀ x ∈ trim b,x < 4294967296:=fun x hx=>hrb' x (mem_trim hx)
 have va : val (trim a) = val a:=val_trim a
 have vb : val (trim b) = val b:=val_trim b
 refine j_nf [_,_] rfl ?_
 refine j_run it 1 rfl (by simp) ?_
 refine j_nf [_,_] rfl ?_
 refine j_run it 1 rfl (by simp) ?_
 refine j_step rfl (x_call [0] rfl (S_nat_short) rfl ?_)
 rintro _ _ _ ⟨rfl,rfl,rfl⟩
 simp only [List.cons_append,List.nil_append]
 refine j_run it 1 rfl (by simp) ?_
 refine j_step rfl (x_call [2] rfl (S_nat_short) rfl ?_)
 rintro _ _ _ ⟨rfl,rfl,rfl⟩
 simp only [List.cons_append,List.nil_append]
 refine j_run it 2 rfl (by simp) ?_
 refine j_nf [_,_,_] rfl ?_
 refine j_run it 1 rfl (by simp) ?_
 refine j_step rfl (x_len sl29 rfl ?_)
 refine j_run it 1 rfl (by simp) ?_
 refine j_step rfl (x_len sl29 rfl ?_)
 refine j_run it 1 rfl (by simp) ?_
 refine j_nf [_,_] rfl ?_
 refine j_ifn rfl rfl (fun h1=>by exfalso;omega) (fun h1=>?_)
 refine j_nf [_,_,_] rfl ?_
 refine j_run it 1 rfl (by simp) ?_
 refine j_step rfl (x_len sl29 rfl ?_)
 refine j_run it 2 rfl ⟨trivial,⟨by omega,by omega⟩,trivial⟩ ?_
 refine j_nf [_,_,_] rfl ?_
 refine j_loopG (X:=Nat) [0,1] [0,1,2,3] (fun k=>[(5,.int .i64 ((k : Int) - 1))]) (fun _=>[]) (fun _=>[]) (fun k=>k ≤ (trim a).length ∧ (trim a).drop k = (trim b).drop k) (fun k=>k) (trim a).length [] rfl rfl rfl ⟨Nat.le_refl _,by rw [List.drop_length,List.drop_of_length_le (by omega)]⟩ (by repeat (first | exact Fr.sub_nil _ | refine Fr.sub_cons rfl ?_)) rfl rfl ?_
 intro k ⟨hk,hd⟩ ih
 simp only [List.cons_append,List.nil_append] at ih ⊢
 by_cases hkl : 0 < k
 ·obtain ⟨j,rfl⟩ : ∃ j,k = j + 1:=⟨k - 1,by omega⟩
  have hx:=get_some (l:=trim a) (i:=j) (dflt:=default) (by omega)
  have hy:=get_some (l:=trim b) (i:=j) (dflt:=default) (by omega)
  generalize hgx : (trim a).getD j default = x at hx
  generalize hgy : (trim b).getD j default = y at hy
  rw [show (((j + 1 : Nat) : Int) - 1) = (j : Int) by omega]
  refine j_nf [_,_,_,_,_,_] rfl ?_
  refine j_run it 2 rfl (by simp) ?_
  refine j_nf [_,_,_,_,_] rfl ?_
  refine j_if rfl rfl (fun h2=>?_) (fun h2=>by exfalso;omega)
  refine j_nf [_,_,_,_,_,_,_,_] rfl ?_
  (apply j_drawK it mx 9;(· rfl);(· rfl))
  (apply lxk_run 2;(· rfl);(· simp))
  (apply lxk_pt;(· rfl);(· exact d_x fun _=>x_idx 1 (j) rfl rfl rfl sl29 rfl (by omega) fun z1 hz1 b1 o1=>(dk_ptD default hz1 0 rfl));intro b1 o1)
  (apply lxk_eq;(· rfl);(· exact d_x fun _=>x_ld_nat 0 rfl rfl ld76 fun ⟨r1,r2⟩=>dk_eq))
  (apply lxk_run 2;(· rfl);(· simp))
  (apply lxk_pt;(· rfl);(· exact d_x fun _=>x_idx 0 (j) rfl rfl rfl sl29 rfl (by omega) fun z1 hz1 b2 o2=>(dk_ptD default hz1 0 rfl));intro b2 o2)
  (apply lxk_eq;(· rfl);(· exact d_x fun _=>x_ld_nat 0 rfl rfl ld76 fun ⟨r1,r2⟩=>dk_eq))
  (apply lxk_run 1;(· rfl);(· simp))
  refine lxk_end rfl ?_
  simp only [List.map_cons,List.map_nil,List.cons_append,List.nil_append]
  refine j_nf [_,_,_,_,_,_,_] rfl ?_
  refine j_if rfl rfl (fun h3=>?_) (fun h3=>?_)
  ·rw [hgx,hgy] at h3
   have : val a < val b:=by rw [← va,← vb];exact lt_of_top hta (by rw [hd]) hx hy (by omega)
   rw [cmpN_lt this]
   refine j_nf [_,_,_,_,_,_,_,_] rfl ?_
   refine j_run it 1 rfl (by simp) ?_
   refine j_nf [_,_,_,_,_,_,_] rfl ?_
   refine j_giv [] rfl rfl rfl ⟨rfl,rfl,rfl⟩
  ·refine j_nf [_,_,_,_,_,_,_] rfl ?_
   (apply j_drawK it mx 9;(· rfl);(· rfl))
   (apply lxk_run 2;(· rfl);(· simp))
   (apply lxk_pt;(· rfl);(· exact d_x fun _=>x_idx 3 (j) rfl rfl rfl sl29 rfl (by omega) fun z1 hz1 b3 o3=>(dk_ptD default hz1 0 rfl));intro b3 o3)
   (apply lxk_eq;(· rfl);(· exact d_x fun _=>x_ld_nat 0 rfl rfl ld76 fun ⟨r1,r2⟩=>dk_eq))
   (apply lxk_run 2;(· rfl);(· simp))
   (apply lxk_pt;(· rfl);(· exact d_x fun _=>x_idx 2 (j) rfl rfl rfl sl29 rfl (by omega) fun z1 hz1 b4 o4=>(dk_ptD default hz1 0 rfl));intro b4 o4)
   (apply lxk_eq;(· rfl);(· exact d_x fun _=>x_ld_nat 0 rfl rfl ld76 fun ⟨r1,r2⟩=>dk_eq))
   (apply lxk_run 1;(· rfl);(· simp))
   refine lxk_end rfl ?_
   simp only [List.map_cons,List.map_nil,List.cons_append,List.nil_append]
   refine j_nf [_,_,_,_,_,_] rfl ?_
   refine j_if rfl rfl (fun h4=>?_) (fun h4=>?_)
   ·rw [hgx,hgy] at h4
    have : val b < val a:=by rw [← va,← vb];exact lt_of_top htb (by rw [hd]) hy hx (by omega)
    rw [cmpN_gt this]
    refine j_nf [_,_,_,_,_,_,_] rfl ?_
    refine j_run it 1 rfl (by simp) ?_
    refine j_nf [_,_,_,_,_,_] rfl ?_
    refine j_giv [] rfl rfl rfl ⟨rfl,rfl,rfl⟩
   ·rw [hgx,hgy] at h3 h4
    have hxy : x = y:=by omega
    subst hxy
    refine j_nf [_,_,_,_] rfl ?_
    refine j_run it 3 rfl ⟨trivial,⟨by omega,by omega⟩,trivial,trivial⟩ ?_
    refine j_nfn 1 [.lp (pL 244),.blk 0,.c [1,1,1,1]] rfl ?_
    refine j_to [4,5,6,7] (by exact fra rfl) rfl rfl (ih j (by omega) ⟨by omega,drop_step hd hx hy⟩)
 ·have e0 : k = 0:=by omega
  subst e0
  have e : trim a = trim b:=by simpa using hd
  rw [cmpN_eq (by rw [← va,← vb,e])]
  refine j_nf [_,_,_,_,_,_] rfl ?_
  refine j_run it 2 rfl (by simp) ?_
  refine j_nf [_,_,_,_,_] rfl ?_
  refine j_if rfl rfl (fun h2=>by exfalso;omega) (fun h2=>?_)
  refine j_nf [_,_] rfl ?_
  refine j_run it 1 rfl (by simp) ?_
  refine j_nf [_] rfl ?_
  refine j_giv [] rfl rfl rfl ⟨rfl,rfl,rfl⟩
set_option maxHeartbeats 2000000
abbrev StepQ (b k U V : Nat) (pre post : List Nat) : Value → List Fact → List Blk → Prop:=fun w Φ β=>w = .int .u32 (U / V : Nat) ∧ Φ = [] ∧ ∃ u',u'.length = k + 3 ∧ (∀ x ∈ u',x < 4294967296) ∧ val u' = U % V ∧ β = [(some b,76,natCells .u32 (pre++u'++post))]
theorem step_back {C : Cx} {b o cap cb k q U V P R uk cc : Nat} {pb : Option Addr} {pre w0 post v : List Nat} (hpre : pre.length = o) (hl0 : w0.length = k + 3) (hvl : v.length = k + 2) (hcap : k + 3 ≤ cap) (hsz : v.length ≤ 1099511627776)
  (hs0 : ∀ x ∈ w0,x < 4294967296) (hv : ∀ x ∈ v,x < 4294967296) (hP : 4294967296 ^ v.length = P) (hV : val v = V) (hV0 : 0 < V) (hVP : V ≤ P) (hR : val (w0.take v.length) = R) (hmod : R + V + P * uk = U % V + P * cc) (huk : uk < cc) (hcc : cc ≤ 4294967296)
  (hg0 : w0[v.length]? = some (uk + 4294967296 - cc)) (hq : q = U / V + 1) (hqB : q < 4294967296) :
  J F_nat_step C [.c (pL 4095)] [(0,.slice (some ⟨b,o,none⟩) (k + 3) cap),(1,.slice pb v.length cb),(4,.int .u32 0),(5,.int .i64 v.length),(7,.int .u64 q)]
   [(some b,76,natCells .u32 (pre++w0++post))] [slF U32 pb v.length cb v] (Gives C (StepQ b k U V pre post)):=by
 refine j_nf [_,_] rfl ?_
 refine j_run it 1 rfl (by simp) ?_
 refine j_nf [_,_,_] rfl ?_
 refine j_run it 1 rfl (by simp) ?_
 refine j_step rfl (x_len sl29 rfl ?_)
 refine j_run it 1 rfl (by simp) ?_
 refine j_nf [_,_,_] rfl ?_
 refine j_loopG (X:=Nat × Nat × List Nat) [0,1,4,5,7,139] [0] (fun x=>[(10,.int .u64 x.2.1),(140,.int .i64 x.1)]) (fun x=>[(some b,76,natCells .u32 (pre++x.2.2++post))]) (fun _=>[])
  (fun x=>x.1 ≤ v.length ∧ x.2.2.length = k + 3 ∧ x.2.1 ≤ 1 ∧ (∀ z ∈ x.2.2,z < 4294967296) ∧ val (x.2.2.take x.1) + 4294967296 ^ x.1 * x.2.1 = val (w0.take x.1) + val (v.take x.1) ∧ x.2.2.drop x.1 = w0.drop x.1)
  (fun x=>v.length - x.1) (0,0,w0) [] rfl rfl rfl ⟨Nat.zero_le _,hl0,Nat.zero_le _,hs0,by simp [val],rfl⟩ (by repeat (first | exact Fr.sub_nil _ | refine Fr.sub_cons rfl ?_)) rfl rfl ?_
 rintro ⟨i,cy,w⟩ ⟨hi2,hl2,hc2,hw2,he2,hd2⟩ ih2
 simp only [List.cons_append,List.nil_append] at hi2 hl2 hc2 hw2 he2 hd2 ih2 ⊢
 have hdi2 : ∀ j,i ≤ j → w[j]? = w0[j]?:=fun j hj=>by
  have h:=congrArg (fun l : List Nat=>l[j - i]?) hd2
  simp only [List.getElem?_drop] at h
  rwa [show i + (j - i) = j by omega] at h
 by_cases hil2 : i < v.length
 ·obtain ⟨y,hy⟩ : ∃ y,w[i]? = some y:=⟨w[i],by simp⟩
  have hyl:=hw2 _ (List.mem_of_getElem? hy)
  have hx:=get_some (l:=v) (i:=i) (dflt:=default) hil2
  have hxl:=hv _ (List.mem_of_getElem? hx)
  refine j_nf [_,_,_,_,_] rfl ?_
  refine j_run it 1 rfl (by simp) ?_
  refine j_nf [_,_,_,_,_] rfl ?_
  refine j_if rfl rfl (fun h1=>?_) (fun h1=>by exfalso;omega)
  refine j_nf [_,_,_,_,_,_,_] rfl ?_
  refine j_run it 2 rfl (by simp) ?_
  refine j_nf [_,_,_,_,_,_,_] rfl ?_
  (apply j_drawK it mx 13;(· rfl);(· rfl))
  (apply lxk_run 2;(· rfl);(· simp))
  (apply lxk_eq;(· rfl);(· exact d_x fun _=>x_idx_ownO (i) _ rfl rfl sl29 rfl (by omega) rfl dk_eq))
  (apply lxk_eq;(· rfl);(· exact d_bld_mid 0 (i) rfl rfl ld76 (by omega) (by assumption)))
  (apply lxk_run 3;(· rfl);(· exact ⟨trivial,trivial,⟨by omega,by omega⟩,trivial⟩))
  (apply lxk_pt;(· rfl);(· exact d_x fun _=>x_idx 0 (i) rfl rfl rfl sl29 rfl (by omega) fun z1 hz1 b1 o1=>(dk_ptD default hz1 0 rfl));intro b1 o1)
  (apply lxk_eq;(· rfl);(· exact d_x fun _=>x_ld_nat 0 rfl rfl ld76 fun ⟨r1,r2⟩=>dk_eq))
  (apply lxk_run 4;(· rfl);(· exact ⟨⟨by omega,by omega⟩,trivial,⟨by omega,by omega⟩,⟨by omega,by omega⟩,trivial⟩))
  refine lxk_end rfl ?_
  simp only [List.map_cons,List.map_nil,List.cons_append,List.nil_append]
  refine j_run it 1 rfl (by simp) ?_
  refine j_nf [_,_,_,_,_,_,_] rfl ?_
  refine j_run it 3 rfl (by simp) ?_
  refine j_step rfl (x_conv_u32 it rfl rfl rfl ?_)
  refine j_step rfl (x_idx_ownO (i) _ rfl rfl sl29 rfl (by omega) rfl ?_)
  refine j_step rfl (x_bst_mid 0 (i) ((((y) + (v.getD i default)) + (cy)) % 4294967296) rfl rfl rfl ld76 (by first | rfl | omega) (by omega) (by first | omega | (simp;omega)) ?_)
  refine j_nf [_,_,_,_,_,_] rfl ?_
  refine j_run it 3 rfl (by simp) ?_
  refine j_nf [_,_,_,_] rfl ?_
  refine j_run it 2 rfl ⟨trivial,⟨by omega,by omega⟩,trivial⟩ ?_
  refine j_nfn 1 [.lp (pL 131060),.blk 4,.c (pL 16383)] rfl ?_
  have hy0 : w0[i]? = some y:=by rw [← hdi2 i (Nat.le_refl _)];exact hy
  generalize v.getD i default = x at hx hxl ⊢
  refine j_to [1] (by exact fra rfl) rfl rfl (ih2 (i + 1,(y + x + cy) / 4294967296,w.set i ((y + x + cy) % 4294967296)) (by simp only;omega) ⟨by simp only;omega,by simpa using hl2,by simp only;omega,set_lt hw2 (by omega),by
   simp only
   rw [val_set_take (by omega),Nat.pow_succ,val_take_succ hy0,val_take_succ hx];exact carry_step he2 (by omega),by simp only;rw [List.drop_set_of_lt (by omega),← List.drop_drop,hd2,List.drop_drop]⟩)
 ·have ei : i = v.length:=by omega
  subst ei
  rw [List.take_length,hR,hV,hP] at he2
  have hwP:=take_lt (k:=v.length) hw2 (by omega)
  rw [hP] at hwP
  obtain ⟨hb1',hb2'⟩:=kn_back (c:=cc) (b:=0) he2 hmod hwP hVP hV0
  have hwn : w[v.length]? = some (uk + 4294967296 - cc):=by rw [hdi2 _ (Nat.le_refl _)];exact hg0
  have hcy : cy = 1:=by omega
  subst hcy
  have e3 : uk + 4294967296 - cc = 4294967295:=by omega
  rw [e3] at hwn
  refine j_nf [_,_,_,_,_] rfl ?_
  refine j_run it 1 rfl (by simp) ?_
  refine j_nf [_,_,_,_,_] rfl ?_
  refine j_if rfl rfl (fun h1=>by exfalso;omega) (fun h1=>?_)
  refine j_nf [_,_] rfl ?_
  refine j_run it 2 rfl (by simp) ?_
  refine j_step rfl (x_idx_ownO (v.length) _ rfl rfl sl29 rfl (by omega) rfl ?_)
  refine j_step rfl (x_bld_mid 0 (v.length) rfl rfl ld76 (by omega) (by assumption) (by first | omega | (simp;omega)) fun z1 hz1 hlt1=>?_)
  refine j_run it 2 rfl ⟨⟨by omega,by omega⟩,trivial,trivial⟩ ?_
  refine j_step rfl (x_add_u32 rfl rfl ?_)
  refine j_step rfl (x_idx_ownO (v.length) _ rfl rfl sl29 rfl (by omega) rfl ?_)
  refine j_step rfl (x_bst_mid 0 (v.length) (((z1) + (1)) % 4294967296) rfl rfl rfl ld76 (by first | rfl | omega) (by omega) (by first | omega | (simp;omega)) ?_)
  refine j_nf [_,_] rfl ?_
  refine j_run it 1 rfl (by simp) ?_
  refine j_step rfl (x_sub_u64 rfl rfl ?_)
  refine j_step rfl (x_conv_u32 it rfl rfl rfl ?_)
  refine j_run it 1 rfl (by simp) ?_
  refine j_nf [_] rfl ?_
  obtain rfl : z1 = 4294967295:=Option.some.inj (hz1.symm.trans hwn)
  refine j_gives [] rfl rfl rfl ⟨?_,rfl,w.set v.length 0,by simpa using hl2,set_lt hw2 (by decide),?_,rfl⟩
  ·have e : ((q : Int) - 1) % 18446744073709551616 % 4294967296 = ((U / V : Nat) : Int):=by
    generalize U / V = Q at hq ⊢
    omega
   show Value.int .u32 _ = _
   rw [e]
  ·have h:=val_set_take (l:=w) (k:=v.length) (z:=0) (by omega)
   rw [List.take_of_length_le (by simp;omega),Nat.mul_zero,Nat.add_zero] at h
   rw [h,hb1']
set_option maxHeartbeats 1000000
theorem or_low {x n c : Nat} (h : c < 2 ^ n) : x * 2 ^ n ||| c = x * 2 ^ n + c:=by
 rw [Nat.mul_comm,← Nat.two_pow_add_eq_or_of_lt h]
theorem shl_lt {x n : Nat} (hx : x < 4294967296) (hn : n < 32) : x * 2 ^ n + 2 ^ n ≤ 9223372036854775808 ∧ 1 ≤ 2 ^ n ∧ 2 ^ n ≤ 2147483648:=by
 have h1 : 2 ^ n ≤ 2 ^ 31:=Nat.pow_le_pow_right (by decide) (by omega)
 have h2 : (x + 1) * 2 ^ n ≤ 4294967296 * 2 ^ 31:=Nat.mul_le_mul (by omega) h1
 rw [Nat.succ_mul] at h2
 refine ⟨by omega,Nat.pow_pos (by decide),by omega⟩
abbrev Mv (e : TypeId) (l : List Nat) : Value → List Fact → List Blk → Prop:=fun v Φ β=>∃ b,v = .slice (some ⟨b,0,none⟩) l.length l.length ∧ Φ = [] ∧ β = [(some b,e,natCells .u32 l)]
theorem O_nat_shift {pa : Option Addr} {m ca n : Nat} {a : List Nat} (ha : a.length ≤ 1099511627776) (hn : n < 32) :
  Ctr Try.prog 108 [.slice pa m ca,.int .i64 n] [] [slF U32 pa m ca a] (fun v Φ β=>∃ l,l.length = a.length + 1 ∧ (∀ x ∈ l,x < 4294967296) ∧ val l = val a * 2 ^ n ∧ Mv 76 l v Φ β):=by
 refine Ctr_of_j' (F:=F_nat_shift) rfl fun C=>?_
 refine j_len 0 rfl fun hm hba _=>?_
 subst hm
 refine j_range 0 rfl fun hra=>?_
 have hra' : ∀ x ∈ a,x < 4294967296:=fun x hx=>by have:=hra x hx;simp only [InR] at this;omega
 refine j_nf [_,_] rfl ?_
 refine j_run it 1 rfl (by simp) ?_
 refine j_nf [_,_] rfl ?_
 refine j_run it 1 rfl (by simp) ?_
 refine j_step rfl (x_len sl29 rfl ?_)
 refine j_run it 1 rfl ⟨⟨by omega,by omega⟩,trivial⟩ ?_
 refine j_step rfl (x_make_nat ((a.length) + 1) _ rfl rfl sl29 zo29e by29e (by omega) (by omega) (by omega) fun b1=>?_)
 refine j_run it 1 rfl (by simp) ?_
 refine j_nf [_,_] rfl ?_
 refine j_run it 1 rfl (by simp) ?_
 refine j_nf [_,_,_] rfl ?_
 refine j_run it 1 rfl (by simp) ?_
 refine j_step rfl (x_len sl29 rfl ?_)
 refine j_run it 1 rfl (by simp) ?_
 refine j_nf [_,_,_] rfl ?_
 refine j_loopG (X:=Nat × Nat × List Nat) [0,1,4,5,14,15] [0] (fun x=>[(6,.int .u64 x.2.1),(16,.int .i64 x.1)]) (fun x=>[(some b1,76,natCells .u32 x.2.2)]) (fun _=>[])
  (fun x=>x.1 ≤ a.length ∧ x.2.2.length = a.length + 1 ∧ x.2.1 < 2 ^ n ∧ (∀ z ∈ x.2.2,z < 4294967296) ∧ val (x.2.2.take x.1) + 4294967296 ^ x.1 * x.2.1 = val (a.take x.1) * 2 ^ n)
  (fun x=>a.length - x.1) (0,0,List.replicate (a.length + 1) 0) [] rfl rfl rfl ⟨Nat.zero_le _,by simp,Nat.pow_pos (by decide),rep_lt (by decide),by simp [val]⟩ (by repeat (first | exact Fr.sub_nil _ | refine Fr.sub_cons rfl ?_)) rfl rfl ?_
 rintro ⟨k,c,out⟩ ⟨hk,hlo,hc,ho,he⟩ ih
 simp only [List.cons_append,List.nil_append] at hk hlo hc ho he ih ⊢
 by_cases hkl : k < a.length
 ·refine j_nf [_,_,_,_,_] rfl ?_
  refine j_run it 1 rfl (by simp) ?_
  refine j_nf [_,_,_,_,_] rfl ?_
  refine j_if rfl rfl (fun h1=>?_) (fun h1=>by exfalso;omega)
  refine j_nf [_,_,_,_,_,_,_] rfl ?_
  refine j_run it 1 rfl (by simp) ?_
  refine j_step rfl (x_idx 0 (k) rfl rfl rfl sl29 rfl (by omega) fun z1 hz1 b2 o1=>?_)
  refine j_step rfl (x_ld_nat 0 rfl rfl ld76 fun ⟨r1,r2⟩=>?_)
  refine j_run it 2 rfl (by simp) ?_
  refine j_nf [_,_,_,_,_,_,_] rfl ?_
  refine j_run it 3 rfl ⟨trivial,⟨by omega,by omega⟩,trivial,trivial⟩ ?_ --ok
  have hxl:=hra' _ (List.mem_of_getElem? hz1)
  obtain ⟨hs1,hs2,hs3⟩:=shl_lt hxl hn
  refine j_step rfl (x_shl_nat (z1) (n) rfl rfl (by first | rfl | omega) (by first | rfl | omega) (by first | decide | (simp only [IntKind.bits];omega)) (by first | assumption | (simp only [InR];omega)) ?_)
  refine j_run it 1 rfl (by simp) ?_
  refine j_step rfl (x_or_nat (z1 * 2 ^ n) (c) rfl rfl (by first | rfl | omega) (by first | rfl | omega) (by omega) (by omega) ?_)
  refine j_run it 1 rfl (by simp) ?_
  refine j_nf [_,_,_,_,_,_,_] rfl ?_
  refine j_run it 3 rfl (by simp) ?_
  refine j_step rfl (x_conv_u32 it rfl rfl rfl ?_)
  refine j_step rfl (x_idx_own (k) (k) rfl rfl sl29 rfl (by omega) (Nat.mul_one _) ?_)
  refine j_step rfl (x_bst_nat 0 ((z1 * 2 ^ n ||| c) % 4294967296) rfl rfl rfl ld76 (by first | rfl | omega) (by first | omega | (simp;omega)) ?_)
  refine j_nf [_,_,_,_,_,_] rfl ?_
  refine j_run it 3 rfl (by simp) ?_
  refine j_nf [_,_,_,_] rfl ?_
  refine j_run it 2 rfl ⟨trivial,⟨by omega,by omega⟩,trivial⟩ ?_
  refine j_nfn 1 [.lp (pL 244),.blk 0,.c [1,1,1,1]] rfl ?_
  rw [or_low hc]
  have hlt : z1 * 2 ^ n + c < 18446744073709551616:=by omega
  have hdiv : (z1 * 2 ^ n + c) / 4294967296 < 2 ^ n:=by
   rw [Nat.div_lt_iff_lt_mul (by decide)]
   have:=Nat.mul_le_mul_right (2 ^ n) hxl
   rw [Nat.succ_mul] at this
   omega
  refine j_to [1] (by exact fra rfl) rfl rfl (ih (k + 1,(z1 * 2 ^ n + c) / 4294967296,out.set k ((z1 * 2 ^ n + c) % 4294967296)) (by simp only;omega) ⟨by simp only;omega,by simpa using hlo,hdiv,set_lt ho (by omega),by
   simp only
   rw [val_set_take (by omega),Nat.pow_succ,val_take_succ hz1,Nat.add_mul]
   generalize hS : z1 * 2 ^ n + c = s
   have e : s % 4294967296 + 4294967296 * (s / 4294967296) = s:=by omega
   have e2 : 4294967296 ^ k * (s % 4294967296) + 4294967296 ^ k * 4294967296 * (s / 4294967296) = 4294967296 ^ k * (z1 * 2 ^ n) + 4294967296 ^ k * c:=by
    rw [Nat.mul_assoc,← Nat.mul_add,← Nat.mul_add,e,hS]
   rw [Nat.mul_assoc (4294967296 ^ k) z1]
   omega⟩)
 ·have e0 : k = a.length:=by omega
  subst e0
  have hs3 : 2 ^ n ≤ 2147483648:=(shl_lt (x:=0) (by decide) hn).2.2
  refine j_nf [_,_,_,_,_] rfl ?_
  refine j_run it 1 rfl (by simp) ?_
  refine j_nf [_,_,_,_,_] rfl ?_
  refine j_if rfl rfl (fun h1=>by exfalso;omega) (fun h1=>?_)
  refine j_nf [_,_] rfl ?_
  refine j_run it 2 rfl (by simp) ?_
  refine j_step rfl (x_len sl29 rfl ?_)
  refine j_run it 2 rfl ⟨⟨by omega,by omega⟩,trivial,trivial⟩ ?_
  refine j_step rfl (x_idx_own (a.length) (a.length) rfl rfl sl29 rfl (by omega) (Nat.mul_one _) ?_)
  refine j_step rfl (x_bst_nat 0 (c) rfl rfl rfl ld76 (by first | rfl | omega) (by first | omega | (simp;omega)) ?_)
  refine j_nf [_,_] rfl ?_
  refine j_run it 2 rfl (by simp) ?_
  refine j_nf [_] rfl ?_
  refine j_gives [] rfl rfl rfl ⟨out.set a.length c,by simpa using hlo,set_lt ho (by omega),?_,b1,by simp [resVal,hlo],rfl,rfl⟩
  rw [List.take_length] at he
  have h:=val_set_take (l:=out) (k:=a.length) (z:=c) (by omega)
  rw [List.take_of_length_le (by simp;omega)] at h
  rw [h,he]
set_option maxHeartbeats 2000000
theorem step_sub {C : Cx} {b o cap cb k q U0 : Nat} {pb : Option Addr} {pre u post v : List Nat} (hpre : pre.length = o) (hul : u.length = k + 3) (hvl : v.length = k + 2) (hcap : k + 3 ≤ cap) (hsz : u.length ≤ 1099511627776)
  (hu : ∀ x ∈ u,x < 4294967296) (hv : ∀ x ∈ v,x < 4294967296) (hU0 : u[v.length]? = some U0) (hv0 : 0 < val v) (hq : q < 4294967296) (hQ1 : val u / val v ≤ q) (hQ2 : q ≤ val u / val v + 1) :
  J F_nat_step C [.c (pL 127)] [(0,.slice (some ⟨b,o,none⟩) (k + 3) cap),(1,.slice pb v.length cb),(4,.int .u32 0),(5,.int .i64 v.length),(7,.int .u64 q)]
   [(some b,76,natCells .u32 (pre++u++post))] [slF U32 pb v.length cb v] (Gives C (StepQ b k (val u) (val v) pre post)):=by
 have lU0:=hu _ (List.mem_of_getElem? hU0)
 refine j_nf [_,_] rfl (j_run it 2 rfl (by simp) ?_)
 refine j_nf [_,_,_] rfl (j_run it 1 rfl (by simp) ?_)
 refine j_step rfl (x_len sl29 rfl ?_)
 refine j_run it 1 rfl (by simp) ?_
 refine j_nf [_,_,_] rfl ?_
 refine j_loopG (X:=Nat × Nat × Nat × List Nat) [0,1,4,5,7,85] [0] (fun x=>[(9,.int .u64 x.2.1),(10,.int .u64 x.2.2.1),(86,.int .i64 x.1)]) (fun x=>[(some b,76,natCells .u32 (pre++x.2.2.2++post))]) (fun _=>[])
  (fun x=>x.1 ≤ v.length ∧ x.2.2.2.length = k + 3 ∧ x.2.1 ≤ 1 ∧ x.2.2.1 < 4294967296 ∧ (∀ z ∈ x.2.2.2,z < 4294967296) ∧ val (x.2.2.2.take x.1) + q * val (v.take x.1) = val (u.take x.1) + 4294967296 ^ x.1 * (x.2.2.1 + x.2.1) ∧ x.2.2.2.drop x.1 = u.drop x.1)
  (fun x=>v.length - x.1) (0,0,0,u) [] rfl rfl rfl ⟨Nat.zero_le _,hul,Nat.zero_le _,Nat.zero_lt_succ _,hu,by simp [val],rfl⟩ (by repeat (first | exact Fr.sub_nil _ | refine Fr.sub_cons rfl ?_)) rfl rfl ?_
 rintro ⟨i,bw,c,u'⟩ ⟨hi,hl',hb1,hc,hu',he,hd⟩ ih
 simp only [List.cons_append,List.nil_append] at hi hl' hb1 hc hu' he hd ih ⊢
 have hdi : ∀ j,i ≤ j → u'[j]? = u[j]?:=fun j hj=>by
  have h:=congrArg (fun l : List Nat=>l[j - i]?) hd
  simp only [List.getElem?_drop] at h
  rwa [show i + (j - i) = j by omega] at h
 by_cases hil : i < v.length
 ·refine j_nf [_,_,_,_,_] rfl (j_run it 1 rfl (by simp) ?_)
  refine j_nf [_,_,_,_,_] rfl (j_if rfl rfl (fun h1=>?_) (fun h1=>by exfalso;omega))
  refine j_nf [_,_,_,_,_,_,_] rfl (j_run it 2 rfl (by simp) ?_)
  refine j_nf [_,_,_,_,_,_,_] rfl (j_run it 3 rfl (by simp) ?_)
  refine j_step rfl (x_idx 0 (i) rfl rfl rfl sl29 rfl (by omega) fun z1 hz1 b1 o1=>?_)
  refine j_step rfl (x_ld_nat 0 rfl rfl ld76 fun ⟨r1,r2⟩=>?_)
  refine j_run it 5 rfl ⟨trivial,⟨mul64_nn (by omega) (by omega) (by omega),mul64_2 (by omega) (by omega) (by omega) (by omega) (by omega)⟩,trivial,⟨Int.mul_nonneg (by omega) (by omega),mul64_1 (by omega) (by omega) (by omega) (by omega)⟩,⟨by omega,by omega⟩,trivial⟩ ?_
  refine j_nf [_,_,_,_,_,_,_] rfl (j_run it 3 rfl (by simp) ?_)
  refine j_nf [_,_,_,_,_,_,_] rfl (j_run it 2 rfl (by simp) ?_)
  refine j_step rfl (x_idx_ownO (i) _ rfl rfl sl29 rfl (by omega) rfl ?_)
  refine j_step rfl (x_bld_mid 0 (i) rfl rfl ld76 (by omega) (by assumption) (by first | omega | (simp;omega)) fun z2 hz2 hlt1=>?_)
  refine j_run it 2 rfl ⟨trivial,⟨by omega,by omega⟩,trivial⟩ ?_
  refine j_step rfl (x_conv_u32 it rfl rfl rfl ?_)
  refine j_run it 1 rfl ⟨⟨by omega,by omega⟩,trivial⟩ ?_
  refine j_step rfl (x_sub_u64 rfl rfl ?_)
  refine j_run it 1 rfl (by simp) ?_
  refine j_step rfl (x_sub_u64 rfl rfl ?_)
  refine j_run it 1 rfl (by simp) ?_
  refine j_nf [_,_,_,_,_,_,_] rfl (j_run it 3 rfl (by simp) ?_)
  refine j_step rfl (x_conv_u32 it rfl rfl rfl ?_)
  refine j_step rfl (x_idx_ownO (i) _ rfl rfl sl29 rfl (by omega) rfl ?_)
  refine j_step rfl (x_bst_mid 0 (i) ((((((z2) + 18446744073709551616 - ((((q) * (z1)) + (c)) % 4294967296)) % 18446744073709551616) + 18446744073709551616 - (bw)) % 18446744073709551616) % 4294967296) rfl rfl rfl ld76 (by first | rfl | omega) (by omega) (by first | omega | (simp;omega)) ?_)
  refine j_nf [_,_,_,_,_,_] rfl (j_run it 3 rfl (by simp) ?_)
  refine j_nf [_,_,_,_] rfl (j_run it 2 rfl ⟨trivial,⟨by omega,by omega⟩,trivial⟩ ?_)
  refine j_nfn 1 [.lp (pL 4084),.blk 2,.c (pL 511)] rfl ?_
  have hz2u : u[i]? = some z2:=by rw [← hdi i (Nat.le_refl _)];exact hz2
  have hz1v:=hv _ (List.mem_of_getElem? hz1)
  have hst:=mulsub_step (q:=q) (y:=z1) he hb1 hlt1 rfl rfl
  have hpf:=prod_fits hq hz1v hc
  generalize hD : ((z2 + 18446744073709551616 - (q * z1 + c) % 4294967296) % 18446744073709551616 + 18446744073709551616 - bw) % 18446744073709551616 = D at hst ⊢
  refine j_to [1] (by exact fii rfl (by dsimp only;omega) (fcc rfl (fcc rfl (fcc rfl (fcc rfl (fcc rfl (fcc rfl (fcc rfl (fcc rfl (fzz _)))))))))) rfl rfl (ih (i + 1,D / 9223372036854775808,(q * z1 + c) / 4294967296,u'.set i (D % 4294967296)) (by simp only;omega) ⟨by simp only;omega,by simpa using hl',hst.2,hpf.1,set_lt hu' (by omega),by
   simp only
   rw [val_set_take (by omega),Nat.pow_succ,val_take_succ hz1,val_take_succ hz2u];exact hst.1,by simp only;rw [List.drop_set_of_lt (by omega),← List.drop_drop,hd,List.drop_drop]⟩)
 ·have ei : i = v.length:=by omega
  subst ei
  rw [List.take_length] at he
  have hU0' : u'[v.length]? = some U0:=by rw [hdi _ (Nat.le_refl _)];exact hU0
  have eU : val u = val (u.take v.length) + 4294967296 ^ v.length * U0:=by
   have h:=val_take_succ hU0
   rwa [List.take_of_length_le (by omega)] at h
  have hR:=take_lt (k:=v.length) hu' (by omega)
  have hVP:=val_lt hv
  generalize hP : 4294967296 ^ v.length = P at *
  by_cases hok : c + bw ≤ U0
  ·obtain ⟨hqe,hmod⟩:=kn_right eU he hok rfl hQ1 hv0
   refine j_nf [_,_,_,_,_] rfl (j_run it 1 rfl (by simp) ?_)
   refine j_nf [_,_,_,_,_] rfl (j_if rfl rfl (fun h1=>by exfalso;omega) (fun h1=>?_))
   refine j_nf [_,_] rfl (j_run it 2 rfl (by simp) ?_)
   refine j_step rfl (x_idx_ownO (v.length) _ rfl rfl sl29 rfl (by omega) rfl ?_)
   refine j_step rfl (x_bld_mid 0 (v.length) rfl rfl ld76 (by omega) (by assumption) (by first | omega | (simp;omega)) fun z1 hz1 hlt1=>?_)
   refine j_run it 2 rfl ⟨trivial,⟨by omega,by omega⟩,trivial⟩ ?_
   refine j_step rfl (x_sub_u64 rfl rfl ?_)
   refine j_run it 1 rfl (by simp) ?_
   refine j_step rfl (x_sub_u64 rfl rfl ?_)
   refine j_run it 1 rfl (by simp) ?_
   refine j_nf [_,_] rfl (j_run it 3 rfl (by simp) ?_)
   refine j_step rfl (x_conv_u32 it rfl rfl rfl ?_)
   refine j_step rfl (x_idx_ownO (v.length) _ rfl rfl sl29 rfl (by omega) rfl ?_)
   refine j_step rfl (x_bst_mid 0 (v.length) ((((((z1) + 18446744073709551616 - (c)) % 18446744073709551616) + 18446744073709551616 - (bw)) % 18446744073709551616) % 4294967296) rfl rfl rfl ld76 (by first | rfl | omega) (by omega) (by first | omega | (simp;omega)) ?_)
   refine j_nf [_,_,_] rfl (j_run it 3 rfl (by simp) ?_)
   refine j_nf [_,_] rfl (j_if rfl rfl (fun h2=>?_) (fun h2=>?_))
   ·obtain rfl : z1 = U0:=Option.some.inj (hz1.symm.trans hU0')
    refine j_nf [_,_,_] rfl (j_run it 3 rfl ⟨trivial,⟨by omega,by omega⟩,trivial,trivial⟩ ?_)
    refine j_nf [_,_] rfl ?_
    have e1 : ((z1 + 18446744073709551616 - c) % 18446744073709551616 + 18446744073709551616 - bw) % 18446744073709551616 % 4294967296 = z1 - (c + bw):=by omega
    have e2 : ((q : Int)) = ((val u / val v : Nat) : Int):=by rw [hqe]
    refine j_gives [] rfl rfl rfl ⟨by rw [← e2];rfl,rfl,u'.set v.length (z1 - (c + bw)),by simpa using hl',set_lt hu' (by omega),?_,by rw [← e1];rfl⟩
    have h:=val_set_take (l:=u') (k:=v.length) (z:=z1 - (c + bw)) (by omega)
    rw [List.take_of_length_le (by simp;omega),hP] at h
    rw [h,hmod]
   ·exfalso
    obtain rfl : z1 = U0:=Option.some.inj (hz1.symm.trans hU0')
    omega
  ·obtain ⟨hqe,hmod⟩:=kn_wrong eU he (by omega) hR rfl hQ2 hv0
   refine j_nf [_,_,_,_,_] rfl (j_run it 1 rfl (by simp) ?_)
   refine j_nf [_,_,_,_,_] rfl (j_if rfl rfl (fun h1=>by exfalso;omega) (fun h1=>?_))
   refine j_nf [_,_] rfl (j_run it 2 rfl (by simp) ?_)
   refine j_step rfl (x_idx_ownO (v.length) _ rfl rfl sl29 rfl (by omega) rfl ?_)
   refine j_step rfl (x_bld_mid 0 (v.length) rfl rfl ld76 (by omega) (by assumption) (by first | omega | (simp;omega)) fun z1 hz1 hlt1=>?_)
   refine j_run it 2 rfl ⟨trivial,⟨by omega,by omega⟩,trivial⟩ ?_
   refine j_step rfl (x_sub_u64 rfl rfl ?_)
   refine j_run it 1 rfl (by simp) ?_
   refine j_step rfl (x_sub_u64 rfl rfl ?_)
   refine j_run it 1 rfl (by simp) ?_
   refine j_nf [_,_] rfl (j_run it 3 rfl (by simp) ?_)
   refine j_step rfl (x_conv_u32 it rfl rfl rfl ?_)
   refine j_step rfl (x_idx_ownO (v.length) _ rfl rfl sl29 rfl (by omega) rfl ?_)
   refine j_step rfl (x_bst_mid 0 (v.length) ((((((z1) + 18446744073709551616 - (c)) % 18446744073709551616) + 18446744073709551616 - (bw)) % 18446744073709551616) % 4294967296) rfl rfl rfl ld76 (by first | rfl | omega) (by omega) (by first | omega | (simp;omega)) ?_)
   refine j_nf [_,_,_] rfl (j_run it 3 rfl (by simp) ?_)
   refine j_nf [_,_] rfl (j_if rfl rfl (fun h2=>?_) (fun h2=>?_))
   ·exfalso
    obtain rfl : z1 = U0:=Option.some.inj (hz1.symm.trans hU0')
    omega
   ·obtain rfl : z1 = U0:=Option.some.inj (hz1.symm.trans hU0')
    have e1 : ((z1 + 18446744073709551616 - c) % 18446744073709551616 + 18446744073709551616 - bw) % 18446744073709551616 % 4294967296 = z1 + 4294967296 - (c + bw):=by omega
    rw [e1]
    refine j_nfn 1 [.c (pL 4095)] rfl ?_
    refine j_to [0] (by repeat (first | exact Fr.sub_nil _ | refine Fr.sub_cons rfl ?_)) rfl rfl (step_back (w0:=u'.set v.length (z1 + 4294967296 - (c + bw))) (cc:=c + bw) (uk:=z1) (R:=val (u'.take v.length)) (q:=q) hpre (by simpa using hl') hvl hcap (by omega) (set_lt hu' (by omega)) hv hP rfl hv0 (Nat.le_of_lt hVP) (by rw [List.take_set_of_le (Nat.le_refl _)]) hmod (by omega) (by omega) (by rw [List.getElem?_set_self (by omega)]) hqe hq)
theorem S_nat_step {b o cap : Nat} {pb : Option Addr} {m cb k : Nat} {pre u post v : List Nat} (hpre : pre.length = o) (hul : u.length = k + 3) (hvl : v.length = k + 2) (hcap : k + 3 ≤ cap) (hsz : u.length ≤ 1099511627776)
  (hu : ∀ x ∈ u,x < 4294967296) {V1 : Nat} (hV1 : v[k + 1]? = some V1) (hV1n : 2147483648 ≤ V1) (hUV : val u < 4294967296 * val v) :
  Ctr Try.prog 109 [.slice (some ⟨b,o,none⟩) (k + 3) cap,.slice pb m cb] [(some b,76,natCells .u32 (pre++u++post))] [slF U32 pb m cb v]
   (StepQ b k (val u) (val v) pre post):=by
 refine Ctr_of_j' (F:=F_nat_step) rfl fun C=>?_
 refine j_len 0 rfl fun hm hbb _=>?_
 subst hm
 refine j_range 0 rfl fun hrv=>?_
 have hv : ∀ x ∈ v,x < 4294967296:=fun x hx=>by have:=hrv x hx;simp only [InR] at this;omega
 obtain ⟨U0,hU0⟩ : ∃ x,u[v.length]? = some x:=⟨u[v.length],by simp⟩
 obtain ⟨U1,hU1⟩ : ∃ x,u[v.length - 1]? = some x:=⟨u[v.length - 1],by simp⟩
 obtain ⟨U2,hU2⟩ : ∃ x,u[v.length - 2]? = some x:=⟨u[v.length - 2],by simp⟩
 have hV2:=get_some (l:=v) (i:=v.length - 2) (dflt:=default) (by omega)
 have hV1' : v[v.length - 1]? = some V1:=by rw [hvl];exact hV1
 have lU0:=hu _ (List.mem_of_getElem? hU0)
 have lU1:=hu _ (List.mem_of_getElem? hU1)
 have lU2:=hu _ (List.mem_of_getElem? hU2)
 have lV1:=hv _ (List.mem_of_getElem? hV1)
 have lV2:=hv _ (List.mem_of_getElem? hV2)
 have hv0 : 0 < val v:=by
  rcases Nat.eq_zero_or_pos (val v) with h | h
  ·rw [h] at hUV;omega
  ·exact h
 have exit : ∀ q : Nat,q < 4294967296 → val u / val v ≤ q → q ≤ val u / val v + 1 → J F_nat_step C [.c (pL 127)] [(0,.slice (some ⟨b,o,none⟩) (k + 3) cap),(1,.slice pb v.length cb),(4,.int .u32 0),(5,.int .i64 v.length),(7,.int .u64 q)]
   [(some b,76,natCells .u32 (pre++u++post))] [slF U32 pb v.length cb v] (Gives C (StepQ b k (val u) (val v) pre post)) :=
  fun q h1 h2 h3=>step_sub hpre hul hvl hcap hsz hu hv hU0 hv0 h1 h2 h3
 refine j_nf [_,_] rfl ?_
 refine j_run it 1 rfl (by simp) ?_
 refine j_nf [_,_] rfl ?_
 refine j_run it 1 rfl (by simp) ?_
 refine j_step rfl (x_len sl29 rfl ?_)
 refine j_run it 1 rfl (by simp) ?_
 refine j_nf [_,_] rfl ?_
 (apply j_drawK it mx 13;(· rfl);(· rfl))
 (apply lxk_run 2;(· rfl);(· simp))
 (apply lxk_eq;(· rfl);(· exact d_x fun _=>x_idx_ownO (v.length) _ rfl rfl sl29 rfl (by omega) rfl dk_eq))
 (apply lxk_eq;(· rfl);(· exact d_bld_mid 0 (v.length) rfl rfl ld76 (by omega) (by assumption)))
 (apply lxk_run 4;(· rfl);(· exact ⟨trivial,trivial,⟨by omega,by omega⟩,⟨by omega,by omega⟩,trivial⟩))
 (apply lxk_eq (v:=Value.int IntKind.i64 ((((v.length) - 1 : Nat)) : Int));(· rfl);(· exact d_x fun _=>x_asN it _ rfl ⟨by omega,by omega⟩ (by omega) dk_eq))
 simp only [Nat.add_sub_cancel]
 (apply lxk_eq;(· rfl);(· exact d_x fun _=>x_idx_ownO (v.length - 1) _ rfl rfl sl29 rfl (by omega) rfl dk_eq))
 (apply lxk_eq;(· rfl);(· exact d_bld_mid 0 (v.length - 1) rfl rfl ld76 (by omega) (by assumption)))
 (apply lxk_run 1;(· rfl);(· exact ⟨⟨by omega,by omega⟩,trivial⟩))
 (apply lxk_eq;(· rfl);(· exact d_x fun _=>x_or_shl (U0) (U1) rfl rfl (by first | rfl | omega) (by first | rfl | omega) (by omega) (by omega) dk_eq))
 refine lxk_end rfl ?_
 simp only [List.map_cons,List.map_nil,List.cons_append,List.nil_append]
 refine j_run it 1 rfl (by simp) ?_
 refine j_nf [_,_] rfl ?_
 refine j_run it 4 rfl ⟨⟨by omega,by omega⟩,trivial,trivial,trivial,trivial⟩ ?_
 refine j_step rfl (x_idx 0 ((v.length) - 1) rfl rfl rfl sl29 (by omega) (by omega) fun z1 hz1 b1 o1=>?_)
 refine j_step rfl (x_ld_nat 0 rfl rfl ld76 fun ⟨r1,r2⟩=>?_)
 refine j_run it 1 rfl ⟨⟨by omega,by omega⟩,trivial⟩ ?_ --ok
 obtain rfl : z1 = V1:=Option.some.inj (hz1.symm.trans hV1')
 refine j_run it 2 rfl ⟨trivial,⟨by omega,by omega,by omega,by omega⟩,trivial⟩ ?_
 refine j_nf [_,_] rfl ?_
 refine j_run it 4 rfl ⟨⟨by omega,by omega⟩,trivial,trivial,trivial,trivial⟩ ?_
 refine j_step rfl (x_idx 1 ((v.length) - 1) rfl rfl rfl sl29 (by omega) (by omega) fun z2 hz2 b2 o2=>?_)
 refine j_step rfl (x_ld_nat 0 rfl rfl ld76 fun ⟨r3,r4⟩=>?_)
 refine j_run it 1 rfl ⟨⟨by omega,by omega⟩,trivial⟩ ?_ --ok
 obtain rfl : z2 = z1:=Option.some.inj (hz2.symm.trans hV1')
 have eU:=val_top3 (l:=u) (k:=v.length - 2) (by omega) hU2 (by rw [show v.length - 2 + 1 = v.length - 1 by omega];exact hU1) (by rw [show v.length - 2 + 2 = v.length by omega];exact hU0)
 have eV:=val_top2 (l:=v) (k:=v.length - 2) (by omega) hV2 (by rw [show v.length - 2 + 1 = v.length - 1 by omega];exact hV1')
 have hul':=take_lt (k:=v.length - 2) hu (by omega)
 have hvl':=take_lt (k:=v.length - 2) hv (by omega)
 generalize 4294967296 ^ (v.length - 2) = P at eU eV hul' hvl'
 have hU0V:=kn_top eU eV hvl' lV2 hUV
 have hz0 : 0 < z2:=by omega
 have hQB : val u / val v < 4294967296:=by rw [Nat.div_lt_iff_lt_mul hv0];exact hUV
 have hQV : val u / val v * val v ≤ val u:=Nat.div_mul_le_self _ _
 have hfirst : val u / val v ≤ (U1 + 4294967296 * U0) / z2:=kn_first eU hul' eV hz0 lU2 hQV
 have etop : U1 + 4294967296 * U0 = U0 * 4294967296 + U1:=by omega
 rw [etop] at hfirst
 have hdm : (U0 * 4294967296 + U1) / z2 * z2 + (U0 * 4294967296 + U1) % z2 = U0 * 4294967296 + U1:=by rw [Nat.mul_comm];exact Nat.div_add_mod _ _
 have hqb : (U0 * 4294967296 + U1) / z2 ≤ 8589934592:=by
  rw [Nat.div_le_iff_le_mul hz0]
  have : 8589934592 * 2147483648 ≤ 8589934592 * z2:=Nat.mul_le_mul_left _ hV1n
  omega
 have hrb : (U0 * 4294967296 + U1) % z2 < z2:=Nat.mod_lt _ hz0
 have less : ∀ q r,q * z2 + r = U0 * 4294967296 + U1 → val u / val v ≤ q → (4294967296 ≤ q ∨ r * 4294967296 + U2 < q * v.getD (v.length - 2) default) → val u / val v + 1 ≤ q:=by
  intro q r h1 h2 h3
  rcases Nat.lt_or_ge (val u / val v) q with h | h
  ·exact h
  ·exfalso
   have e : q = val u / val v:=by omega
   rcases h3 with h3 | h3
   ·omega
   ·have:=kn_less (q:=q) (r:=r) eU hul' eV (by rw [h1,etop]) (by rw [e];exact hQV)
    omega
 have last : ∀ q r,q * z2 + r = U0 * 4294967296 + U1 → val u / val v ≤ q → (4294967296 ≤ r ∨ (q < 4294967296 ∧ ¬ r * 4294967296 + U2 < q * v.getD (v.length - 2) default)) → q < 4294967296 ∧ q ≤ val u / val v + 1:=by
  intro q r h1 h2 h3
  have hqB : q < 4294967296:=by
   rcases h3 with h3 | h3
   ·have h4 : U0 * 4294967296 ≤ z2 * 4294967296:=Nat.mul_le_mul_right _ hU0V
    have h5 : q * z2 < 4294967296 * z2:=by omega
    exact Nat.lt_of_mul_lt_mul_right h5
   ·exact h3.1
  refine ⟨hqB,?_⟩
  rcases Nat.eq_zero_or_pos q with h | h
  ·rw [h];exact Nat.zero_le _
  ·obtain ⟨q',rfl⟩ : ∃ q',q = q' + 1:=⟨q - 1,by omega⟩
   have ht : (q' + 1) * v.getD (v.length - 2) default ≤ r * 4294967296 + U2:=by
    rcases h3 with h3 | h3
    ·have : (q' + 1) * v.getD (v.length - 2) default ≤ 4294967296 * 4294967296:=Nat.mul_le_mul (by omega) (by omega)
     have : 4294967296 * 4294967296 ≤ r * 4294967296:=Nat.mul_le_mul_right _ h3
     omega
    ·omega
   have:=kn_end (q:=q') eU eV hvl' (by rw [h1,etop]) hqB hz0 ht
   have:=(Nat.le_div_iff_mul_le hv0).2 this
   omega
 have next : ∀ q r z w : Nat,q * z + r = w → 1 ≤ q → (q - 1) * z + (r + z) = w:=by
  intro q r z w h1 h2
  obtain ⟨q',rfl⟩ : ∃ q',q = q' + 1:=⟨q - 1,by omega⟩
  rw [Nat.succ_mul] at h1
  rw [Nat.add_sub_cancel]
  omega
 refine j_run it 2 rfl ⟨trivial,⟨by omega,by omega⟩,trivial⟩ ?_
 refine j_nf [_,_,_] rfl ?_
 refine j_loopG (X:=Nat × Nat) [0,1,4,5] [0,1,2] (fun x=>[(7,.int .u64 x.1),(8,.int .u64 x.2)]) (fun x=>[(some b,76,natCells .u32 (pre++u++post))]) (fun _=>[])
  (fun x=>x.1 * z2 + x.2 = U0 * 4294967296 + U1 ∧ val u / val v ≤ x.1 ∧ x.1 ≤ 8589934592 ∧ x.2 < 8589934592)
  (fun x=>8589934592 - x.2) ((U0 * 4294967296 + U1) / z2,(U0 * 4294967296 + U1) % z2) [] rfl rfl rfl ⟨hdm,hfirst,hqb,by simp only;omega⟩ (by repeat (first | exact Fr.sub_nil _ | refine Fr.sub_cons rfl ?_ | refine Fr.sub_consI rfl (by simp) ?_)) rfl rfl ?_
 rintro ⟨q,r⟩ ⟨hqr,hQq,hq8,hr8⟩ ih
 simp only [List.cons_append,List.nil_append] at hqr hQq hq8 hr8 ih ⊢
 by_cases hr : r < 4294967296
 ·by_cases hqB : 4294967296 ≤ q
  ·have hl:=less q r hqr hQq (.inl hqB)
   refine j_nf [_,_,_,_,_,_] rfl ?_
   (apply j_drawK it mx 26;(· rfl);(· rfl))
   (apply lxk_run 1;(· rfl);(· simp))
   (apply lxk_eq;(· rfl);(· exact d_x fun _=>x_true it rfl (by trivial) (by omega) dk_eq))
   (apply lxk_run 2;(· rfl);(· simp))
   (apply lxk_eq;(· rfl);(· exact d_x fun _=>x_true it rfl (by trivial) (by omega) dk_eq))
   (apply lxk_run 18;(· rfl);(· simp))
   (apply lxk_run 3;(· rfl);(· simp))
   refine lxk_end rfl ?_
   simp only [List.map_cons,List.map_nil,List.cons_append,List.nil_append]
   refine j_nf [_,_,_,_,_] rfl ?_
   refine j_true rfl rfl ?_
   refine j_nf [_,_,_,_,_,_] rfl ?_
   refine j_run it 3 rfl ⟨trivial,⟨by omega,by omega⟩,trivial,trivial⟩ ?_
   refine j_nf [_,_,_,_,_] rfl ?_
   refine j_run it 4 rfl ⟨⟨by omega,by omega⟩,trivial,trivial,trivial,trivial⟩ ?_
   refine j_step rfl (x_idx 2 ((v.length) - 1) rfl rfl rfl sl29 (by omega) (by omega) fun z1 hz3 b3 o3=>?_)
   refine j_step rfl (x_ld_nat 0 rfl rfl ld76 fun ⟨r5,r6⟩=>?_)
   refine j_run it 3 rfl ⟨trivial,⟨by omega,by omega⟩,⟨by omega,by omega⟩,trivial⟩ ?_
   refine j_nfn 2 [.lp (pL 504),.blk 0,.c (pL 127)] rfl ?_
   obtain rfl : z1 = z2:=Option.some.inj (hz3.symm.trans hV1')
   refine j_to [1,2,3] (by exact fii rfl (by omega) (fcc rfl (fcc rfl (fcc rfl (fcc rfl (fcc rfl (fzz _))))))) rfl rfl (ih (q - 1,r + z1) (by simp only;omega) ⟨next q r z1 _ hqr (by omega),by simp only;omega,by simp only;omega,by simp only;omega⟩)
  ·by_cases ht : r * 4294967296 + U2 < q * v.getD (v.length - 2) default
   ·have hl:=less q r hqr hQq (.inr ht)
    refine j_nf [_,_,_,_,_,_] rfl ?_
    (apply j_drawK it mx 26;(· rfl);(· rfl))
    (apply lxk_run 1;(· rfl);(· simp))
    (apply lxk_eq;(· rfl);(· exact d_x fun _=>x_true it rfl (by trivial) (by omega) dk_eq))
    (apply lxk_run 2;(· rfl);(· simp))
    (apply lxk_eq;(· rfl);(· exact d_x fun _=>x_false it rfl (by trivial) (by omega) dk_eq))
    (apply lxk_run 5;(· rfl);(· exact ⟨⟨by omega,by omega⟩,trivial,trivial,trivial,trivial,trivial⟩))
    (apply lxk_pt;(· rfl);(· exact d_x fun _=>x_idx 2 ((v.length) - 2) rfl rfl rfl sl29 (by omega) (by omega) fun z1 hz3 b3 o3=>(dk_ptD default hz3 0 rfl));intro b3 o3)
    (apply lxk_eq;(· rfl);(· exact d_x fun _=>x_ld_nat 0 rfl rfl ld76 fun ⟨r5,r6⟩=>dk_eq))
    (apply lxk_run 7;(· rfl);(· exact ⟨⟨by omega,by omega⟩,trivial,trivial,⟨by omega,by omega⟩,trivial,⟨by omega,mul64_1 (by omega) (by omega) (by omega) (by omega)⟩,⟨by omega,by omega⟩,trivial⟩))
    (apply lxk_eq;(· rfl);(· exact d_x fun _=>x_idx_ownO ((v.length) - 2) _ rfl rfl sl29 (by omega) (by omega) rfl dk_eq))
    (apply lxk_eq;(· rfl);(· exact d_bld_mid 0 (v.length - 2) rfl rfl ld76 (by omega) (by assumption)))
    (apply lxk_run 1;(· rfl);(· exact ⟨⟨by omega,by omega⟩,trivial⟩))
    (apply lxk_eq;(· rfl);(· exact d_x fun _=>x_or_shl (r) (U2) rfl rfl (by first | rfl | omega) (by first | rfl | omega) (by omega) (by omega) dk_eq))
    (apply lxk_eq;(· rfl);(· exact d_x fun _=>x_true it rfl (by trivial) (by omega) dk_eq))
    (apply lxk_run 2;(· rfl);(· simp))
    refine lxk_end rfl ?_
    simp only [List.map_cons,List.map_nil,List.cons_append,List.nil_append]
    refine j_nf [_,_,_,_,_] rfl ?_
    refine j_true rfl rfl ?_
    refine j_nf [_,_,_,_,_,_] rfl ?_
    refine j_run it 1 rfl (by simp) ?_
    refine j_step rfl (x_sub_u64 rfl rfl ?_)
    refine j_run it 1 rfl (by simp) ?_
    refine j_nf [_,_,_,_,_] rfl ?_
    refine j_run it 4 rfl ⟨⟨by omega,by omega⟩,trivial,trivial,trivial,trivial⟩ ?_
    refine j_step rfl (x_idx 3 ((v.length) - 1) rfl rfl rfl sl29 (by omega) (by omega) fun z1 hz3 b4 o4=>?_)
    refine j_step rfl (x_ld_nat 0 rfl rfl ld76 fun ⟨r5,r6⟩=>?_)
    refine j_run it 3 rfl ⟨trivial,⟨by omega,by omega⟩,⟨by omega,by omega⟩,trivial⟩ ?_
    refine j_nfn 2 [.lp (pL 504),.blk 0,.c (pL 127)] rfl ?_
    obtain rfl : z1 = z2:=Option.some.inj (hz3.symm.trans hV1')
    have hq1 : 1 ≤ q:=Nat.le_trans (Nat.succ_le_succ (Nat.zero_le _)) hl
    refine j_to [2,3,4] (by exact fii rfl (by omega) (fcc rfl (fcc rfl (fcc rfl (fcc rfl (fcc rfl (fzz _))))))) rfl rfl (ih (q - 1,r + z1) (by simp only;omega) ⟨next q r z1 _ hqr hq1,Nat.le_sub_of_add_le hl,by simp only;omega,by simp only;omega⟩)
   ·obtain ⟨h1,h2⟩:=last q r hqr hQq (.inr ⟨by omega,ht⟩)
    refine j_nf [_,_,_,_,_,_] rfl ?_
    (apply j_drawK it mx 26;(· rfl);(· rfl))
    (apply lxk_run 1;(· rfl);(· simp))
    (apply lxk_eq;(· rfl);(· exact d_x fun _=>x_true it rfl (by trivial) (by omega) dk_eq))
    (apply lxk_run 2;(· rfl);(· simp))
    (apply lxk_eq;(· rfl);(· exact d_x fun _=>x_false it rfl (by trivial) (by omega) dk_eq))
    (apply lxk_run 5;(· rfl);(· exact ⟨⟨by omega,by omega⟩,trivial,trivial,trivial,trivial,trivial⟩))
    (apply lxk_pt;(· rfl);(· exact d_x fun _=>x_idx 2 ((v.length) - 2) rfl rfl rfl sl29 (by omega) (by omega) fun z1 hz3 b3 o3=>(dk_ptD default hz3 0 rfl));intro b3 o3)
    (apply lxk_eq;(· rfl);(· exact d_x fun _=>x_ld_nat 0 rfl rfl ld76 fun ⟨r5,r6⟩=>dk_eq))
    (apply lxk_run 7;(· rfl);(· exact ⟨⟨by omega,by omega⟩,trivial,trivial,⟨by omega,by omega⟩,trivial,⟨by omega,by omega⟩,⟨by omega,by omega⟩,trivial⟩))
    (apply lxk_eq;(· rfl);(· exact d_x fun _=>x_idx_ownO ((v.length) - 2) _ rfl rfl sl29 (by omega) (by omega) rfl dk_eq))
    (apply lxk_eq;(· rfl);(· exact d_bld_mid 0 (v.length - 2) rfl rfl ld76 (by omega) (by assumption)))
    (apply lxk_run 1;(· rfl);(· exact ⟨⟨by omega,by omega⟩,trivial⟩))
    (apply lxk_eq;(· rfl);(· exact d_x fun _=>x_or_shl (r) (U2) rfl rfl (by first | rfl | omega) (by first | rfl | omega) (by omega) (by omega) dk_eq))
    (apply lxk_eq;(· rfl);(· exact d_x fun _=>x_false it rfl (by trivial) (by omega) dk_eq))
    (apply lxk_run 2;(· rfl);(· simp))
    refine lxk_end rfl ?_
    simp only [List.map_cons,List.map_nil,List.cons_append,List.nil_append]
    refine j_nf [_,_,_,_,_] rfl ?_
    refine j_false rfl rfl ?_
    refine j_nfn 1 [.c (pL 127)] rfl ?_
    refine j_to [3] (by exact fra rfl) rfl rfl (exit q h1 hQq h2)
 ·obtain ⟨h1,h2⟩:=last q r hqr hQq (.inl (by omega))
  refine j_nf [_,_,_,_,_,_] rfl ?_
  (apply j_drawK it mx 26;(· rfl);(· rfl))
  (apply lxk_run 1;(· rfl);(· simp))
  (apply lxk_eq;(· rfl);(· exact d_x fun _=>x_false it rfl (by trivial) (by omega) dk_eq))
  (apply lxk_run 2;(· rfl);(· simp))
  (apply lxk_run 19;(· rfl);(· simp))
  (apply lxk_run 3;(· rfl);(· simp))
  refine lxk_end rfl ?_
  simp only [List.map_cons,List.map_nil,List.cons_append,List.nil_append]
  refine j_nf [_,_,_,_,_] rfl ?_
  refine j_false rfl rfl ?_
  refine j_nfn 1 [.c (pL 127)] rfl ?_
  refine j_to [2] (by exact fra rfl) rfl rfl (exit q h1 hQq h2)
end Go.Proofs.Ytlelanmgijhjfaa
