/-
The document's fields: irreducible polynomials, Check, elements, their digits and sums. The document's fields: elements, their digits, sums and products. The document's fields: products. The document's fields: sums of products; rows of elements. The words that rows generate, as the document lists them. All words of a length, as the document lists them. The words that are orthogonal to rows, as the document lists them. The weights of words, as the document counts them. The words of a law: a code, its dual, all words. Moments of the weights of a code and of its dual. The weights of the dual code are Dual of the weights of the code. Every word is near a word of the code: the external distance. One set of points against all blocks: what Design's visit does. The sixteenth text of the frame: function values, and calls of them. All sets of points, one after the other: what Design's subsets does. The program's sets are the masks of the document's sets. The program's Design. The document's tests of blocks: Block, Inside, Many. The document's sets of points. The document's Design, and that it is the program's. The counting identity of designs. Supports of words of the least weight, and the theorem of Assmus and Mattson for them.
-/
import Derived.Test.YtmhcfhddmkhaiaaHC5
set_option linter.unusedVariables false
set_option linter.unusedSimpArgs false
namespace Go.Proofs.Ytmhcfhddmkhaiaa
open Go Go.Fw
set_option maxRecDepth 100000
set_option linter.unusedVariables false
set_option linter.unusedSimpArgs false
set_option maxHeartbeats 4000000
theorem toI_digs {l : List Nat} {p : Nat} (h : ∀ x ∈ l,x < p) : ∀ x ∈ toI l,0 ≤ x ∧ x < (p : Int):=fun x hx=>by
 obtain ⟨n,hn,rfl⟩:=List.mem_map.1 hx
 have:=h n hn
 omega
open Classical in
theorem S_codewrightref04_irreducible {pm : Option Addr} {nm cm p : Nat} {md : List Nat} (hp : 2 ≤ p) (hp2 : p ≤ 256) (hq : p ^ md.length ≤ 256) (hm : md.length ≤ 8) (rm : ∀ x ∈ md,x < p) {res : Bool} (hres : res = true ↔ irrP p md) :
  Ctr Try.prog 54 [.slice pm nm cm,.int .i64 p] [] [slF I64 pm nm cm (toI md)] (Rv (.bool res) []):=by
 refine Ctr_of_j' (F:=F_codewrightref04_irreducible) rfl fun C=>?_
 refine j_len 0 rfl fun hn1 _ _=>?_
 rw [toI_len] at hn1
 subst hn1
 have rI:=toI_digs rm
 have lI:=toI_len md
 refine j_nf [_,_] rfl (j_run it 1 rfl (by simp) ?_)
 refine j_nf [_,_] rfl (j_run it 1 rfl (by simp) ?_)
 refine j_nf [_,_,_] rfl (j_run it 1 rfl (by simp) ?_)
 refine j_nf [_,_,_] rfl ?_
 refine j_loopG (X:=Nat) [0,1] [0] (fun d=>[(6,.int .i64 ((d + 1 : Nat) : Int)),(5,.int .i64 ((p ^ d : Nat) : Int))]) (fun _=>[]) (fun _=>[]) (fun d=>2 * d ≤ md.length ∧ ∀ e,1 ≤ e → e ≤ d → ∀ v,v < p ^ e → ¬ cg p (evL (Xg (toI (dig p e v))) (toI md++[1]) oneV)) (fun d=>md.length - d) 0 [] rfl rfl rfl ⟨Nat.zero_le _,fun e h1 h2=>by omega⟩ (by refine Fr.sub_cons rfl ?_;refine Fr.sub_consI rfl (by simp) ?_;repeat (first | exact Fr.sub_nil _ | refine Fr.sub_cons rfl ?_)) rfl rfl ?_
 rintro d ⟨hd,hall⟩ ih
 simp only [List.cons_append,List.nil_append] at hd hall ih ⊢
 have hpd : p ^ d ≤ 256:=Nat.le_trans (Nat.pow_le_pow_right (by omega) (by omega)) hq
 by_cases hdl : 2 * (d + 1) ≤ md.length
 ·have hpe : p ^ (d + 1) ≤ 256:=Nat.le_trans (Nat.pow_le_pow_right (by omega) (by omega)) hq
  have ee : ((p ^ d : Nat) : Int) * (p : Int) = ((p ^ (d + 1) : Nat) : Int):=by rw [Nat.pow_succ,Int.natCast_mul]
  have ih':=ih (d + 1) (by omega)
  generalize hP : p ^ (d + 1) = P at *
  generalize p ^ d = Q at *
  have hQP : 0 ≤ (Q : Int) * (p : Int) ∧ (Q : Int) * (p : Int) ≤ 256:=by omega
  refine j_nf [_,_,_,_,_,_] rfl (j_run it 3 rfl ⟨trivial,⟨by omega,by omega⟩,trivial,trivial⟩ ?_)
  refine j_step rfl (x_len sl29 rfl ?_)
  refine j_run it 1 rfl (by simp) ?_
  refine j_nf [_,_,_,_,_] rfl (j_if rfl rfl (fun h1=>?_) (fun h1=>by exfalso;omega))
  refine j_nf [_,_,_,_,_,_,_] rfl (j_run it 4 rfl ⟨trivial,⟨by omega,by omega⟩,trivial,trivial,trivial⟩ ?_)
  refine j_nf [_,_,_,_,_,_,_] rfl (j_run it 1 rfl (by simp) ?_)
  refine j_nf [_,_,_,_,_,_,_] rfl ?_
  rw [ee]
  refine j_loopG (X:=Nat) [0,1,5,6,8,9,10,11,12,15,16,17] [0] (fun v=>[(7,.int .i64 (v : Int))]) (fun _=>[]) (fun _=>[]) (fun v=>v ≤ P ∧ ∀ u,u < v → ¬ cg p (evL (Xg (toI (dig p (d + 1) u))) (toI md++[1]) oneV)) (fun v=>P - v) 0 [] rfl rfl rfl ⟨Nat.zero_le _,fun u h=>by omega⟩ (by repeat (first | exact Fr.sub_nil _ | refine Fr.sub_cons rfl ?_)) rfl rfl ?_
  rintro v ⟨hv,hvall⟩ ihv
  simp only [List.cons_append,List.nil_append] at hv hvall ihv ⊢
  by_cases hvl : v < P
  ·have gl : (toI (dig p (d + 1) v)).length = d + 1:=by rw [toI_len,dig_len]
   have gr:=toI_digs fun x hx=>dig_lt (p:=p) (n:=d + 1) (x:=v) (by omega) x hx
   have c_codewrightref04_divides:=fun {pg pm : Option Addr} {ng nm cg' cm : Nat} {res : Bool} hres=>S_codewrightref04_divides (pg:=pg) (pm:=pm) (ng:=ng) (nm:=nm) (cg':=cg') (cm:=cm) (p:=p) (g:=toI (dig p (d + 1) v)) (md:=toI md) (by omega) hp2 (by omega) (by omega) (by omega) gr rI (by omega) (res:=res) hres
   by_cases hdv : cg p (evL (Xg (toI (dig p (d + 1) v))) (toI md++[1]) oneV)
   ·have hf : res = false:=by
     cases res with
     | false=>rfl
     | true=>exact absurd hdv ((hres.1 rfl) (d + 1) (by omega) hdl v (by rw [hP];exact hvl))
    have hr : (true = true ↔ cg p (evL (Xg (toI (dig p (d + 1) v))) (toI md++[1]) oneV)):=⟨fun _=>hdv,fun _=>rfl⟩
    rw [hf]
    refine j_nf [_,_,_,_,_,_,_,_,_,_] rfl (j_run it 3 rfl (by simp) ?_)
    refine j_nf [_,_,_,_,_,_,_,_,_] rfl (j_if rfl rfl (fun h2=>?_) (fun h2=>by exfalso;omega))
    refine j_nf [_,_,_,_,_,_,_,_,_,_,_] rfl (j_run it 3 rfl (by simp) ?_)
    refine j_step rfl (x_call [] rfl (S_codewrightref04_digits (by omega) (by omega) (by omega) (by omega)) rfl ?_)
    rintro _ _ _ ⟨pa1,ca1,rfl,rfl,rfl⟩
    simp only [List.cons_append,List.nil_append]
    refine j_run it 2 rfl (by simp) ?_
    refine j_step rfl (x_call [0,1] rfl (c_codewrightref04_divides (by omega)) rfl ?_)
    rintro _ _ _ ⟨rfl,rfl,rfl⟩
    simp only [List.cons_append,List.nil_append]
    refine j_nf [_,_,_,_,_,_,_,_,_,_] rfl ?_
    refine j_true rfl rfl ?_
    refine j_nf [_,_,_,_,_,_,_,_,_,_,_] rfl (j_run it 1 rfl (by simp) ?_)
    refine j_nf [_,_,_,_,_,_,_,_,_,_] rfl ?_
    refine j_giv [] rfl rfl rfl ⟨rfl,rfl,rfl⟩
   ·have hr : (false = true ↔ cg p (evL (Xg (toI (dig p (d + 1) v))) (toI md++[1]) oneV)):=⟨fun h=>(by cases h),fun h=>absurd h hdv⟩
    refine j_nf [_,_,_,_,_,_,_,_,_,_] rfl (j_run it 3 rfl (by simp) ?_)
    refine j_nf [_,_,_,_,_,_,_,_,_] rfl (j_if rfl rfl (fun h2=>?_) (fun h2=>by exfalso;omega))
    refine j_nf [_,_,_,_,_,_,_,_,_,_,_] rfl (j_run it 3 rfl (by simp) ?_)
    refine j_step rfl (x_call [] rfl (S_codewrightref04_digits (by omega) (by omega) (by omega) (by omega)) rfl ?_)
    rintro _ _ _ ⟨pa1,ca1,rfl,rfl,rfl⟩
    simp only [List.cons_append,List.nil_append]
    refine j_run it 2 rfl (by simp) ?_
    refine j_step rfl (x_call [0,1] rfl (c_codewrightref04_divides (by omega)) rfl ?_)
    rintro _ _ _ ⟨rfl,rfl,rfl⟩
    simp only [List.cons_append,List.nil_append]
    refine j_nf [_,_,_,_,_,_,_,_,_,_] rfl ?_
    refine j_false rfl rfl ?_
    refine j_nf [_,_,_,_,_,_,_,_] rfl (j_run it 3 rfl ⟨trivial,⟨by omega,by omega⟩,trivial,trivial⟩ ?_)
    refine j_nfn 1 [.lp (pL 14924),.blk 2,.blk 1,.c (pL 467),.lp (pL 116),.blk 0,.c [1,1,1]] rfl ?_
    refine j_to [1] (by exact fra rfl) rfl rfl (ihv (v + 1) (by omega) ⟨by omega,fun u hu=>by
     rcases Nat.lt_succ_iff_lt_or_eq.1 hu with h | rfl
     ·exact hvall u h
     ·exact hdv⟩)
  ·obtain rfl : v = P:=by omega
   refine j_nf [_,_,_,_,_,_,_,_,_,_] rfl (j_run it 3 rfl (by simp) ?_)
   refine j_nf [_,_,_,_,_,_,_,_,_] rfl (j_if rfl rfl (fun h2=>by exfalso;omega) (fun h2=>?_))
   refine j_nf [_,_,_,_] rfl (j_run it 3 rfl ⟨trivial,⟨by omega,by omega⟩,trivial,trivial⟩ ?_)
   refine j_nfn 1 [.lp (pL 116),.blk 0,.c [1,1,1]] rfl ?_
   refine j_to [0] (by exact fra rfl) rfl rfl (ih' ⟨by omega,fun e h1 h2 u hu=>by
    rcases Nat.lt_succ_iff_lt_or_eq.1 (Nat.lt_succ_of_le h2) with h | rfl
    ·exact hall e h1 (by omega) u hu
    ·exact hvall u (by rw [← hP];exact hu)⟩)
 ·have ht : res = true:=hres.2 fun e h1 h2 v hv=>hall e h1 (by omega) v hv
  rw [ht]
  refine j_nf [_,_,_,_,_,_] rfl (j_run it 3 rfl ⟨trivial,⟨by omega,by omega⟩,trivial,trivial⟩ ?_)
  refine j_step rfl (x_len sl29 rfl ?_)
  refine j_run it 1 rfl (by simp) ?_
  refine j_nf [_,_,_,_,_] rfl (j_if rfl rfl (fun h1=>by exfalso;omega) (fun h1=>?_))
  refine j_nf [_,_] rfl (j_run it 1 rfl (by simp) ?_)
  refine j_nf [_] rfl ?_
  refine j_giv [] rfl rfl rfl ⟨rfl,rfl,rfl⟩
def chkF (P M : Int) (md : List Int) : Prop:=ordP P M ∧ Prm P.toNat ∧ (M = 1 → md.length = 0) ∧ (M ≠ 1 → (md.length : Int) = M ∧ (∀ x ∈ md,0 ≤ x ∧ x < P) ∧ irrP P.toNat (md.map Int.toNat))
theorem toI_toNat {l : List Int} (h : ∀ x ∈ l,0 ≤ x) : toI (l.map Int.toNat) = l:=by
 rw [toI,List.map_map]
 conv=>rhs;rw [← List.map_id l]
 refine List.map_congr_left fun x hx=>?_
 have:=h x hx
 show ((x.toNat : Nat) : Int) = x
 omega
open Classical in
theorem S_codewrightref04_Check {P M : Int} {pm : Option Addr} {nm cm : Nat} {md : List Int} {e : Int} (he : e = if chkF P M md then 0 else 1) : Ctr Try.prog 29 [.agg #[.int .i64 P,.int .i64 M,.slice pm nm cm]] [] [slF I64 pm nm cm md] (Rv (.int .i64 e) []):=by
 refine Ctr_of_j' (F:=F_codewrightref04_Check) rfl fun C=>?_
 refine j_len 0 rfl fun hn1 hb1 _=>?_
 subst hn1
 have no : ¬ chkF P M md → e = 1:=fun h=>by rw [he,if_neg h]
 by_cases ho : ordP P M
 case neg =>
  have hI : ordI P M = 0:=by rw [ordI,if_neg ho]
  rw [no fun h=>ho h.1]
  refine j_nf [_,_] rfl ?_
  refine j_step rfl (x_box_agg rfl fun b1=>?_)
  refine j_run it 1 rfl (by simp) ?_
  refine j_nf [_,_,_] rfl ?_
  refine j_step rfl (x_bld_all 0 rfl rfl ld33 rfl ?_)
  refine j_step rfl (x_call [] rfl (S_codewrightref04_Order (by omega)) rfl ?_)
  rintro _ _ _ ⟨rfl,rfl,rfl⟩
  simp only [List.cons_append,List.nil_append]
  refine j_run it 7 rfl (by simp) ?_
  refine j_nf [_,_] rfl ?_
  refine j_true rfl rfl ?_
  refine j_nf [_,_,_] rfl ?_
  refine j_run it 1 rfl (by simp) ?_
  refine j_nf [_,_] rfl ?_
  refine j_giv [] rfl rfl rfl ⟨rfl,rfl,rfl⟩
 obtain ⟨h1,h2,h3,h4⟩:=ho
 obtain ⟨p,rfl⟩ : ∃ p : Nat,P = p:=⟨P.toNat,by omega⟩
 obtain ⟨m,rfl⟩ : ∃ m : Nat,M = m:=⟨M.toNat,by omega⟩
 simp only [Int.toNat_natCast] at h4
 have hI : ordI (p : Int) (m : Int) = ((p ^ m : Nat) : Int):=by rw [ordI,if_pos ⟨h1,h2,h3,by simpa using h4⟩];simp
 have hpm : p ≤ p ^ m:=Nat.le_self_pow (by omega) p
 have hq0 : ¬ ((p ^ m : Nat) : Int) = 0:=by omega
 by_cases hp : Prm p
 case neg =>
  have hr : (false = true ↔ Prm p):=⟨fun h=>(by cases h),fun h=>absurd h hp⟩
  rw [no fun h=>hp (by simpa using h.2.1)]
  generalize p ^ m = Q at *
  refine j_nf [_,_] rfl ?_
  refine j_step rfl (x_box_agg rfl fun b1=>?_)
  refine j_run it 1 rfl (by simp) ?_
  refine j_nf [_,_,_] rfl ?_
  refine j_step rfl (x_bld_all 0 rfl rfl ld33 rfl ?_)
  refine j_step rfl (x_call [] rfl (S_codewrightref04_Order (by omega)) rfl ?_)
  rintro _ _ _ ⟨rfl,rfl,rfl⟩
  simp only [List.cons_append,List.nil_append]
  refine j_run it 2 rfl (by simp) ?_
  refine j_split_dec (t:=7) rfl (fun h5=>by exfalso;omega) (fun h5=>?_)
  refine j_gstep rfl rfl (x_field rfl fd33_0 ?_)
  refine j_gstep rfl rfl (x_bld 0 rfl rfl ld3 rfl ?_)
  refine j_gstep rfl rfl (x_call [] rfl (S_codewrightref04_prime (by omega) (by omega) (by omega)) rfl ?_)
  rintro _ _ _ ⟨rfl,rfl,rfl⟩
  simp only [List.cons_append,List.nil_append]
  refine j_run it 2 rfl (by simp) ?_
  refine j_nf [_,_] rfl ?_
  refine j_true rfl rfl ?_
  refine j_nf [_,_,_] rfl ?_
  refine j_run it 1 rfl (by simp) ?_
  refine j_nf [_,_] rfl ?_
  refine j_giv [] rfl rfl rfl ⟨rfl,rfl,rfl⟩
 have hr : (true = true ↔ Prm p):=⟨fun _=>hp,fun _=>rfl⟩
 by_cases hm1 : m = 1
 ·subst hm1
  by_cases hl : md.length = 0
  ·have : e = 0:=by rw [he,if_pos ⟨⟨h1,h2,h3,by simpa using h4⟩,by simpa using hp,fun _=>hl,fun h=>absurd rfl h⟩]
   rw [this]
   generalize p ^ 1 = Q at *
   refine j_nf [_,_] rfl ?_
   refine j_step rfl (x_box_agg rfl fun b1=>?_)
   refine j_run it 1 rfl (by simp) ?_
   refine j_nf [_,_,_] rfl ?_
   refine j_step rfl (x_bld_all 0 rfl rfl ld33 rfl ?_)
   refine j_step rfl (x_call [] rfl (S_codewrightref04_Order (by omega)) rfl ?_)
   rintro _ _ _ ⟨rfl,rfl,rfl⟩
   simp only [List.cons_append,List.nil_append]
   refine j_run it 2 rfl (by simp) ?_
   refine j_split_dec (t:=7) rfl (fun h5=>by exfalso;omega) (fun h5=>?_)
   refine j_gstep rfl rfl (x_field rfl fd33_0 ?_)
   refine j_gstep rfl rfl (x_bld 0 rfl rfl ld3 rfl ?_)
   refine j_gstep rfl rfl (x_call [] rfl (S_codewrightref04_prime (by omega) (by omega) (by omega)) rfl ?_)
   rintro _ _ _ ⟨rfl,rfl,rfl⟩
   simp only [List.cons_append,List.nil_append]
   refine j_run it 2 rfl (by simp) ?_
   refine j_nf [_,_] rfl ?_
   refine j_false rfl rfl ?_
   refine j_nf [_,_,_] rfl ?_
   refine j_step rfl (x_field rfl fd33_1 ?_)
   refine j_step rfl (x_bld 0 rfl rfl ld3 rfl ?_)
   refine j_run it 1 rfl (by simp) ?_
   refine j_nf [_,_] rfl ?_
   refine j_if rfl rfl (fun h6=>?_) (fun h6=>by exfalso;omega)
   refine j_nf [_,_,_,_] rfl ?_
   refine j_step rfl (x_field rfl fd33_2 ?_)
   refine j_step rfl (x_bld 0 rfl rfl ld29 rfl ?_)
   refine j_step rfl (x_len sl29 rfl ?_)
   refine j_run it 1 rfl (by simp) ?_
   refine j_nf [_,_,_] rfl ?_
   refine j_ifn rfl rfl (fun h7=>by exfalso;omega) (fun h7=>?_)
   refine j_nf [_,_,_] rfl ?_
   refine j_run it 1 rfl (by simp) ?_
   refine j_nf [_,_] rfl ?_
   refine j_giv [] rfl rfl rfl ⟨rfl,rfl,rfl⟩
  ·rw [no fun h=>hl (h.2.2.1 rfl)]
   generalize p ^ 1 = Q at *
   refine j_nf [_,_] rfl ?_
   refine j_step rfl (x_box_agg rfl fun b1=>?_)
   refine j_run it 1 rfl (by simp) ?_
   refine j_nf [_,_,_] rfl ?_
   refine j_step rfl (x_bld_all 0 rfl rfl ld33 rfl ?_)
   refine j_step rfl (x_call [] rfl (S_codewrightref04_Order (by omega)) rfl ?_)
   rintro _ _ _ ⟨rfl,rfl,rfl⟩
   simp only [List.cons_append,List.nil_append]
   refine j_run it 2 rfl (by simp) ?_
   refine j_split_dec (t:=7) rfl (fun h5=>by exfalso;omega) (fun h5=>?_)
   refine j_gstep rfl rfl (x_field rfl fd33_0 ?_)
   refine j_gstep rfl rfl (x_bld 0 rfl rfl ld3 rfl ?_)
   refine j_gstep rfl rfl (x_call [] rfl (S_codewrightref04_prime (by omega) (by omega) (by omega)) rfl ?_)
   rintro _ _ _ ⟨rfl,rfl,rfl⟩
   simp only [List.cons_append,List.nil_append]
   refine j_run it 2 rfl (by simp) ?_
   refine j_nf [_,_] rfl ?_
   refine j_false rfl rfl ?_
   refine j_nf [_,_,_] rfl ?_
   refine j_step rfl (x_field rfl fd33_1 ?_)
   refine j_step rfl (x_bld 0 rfl rfl ld3 rfl ?_)
   refine j_run it 1 rfl (by simp) ?_
   refine j_nf [_,_] rfl ?_
   refine j_if rfl rfl (fun h6=>?_) (fun h6=>by exfalso;omega)
   refine j_nf [_,_,_,_] rfl ?_
   refine j_step rfl (x_field rfl fd33_2 ?_)
   refine j_step rfl (x_bld 0 rfl rfl ld29 rfl ?_)
   refine j_step rfl (x_len sl29 rfl ?_)
   refine j_run it 1 rfl (by simp) ?_
   refine j_nf [_,_,_] rfl ?_
   refine j_ifn rfl rfl (fun h7=>?_) (fun h7=>by exfalso;omega)
   refine j_nf [_,_,_,_] rfl ?_
   refine j_run it 1 rfl (by simp) ?_
   refine j_nf [_,_,_] rfl ?_
   refine j_giv [] rfl rfl rfl ⟨rfl,rfl,rfl⟩
 have hm1' : ¬ (m : Int) = 1:=by omega
 by_cases hl : md.length = m
 case neg =>
  rw [no fun h=>hl (by have:=(h.2.2.2 hm1').1;omega)]
  generalize p ^ m = Q at *
  refine j_nf [_,_] rfl ?_
  refine j_step rfl (x_box_agg rfl fun b1=>?_)
  refine j_run it 1 rfl (by simp) ?_
  refine j_nf [_,_,_] rfl ?_
  refine j_step rfl (x_bld_all 0 rfl rfl ld33 rfl ?_)
  refine j_step rfl (x_call [] rfl (S_codewrightref04_Order (by omega)) rfl ?_)
  rintro _ _ _ ⟨rfl,rfl,rfl⟩
  simp only [List.cons_append,List.nil_append]
  refine j_run it 2 rfl (by simp) ?_
  refine j_split_dec (t:=7) rfl (fun h5=>by exfalso;omega) (fun h5=>?_)
  refine j_gstep rfl rfl (x_field rfl fd33_0 ?_)
  refine j_gstep rfl rfl (x_bld 0 rfl rfl ld3 rfl ?_)
  refine j_gstep rfl rfl (x_call [] rfl (S_codewrightref04_prime (by omega) (by omega) (by omega)) rfl ?_)
  rintro _ _ _ ⟨rfl,rfl,rfl⟩
  simp only [List.cons_append,List.nil_append]
  refine j_run it 2 rfl (by simp) ?_
  refine j_nf [_,_] rfl ?_
  refine j_false rfl rfl ?_
  refine j_nf [_,_,_] rfl ?_
  refine j_step rfl (x_field rfl fd33_1 ?_)
  refine j_step rfl (x_bld 0 rfl rfl ld3 rfl ?_)
  refine j_run it 1 rfl (by simp) ?_
  refine j_nf [_,_] rfl ?_
  refine j_if rfl rfl (fun h6=>by exfalso;omega) (fun h6=>?_)
  refine j_nf [_,_,_] rfl ?_
  refine j_step rfl (x_field rfl fd33_2 ?_)
  refine j_step rfl (x_bld 0 rfl rfl ld29 rfl ?_)
  refine j_step rfl (x_len sl29 rfl ?_)
  refine j_step rfl (x_field rfl fd33_1 ?_)
  refine j_step rfl (x_bld 0 rfl rfl ld3 rfl ?_)
  refine j_run it 1 rfl (by simp) ?_
  refine j_nf [_,_] rfl ?_
  refine j_ifn rfl rfl (fun h7=>?_) (fun h7=>by exfalso;omega)
  refine j_nf [_,_,_] rfl ?_
  refine j_run it 1 rfl (by simp) ?_
  refine j_nf [_,_] rfl ?_
  refine j_giv [] rfl rfl rfl ⟨rfl,rfl,rfl⟩
 subst hl
 have hm8 : md.length ≤ 8:=by omega
 generalize hQ : p ^ md.length = Q at *
 refine j_nf [_,_] rfl ?_
 refine j_step rfl (x_box_agg rfl fun b1=>?_)
 refine j_run it 1 rfl (by simp) ?_
 refine j_nf [_,_,_] rfl ?_
 refine j_step rfl (x_bld_all 0 rfl rfl ld33 rfl ?_)
 refine j_step rfl (x_call [] rfl (S_codewrightref04_Order (by omega)) rfl ?_)
 rintro _ _ _ ⟨rfl,rfl,rfl⟩
 simp only [List.cons_append,List.nil_append]
 refine j_run it 2 rfl (by simp) ?_
 refine j_split_dec (t:=7) rfl (fun h5=>by exfalso;omega) (fun h5=>?_)
 refine j_gstep rfl rfl (x_field rfl fd33_0 ?_)
 refine j_gstep rfl rfl (x_bld 0 rfl rfl ld3 rfl ?_)
 refine j_gstep rfl rfl (x_call [] rfl (S_codewrightref04_prime (by omega) (by omega) (by omega)) rfl ?_)
 rintro _ _ _ ⟨rfl,rfl,rfl⟩
 simp only [List.cons_append,List.nil_append]
 refine j_run it 2 rfl (by simp) ?_
 refine j_nf [_,_] rfl ?_
 refine j_false rfl rfl ?_
 refine j_nf [_,_,_] rfl ?_
 refine j_step rfl (x_field rfl fd33_1 ?_)
 refine j_step rfl (x_bld 0 rfl rfl ld3 rfl ?_)
 refine j_run it 1 rfl (by simp) ?_
 refine j_nf [_,_] rfl ?_
 refine j_if rfl rfl (fun h6=>by exfalso;omega) (fun h6=>?_)
 refine j_nf [_,_,_] rfl ?_
 refine j_step rfl (x_field rfl fd33_2 ?_)
 refine j_step rfl (x_bld 0 rfl rfl ld29 rfl ?_)
 refine j_step rfl (x_len sl29 rfl ?_)
 refine j_step rfl (x_field rfl fd33_1 ?_)
 refine j_step rfl (x_bld 0 rfl rfl ld3 rfl ?_)
 refine j_run it 1 rfl (by simp) ?_
 refine j_nf [_,_] rfl ?_
 refine j_ifn rfl rfl (fun h7=>by exfalso;omega) (fun h7=>?_)
 refine j_nf [_,_,_] rfl ?_
 refine j_run it 1 rfl (by simp) ?_
 refine j_nf [_,_,_] rfl ?_
 refine j_loopG (X:=Nat) [1] [0] (fun i=>[(3,.int .i64 (i : Int))]) (fun _=>[(some b1,33,[.int .i64 (p : Int),.int .i64 (md.length : Int),.slice pm md.length cm])]) (fun _=>[]) (fun i=>i ≤ md.length ∧ ∀ k,k < i → 0 ≤ md.getD k 0 ∧ md.getD k 0 < p) (fun i=>md.length - i) 0 [] rfl rfl rfl ⟨Nat.zero_le _,fun k hk=>by omega⟩ (by repeat (first | exact Fr.sub_nil _ | refine Fr.sub_cons rfl ?_)) rfl rfl ?_
 rintro i ⟨hi,hall⟩ ih
 simp only [List.cons_append,List.nil_append] at hi hall ih ⊢
 by_cases hil : i < md.length
 ·have hz : md[i]? = some (md.getD i 0):=by rw [List.getD_eq_getElem?_getD,List.getElem?_eq_getElem hil];rfl
  have hdd : md.getD i 0 = md.getD i default:=rfl
  rw [hdd] at hz
  by_cases ha : md.getD i default < 0
  ·rw [no fun h=>by have:=(h.2.2.2 hm1').2.1 _ (List.mem_of_getElem? hz);omega]
   refine j_nf [_,_,_,_,_,_] rfl ?_
   refine j_run it 1 rfl (by simp) ?_
   refine j_step rfl (x_field rfl fd33_1 ?_)
   refine j_step rfl (x_bld 0 rfl rfl ld3 rfl ?_)
   refine j_run it 1 rfl (by simp) ?_
   refine j_nf [_,_,_,_,_] rfl ?_
   refine j_if rfl rfl (fun h8=>?_) (fun h8=>by exfalso;omega)
   refine j_nf [_,_,_,_,_,_,_] rfl ?_
   (apply j_drawK it mx 16;(· rfl);(· rfl))
   (apply lxk_eq;(· rfl);(· exact d_x fun _=>x_field rfl fd33_2 dk_eq))
   (apply lxk_eq;(· rfl);(· exact d_bld 0 rfl rfl ld29 rfl))
   (apply lxk_run 1;(· rfl);(· simp))
   (apply lxk_pt;(· rfl);(· exact d_x fun _=>x_idx 0 (i) rfl rfl rfl sl29 rfl (by omega) fun z1 hz1 b2 o1=>(dk_ptD default hz1 0 rfl));intro b2 o1)
   (apply lxk_eq;(· rfl);(· exact d_x fun _=>x_ld_int 0 rfl rfl ld3 fun ⟨r1,r2⟩=>dk_eq))
   (apply lxk_eq;(· rfl);(· exact d_x fun _=>x_true it rfl (by trivial) (by omega) dk_eq))
   (apply lxk_run 8;(· rfl);(· simp))
   (apply lxk_run 2;(· rfl);(· simp))
   refine lxk_end rfl ?_
   simp only [List.map_cons,List.map_nil,List.cons_append,List.nil_append]
   refine j_nf [_,_,_,_,_,_] rfl ?_
   refine j_true rfl rfl ?_
   refine j_nf [_,_,_,_,_,_,_] rfl ?_
   refine j_run it 1 rfl (by simp) ?_
   refine j_nf [_,_,_,_,_,_] rfl ?_
   refine j_giv [] rfl rfl rfl ⟨rfl,rfl,rfl⟩
  by_cases hb : (p : Int) ≤ md.getD i default
  ·rw [no fun h=>by have:=(h.2.2.2 hm1').2.1 _ (List.mem_of_getElem? hz);omega]
   refine j_nf [_,_,_,_,_,_] rfl ?_
   refine j_run it 1 rfl (by simp) ?_
   refine j_step rfl (x_field rfl fd33_1 ?_)
   refine j_step rfl (x_bld 0 rfl rfl ld3 rfl ?_)
   refine j_run it 1 rfl (by simp) ?_
   refine j_nf [_,_,_,_,_] rfl ?_
   refine j_if rfl rfl (fun h8=>?_) (fun h8=>by exfalso;omega)
   refine j_nf [_,_,_,_,_,_,_] rfl ?_
   (apply j_drawK it mx 16;(· rfl);(· rfl))
   (apply lxk_eq;(· rfl);(· exact d_x fun _=>x_field rfl fd33_2 dk_eq))
   (apply lxk_eq;(· rfl);(· exact d_bld 0 rfl rfl ld29 rfl))
   (apply lxk_run 1;(· rfl);(· simp))
   (apply lxk_pt;(· rfl);(· exact d_x fun _=>x_idx 0 (i) rfl rfl rfl sl29 rfl (by omega) fun z1 hz1 b2 o1=>(dk_ptD default hz1 0 rfl));intro b2 o1)
   (apply lxk_eq;(· rfl);(· exact d_x fun _=>x_ld_int 0 rfl rfl ld3 fun ⟨r1,r2⟩=>dk_eq))
   (apply lxk_eq;(· rfl);(· exact d_x fun _=>x_false it rfl (by trivial) (by omega) dk_eq))
   (apply lxk_run 1;(· rfl);(· simp))
   (apply lxk_eq;(· rfl);(· exact d_x fun _=>x_field rfl fd33_2 dk_eq))
   (apply lxk_eq;(· rfl);(· exact d_bld 0 rfl rfl ld29 rfl))
   (apply lxk_run 1;(· rfl);(· simp))
   (apply lxk_pt;(· rfl);(· exact d_x fun _=>x_idx 1 (i) rfl rfl rfl sl29 rfl (by omega) fun z1 hz1 b3 o2=>(dk_ptD default hz1 0 rfl));intro b3 o2)
   (apply lxk_eq;(· rfl);(· exact d_x fun _=>x_ld_int 0 rfl rfl ld3 fun ⟨r1,r2⟩=>dk_eq))
   (apply lxk_eq;(· rfl);(· exact d_x fun _=>x_field rfl fd33_0 dk_eq))
   (apply lxk_eq;(· rfl);(· exact d_bld 0 rfl rfl ld3 rfl))
   (apply lxk_eq;(· rfl);(· exact d_x fun _=>x_true it rfl (by trivial) (by omega) dk_eq))
   (apply lxk_run 1;(· rfl);(· simp))
   refine lxk_end rfl ?_
   simp only [List.map_cons,List.map_nil,List.cons_append,List.nil_append]
   refine j_nf [_,_,_,_,_,_] rfl ?_
   refine j_true rfl rfl ?_
   refine j_nf [_,_,_,_,_,_,_] rfl ?_
   refine j_run it 1 rfl (by simp) ?_
   refine j_nf [_,_,_,_,_,_] rfl ?_
   refine j_giv [] rfl rfl rfl ⟨rfl,rfl,rfl⟩
  ·refine j_nf [_,_,_,_,_,_] rfl ?_
   refine j_run it 1 rfl (by simp) ?_
   refine j_step rfl (x_field rfl fd33_1 ?_)
   refine j_step rfl (x_bld 0 rfl rfl ld3 rfl ?_)
   refine j_run it 1 rfl (by simp) ?_
   refine j_nf [_,_,_,_,_] rfl ?_
   refine j_if rfl rfl (fun h8=>?_) (fun h8=>by exfalso;omega)
   refine j_nf [_,_,_,_,_,_,_] rfl ?_
   (apply j_drawK it mx 16;(· rfl);(· rfl))
   (apply lxk_eq;(· rfl);(· exact d_x fun _=>x_field rfl fd33_2 dk_eq))
   (apply lxk_eq;(· rfl);(· exact d_bld 0 rfl rfl ld29 rfl))
   (apply lxk_run 1;(· rfl);(· simp))
   (apply lxk_pt;(· rfl);(· exact d_x fun _=>x_idx 0 (i) rfl rfl rfl sl29 rfl (by omega) fun z1 hz1 b2 o1=>(dk_ptD default hz1 0 rfl));intro b2 o1)
   (apply lxk_eq;(· rfl);(· exact d_x fun _=>x_ld_int 0 rfl rfl ld3 fun ⟨r1,r2⟩=>dk_eq))
   (apply lxk_eq;(· rfl);(· exact d_x fun _=>x_false it rfl (by trivial) (by omega) dk_eq))
   (apply lxk_run 1;(· rfl);(· simp))
   (apply lxk_eq;(· rfl);(· exact d_x fun _=>x_field rfl fd33_2 dk_eq))
   (apply lxk_eq;(· rfl);(· exact d_bld 0 rfl rfl ld29 rfl))
   (apply lxk_run 1;(· rfl);(· simp))
   (apply lxk_pt;(· rfl);(· exact d_x fun _=>x_idx 1 (i) rfl rfl rfl sl29 rfl (by omega) fun z1 hz1 b3 o2=>(dk_ptD default hz1 0 rfl));intro b3 o2)
   (apply lxk_eq;(· rfl);(· exact d_x fun _=>x_ld_int 0 rfl rfl ld3 fun ⟨r1,r2⟩=>dk_eq))
   (apply lxk_eq;(· rfl);(· exact d_x fun _=>x_field rfl fd33_0 dk_eq))
   (apply lxk_eq;(· rfl);(· exact d_bld 0 rfl rfl ld3 rfl))
   (apply lxk_eq;(· rfl);(· exact d_x fun _=>x_false it rfl (by trivial) (by omega) dk_eq))
   (apply lxk_run 1;(· rfl);(· simp))
   refine lxk_end rfl ?_
   simp only [List.map_cons,List.map_nil,List.cons_append,List.nil_append]
   refine j_nf [_,_,_,_,_,_] rfl ?_
   refine j_false rfl rfl ?_
   refine j_nf [_,_,_,_] rfl ?_
   refine j_run it 3 rfl ⟨trivial,⟨by omega,by omega⟩,trivial,trivial⟩ ?_
   refine j_nfn 1 [.lp (pL 500),.blk 0,.c [1,1,1,1,1]] rfl ?_
   refine j_to [2] (by exact fra rfl) rfl rfl (ih (i + 1) (by omega) ⟨by omega,fun k hk=>by
    rcases Nat.lt_succ_iff_lt_or_eq.1 hk with h | rfl
    ·exact hall k h
    ·rw [hdd];omega⟩)
 ·obtain rfl : i = md.length:=by omega
  have hrng : ∀ x ∈ md,0 ≤ x ∧ x < (p : Int):=fun x hx=>by
   obtain ⟨k,hk⟩:=List.getElem?_of_mem hx
   have hkl:=(List.getElem?_eq_some_iff.1 hk).1
   have:=hall k hkl
   rw [List.getD_eq_getElem?_getD,hk] at this
   exact this
  have eI:=toI_toNat fun x hx=>(hrng x hx).1
  have lN : (md.map Int.toNat).length = md.length:=List.length_map _
  have rN : ∀ x ∈ md.map Int.toNat,x < p:=fun x hx=>by
   obtain ⟨y,hy,rfl⟩:=List.mem_map.1 hx
   have:=hrng y hy
   omega
  have c_codewrightref04_irreducible:=fun {pm : Option Addr} {nm cm : Nat} {res : Bool} hres=>S_codewrightref04_irreducible (pm:=pm) (nm:=nm) (cm:=cm) (p:=p) (md:=md.map Int.toNat) hp.1 (by omega) (by rw [lN,hQ];exact h4) (by omega) rN (res:=res) hres
  rw [eI] at c_codewrightref04_irreducible
  by_cases hirr : irrP p (md.map Int.toNat)
  ·have hri : (true = true ↔ irrP p (md.map Int.toNat)):=⟨fun _=>hirr,fun _=>rfl⟩
   have : e = 0:=by rw [he,if_pos ⟨⟨h1,h2,h3,by simpa [hQ] using h4⟩,by simpa using hp,fun h=>absurd h hm1',fun _=>⟨rfl,hrng,by simpa using hirr⟩⟩]
   rw [this]
   refine j_nf [_,_,_,_,_,_] rfl ?_
   refine j_run it 1 rfl (by simp) ?_
   refine j_step rfl (x_field rfl fd33_1 ?_)
   refine j_step rfl (x_bld 0 rfl rfl ld3 rfl ?_)
   refine j_run it 1 rfl (by simp) ?_
   refine j_nf [_,_,_,_,_] rfl ?_
   refine j_if rfl rfl (fun h8=>by exfalso;omega) (fun h8=>?_)
   refine j_nf [_,_,_] rfl ?_
   refine j_step rfl (x_field rfl fd33_2 ?_)
   refine j_step rfl (x_bld 0 rfl rfl ld29 rfl ?_)
   refine j_step rfl (x_field rfl fd33_0 ?_)
   refine j_step rfl (x_bld 0 rfl rfl ld3 rfl ?_)
   refine j_step rfl (x_call [0] rfl (c_codewrightref04_irreducible (by omega)) rfl ?_)
   rintro _ _ _ ⟨rfl,rfl,rfl⟩
   simp only [List.cons_append,List.nil_append]
   refine j_run it 1 rfl (by simp) ?_
   refine j_nf [_,_] rfl ?_
   refine j_false rfl rfl ?_
   refine j_nf [_,_] rfl ?_
   refine j_run it 1 rfl (by simp) ?_
   refine j_nf [_] rfl ?_
   refine j_giv [] rfl rfl rfl ⟨rfl,rfl,rfl⟩
  ·have hri : (false = true ↔ irrP p (md.map Int.toNat)):=⟨fun h=>(by cases h),fun h=>absurd h hirr⟩
   rw [no fun h=>hirr (by have:=(h.2.2.2 hm1').2.2;simpa using this)]
   refine j_nf [_,_,_,_,_,_] rfl ?_
   refine j_run it 1 rfl (by simp) ?_
   refine j_step rfl (x_field rfl fd33_1 ?_)
   refine j_step rfl (x_bld 0 rfl rfl ld3 rfl ?_)
   refine j_run it 1 rfl (by simp) ?_
   refine j_nf [_,_,_,_,_] rfl ?_
   refine j_if rfl rfl (fun h8=>by exfalso;omega) (fun h8=>?_)
   refine j_nf [_,_,_] rfl ?_
   refine j_step rfl (x_field rfl fd33_2 ?_)
   refine j_step rfl (x_bld 0 rfl rfl ld29 rfl ?_)
   refine j_step rfl (x_field rfl fd33_0 ?_)
   refine j_step rfl (x_bld 0 rfl rfl ld3 rfl ?_)
   refine j_step rfl (x_call [0] rfl (c_codewrightref04_irreducible (by omega)) rfl ?_)
   rintro _ _ _ ⟨rfl,rfl,rfl⟩
   simp only [List.cons_append,List.nil_append]
   refine j_run it 1 rfl (by simp) ?_
   refine j_nf [_,_] rfl ?_
   refine j_true rfl rfl ?_
   refine j_nf [_,_,_] rfl ?_
   refine j_run it 1 rfl (by simp) ?_
   refine j_nf [_,_] rfl ?_
   refine j_giv [] rfl rfl rfl ⟨rfl,rfl,rfl⟩
structure Fok (p m : Nat) (md : List Int) : Prop where
 pr : Prm p
 m1 : 1 ≤ m
 m8 : m ≤ 8
 q : p ^ m ≤ 256
 one : m = 1 → md = []
 len : m ≠ 1 → md.length = m
 rng : ∀ x ∈ md,0 ≤ x ∧ x < (p : Int)
 irr : m ≠ 1 → irrP p (md.map Int.toNat)
theorem chk_ok {P M : Int} {md : List Int} (h : chkF P M md) : ∃ p m : Nat,P = p ∧ M = m ∧ Fok p m md:=by
 obtain ⟨⟨h1,h2,h3,h4⟩,hp,ho,hn⟩:=h
 refine ⟨P.toNat,M.toNat,by omega,by omega,hp,by omega,by omega,h4,fun e=>List.length_eq_zero_iff.1 (ho (by omega)),fun e=>?_,fun x hx=>?_,fun e=>(hn (by omega)).2.2⟩
 ·have:=(hn (by omega)).1;omega
 ·by_cases e : M = 1
  ·have:=List.length_eq_zero_iff.1 (ho e)
   rw [this] at hx;cases hx
  ·have:=(hn e).2.1 x hx
   omega
def fpo (m : Nat) (md : List Int) : List Int:=if m = 1 then [0] else md
section
variable {p m : Nat} {md : List Int} (K : Fok p m md)
include K
theorem Fok.p2 : 2 ≤ p:=K.pr.1
theorem Fok.p256 : p ≤ 256:=Nat.le_trans (Nat.le_self_pow (by have:=K.m1;omega) p) K.q
theorem Fok.flen : (fpo m md).length = m:=by
 unfold fpo
 by_cases h : m = 1
 ·rw [if_pos h,h];rfl
 ·rw [if_neg h,K.len h]
theorem Fok.fi : FI (p ^ m) (liftI (fA p m)) (liftI (fM p (fpo m md))):=by
 have hl:=K.flen
 have h:=fld_of K.pr (f:=fpo m md) (by rw [hl];exact K.m1) (by
  unfold fpo
  by_cases h : m = 1
  ·rw [if_pos h]
   rintro ⟨g,s,h1,h2,h3,_⟩
   simp at h3;omega
  ·rw [if_neg h,← toI_toNat fun x hx=>(K.rng x hx).1]
   exact irr_splits (by have:=K.p2;omega) (K.irr h))
 rw [hl] at h
 exact fi_of h
theorem Fok.ord : ordI p m = ((p ^ m : Nat) : Int):=by
 have:=K.p2;have:=K.m1;have:=K.m8
 rw [ordI,if_pos ⟨by omega,by omega,by omega,by simpa using K.q⟩];simp
end
theorem S_codewrightref04_Is {P M x : Int} {pm : Option Addr} {n c : Nat} {res : Bool} (hres : decide (0 ≤ x ∧ x < ordI P M) = res) : Ctr Try.prog 79 [.agg #[.int .i64 P,.int .i64 M,.slice pm n c],.int .i64 x] [] [] (Rv (.bool res) []):=by
 subst hres
 refine Ctr_of_j' (F:=F_codewrightref04_Is) rfl fun C=>?_
 by_cases h : 0 ≤ x
 ·rw [show decide (0 ≤ x ∧ x < ordI P M) = decide (x < ordI P M) from decide_eq_decide.2 ⟨fun h=>h.2,fun h2=>⟨h,h2⟩⟩]
  refine j_nf [_,_] rfl (j_step rfl (x_box_agg rfl fun b1=>?_))
  refine j_run it 1 rfl (by simp) ?_
  refine j_nf [_,_] rfl (j_run it 3 rfl (by simp) ?_)
  refine j_split_dec (t:=7) rfl (fun h1=>?_) (fun h1=>by exfalso;omega)
  refine j_run it 1 rfl (by simp) ?_
  refine j_gstep rfl rfl (x_bld_all 0 rfl rfl ld33 rfl ?_)
  refine j_gstep rfl rfl (x_call [] rfl (S_codewrightref04_Order (by rfl)) rfl ?_)
  rintro _ _ _ ⟨rfl,rfl,rfl⟩
  simp only [List.cons_append,List.nil_append]
  refine j_run it 3 rfl (by simp) ?_
  refine j_nf [_] rfl ?_
  refine j_giv [] rfl rfl rfl ⟨rfl,rfl,rfl⟩
 ·rw [decide_eq_false fun h2=>h h2.1]
  refine j_nf [_,_] rfl (j_step rfl (x_box_agg rfl fun b1=>?_))
  refine j_run it 1 rfl (by simp) ?_
  refine j_nf [_,_] rfl (j_run it 3 rfl (by simp) ?_)
  refine j_split_dec (t:=7) rfl (fun h1=>by exfalso;omega) (fun h1=>?_)
  refine j_run it 6 rfl (by simp) ?_
  refine j_nf [_] rfl ?_
  refine j_giv [] rfl rfl rfl ⟨rfl,rfl,rfl⟩
def inI (q x : Int) : Int:=if 0 ≤ x ∧ x < q then x else 0
theorem S_codewrightref04_In {P M x : Int} {pm : Option Addr} {n c : Nat} {res : Int} (hres : inI (ordI P M) x = res) : Ctr Try.prog 58 [.agg #[.int .i64 P,.int .i64 M,.slice pm n c],.int .i64 x] [] [] (Rv (.int .i64 res) []):=by
 subst hres
 refine Ctr_of_j' (F:=F_codewrightref04_In) rfl fun C=>?_
 by_cases h : 0 ≤ x ∧ x < ordI P M
 ·have hd : decide (0 ≤ x ∧ x < ordI P M) = true:=decide_eq_true h
  rw [inI,if_pos h]
  refine j_nf [_,_] rfl (j_step rfl (x_box_agg rfl fun b1=>?_))
  refine j_run it 1 rfl (by simp) ?_
  refine j_nf [_,_,_] rfl (j_step rfl (x_bld_all 0 rfl rfl ld33 rfl ?_))
  refine j_run it 1 rfl (by simp) ?_
  refine j_step rfl (x_call [] rfl (S_codewrightref04_Is (by omega)) rfl ?_)
  rintro _ _ _ ⟨rfl,rfl,rfl⟩
  simp only [List.cons_append,List.nil_append]
  refine j_nf [_,_] rfl ?_
  refine j_true rfl rfl ?_
  refine j_nf [_,_,_] rfl (j_run it 2 rfl (by simp) ?_)
  refine j_nf [_,_] rfl ?_
  refine j_giv [] rfl rfl rfl ⟨rfl,rfl,rfl⟩
 ·have hd : decide (0 ≤ x ∧ x < ordI P M) = false:=decide_eq_false h
  rw [inI,if_neg h]
  refine j_nf [_,_] rfl (j_step rfl (x_box_agg rfl fun b1=>?_))
  refine j_run it 1 rfl (by simp) ?_
  refine j_nf [_,_,_] rfl (j_step rfl (x_bld_all 0 rfl rfl ld33 rfl ?_))
  refine j_run it 1 rfl (by simp) ?_
  refine j_step rfl (x_call [] rfl (S_codewrightref04_Is (by omega)) rfl ?_)
  rintro _ _ _ ⟨rfl,rfl,rfl⟩
  simp only [List.cons_append,List.nil_append]
  refine j_nf [_,_] rfl ?_
  refine j_false rfl rfl ?_
  refine j_nf [_,_] rfl (j_run it 1 rfl (by simp) ?_)
  refine j_nf [_] rfl ?_
  refine j_giv [] rfl rfl rfl ⟨rfl,rfl,rfl⟩
abbrev OvI (e : TypeId) (n : Nat) (l : List Nat) : Value → List Fact → List Blk → Prop:=fun v Φ β=>∃ b,v = .slice (some ⟨b,0,none⟩) n n ∧ Φ = [] ∧ β = [(some b,e,natCells .i64 l)]
theorem O_codewrightref04_digits {p n x : Nat} (hp : 1 ≤ p) (hp2 : p ≤ 1000000) (hn : n ≤ 100) (hx : x ≤ 1000000000) : Ctr Try.prog 76 [.int .i64 x,.int .i64 p,.int .i64 n] [] [] (OvI 3 n (dig p n x)):=by
 refine Ctr_of_j' (F:=F_codewrightref04_digits) rfl fun C=>?_
 have hl:=dig_len p n x
 refine j_nf [_,_] rfl (j_run it 1 rfl (by simp) ?_)
 refine j_nf [_,_] rfl (j_run it 1 rfl (by simp) ?_)
 refine j_step rfl (x_make_nat (n) _ rfl rfl sl29 zo29e by29e (by omega) (by omega) (by omega) fun b1=>?_)
 refine j_run it 1 rfl (by simp) ?_
 refine j_nf [_,_,_] rfl (j_run it 1 rfl (by simp) ?_)
 refine j_nf [_,_,_] rfl ?_
 rw [show List.replicate n 0 = (dig p n x).take 0++List.replicate (n - 0) 0 by simp]
 refine j_loopG (X:=Nat) [1,2,6,7] [] (fun i=>[(8,.int .i64 (i : Int)),(0,.int .i64 ((x / p ^ i : Nat) : Int))]) (fun i=>[(some b1,3,natCells .i64 ((dig p n x).take i++List.replicate (n - i) 0))]) (fun _=>[]) (fun i=>i ≤ n) (fun i=>n - i) 0 [] rfl rfl rfl (Nat.zero_le _) (by refine Fr.sub_cons rfl ?_;refine Fr.sub_consI rfl (by simp) ?_;repeat (first | exact Fr.sub_nil _ | refine Fr.sub_cons rfl ?_)) rfl rfl ?_
 rintro i hi ih
 simp only [List.cons_append,List.nil_append] at hi ih ⊢
 have hxi : x / p ^ i ≤ x:=Nat.div_le_self _ _
 have hz:=fun h=>dig_at (p:=p) (n:=n) (i:=i) (x:=x) h
 have hnx : x / p ^ (i + 1) = x / p ^ i / p:=by rw [Nat.pow_succ,← Nat.div_div_eq_div_mul]
 by_cases hil : i < n
 ·have ih':=ih (i + 1) (by omega) (by omega)
  rw [hnx,← fill_set hl hil (hz hil)] at ih'
  generalize x / p ^ i = y at *
  have e1 : (y : Int) % (p : Int) = ((y % p : Nat) : Int):=(Int.natCast_emod _ _).symm
  have e2 : (y : Int) / (p : Int) = ((y / p : Nat) : Int):=(Int.natCast_ediv _ _).symm
  have hlen : ((dig p n x).take i++List.replicate (n - i) 0).length = n:=by simp [hl];omega
  refine j_nf [_,_,_,_,_,_] rfl (j_run it 3 rfl (by simp) ?_)
  refine j_nf [_,_,_,_,_] rfl (j_if rfl rfl (fun h1=>?_) (fun h1=>by exfalso;omega))
  refine j_nf [_,_,_,_,_,_,_] rfl (j_run it 5 rfl ⟨⟨by omega,by omega⟩,trivial,trivial,trivial,trivial,trivial⟩ ?_)
  refine j_step rfl (x_idx_own (i) (i) rfl rfl sl29 rfl (by omega) (Nat.mul_one _) ?_)
  refine j_step rfl (x_bst_nat 0 ((y) % (p)) rfl rfl rfl ld3 (by first | rfl | omega) (by first | omega | (simp;omega)) ?_)
  refine j_nf [_,_,_,_,_,_] rfl (j_run it 4 rfl ⟨trivial,⟨by omega,by omega,by omega,by omega⟩,trivial,trivial,trivial⟩ ?_)
  refine j_nf [_,_,_,_] rfl (j_run it 3 rfl ⟨trivial,⟨by omega,by omega⟩,trivial,trivial⟩ ?_)
  refine j_nfn 1 [.lp (pL 116),.blk 0,.c [1,1,1]] rfl ?_
  rw [e2]
  refine j_to [] (by exact fra rfl) rfl rfl (ih')
 ·obtain rfl : i = n:=by omega
  clear hz hnx
  rw [List.take_of_length_le (by omega),Nat.sub_self,List.replicate_zero,List.append_nil]
  refine j_nf [_,_,_,_,_,_] rfl (j_run it 3 rfl (by simp) ?_)
  refine j_nf [_,_,_,_,_] rfl (j_if rfl rfl (fun h1=>by exfalso;omega) (fun h1=>?_))
  refine j_nf [_,_] rfl (j_run it 2 rfl (by simp) ?_)
  refine j_nf [_] rfl ?_
  refine j_gives [] rfl rfl rfl ⟨_,rfl,rfl,rfl⟩
theorem S_codewrightref04_Digits {p m nm cm : Nat} {md : List Int} {pm : Option Addr} (K : Fok p m md) {x : Int} (x0 : 0 ≤ x) (x1 : x < ((p ^ m : Nat) : Int)) : Ctr Try.prog 77 [.agg #[.int .i64 p,.int .i64 m,.slice pm nm cm],.int .i64 x] [] [] (OvI 3 m (dig p m x.toNat)):=by
 refine Ctr_of_j' (F:=F_codewrightref04_Digits) rfl fun C=>?_
 have h1:=K.p2
 have h2:=K.p256
 have h3:=K.m8
 have h4:=K.q
 have hi : inI (ordI (p : Int) (m : Int)) x = ((x.toNat : Nat) : Int):=by rw [K.ord,inI,if_pos ⟨x0,x1⟩];omega
 have hx : x.toNat ≤ 1000000000:=by omega
 have c_codewrightref04_digits:=@O_codewrightref04_digits
 refine j_nf [_,_] rfl ?_
 refine j_step rfl (x_box_agg rfl fun b1=>?_)
 refine j_run it 1 rfl (by simp) ?_
 refine j_nf [_,_] rfl ?_
 (apply j_drawK it mx 7;(· rfl);(· rfl))
 (apply lxk_eq;(· rfl);(· exact d_bld_all 0 rfl rfl ld33 rfl))
 (apply lxk_run 1;(· rfl);(· simp))
 (apply lxk_eq;(· rfl);(· exact d_x fun _=>x_call [] rfl (S_codewrightref04_In (by omega)) rfl (by rintro _ _ _ ⟨rfl,rfl,rfl⟩;exact dk_eq)))
 (apply lxk_eq;(· rfl);(· exact d_x fun _=>x_field rfl fd33_0 dk_eq))
 (apply lxk_eq;(· rfl);(· exact d_bld 0 rfl rfl ld3 rfl))
 (apply lxk_eq;(· rfl);(· exact d_x fun _=>x_field rfl fd33_1 dk_eq))
 (apply lxk_eq;(· rfl);(· exact d_bld 0 rfl rfl ld3 rfl))
 refine lxk_end rfl ?_
 simp only [List.map_cons,List.map_nil,List.cons_append,List.nil_append]
 refine j_step rfl (x_call [] rfl (c_codewrightref04_digits (by omega) (by omega) (by omega) (by omega)) rfl ?_)
 rintro _ _ _ ⟨b2,rfl,rfl,rfl⟩
 simp only [List.cons_append,List.nil_append]
 refine j_run it 1 rfl (by simp) ?_
 refine j_nf [_] rfl ?_
 refine j_givK 2 [0] [] rfl (.tmp rfl .nil) rfl rfl rfl ⟨_,rfl,rfl,rfl⟩
theorem mix_set {T D : List Nat} {i n : Nat} (hT : T.length = n) (hD : D.length = n) (hi : i < n) {z : Nat} (hz : T[i]? = some z) : (T.take i++D.drop i).set i z = T.take (i + 1)++D.drop (i + 1):=by
 have hl : (T.take i).length = i:=by rw [List.length_take];omega
 rw [List.set_append,if_neg (by omega),hl,Nat.sub_self,List.drop_eq_getElem_cons (by omega),List.set_cons_zero,List.take_add_one,hz]
 simp
theorem mix_at {T D : List Nat} {i n : Nat} (hT : T.length = n) (hD : D.length = n) (hi : i < n) : (T.take i++D.drop i)[i]? = D[i]?:=by
 have hl : (T.take i).length = i:=by rw [List.length_take];omega
 rw [List.getElem?_append_right (by omega),hl,Nat.sub_self,List.getElem?_drop,Nat.add_zero]
theorem S_codewrightref04_Add {p m nm cm : Nat} {md : List Int} {pm : Option Addr} (K : Fok p m md) {x y : Int} (x0 : 0 ≤ x) (x1 : x < ((p ^ m : Nat) : Int)) (y0 : 0 ≤ y) (y1 : y < ((p ^ m : Nat) : Int)) :
  Ctr Try.prog 56 [.agg #[.int .i64 p,.int .i64 m,.slice pm nm cm],.int .i64 x,.int .i64 y] [] [] (Rv (.int .i64 (liftI (fA p m) x y)) []):=by
 refine Ctr_of_j' (F:=F_codewrightref04_Add) rfl fun C=>?_
 have h1:=K.p2
 have h2:=K.p256
 have h3:=K.m8
 have h4:=K.q
 let T : List Nat:=(List.range m).map fun j=>((dig p m x.toNat).getD j 0 + (dig p m y.toNat).getD j 0) % p
 have lT : T.length = m:=by simp [T]
 have lx:=dig_len p m x.toNat
 have ly:=dig_len p m y.toNat
 have eT : valP p T = fA p m x.toNat y.toNat:=by
  rw [fA,un]
  congr 1
  refine List.map_congr_left fun j hj=>?_
  have hj:=List.mem_range.1 hj
  rw [rep_at hj,rep_at hj,← Int.natCast_add,← Int.natCast_emod]
  exact (Int.toNat_natCast _).symm
 have rT : ∀ d ∈ T,d < p:=fun d hd=>by
  obtain ⟨j,_,rfl⟩:=List.mem_map.1 hd
  exact Nat.mod_lt _ (by omega)
 have tz : ∀ i,i < m → T[i]? = some (((dig p m x.toNat).getD i 0 + (dig p m y.toNat).getD i 0) % p):=fun i hi=>by
  rw [List.getElem?_map,List.getElem?_range hi];rfl
 have xr:=fun d hd=>dig_lt (p:=p) (n:=m) (x:=x.toNat) (by omega) d hd
 have yr:=fun d hd=>dig_lt (p:=p) (n:=m) (x:=y.toNat) (by omega) d hd
 have eR : liftI (fA p m) x y = ((valP p T : Nat) : Int):=by rw [eT];rfl
 rw [eR]
 clear eR eT
 clear_value T
 have ep : p ^ T.length ≤ 1000000:=by rw [lT];omega
 refine j_nf [_,_] rfl ?_
 refine j_step rfl (x_box_agg rfl fun b1=>?_)
 refine j_run it 1 rfl (by simp) ?_
 refine j_nf [_,_] rfl ?_
 refine j_step rfl (x_bld_all 0 rfl rfl ld33 rfl ?_)
 refine j_run it 1 rfl (by simp) ?_
 refine j_step rfl (x_call [] rfl (S_codewrightref04_Digits (by omega) (by omega) (by omega)) rfl ?_)
 rintro _ _ _ ⟨b2,rfl,rfl,rfl⟩
 simp only [List.cons_append,List.nil_append]
 refine j_run it 1 rfl (by simp) ?_
 refine j_nf [_,_] rfl ?_
 refine j_step rfl (x_bld_all 1 rfl rfl ld33 rfl ?_)
 refine j_run it 1 rfl (by simp) ?_
 refine j_step rfl (x_call [] rfl (S_codewrightref04_Digits (by omega) (by omega) (by omega)) rfl ?_)
 rintro _ _ _ ⟨b3,rfl,rfl,rfl⟩
 simp only [List.cons_append,List.nil_append]
 refine j_run it 1 rfl (by simp) ?_
 refine j_nf [_,_,_] rfl ?_
 refine j_run it 1 rfl (by simp) ?_
 refine j_nf [_,_,_] rfl ?_
 rw [show natCells .i64 (dig p m x.toNat) = natCells .i64 (T.take 0++(dig p m x.toNat).drop 0) by simp]
 refine j_loopG (X:=Nat) [3,6,7,8] [] (fun i=>[(9,.int .i64 (i : Int))]) (fun i=>[(some b3,3,natCells .i64 (dig p m y.toNat)),(some b2,3,natCells .i64 (T.take i++(dig p m x.toNat).drop i)),(some b1,33,[.int .i64 p,.int .i64 m,.slice pm nm cm])]) (fun _=>[]) (fun i=>i ≤ m) (fun i=>m - i) 0 [] rfl rfl rfl (Nat.zero_le _) (by repeat (first | exact Fr.sub_nil _ | refine Fr.sub_cons rfl ?_)) rfl rfl ?_
 rintro i hi ih
 simp only [List.cons_append,List.nil_append] at hi ih ⊢
 by_cases hil : i < m
 ·have zx : (dig p m x.toNat)[i]? = some ((dig p m x.toNat).getD i 0):=by rw [List.getD_eq_getElem?_getD,List.getElem?_eq_getElem (by omega)];rfl
  have zy : (dig p m y.toNat)[i]? = some ((dig p m y.toNat).getD i 0):=by rw [List.getD_eq_getElem?_getD,List.getElem?_eq_getElem (by omega)];rfl
  have zt:=tz i hil
  have bx:=xr _ (List.mem_of_getElem? zx)
  have by':=yr _ (List.mem_of_getElem? zy)
  have ih':=ih (i + 1) (by omega) (by omega)
  have zm:=(mix_at (T:=T) (D:=dig p m x.toNat) lT lx hil).trans zx
  have lm : (T.take i++(dig p m x.toNat).drop i).length = m:=by rw [List.length_append,List.length_take,List.length_drop];omega
  rw [← mix_set lT lx hil zt] at ih'
  generalize (dig p m x.toNat).getD i 0 = u at *
  generalize (dig p m y.toNat).getD i 0 = v at *
  have em : ((u : Int) + (v : Int)) % (p : Int) = (((u + v) % p : Nat) : Int):=by rw [← Int.natCast_add,← Int.natCast_emod]
  refine j_nf [_,_,_,_,_,_] rfl ?_
  refine j_run it 2 rfl (by simp) ?_
  refine j_step rfl (x_len sl29 rfl ?_)
  refine j_run it 1 rfl (by simp) ?_
  refine j_nf [_,_,_,_,_] rfl ?_
  refine j_if rfl rfl (fun h5=>?_) (fun h5=>by exfalso;omega)
  refine j_nf [_,_,_,_,_,_] rfl ?_
  (apply j_drawK it mx 14;(· rfl);(· rfl))
  (apply lxk_run 4;(· rfl);(· simp))
  (apply lxk_eq;(· rfl);(· exact d_x fun _=>x_idx_own (i) (i) rfl rfl sl29 rfl (by omega) (Nat.mul_one _) dk_eq))
  (apply lxk_eq;(· rfl);(· exact d_bld_nat 1 rfl rfl ld3 (by assumption)))
  (apply lxk_run 2;(· rfl);(· simp))
  (apply lxk_eq;(· rfl);(· exact d_x fun _=>x_idx_own (i) (i) rfl rfl sl29 rfl (by omega) (Nat.mul_one _) dk_eq))
  (apply lxk_eq;(· rfl);(· exact d_bld_nat 0 rfl rfl ld3 (by assumption)))
  (apply lxk_run 1;(· rfl);(· exact ⟨⟨by omega,by omega⟩,trivial⟩))
  (apply lxk_eq;(· rfl);(· exact d_x fun _=>x_field rfl fd33_0 dk_eq))
  (apply lxk_eq;(· rfl);(· exact d_bld 2 rfl rfl ld3 rfl))
  (apply lxk_run 1;(· rfl);(· exact ⟨⟨by omega,by omega⟩,trivial⟩))
  refine lxk_end rfl ?_
  simp only [List.map_cons,List.map_nil,List.cons_append,List.nil_append]
  refine j_step rfl (x_idx_own (i) (i) rfl rfl sl29 rfl (by omega) (Nat.mul_one _) ?_)
  refine j_step rfl (x_bst_nat 1 (((u) + (v)) % (p)) rfl rfl rfl ld3 (by first | rfl | omega) (by first | omega | (simp;omega)) ?_)
  refine j_nf [_,_,_,_] rfl ?_
  refine j_run it 3 rfl ⟨trivial,⟨by omega,by omega⟩,trivial,trivial⟩ ?_
  refine j_nfn 1 [.lp (pL 244),.blk 0,.c [1,1,1,1]] rfl ?_
  refine j_to [] (by exact fra rfl) rfl rfl (ih')
 ·obtain rfl : i = m:=by omega
  clear ih
  rw [List.take_of_length_le (by omega),List.drop_of_length_le (by omega),List.append_nil,natCells_toI .i64 T]
  refine j_nf [_,_,_,_,_,_] rfl ?_
  refine j_run it 2 rfl (by simp) ?_
  refine j_step rfl (x_len sl29 rfl ?_)
  refine j_run it 1 rfl (by simp) ?_
  refine j_nf [_,_,_,_,_] rfl ?_
  refine j_if rfl rfl (fun h5=>by exfalso;omega) (fun h5=>?_)
  refine j_nf [_,_] rfl ?_
  refine j_step rfl (x_bld_all 2 rfl rfl ld33 rfl ?_)
  refine j_run it 1 rfl (by simp) ?_
  refine j_pub_madei 8 (toI T) 1 rfl (by rw [toI_len,lT]) (toI_rng fun d hd=>by have:=rT d hd;omega) (by omega) (by omega) ?_
  simp only [List.eraseIdx_cons_zero,List.eraseIdx_cons_succ]
  refine j_step rfl (x_call [0] rfl (S_codewrightref04_Value (by rfl) (by omega) (by omega) (by omega) (by omega)) rfl ?_)
  rintro _ _ _ ⟨rfl,rfl,rfl⟩
  simp only [List.cons_append,List.nil_append]
  refine j_run it 1 rfl (by simp) ?_
  refine j_nf [_] rfl ?_
  refine j_giv [] rfl rfl rfl ⟨rfl,rfl,rfl⟩
open Go Go.Fw
set_option maxRecDepth 100000
set_option linter.unusedVariables false
set_option linter.unusedSimpArgs false
set_option maxHeartbeats 4000000
theorem toI_set (l : List Nat) (i z : Nat) : toI (l.set i z) = (toI l).set i (z : Int):=by simp [toI,List.map_set]
theorem toI_getD {l : List Nat} {i : Nat} : (toI l).getD i 0 = ((l.getD i 0 : Nat) : Int):=by
 rw [toI,List.getD_eq_getElem?_getD,List.getD_eq_getElem?_getD,List.getElem?_map]
 cases l[i]? <;> rfl
theorem getD_z {l : List Nat} {i : Nat} (h : i < l.length) : l[i]? = some (l.getD i 0):=by
 rw [List.getD_eq_getElem?_getD,List.getElem?_eq_getElem h];rfl
theorem toI_zeros (n : Nat) : toI (List.replicate n 0) = List.replicate n 0:=by simp [toI]
theorem S_codewrightref04_Mul {p m nm cm : Nat} {md : List Int} {pm : Option Addr} (K : Fok p m md) {x y : Int} (x0 : 0 ≤ x) (x1 : x < ((p ^ m : Nat) : Int)) (y0 : 0 ≤ y) (y1 : y < ((p ^ m : Nat) : Int)) :
  Ctr Try.prog 57 [.agg #[.int .i64 p,.int .i64 m,.slice pm nm cm],.int .i64 x,.int .i64 y] [] [slF I64 pm nm cm md] (Rv (.int .i64 (liftI (fM p (fpo m md)) x y)) []):=by
 refine Ctr_of_j' (F:=F_codewrightref04_Mul) rfl fun C=>?_
 have h1:=K.p2
 have h2:=K.p256
 have h3:=K.m8
 have h4:=K.q
 have h5:=K.m1
 have lx:=dig_len p m x.toNat
 have ly:=dig_len p m y.toNat
 have fl:=K.flen
 have md0:=mul_digs (p:=p) (by omega) (f:=fpo m md) (by omega) x.toNat y.toNat
 rw [fl] at md0
 have xr:=fun d hd=>dig_lt (p:=p) (n:=m) (x:=x.toNat) (by omega) d hd
 have yr:=fun d hd=>dig_lt (p:=p) (n:=m) (x:=y.toNat) (by omega) d hd
 have eR : liftI (fM p (fpo m md)) x y = ((valP p ((List.range m).map fun j=>(mulV (fpo m md) (rep p m x.toNat) (rep p m y.toNat) j % p).toNat) : Nat) : Int):=by
  rw [liftI,fM,un,fl]
 rw [eR]
 clear eR
 refine j_len 0 rfl fun hn _ _=>?_
 subst hn
 generalize hT : (List.range m).map (fun j=>(mulV (fpo m md) (rep p m x.toNat) (rep p m y.toNat) j % p).toNat) = T at *
 have lT : T.length = m:=by rw [← hT];simp
 have rT : ∀ d ∈ T,d < p:=fun d hd=>by rw [← hT] at hd;exact un_digs (by omega) _ d hd
 clear hT
 have ep : p ^ T.length ≤ 1000000:=by rw [lT];omega
 have c_codewrightref04_Digits:=fun {z : Int} (z0 : 0 ≤ z) (z1 : z < ((p ^ m : Nat) : Int))=>S_codewrightref04_Digits (nm:=md.length) (cm:=cm) (pm:=pm) K z0 z1
 refine j_nf [_,_] rfl ?_
 refine j_step rfl (x_box_agg rfl fun b1=>?_)
 refine j_run it 1 rfl (by simp) ?_
 refine j_nf [_,_] rfl ?_
 refine j_step rfl (x_bld_all 0 rfl rfl ld33 rfl ?_)
 refine j_run it 1 rfl (by simp) ?_
 refine j_step rfl (x_call [] rfl (c_codewrightref04_Digits (by omega) (by omega)) rfl ?_)
 rintro _ _ _ ⟨b2,rfl,rfl,rfl⟩
 simp only [List.cons_append,List.nil_append]
 refine j_run it 1 rfl (by simp) ?_
 refine j_nf [_,_] rfl ?_
 refine j_step rfl (x_bld_all 1 rfl rfl ld33 rfl ?_)
 refine j_run it 1 rfl (by simp) ?_
 refine j_step rfl (x_call [] rfl (c_codewrightref04_Digits (by omega) (by omega)) rfl ?_)
 rintro _ _ _ ⟨b3,rfl,rfl,rfl⟩
 simp only [List.cons_append,List.nil_append]
 refine j_run it 1 rfl (by simp) ?_
 refine j_nf [_,_] rfl ?_
 refine j_step rfl (x_field rfl fd33_1 ?_)
 refine j_step rfl (x_bld 2 rfl rfl ld3 rfl ?_)
 refine j_run it 2 rfl ⟨⟨by omega,by omega⟩,⟨by omega,by omega⟩,trivial⟩ ?_
 refine j_step rfl (x_make_nat ((2 * (m)) - 1) _ rfl rfl sl29 zo29e by29e (by omega) (by omega) (by omega) fun b4=>?_)
 refine j_run it 1 rfl (by simp) ?_
 refine j_nf [_,_,_] rfl ?_
 refine j_run it 1 rfl (by simp) ?_
 refine j_nf [_,_,_] rfl ?_
 generalize hDX : dig p m x.toNat = DX at *
 generalize hDY : dig p m y.toNat = DY at *
 have mL:=mulR_len p m (toI DX) (toI DY)
 have mR:=mulR_rng (p:=p) (by omega) m (toI DX) (toI DY)
 refine j_loopG (X:=Nat × List Nat) [3,6,7,8,9] [0] (fun x=>[(10,.int .i64 (x.1 : Int))]) (fun x=>[(some b4,3,natCells .i64 x.2),(some b3,3,natCells .i64 DY),(some b2,3,natCells .i64 DX),(some b1,33,[.int .i64 p,.int .i64 m,.slice pm md.length cm])]) (fun _=>[])
  (fun x=>x.1 ≤ m ∧ toI x.2 = mulR p m (toI DX) (toI DY) x.1) (fun x=>m - x.1) (0,List.replicate (2 * m - 1) 0) [] rfl rfl rfl ⟨Nat.zero_le _,toI_zeros _⟩ (by repeat (first | exact Fr.sub_nil _ | refine Fr.sub_cons rfl ?_)) rfl rfl ?_
 rintro ⟨i,L⟩ ⟨hi,hL⟩ ih
 simp only [List.cons_append,List.nil_append] at hi hL ih ⊢
 by_cases hil : i < m
 ·refine j_nf [_,_,_,_,_,_] rfl ?_
  refine j_run it 1 rfl (by simp) ?_
  refine j_step rfl (x_field rfl fd33_1 ?_)
  refine j_step rfl (x_bld 3 rfl rfl ld3 rfl ?_)
  refine j_run it 1 rfl (by simp) ?_
  refine j_nf [_,_,_,_,_] rfl ?_
  refine j_if rfl rfl (fun h6=>?_) (fun h6=>by exfalso;omega)
  refine j_nf [_,_,_,_,_,_,_] rfl ?_
  refine j_run it 1 rfl (by simp) ?_
  refine j_nf [_,_,_,_,_,_,_] rfl ?_
  have ihn:=fun l h=>ih (i + 1,l) (by dsimp only;omega) ⟨by dsimp only;omega,h⟩
  simp only [mulR] at ihn
  rw [← hL] at ihn
  have lL : L.length = 2 * m - 1:=by rw [← toI_len,hL,mL]
  have rL : ∀ z ∈ toI L,0 ≤ z ∧ z < (p : Int):=by rw [hL];exact mR i
  have zx:=getD_z (l:=DX) (i:=i) (by omega)
  have bx:=xr _ (List.mem_of_getElem? zx)
  rw [toI_getD] at ihn
  generalize DX.getD i 0 = u at *
  refine j_loopG (X:=Nat × List Nat) [3,6,7,8,9,10,25,26,27,28] [0] (fun x=>[(11,.int .i64 (x.1 : Int))]) (fun x=>[(some b4,3,natCells .i64 x.2),(some b3,3,natCells .i64 DY),(some b2,3,natCells .i64 DX),(some b1,33,[.int .i64 p,.int .i64 m,.slice pm md.length cm])]) (fun _=>[])
   (fun x=>x.1 ≤ m ∧ toI x.2 = stepR p (u : Int) (toI DY) i x.1 (toI L)) (fun x=>m - x.1) (0,L) [] rfl rfl rfl ⟨Nat.zero_le _,rfl⟩ (by repeat (first | exact Fr.sub_nil _ | refine Fr.sub_cons rfl ?_)) rfl rfl ?_
  rintro ⟨j,S⟩ ⟨hj,hS⟩ ihj
  simp only [List.cons_append,List.nil_append] at hj hS ihj ⊢
  by_cases hjl : j < m
  ·have lS : S.length = 2 * m - 1:=by rw [← toI_len,hS,stepR_len,toI_len,lL]
   have rS:=stepR_rng (p:=p) (by omega) (u : Int) (toI DY) i rL j
   rw [← hS] at rS
   have ihj':=fun l h=>ihj (j + 1,l) (by dsimp only;omega) ⟨by dsimp only;omega,h⟩
   simp only [stepR] at ihj'
   rw [← hS] at ihj'
   simp only [toI_getD] at ihj'
   have zy:=getD_z (l:=DY) (i:=j) (by omega)
   have by':=yr _ (List.mem_of_getElem? zy)
   have zs:=getD_z (l:=S) (i:=i + j) (by omega)
   have bs:=rS _ (List.mem_of_getElem? (toI_at zs))
   generalize DY.getD j 0 = v at *
   generalize S.getD (i + j) 0 = s at *
   have huv : u * v ≤ 65536:=Nat.le_trans (Nat.mul_le_mul (show u ≤ 256 by omega) (show v ≤ 256 by omega)) (by decide)
   have huv' : (u : Int) * (v : Int) = ((u * v : Nat) : Int):=by omega
   have hb0 : 0 ≤ (u : Int) * (v : Int) ∧ (u : Int) * (v : Int) ≤ 65536:=by omega
   have em : ((s : Int) + (u : Int) * (v : Int)) % (p : Int) = (((s + u * v) % p : Nat) : Int):=by rw [huv',← Int.natCast_add,← Int.natCast_emod]
   have hmod : (s + u * v) % p < p:=Nat.mod_lt _ (by omega)
   refine j_nf [_,_,_,_,_,_,_,_,_,_] rfl ?_
   refine j_run it 1 rfl (by simp) ?_
   refine j_step rfl (x_field rfl fd33_1 ?_)
   refine j_step rfl (x_bld 3 rfl rfl ld3 rfl ?_)
   refine j_run it 1 rfl (by simp) ?_
   refine j_nf [_,_,_,_,_,_,_,_,_] rfl ?_
   refine j_if rfl rfl (fun h7=>?_) (fun h7=>by exfalso;omega)
   refine j_nf [_,_,_,_,_,_,_,_,_,_] rfl ?_
   (apply j_drawK it mx 23;(· rfl);(· rfl))
   (apply lxk_run 8;(· rfl);(· exact ⟨⟨by omega,by omega⟩,trivial,trivial,trivial,⟨by omega,by omega⟩,trivial,trivial,trivial,trivial⟩))
   (apply lxk_eq;(· rfl);(· exact d_x fun _=>x_idx_own ((i) + (j)) ((i) + (j)) rfl rfl sl29 (by omega) (by omega) (Nat.mul_one _) dk_eq))
   (apply lxk_eq;(· rfl);(· exact d_bld_nat 0 rfl rfl ld3 (by assumption)))
   (apply lxk_run 2;(· rfl);(· simp))
   (apply lxk_eq;(· rfl);(· exact d_x fun _=>x_idx_own (i) (i) rfl rfl sl29 rfl (by omega) (Nat.mul_one _) dk_eq))
   (apply lxk_eq;(· rfl);(· exact d_bld_nat 2 rfl rfl ld3 (by assumption)))
   (apply lxk_run 2;(· rfl);(· simp))
   (apply lxk_eq;(· rfl);(· exact d_x fun _=>x_idx_own (j) (j) rfl rfl sl29 rfl (by omega) (Nat.mul_one _) dk_eq))
   (apply lxk_eq;(· rfl);(· exact d_bld_nat 1 rfl rfl ld3 (by assumption)))
   (apply lxk_run 2;(· rfl);(· exact ⟨⟨by omega,by omega⟩,⟨by omega,by omega⟩,trivial⟩))
   (apply lxk_eq;(· rfl);(· exact d_x fun _=>x_field rfl fd33_0 dk_eq))
   (apply lxk_eq;(· rfl);(· exact d_bld 3 rfl rfl ld3 rfl))
   (apply lxk_run 1;(· rfl);(· exact ⟨⟨by omega,by omega⟩,trivial⟩))
   refine lxk_end rfl ?_
   simp only [List.map_cons,List.map_nil,List.cons_append,List.nil_append]
   refine j_step rfl (x_idx_own ((i) + (j)) ((i) + (j)) rfl rfl sl29 (by omega) (by omega) (Nat.mul_one _) ?_)
   refine j_step rfl (x_bst_nat 0 (((s) + ((u) * (v))) % (p)) rfl rfl rfl ld3 (by first | rfl | omega) (by first | omega | (simp;omega)) ?_)
   refine j_nf [_,_,_,_,_,_,_,_] rfl ?_
   refine j_run it 3 rfl ⟨trivial,⟨by omega,by omega⟩,trivial,trivial⟩ ?_
   refine j_nfn 1 [.lp (pL 32036),.blk 2,.blk 1,.c (pL 2003),.lp (pL 500),.blk 0,.c [1,1,1,1,1]] rfl ?_
   refine j_to [0] (by exact fra rfl) rfl rfl (ihj' (S.set (i + j) ((s + u * v) % p)) (by rw [toI_set,← em]))
  ·obtain rfl : j = m:=by omega
   refine j_nf [_,_,_,_,_,_,_,_,_,_] rfl ?_
   refine j_run it 1 rfl (by simp) ?_
   refine j_step rfl (x_field rfl fd33_1 ?_)
   refine j_step rfl (x_bld 3 rfl rfl ld3 rfl ?_)
   refine j_run it 1 rfl (by simp) ?_
   refine j_nf [_,_,_,_,_,_,_,_,_] rfl ?_
   refine j_if rfl rfl (fun h7=>by exfalso;omega) (fun h7=>?_)
   refine j_nf [_,_,_,_] rfl ?_
   refine j_run it 3 rfl ⟨trivial,⟨by omega,by omega⟩,trivial,trivial⟩ ?_
   refine j_nfn 1 [.lp (pL 500),.blk 0,.c [1,1,1,1,1]] rfl ?_
   refine j_to [0] (by exact fra rfl) rfl rfl (ihn S hS)
 ·obtain rfl : i = m:=by omega
  clear ih
  rw [← hL] at md0
  have lL : L.length = 2 * i - 1:=by rw [← toI_len,hL,mL]
  have rL : ∀ z ∈ toI L,0 ≤ z ∧ z < (p : Int):=by rw [hL];exact mR i
  clear hL mL mR
  have kL:=redL_len p (fpo i md) (toI L)
  have kR:=redL_rng (p:=p) (by omega) (fpo i md) rL
  have tl : (toI L).length = 2 * i - 1:=by rw [toI_len,lL]
  rw [tl] at kL
  refine j_nf [_,_,_,_,_,_] rfl ?_
  refine j_run it 1 rfl (by simp) ?_
  refine j_step rfl (x_field rfl fd33_1 ?_)
  refine j_step rfl (x_bld 3 rfl rfl ld3 rfl ?_)
  refine j_run it 1 rfl (by simp) ?_
  refine j_nf [_,_,_,_,_] rfl ?_
  refine j_if rfl rfl (fun h6=>by exfalso;omega) (fun h6=>?_)
  refine j_nf [_,_,_] rfl ?_
  refine j_step rfl (x_field rfl fd33_1 ?_)
  refine j_step rfl (x_bld 3 rfl rfl ld3 rfl ?_)
  refine j_run it 3 rfl ⟨trivial,⟨by omega,by omega⟩,⟨by omega,by omega⟩,trivial⟩ ?_
  refine j_nf [_,_,_] rfl ?_
  refine j_loopG (X:=Nat × List Nat) [3,6,9] [0] (fun x=>[(12,.int .i64 (2 * (i : Int) - 2 - (x.1 : Int)))]) (fun x=>[(some b4,3,natCells .i64 x.2),(some b3,3,natCells .i64 DY),(some b2,3,natCells .i64 DX),(some b1,33,[.int .i64 p,.int .i64 i,.slice pm md.length cm])]) (fun _=>[])
   (fun x=>x.1 ≤ i - 1 ∧ toI x.2 = redL p (fpo i md) (toI L) x.1) (fun x=>i - 1 - x.1) (0,L) [] rfl rfl rfl ⟨Nat.zero_le _,rfl⟩ (by refine Fr.sub_consI rfl (by simp) ?_;repeat (first | exact Fr.sub_nil _ | refine Fr.sub_cons rfl ?_)) rfl rfl ?_
  rintro ⟨n,Z⟩ ⟨hn,hZ⟩ ih
  simp only [List.cons_append,List.nil_append] at hn hZ ih ⊢
  by_cases hnl : n < i - 1
  ·have hi1 : i ≠ 1:=by omega
   have hfp : fpo i md = md:=if_neg hi1
   have hml : md.length = i:=K.len hi1
   have hrm:=K.rng
   refine j_nf [_,_,_,_,_,_] rfl ?_
   refine j_run it 1 rfl (by simp) ?_
   refine j_step rfl (x_field rfl fd33_1 ?_)
   refine j_step rfl (x_bld 3 rfl rfl ld3 rfl ?_)
   refine j_run it 1 rfl (by simp) ?_
   refine j_nf [_,_,_,_,_] rfl ?_
   refine j_if rfl rfl (fun h7=>?_) (fun h7=>by exfalso;omega)
   refine j_nf [_,_,_,_,_,_,_] rfl ?_
   refine j_run it 1 rfl (by simp) ?_
   refine j_nf [_,_,_,_,_,_,_] rfl ?_
   have ihn:=fun l h=>ih (n + 1,l) (by dsimp only;omega) ⟨by dsimp only;omega,h⟩
   simp only [redL] at ihn
   rw [← hZ,tl,hfp,toI_getD,show 2 * i - 1 - 1 - n = 2 * i - 2 - n by omega] at ihn
   have lZ : Z.length = 2 * i - 1:=by rw [← toI_len,hZ,kL]
   have rZ : ∀ z ∈ toI Z,0 ≤ z ∧ z < (p : Int):=by rw [hZ];exact kR n
   have zc:=getD_z (l:=Z) (i:=2 * i - 2 - n) (by omega)
   have bc:=rZ _ (List.mem_of_getElem? (toI_at zc))
   generalize hcv : Z.getD (2 * i - 2 - n) 0 = c at *
   have hpc : (p : Int) - (c : Int) = ((p - c : Nat) : Int):=by omega
   rw [hpc] at ihn
   refine j_loopG (X:=Nat × List Nat) [3,6,9,12,65,66,67,68] [0] (fun x=>[(13,.int .i64 (x.1 : Int))]) (fun x=>[(some b4,3,natCells .i64 x.2),(some b3,3,natCells .i64 DY),(some b2,3,natCells .i64 DX),(some b1,33,[.int .i64 p,.int .i64 i,.slice pm md.length cm])]) (fun _=>[])
    (fun x=>x.1 ≤ i ∧ toI x.2 = stepR p ((p - c : Nat) : Int) md (2 * i - 2 - n - i) x.1 (toI Z)) (fun x=>i - x.1) (0,Z) [] rfl rfl rfl ⟨Nat.zero_le _,rfl⟩ (by repeat (first | exact Fr.sub_nil _ | refine Fr.sub_cons rfl ?_)) rfl rfl ?_
   rintro ⟨j,S⟩ ⟨hj,hS⟩ ihj
   simp only [List.cons_append,List.nil_append] at hj hS ihj ⊢
   by_cases hjl : j < i
   ·have lS : S.length = 2 * i - 1:=by rw [← toI_len,hS,stepR_len,toI_len,lZ]
    have rS:=stepR_rng (p:=p) (by omega) ((p - c : Nat) : Int) md (2 * i - 2 - n - i) rZ j
    rw [← hS] at rS
    have oS:=stepR_out p ((p - c : Nat) : Int) md (2 * i - 2 - n - i) (toI Z) (i:=2 * i - 2 - n) j (by omega)
    rw [← hS,toI_getD,toI_getD,hcv] at oS
    have ihj':=fun l h=>ihj (j + 1,l) (by dsimp only;omega) ⟨by dsimp only;omega,h⟩
    simp only [stepR] at ihj'
    rw [← hS] at ihj'
    simp only [toI_getD] at ihj'
    have hdd : md.getD j 0 = md.getD j default:=rfl
    rw [hdd] at ihj'
    have zm : md[j]? = some (md.getD j default):=by rw [List.getD_eq_getElem?_getD,List.getElem?_eq_getElem (by omega)];rfl
    have bm:=hrm _ (List.mem_of_getElem? zm)
    have zi:=getD_z (l:=S) (i:=2 * i - 2 - n) (by omega)
    rw [show S.getD (2 * i - 2 - n) 0 = c by omega] at zi
    have zs:=getD_z (l:=S) (i:=2 * i - 2 - n - i + j) (by omega)
    have bs:=rS _ (List.mem_of_getElem? (toI_at zs))
    generalize S.getD (2 * i - 2 - n - i + j) 0 = s at *
    have hb0 : 0 ≤ ((p - c : Nat) : Int) * md.getD j default:=Int.mul_nonneg (by omega) bm.1
    have hb1 : ((p - c : Nat) : Int) * md.getD j default ≤ 65536:=Int.le_trans (Int.mul_le_mul (show ((p - c : Nat) : Int) ≤ 256 by omega) (show md.getD j default ≤ 256 by omega) bm.1 (by decide)) (by decide)
    have em0 : 0 ≤ ((s : Int) + ((p - c : Nat) : Int) * md.getD j default) % (p : Int):=Int.emod_nonneg _ (by omega)
    have em1 : ((s : Int) + ((p - c : Nat) : Int) * md.getD j default) % (p : Int) < p:=Int.emod_lt_of_pos _ (by omega)
    refine j_nf [_,_,_,_,_,_,_,_,_,_] rfl ?_
    refine j_run it 1 rfl (by simp) ?_
    refine j_step rfl (x_field rfl fd33_1 ?_)
    refine j_step rfl (x_bld 3 rfl rfl ld3 rfl ?_)
    refine j_run it 1 rfl (by simp) ?_
    refine j_nf [_,_,_,_,_,_,_,_,_] rfl ?_
    refine j_if rfl rfl (fun h8=>?_) (fun h8=>by exfalso;omega)
    refine j_nf [_,_,_,_,_,_,_,_,_,_] rfl ?_
    (apply j_drawK it mx 33;(· rfl);(· rfl))
    (apply lxk_run 2;(· rfl);(· simp))
    (apply lxk_eq;(· rfl);(· exact d_x fun _=>x_field rfl fd33_1 dk_eq))
    (apply lxk_eq;(· rfl);(· exact d_bld 3 rfl rfl ld3 rfl))
    (apply lxk_eq (v:=Value.int IntKind.i64 ((((((2 * (i)) - 2) - (n)) - (i) : Nat)) : Int));(· rfl);(· exact d_x fun _=>x_asN it _ rfl ⟨by omega,by omega⟩ (by omega) dk_eq))
    simp only [Nat.add_sub_cancel]
    (apply lxk_run 4;(· rfl);(· exact ⟨trivial,trivial,⟨by omega,by omega⟩,trivial,trivial⟩))
    (apply lxk_eq;(· rfl);(· exact d_x fun _=>x_field rfl fd33_1 dk_eq))
    (apply lxk_eq;(· rfl);(· exact d_bld 3 rfl rfl ld3 rfl))
    (apply lxk_eq (v:=Value.int IntKind.i64 ((((((2 * (i)) - 2) - (n)) - (i) : Nat)) : Int));(· rfl);(· exact d_x fun _=>x_asN it _ rfl ⟨by omega,by omega⟩ (by omega) dk_eq))
    simp only [Nat.add_sub_cancel]
    (apply lxk_run 2;(· rfl);(· exact ⟨⟨by omega,by omega⟩,trivial,trivial⟩))
    (apply lxk_eq;(· rfl);(· exact d_x fun _=>x_idx_own ((2 * i - 2 - n - i) + (j)) ((2 * i - 2 - n - i) + (j)) rfl rfl sl29 (by omega) (by omega) (Nat.mul_one _) dk_eq))
    (apply lxk_eq;(· rfl);(· exact d_bld_nat 0 rfl rfl ld3 (by assumption)))
    (apply lxk_eq;(· rfl);(· exact d_x fun _=>x_field rfl fd33_0 dk_eq))
    (apply lxk_eq;(· rfl);(· exact d_bld 3 rfl rfl ld3 rfl))
    (apply lxk_run 2;(· rfl);(· simp))
    (apply lxk_eq;(· rfl);(· exact d_x fun _=>x_idx_own (((2 * (i)) - 2) - (n)) (((2 * (i)) - 2) - (n)) rfl rfl sl29 (by omega) (by omega) (Nat.mul_one _) dk_eq))
    (apply lxk_eq;(· rfl);(· exact d_bld_nat 0 rfl rfl ld3 (by assumption)))
    (apply lxk_eq (v:=Value.int IntKind.i64 ((((p) - (c) : Nat)) : Int));(· rfl);(· exact d_x fun _=>x_asN it _ rfl ⟨by omega,by omega⟩ (by omega) dk_eq))
    simp only [Nat.add_sub_cancel]
    (apply lxk_eq;(· rfl);(· exact d_x fun _=>x_field rfl fd33_2 dk_eq))
    (apply lxk_eq;(· rfl);(· exact d_bld 3 rfl rfl ld29 rfl))
    (apply lxk_run 1;(· rfl);(· simp))
    (apply lxk_pt;(· rfl);(· exact d_x fun _=>x_idx 0 (j) rfl rfl rfl sl29 rfl (by omega) fun z1 hz1 b5 o1=>(dk_ptD default hz1 0 rfl));intro b5 o1)
    (apply lxk_eq;(· rfl);(· exact d_x fun _=>x_ld_int 0 rfl rfl ld3 fun ⟨r1,r2⟩=>dk_eq))
    (apply lxk_run 2;(· rfl);(· exact ⟨⟨by omega,by omega⟩,⟨by omega,by omega⟩,trivial⟩))
    (apply lxk_eq;(· rfl);(· exact d_x fun _=>x_field rfl fd33_0 dk_eq))
    (apply lxk_eq;(· rfl);(· exact d_bld 3 rfl rfl ld3 rfl))
    (apply lxk_run 1;(· rfl);(· exact ⟨⟨by omega,by omega⟩,trivial⟩))
    refine lxk_end rfl ?_
    simp only [List.map_cons,List.map_nil,List.cons_append,List.nil_append]
    refine j_step rfl (x_idx_own ((2 * i - 2 - n - i) + (j)) ((2 * i - 2 - n - i) + (j)) rfl rfl sl29 (by omega) (by omega) (Nat.mul_one _) ?_)
    refine j_step rfl (x_bst_nat 0 (((s) + ((p - c) * ((md.getD j default : Int).toNat))) % (p)) rfl rfl rfl ld3 ?_ ?_ ?_)
    ·rw [Int.natCast_emod,Int.natCast_add,Int.natCast_mul,Int.toNat_of_nonneg bm.1]
    ·rw [lS];omega
    refine j_nf [_,_,_,_,_,_,_,_] rfl ?_
    refine j_run it 3 rfl ⟨trivial,⟨by omega,by omega⟩,trivial,trivial⟩ ?_
    refine j_nfn 1 [.lp (pL 64804),.blk 6,.blk 5,.c (pL 4051),.lp (pL 1012),.blk 4,.c (pL 127)] rfl ?_
    refine j_to [1] (by exact fra rfl) rfl rfl (ihj' (S.set (2 * i - 2 - n - i + j) ((s + (p - c) * (md.getD j default).toNat) % p)) (by rw [toI_set,Int.natCast_emod,Int.natCast_add,Int.natCast_mul,Int.toNat_of_nonneg bm.1]))
   ·obtain rfl : j = i:=by omega
    refine j_nf [_,_,_,_,_,_,_,_,_,_] rfl ?_
    refine j_run it 1 rfl (by simp) ?_
    refine j_step rfl (x_field rfl fd33_1 ?_)
    refine j_step rfl (x_bld 3 rfl rfl ld3 rfl ?_)
    refine j_run it 1 rfl (by simp) ?_
    refine j_nf [_,_,_,_,_,_,_,_,_] rfl ?_
    refine j_if rfl rfl (fun h8=>by exfalso;omega) (fun h8=>?_)
    refine j_nf [_,_,_,_] rfl ?_
    refine j_run it 3 rfl ⟨trivial,⟨by omega,by omega⟩,trivial,trivial⟩ ?_
    refine j_nfn 1 [.lp (pL 1012),.blk 4,.c (pL 127)] rfl ?_
    refine j_to [0] (by exact fii rfl (by omega) (fcc rfl (fcc rfl (fcc rfl (fzz _))))) rfl rfl (ihn S (by rw [hml];exact hS))
  ·obtain rfl : n = i - 1:=by omega
   rw [← hZ] at md0
   have lZ : Z.length = 2 * i - 1:=by rw [← toI_len,hZ,kL]
   have rZ : ∀ z ∈ toI Z,0 ≤ z ∧ z < (p : Int):=by rw [hZ];exact kR (i - 1)
   have c_codewrightref04_Value:=fun {pd : Option Addr} {cd : Nat}=>S_codewrightref04_Value (P:=(p : Int)) (M:=(i : Int)) (pm:=pm) (pd:=pd) (nm:=md.length) (cm:=cm) (nd:=i) (cd:=cd) (p:=p) (l:=T) rfl (by omega) h2 rT ep
   rw [← md0] at c_codewrightref04_Value
   rw [natCells_toI .i64 Z]
   refine j_pub_madei 8 (toI Z) 0 rfl (by rw [toI_len,lZ]) (fun z hz=>by have:=rZ z hz;simp only [InR];omega) (by omega) (by omega) ?_
   simp only [List.eraseIdx_cons_zero]
   generalize (some (⟨b4,0,none⟩ : Addr)) = pc
   refine j_nf [_,_,_,_,_,_] rfl ?_
   refine j_run it 1 rfl (by simp) ?_
   refine j_step rfl (x_field rfl fd33_1 ?_)
   refine j_step rfl (x_bld 2 rfl rfl ld3 rfl ?_)
   refine j_run it 1 rfl (by simp) ?_
   refine j_nf [_,_,_,_,_] rfl ?_
   refine j_if rfl rfl (fun h7=>by exfalso;omega) (fun h7=>?_)
   refine j_nf [_,_] rfl ?_
   (apply j_drawK it mx 6;(· rfl);(· rfl))
   (apply lxk_eq;(· rfl);(· exact d_bld_all 2 rfl rfl ld33 rfl))
   (apply lxk_run 1;(· rfl);(· simp))
   (apply lxk_eq;(· rfl);(· exact d_x fun _=>x_field rfl fd33_1 dk_eq))
   (apply lxk_eq;(· rfl);(· exact d_bld 2 rfl rfl ld3 rfl))
   (apply lxk_sl;(· rfl);(· exact d_x fun _=>x_slice_h 0 (i) rfl rfl rfl sl29 (by omega) (by omega) (dk_sl 0 rfl));intro pa1 ca1)
   (apply lxk_eq;(· rfl);(· exact d_x fun _=>x_call [0] rfl (c_codewrightref04_Value) rfl (by rintro _ _ _ ⟨rfl,rfl,rfl⟩;exact dk_eq)))
   refine lxk_end rfl ?_
   simp only [List.map_cons,List.map_nil,List.cons_append,List.nil_append]
   refine j_run it 1 rfl (by simp) ?_
   refine j_nf [_] rfl ?_
   refine j_giv [] rfl rfl rfl ⟨rfl,rfl,rfl⟩
abbrev aF (p m : Nat) : Int → Int → Int:=liftI (fA p m)
abbrev mF (p m : Nat) (md : List Int) : Int → Int → Int:=liftI (fM p (fpo m md))
theorem dot_snoc {q : Nat} {A M : Int → Int → Int} (F : FI q A M) : ∀ {n : Nat} {u v : List Int} {x y : Int},Wd q n u → Wd q n v → 0 ≤ x → x < q → 0 ≤ y → y < q → dotL A M (u++[x]) (v++[y]) = A (dotL A M u v) (M x y)
 | 0,u,v,x,y,hu,hv,x0,x1,y0,y1=>by
  rw [List.length_eq_zero_iff.1 hu.1,List.length_eq_zero_iff.1 hv.1]
  obtain ⟨m0,m1⟩:=F.ml x y x0 x1 y0 y1
  show A (M x y) 0 = A 0 (M x y)
  exact F.ac _ _ m0 m1 (Int.le_refl 0) F.z
 | n + 1,[],_,_,_,h,_,_,_,_,_=>by have:=h.1;simp at this
 | n + 1,_::_,[],_,_,_,h,_,_,_,_=>by have:=h.1;simp at this
 | n + 1,a::u,b::v,x,y,hu,hv,x0,x1,y0,y1=>by
  obtain ⟨a0,a1⟩:=hu.2 a (.head _)
  obtain ⟨b0,b1⟩:=hv.2 b (.head _)
  have hu' : Wd q n u:=⟨by simpa using hu.1,fun z hz=>hu.2 z (.tail _ hz)⟩
  have hv' : Wd q n v:=⟨by simpa using hv.1,fun z hz=>hv.2 z (.tail _ hz)⟩
  obtain ⟨m0,m1⟩:=F.ml a b a0 a1 b0 b1
  obtain ⟨k0,k1⟩:=F.ml x y x0 x1 y0 y1
  obtain ⟨d0,d1⟩:=F.dlt hu' hv'
  show A (M a b) (dotL A M (u++[x]) (v++[y])) = A (A (M a b) (dotL A M u v)) (M x y)
  rw [dot_snoc F hu' hv' x0 x1 y0 y1,F.aa _ _ _ m0 m1 d0 d1 k0 k1]
theorem wd_take {q n k : Nat} {u : List Int} (h : Wd q n u) (hk : k ≤ n) : Wd q k (u.take k):=⟨by rw [List.length_take,h.1];omega,fun x hx=>h.2 x (List.mem_of_mem_take hx)⟩
theorem wd_at {q n k : Nat} {u : List Int} (h : Wd q n u) (hk : k < n) : 0 ≤ u.getD k default ∧ u.getD k default < q:=h.2 _ (List.mem_of_getElem? (i:=k) (by rw [List.getD_eq_getElem?_getD,List.getElem?_eq_getElem (by rw [h.1];exact hk)];rfl))
theorem take_getD {u : List Int} {k : Nat} (hk : k < u.length) : u.take (k + 1) = u.take k++[u.getD k default]:=by
 rw [List.take_succ_eq_append_getElem hk,List.getD_eq_getElem?_getD,List.getElem?_eq_getElem hk];rfl
theorem S_codewrightref04_Dot {p m nm cm n na ca nb cb : Nat} {md a b : List Int} {pm pa pb : Option Addr} (K : Fok p m md) (ha : Wd (p ^ m) n a) (hb : Wd (p ^ m) n b) :
  Ctr Try.prog 59 [.agg #[.int .i64 p,.int .i64 m,.slice pm nm cm],.slice pa na ca,.slice pb nb cb] [] [slF I64 pm nm cm md,slF I64 pa na ca a,slF I64 pb nb cb b] (Rv (.int .i64 (dotL (aF p m) (mF p m md) a b)) []):=by
 refine Ctr_of_j' (F:=F_codewrightref04_Dot) rfl fun C=>?_
 have h2:=K.q
 have F:=K.fi
 refine j_len 1 rfl fun e1 hba _=>?_
 refine j_len 2 rfl fun e2 _ _=>?_
 have hba' : a.length * 8 ≤ 140737488355328:=hba
 rw [ha.1] at e1 hba'
 rw [hb.1] at e2
 subst e1;subst e2
 refine j_nf [_,_] rfl ?_
 refine j_step rfl (x_box_agg rfl fun b1=>?_)
 refine j_run it 1 rfl (by simp) ?_
 refine j_nf [_,_] rfl ?_
 refine j_run it 1 rfl (by simp) ?_
 refine j_nf [_,_,_] rfl ?_
 refine j_run it 1 rfl (by simp) ?_
 refine j_nf [_,_,_] rfl ?_
 refine j_loopG (X:=Nat) [1,2,3,6] [0,1,2] (fun k=>[(8,.int .i64 (k : Int)),(7,.int .i64 (dotL (aF p m) (mF p m md) (a.take k) (b.take k)))]) (fun _=>[(some b1,33,[.int .i64 p,.int .i64 m,.slice pm nm cm])]) (fun _=>[]) (fun k=>k ≤ nb) (fun k=>nb - k) 0 [] rfl rfl rfl (Nat.zero_le _) (by repeat (first | exact Fr.sub_nil _ | refine Fr.sub_cons rfl ?_)) rfl rfl ?_
 rintro k hk ih
 simp only [List.cons_append,List.nil_append] at hk ih ⊢
 obtain ⟨d0,d1⟩:=F.dlt (wd_take ha hk) (wd_take hb hk)
 by_cases hkl : k < nb
 ·have wa:=wd_at ha hkl
  have wb:=wd_at hb hkl
  obtain ⟨m0,m1⟩:=F.ml _ _ wa.1 wa.2 wb.1 wb.2
  have ih':=ih (k + 1) (by omega) (by omega)
  rw [take_getD (by rw [ha.1];exact hkl),take_getD (by rw [hb.1];exact hkl),dot_snoc F (wd_take ha hk) (wd_take hb hk) wa.1 wa.2 wb.1 wb.2] at ih'
  have la:=ha.1
  have lb:=hb.1
  generalize dotL (aF p m) (mF p m md) (a.take k) (b.take k) = s at *
  have c_codewrightref04_Mul:=fun {x y : Int} (x0 : 0 ≤ x) (x1 : x < ((p ^ m : Nat) : Int)) (y0 : 0 ≤ y) (y1 : y < ((p ^ m : Nat) : Int))=>S_codewrightref04_Mul (pm:=pm) (nm:=nm) (cm:=cm) K x0 x1 y0 y1
  have c_codewrightref04_Add:=fun {x y : Int} (x0 : 0 ≤ x) (x1 : x < ((p ^ m : Nat) : Int)) (y0 : 0 ≤ y) (y1 : y < ((p ^ m : Nat) : Int))=>S_codewrightref04_Add (pm:=pm) (nm:=nm) (cm:=cm) K x0 x1 y0 y1
  refine j_nf [_,_,_,_,_,_] rfl ?_
  refine j_run it 2 rfl (by simp) ?_
  refine j_step rfl (x_len sl29 rfl ?_)
  refine j_run it 2 rfl (by simp) ?_
  refine j_split_dec (t:=13) rfl (fun h1=>?_) (fun h1=>by exfalso;omega)
  refine j_run it 2 rfl (by simp) ?_
  refine j_gstep rfl rfl (x_len sl29 rfl ?_)
  refine j_run it 2 rfl (by simp) ?_
  refine j_nf [_,_,_,_,_] rfl ?_
  refine j_if rfl rfl (fun h3=>?_) (fun h3=>by exfalso;omega)
  refine j_nf [_,_,_,_,_,_] rfl ?_
  (apply j_drawK it mx 13;(· rfl);(· rfl))
  (apply lxk_eq;(· rfl);(· exact d_bld_all 0 rfl rfl ld33 rfl))
  (apply lxk_run 1;(· rfl);(· simp))
  (apply lxk_eq;(· rfl);(· exact d_bld_all 0 rfl rfl ld33 rfl))
  (apply lxk_run 2;(· rfl);(· simp))
  (apply lxk_pt;(· rfl);(· exact d_x fun _=>x_idx 1 (k) rfl rfl rfl sl29 rfl (by omega) fun z1 hz1 b2 o1=>(dk_ptD default hz1 0 rfl));intro b2 o1)
  (apply lxk_eq;(· rfl);(· exact d_x fun _=>x_ld_int 0 rfl rfl ld3 fun ⟨r1,r2⟩=>dk_eq))
  (apply lxk_run 2;(· rfl);(· simp))
  (apply lxk_pt;(· rfl);(· exact d_x fun _=>x_idx 2 (k) rfl rfl rfl sl29 rfl (by omega) fun z1 hz1 b3 o2=>(dk_ptD default hz1 0 rfl));intro b3 o2)
  (apply lxk_eq;(· rfl);(· exact d_x fun _=>x_ld_int 0 rfl rfl ld3 fun ⟨r1,r2⟩=>dk_eq))
  (apply lxk_eq;(· rfl);(· exact d_x fun _=>x_call [2] rfl (c_codewrightref04_Mul (by omega) (by omega) (by omega) (by omega)) rfl (by rintro _ _ _ ⟨rfl,rfl,rfl⟩;exact dk_eq)))
  (apply lxk_eq;(· rfl);(· exact d_x fun _=>x_call [] rfl (c_codewrightref04_Add (by omega) (by omega) (by omega) (by omega)) rfl (by rintro _ _ _ ⟨rfl,rfl,rfl⟩;exact dk_eq)))
  refine lxk_end rfl ?_
  simp only [List.map_cons,List.map_nil,List.cons_append,List.nil_append]
  refine j_run it 1 rfl (by simp) ?_
  refine j_nf [_,_,_,_] rfl ?_
  refine j_run it 3 rfl ⟨trivial,⟨by omega,by omega⟩,trivial,trivial⟩ ?_
  refine j_nfn 1 [.lp (pL 116),.blk 0,.c [1,1,1]] rfl ?_
  refine j_to [2,3,4] (by exact fra rfl) rfl rfl (ih')
 ·obtain rfl : k = nb:=by omega
  rw [List.take_of_length_le (by rw [ha.1];exact Nat.le_refl _),List.take_of_length_le (by rw [hb.1];exact Nat.le_refl _)]
  refine j_nf [_,_,_,_,_,_] rfl ?_
  refine j_run it 2 rfl (by simp) ?_
  refine j_step rfl (x_len sl29 rfl ?_)
  refine j_run it 2 rfl (by simp) ?_
  refine j_split_dec (t:=13) rfl (fun h1=>by exfalso;omega) (fun h1=>?_)
  refine j_run it 5 rfl (by simp) ?_
  refine j_nf [_,_,_,_,_] rfl ?_
  refine j_false rfl rfl ?_
  refine j_nf [_,_] rfl ?_
  refine j_run it 2 rfl (by simp) ?_
  refine j_nf [_] rfl ?_
  refine j_giv [] rfl rfl rfl ⟨rfl,rfl,rfl⟩
def rowW (q : Int) (n : Nat) (l : List Int) : List Int:=(List.range n).map fun i=>if i < l.length then inI q (l.getD i 0) else 0
theorem inI_rng {q x : Int} (hq : 0 < q) : 0 ≤ inI q x ∧ inI q x < q:=by
 unfold inI;split
 ·assumption
 ·exact ⟨Int.le_refl 0,hq⟩
theorem rowW_wd {q n : Nat} (hq : 0 < q) (l : List Int) : Wd q n (rowW q n l):=⟨by simp [rowW],fun x hx=>by
 obtain ⟨i,_,rfl⟩:=List.mem_map.1 hx
 split
 ·exact inI_rng (by omega)
 ·omega⟩
theorem S_codewrightref24_Row {P M : Int} {n nm cm nl cl : Nat} {pm pl : Option Addr} {l : List Int} (ho : ordP P M) (hn : n ≤ 1000) :
  Ctr Try.prog 32 [.agg #[.int .i64 P,.int .i64 M,.slice pm nm cm],.int .i64 n,.slice pl nl cl] [] [slF I64 pl nl cl l] (SvI n (rowW (ordI P M) n l)):=by
 refine Ctr_of_j' (F:=F_codewrightref24_Row) rfl fun C=>?_
 have hq : 0 < ordI P M ∧ ordI P M ≤ 256:=by
  rw [ordI,if_pos ho]
  have h1:=ho.1
  have:=Nat.pow_pos (n:=M.toNat) (show 0 < P.toNat by omega)
  have:=ho.2.2.2
  omega
 refine j_len 0 rfl fun e1 hba _=>?_
 have hba' : l.length * 8 ≤ 140737488355328:=hba
 subst e1
 generalize hQ : ordI P M = Q at *
 have lT : (rowW Q n l).length = n:=by simp [rowW]
 have rT : ∀ x ∈ rowW Q n l,0 ≤ x ∧ x < Q:=fun x hx=>by
  obtain ⟨i,_,rfl⟩:=List.mem_map.1 hx
  split
  ·exact inI_rng hq.1
  ·exact ⟨Int.le_refl 0,hq.1⟩
 have tz : ∀ i,i < n → (rowW Q n l)[i]? = some (if i < l.length then inI Q (l.getD i 0) else 0):=fun i hi=>by
  rw [rowW,List.getElem?_map,List.getElem?_range hi];rfl
 have eT:=toI_toNat fun x hx=>(rT x hx).1
 have lN : ((rowW Q n l).map Int.toNat).length = n:=by rw [List.length_map,lT]
 have nz : ∀ i,i < n → ((rowW Q n l).map Int.toNat)[i]? = some (if i < l.length then inI Q (l.getD i 0) else 0).toNat:=fun i hi=>by
  rw [List.getElem?_map,tz i hi];rfl
 rw [← eT]
 have rN : ∀ d ∈ (rowW Q n l).map Int.toNat,d ≤ 9223372036854775807:=fun d hd=>by
  obtain ⟨x,hx,rfl⟩:=List.mem_map.1 hd
  have:=rT x hx;omega
 generalize (rowW Q n l).map Int.toNat = T at *
 have c_codewrightref04_In:=fun {x : Int}=>S_codewrightref04_In (P:=P) (M:=M) (x:=x) (pm:=pm) (n:=nm) (c:=cm) (res:=inI Q x) (by rw [hQ])
 refine j_nf [_,_] rfl ?_
 refine j_step rfl (x_box_agg rfl fun b1=>?_)
 refine j_run it 1 rfl (by simp) ?_
 refine j_nf [_,_] rfl ?_
 refine j_run it 1 rfl (by simp) ?_
 refine j_step rfl (x_make_nat (n) _ rfl rfl sl29 zo29e by29e (by omega) (by omega) (by omega) fun b2=>?_)
 refine j_run it 1 rfl (by simp) ?_
 refine j_nf [_,_,_] rfl ?_
 refine j_run it 1 rfl (by simp) ?_
 refine j_nf [_,_,_] rfl ?_
 rw [show List.replicate n 0 = T.take 0++List.replicate (n - 0) 0 by simp]
 refine j_loopG (X:=Nat) [1,2,3,6,7] [0] (fun i=>[(8,.int .i64 (i : Int))]) (fun i=>[(some b2,3,natCells .i64 (T.take i++List.replicate (n - i) 0)),(some b1,33,[.int .i64 P,.int .i64 M,.slice pm nm cm])]) (fun _=>[]) (fun i=>i ≤ n ∧ i ≤ l.length) (fun i=>n - i) 0 [] rfl rfl rfl ⟨Nat.zero_le _,Nat.zero_le _⟩ (by repeat (first | exact Fr.sub_nil _ | refine Fr.sub_cons rfl ?_)) rfl rfl ?_
 rintro i ⟨hi,hil⟩ ih
 simp only [List.cons_append,List.nil_append] at hi hil ih ⊢
 have fin : i = n ∨ i = l.length → T.take i++List.replicate (n - i) 0 = T:=fun h=>by
  refine List.ext_getElem? fun j=>?_
  have hl : (T.take i).length = i:=by rw [List.length_take];omega
  by_cases hj : j < i
  ·rw [List.getElem?_append_left (by omega),List.getElem?_take,if_pos hj]
  ·rw [List.getElem?_append_right (by omega),hl,List.getElem?_replicate]
   by_cases hjn : j < n
   ·rw [if_pos (by omega),nz j hjn,if_neg (by omega)];rfl
   ·rw [if_neg (by omega),List.getElem?_eq_none (by omega)]
 by_cases h1 : i < n
 ·by_cases h2 : i < l.length
  ·have ih':=ih (i + 1) (by omega) ⟨by omega,by omega⟩
   have zz:=nz i h1
   rw [if_pos h2] at zz
   have hdd : l.getD i 0 = l.getD i default:=rfl
   rw [hdd] at zz
   have br:=inI_rng (q:=Q) (x:=l.getD i default) hq.1
   rw [← fill_set lN h1 zz] at ih'
   have lf : (T.take i++List.replicate (n - i) 0).length = n:=by rw [List.length_append,List.length_take,List.length_replicate];omega
   have en : (((inI Q (l.getD i default)).toNat : Nat) : Int) = inI Q (l.getD i default):=Int.toNat_of_nonneg br.1
   refine j_nf [_,_,_,_,_,_] rfl ?_
   refine j_run it 4 rfl (by simp) ?_
   refine j_split_dec (t:=14) rfl (fun h3=>?_) (fun h3=>by exfalso;omega)
   refine j_run it 2 rfl (by simp) ?_
   refine j_gstep rfl rfl (x_len sl29 rfl ?_)
   refine j_run it 2 rfl (by simp) ?_
   refine j_nf [_,_,_,_,_] rfl ?_
   refine j_if rfl rfl (fun h4=>?_) (fun h4=>by exfalso;omega)
   refine j_nf [_,_,_,_,_,_] rfl ?_
   (apply j_drawK it mx 8;(· rfl);(· rfl))
   (apply lxk_run 2;(· rfl);(· simp))
   (apply lxk_eq;(· rfl);(· exact d_bld_all 1 rfl rfl ld33 rfl))
   (apply lxk_run 2;(· rfl);(· simp))
   (apply lxk_pt;(· rfl);(· exact d_x fun _=>x_idx 0 (i) rfl rfl rfl sl29 rfl (by omega) fun z1 hz1 b3 o1=>(dk_ptD default hz1 0 rfl));intro b3 o1)
   (apply lxk_eq;(· rfl);(· exact d_x fun _=>x_ld_int 0 rfl rfl ld3 fun ⟨r1,r2⟩=>dk_eq))
   (apply lxk_eq;(· rfl);(· exact d_x fun _=>x_call [] rfl (c_codewrightref04_In) rfl (by rintro _ _ _ ⟨rfl,rfl,rfl⟩;exact dk_eq)))
   refine lxk_end rfl ?_
   simp only [List.map_cons,List.map_nil,List.cons_append,List.nil_append]
   refine j_step rfl (x_idx_own (i) (i) rfl rfl sl29 rfl (by omega) (Nat.mul_one _) ?_)
   refine j_step rfl (x_bst_nat 0 ((inI Q (l.getD i default) : Int).toNat) rfl rfl rfl ld3 (by first | rfl | omega) (by first | omega | (simp;omega)) ?_)
   refine j_nf [_,_,_,_] rfl ?_
   refine j_run it 3 rfl ⟨trivial,⟨by omega,by omega⟩,trivial,trivial⟩ ?_
   refine j_nfn 1 [.lp (pL 116),.blk 0,.c [1,1,1]] rfl ?_
   refine j_to [1] (by exact fra rfl) rfl rfl (ih')
  ·rw [fin (.inr (by omega)),natCells_toI]
   refine j_nf [_,_,_,_,_,_] rfl ?_
   refine j_run it 4 rfl (by simp) ?_
   refine j_split_dec (t:=14) rfl (fun h3=>?_) (fun h3=>by exfalso;omega)
   refine j_run it 2 rfl (by simp) ?_
   refine j_gstep rfl rfl (x_len sl29 rfl ?_)
   refine j_run it 2 rfl (by simp) ?_
   refine j_nf [_,_,_,_,_] rfl ?_
   refine j_if rfl rfl (fun h4=>by exfalso;omega) (fun h4=>?_)
   refine j_nf [_,_] rfl ?_
   refine j_run it 2 rfl (by simp) ?_
   refine j_nf [_] rfl ?_
   refine j_pub_madei 8 (toI T) 0 rfl (by rw [toI_len,lN]) (toI_rng rN) (by omega) (by omega) ?_
   refine j_giv [0] rfl rfl rfl ⟨_,_,rfl,rfl,rfl⟩
 ·rw [fin (.inl (by omega)),natCells_toI]
  refine j_nf [_,_,_,_,_,_] rfl ?_
  refine j_run it 4 rfl (by simp) ?_
  refine j_split_dec (t:=14) rfl (fun h2=>by exfalso;omega) (fun h2=>?_)
  refine j_run it 5 rfl (by simp) ?_
  refine j_nf [_,_,_,_,_] rfl ?_
  refine j_false rfl rfl ?_
  refine j_nf [_,_] rfl ?_
  refine j_run it 2 rfl (by simp) ?_
  refine j_nf [_] rfl ?_
  refine j_pub_madei 8 (toI T) 0 rfl (by rw [toI_len,lN]) (toI_rng rN) (by omega) (by omega) ?_
  refine j_giv [0] rfl rfl rfl ⟨_,_,rfl,rfl,rfl⟩
set_option maxHeartbeats 8000000
theorem dist_zero : ∀ {u v : List Int},u.length = v.length → (dist u v = 0 ↔ u = v)
 | [],[],_=>⟨fun _=>rfl,fun _=>rfl⟩
 | [],_::_,h=>by simp at h
 | _::_,[],h=>by simp at h
 | x::u,y::v,h=>by
  have ih:=dist_zero (u:=u) (v:=v) (by simpa using h)
  rw [dist,List.cons.injEq,← ih]
  by_cases e : x = y
  ·rw [if_pos e];exact ⟨fun h=>⟨e,by omega⟩,fun h=>by omega⟩
  ·rw [if_neg e];exact ⟨fun h=>by omega,fun h=>absurd h.1 e⟩
theorem S_codewrightref24_has {pl pw : Option Addr} {nl cl nw cw n : Nat} {L : List (List Int)} {w : List Int} (hL : ∀ u ∈ L,u.length = n) (hw : w.length = n) {res : Bool} (hres : decide (w ∈ L) = res) :
  Ctr Try.prog 55 [.slice pl nl cl,.slice pw nw cw] [] [slF (encSl I64) pl nl cl L,slF I64 pw nw cw w] (Rv (.bool res) []):=by
 subst hres
 refine Ctr_of_j' (F:=F_codewrightref24_has) rfl fun C=>?_
 refine j_len 0 rfl fun e1 hb1 _=>?_
 refine j_len 1 rfl fun e2 _ _=>?_
 have hb1' : L.length * 24 ≤ 140737488355328:=hb1
 subst e1
 rw [hw] at e2
 subst e2
 refine j_nf [_,_] rfl (j_run it 1 rfl (by simp) ?_)
 refine j_nf [_,_,_] rfl (j_run it 1 rfl (by simp) ?_)
 refine j_nf [_,_,_] rfl ?_
 refine j_loopG (X:=Nat) [0,1] [0,1] (fun i=>[(5,.int .i64 (i : Int))]) (fun _=>[]) (fun _=>[]) (fun i=>i ≤ L.length ∧ w ∉ L.take i) (fun i=>L.length - i) 0 [] rfl rfl rfl ⟨Nat.zero_le _,by simp⟩ (by repeat (first | exact Fr.sub_nil _ | refine Fr.sub_cons rfl ?_)) rfl rfl ?_
 rintro i ⟨hi,hn⟩ ih
 simp only [List.cons_append,List.nil_append] at hi hn ih ⊢
 by_cases hil : i < L.length
 ·have hz : L[i]? = some (L.getD i default):=by rw [List.getD_eq_getElem?_getD,List.getElem?_eq_getElem hil];rfl
  have hl:=hL _ (List.mem_of_getElem? hz)
  have hdz:=dist_zero (u:=L.getD i default) (v:=w) (by rw [hl,hw])
  have htk : L.take (i + 1) = L.take i++[L.getD i default]:=by rw [List.take_succ_eq_append_getElem hil,List.getD_eq_getElem?_getD,List.getElem?_eq_getElem hil];rfl
  by_cases hd : dist (L.getD i default) w = 0
  ·rw [decide_eq_true (by rw [← hdz.1 hd];exact List.mem_of_getElem? hz)]
   refine j_nf [_,_,_,_,_,_] rfl (j_run it 2 rfl (by simp) ?_)
   refine j_step rfl (x_len sl22 rfl ?_)
   refine j_run it 1 rfl (by simp) ?_
   refine j_nf [_,_,_,_,_] rfl (j_if rfl rfl (fun h1=>?_) (fun h1=>by exfalso;omega))
   refine j_nf [_,_,_,_,_,_,_] rfl (j_run it 2 rfl (by simp) ?_)
   refine j_step rfl (x_idx 0 (i) rfl rfl rfl sl22 rfl (by omega) fun z1 hz1 b1 o1=>?_)
   refine j_step rfl (x_ld_sl 0 rfl rfl ld29 fun pa1 ca1=>?_)
   refine j_run it 1 rfl (by simp) ?_
   obtain rfl : z1 = L.getD i default:=Option.some.inj (hz1.symm.trans hz)
   refine j_step rfl (x_call [0,3] rfl (S_codewrightref24_Distance (by omega)) rfl ?_)
   rintro _ _ _ ⟨rfl,rfl,rfl⟩
   simp only [List.cons_append,List.nil_append]
   refine j_run it 1 rfl (by simp) ?_
   refine j_nf [_,_,_,_,_,_] rfl (j_if rfl rfl (fun h2=>?_) (fun h2=>by exfalso;omega))
   refine j_nf [_,_,_,_,_,_,_] rfl (j_run it 1 rfl (by simp) ?_)
   refine j_nf [_,_,_,_,_,_] rfl ?_
   refine j_giv [] rfl rfl rfl ⟨rfl,rfl,rfl⟩
  ·refine j_nf [_,_,_,_,_,_] rfl (j_run it 2 rfl (by simp) ?_)
   refine j_step rfl (x_len sl22 rfl ?_)
   refine j_run it 1 rfl (by simp) ?_
   refine j_nf [_,_,_,_,_] rfl (j_if rfl rfl (fun h1=>?_) (fun h1=>by exfalso;omega))
   refine j_nf [_,_,_,_,_,_,_] rfl (j_run it 2 rfl (by simp) ?_)
   refine j_step rfl (x_idx 0 (i) rfl rfl rfl sl22 rfl (by omega) fun z1 hz1 b1 o1=>?_)
   refine j_step rfl (x_ld_sl 0 rfl rfl ld29 fun pa1 ca1=>?_)
   refine j_run it 1 rfl (by simp) ?_
   obtain rfl : z1 = L.getD i default:=Option.some.inj (hz1.symm.trans hz)
   refine j_step rfl (x_call [0,3] rfl (S_codewrightref24_Distance (by omega)) rfl ?_)
   rintro _ _ _ ⟨rfl,rfl,rfl⟩
   simp only [List.cons_append,List.nil_append]
   refine j_run it 1 rfl (by simp) ?_
   refine j_nf [_,_,_,_,_,_] rfl (j_if rfl rfl (fun h2=>by exfalso;omega) (fun h2=>?_))
   refine j_nf [_,_,_,_] rfl (j_run it 3 rfl ⟨trivial,⟨by omega,by omega⟩,trivial,trivial⟩ ?_)
   refine j_nfn 1 [.lp [1,0,1,0,0],.blk 0,.c [1,1]] rfl ?_
   refine j_to [2,3] (by exact fra rfl) rfl rfl (ih (i + 1) (by omega) ⟨by omega,fun hm=>by
    rw [htk] at hm
    rcases List.mem_append.1 hm with h | h
    ·exact hn h
    ·rw [List.mem_singleton] at h
     exact hd (by rw [← h];exact (dist_zero rfl).2 rfl)⟩)
 ·obtain rfl : i = L.length:=by omega
  rw [List.take_length] at hn
  rw [decide_eq_false hn]
  refine j_nf [_,_,_,_,_,_] rfl (j_run it 2 rfl (by simp) ?_)
  refine j_step rfl (x_len sl22 rfl ?_)
  refine j_run it 1 rfl (by simp) ?_
  refine j_nf [_,_,_,_,_] rfl (j_if rfl rfl (fun h1=>by exfalso;omega) (fun h1=>?_))
  refine j_nf [_,_] rfl (j_run it 1 rfl (by simp) ?_)
  refine j_nf [_] rfl ?_
  refine j_giv [] rfl rfl rfl ⟨rfl,rfl,rfl⟩
theorem wd_nth {q n : Nat} {L : List (List Int)} (h : ∀ u ∈ L,Wd q n u) {i : Nat} (hi : i < L.length) : Wd q n (L.getD i default):=h _ (List.mem_of_getElem? (i:=i) (by rw [List.getD_eq_getElem?_getD,List.getElem?_eq_getElem hi];rfl))
theorem axp_at {A M : Int → Int → Int} {a : Int} {r u : List Int} {k n : Nat} (hr : r.length = n) (hu : u.length = n) (hk : k < n) : (axp A M a r u)[k]? = some (A (u.getD k default) (M a (r.getD k default))):=by
 rw [axp,List.getElem?_zipWith,List.getD_eq_getElem?_getD,List.getD_eq_getElem?_getD,List.getElem?_eq_getElem (by omega),List.getElem?_eq_getElem (by omega)];rfl
abbrev SpanE (n : Nat) (o : Option (List (List Int))) : Value → List Fact → List Blk → Prop:=fun v Φ β=>∃ (L : List (List Int)) (pa : Option Addr) (ca : Nat),L = o.getD [] ∧ v = .slice pa L.length ca ∧ Φ = [slF (encSl I64) pa L.length ca L] ∧ β = []
theorem S_codewrightref24_Span {p m nm cm n most nr cr : Nat} {md : List Int} {pm pr : Option Addr} {rows : List (List Int)} (K : Fok p m md) (hn : n ≤ 100) (hmost : most ≤ 100000) :
  Ctr Try.prog 30 [.agg #[.int .i64 p,.int .i64 m,.slice pm nm cm],.int .i64 n,.slice pr nr cr,.int .i64 most] [] [slF I64 pm nm cm md,slF (encSl I64) pr nr cr rows]
   (SpanE n (spanS (p ^ m) most (aF p m) (mF p m md) (rows.map (rowW ((p ^ m : Nat) : Int) n)) [zW n])):=by
 refine Ctr_of_j' (F:=F_codewrightref24_Span) rfl fun C=>?_
 have F:=K.fi
 have hq2:=F.q2
 have hq:=K.q
 have hord:=K.ord
 have hordP : ordP (p : Int) (m : Int):=by
  have:=K.p2;have:=K.m1;have:=K.m8
  exact ⟨by omega,by omega,by omega,by simpa using K.q⟩
 refine j_len 1 rfl fun e1 hb1 _=>?_
 have hb1' : rows.length * 24 ≤ 140737488355328:=hb1
 subst e1
 have c_codewrightref04_Mul:=fun {x y : Int} (x0 : 0 ≤ x) (x1 : x < ((p ^ m : Nat) : Int)) (y0 : 0 ≤ y) (y1 : y < ((p ^ m : Nat) : Int))=>S_codewrightref04_Mul (pm:=pm) (nm:=nm) (cm:=cm) K x0 x1 y0 y1
 have c_codewrightref04_Add:=fun {x y : Int} (x0 : 0 ≤ x) (x1 : x < ((p ^ m : Nat) : Int)) (y0 : 0 ≤ y) (y1 : y < ((p ^ m : Nat) : Int))=>S_codewrightref04_Add (pm:=pm) (nm:=nm) (cm:=cm) K x0 x1 y0 y1
 have c_codewrightref04_Order:=S_codewrightref04_Order (P:=(p : Int)) (M:=(m : Int)) (pm:=pm) (n:=nm) (c:=cm) hord
 have c_codewrightref24_Row:=fun {pl : Option Addr} {nl cl : Nat} {l : List Int}=>S_codewrightref24_Row (P:=(p : Int)) (M:=(m : Int)) (n:=n) (nm:=nm) (cm:=cm) (nl:=nl) (cl:=cl) (pm:=pm) (pl:=pl) (l:=l) hordP (by omega)
 rw [hord] at c_codewrightref24_Row
 have hqI : (2 : Int) ≤ ((p ^ m : Nat) : Int) ∧ ((p ^ m : Nat) : Int) ≤ 256:=by omega
 generalize hQ : p ^ m = q at *
 refine j_nf [_,_] rfl ?_
 refine j_step rfl (x_box_agg rfl fun b1=>?_)
 refine j_run it 1 rfl (by simp) ?_
 refine j_nf [_,_] rfl ?_
 refine j_run it 1 rfl (by simp) ?_
 refine j_step rfl (x_make_nat (n) _ rfl rfl sl29 zo29e by29e (by omega) (by omega) (by omega) fun b2=>?_)
 refine j_step rfl (x_lit sl22 zo22e rfl rfl rfl rfl (by decide) (by decide) rfl fun b3=>?_)
 refine j_run it 1 rfl (by simp) ?_
 refine j_nf [_,_,_] rfl ?_
 refine j_run it 1 rfl (by simp) ?_
 refine j_nf [_,_,_] rfl ?_
 rw [natCells_toI,toI_zeros]
 refine j_pub_madei (n:=n) 8 (zW n) 1 rfl (by simp) (fun x hx=>by rw [(List.mem_replicate.1 hx).2];simp [InR]) (by omega) (by omega) ?_
 simp only [List.eraseIdx_cons_zero,List.eraseIdx_cons_succ]
 refine j_pub_row (E:=I64) (n:=1) [0] [[.slice (some ⟨b2,0,none⟩) n n]] [zW n] 0 rfl rfl ⟨rfl,trivial⟩ rfl rfl (by decide) ?_
 simp only [List.eraseIdx_cons_zero]
 have rwd : ∀ l,Wd q n (rowW (q : Int) n l):=fun l=>rowW_wd (by omega) l
 generalize hR : rows.map (rowW (q : Int) n) = rows' at *
 have lR : rows'.length = rows.length:=by rw [← hR,List.length_map]
 have zR : ∀ i,i < rows.length → rows'.drop i = rowW (q : Int) n (rows.getD i default)::rows'.drop (i + 1):=fun i hi=>by
  rw [List.drop_eq_getElem_cons (by omega)]
  congr 1
  subst hR
  rw [List.getElem_map,List.getD_eq_getElem?_getD,List.getElem?_eq_getElem hi];rfl
 generalize hS : spanS q most (aF p m) (mF p m md) rows' [zW n] = res
 refine j_loopG (X:=Nat × List (List Int) × Option Addr × Nat) [1,2,3,4] [1,2,3] (fun x=>[(10,.int .i64 (x.1 : Int)),(9,.slice x.2.2.1 x.2.1.length x.2.2.2)]) (fun _=>[(some b1,33,[.int .i64 p,.int .i64 m,.slice pm nm cm])]) (fun x=>[slF (encSl I64) x.2.2.1 x.2.1.length x.2.2.2 x.2.1])
  (fun x=>x.1 ≤ rows.length ∧ (∀ u ∈ x.2.1,Wd q n u) ∧ x.2.1.length ≤ 100000 ∧ spanS q most (aF p m) (mF p m md) (rows'.drop x.1) x.2.1 = res) (fun x=>rows.length - x.1) (0,[zW n],some ⟨b3,0,none⟩,1) [0] rfl rfl rfl ⟨Nat.zero_le _,fun u hu=>by rw [List.mem_singleton.1 hu];exact zW_wd hq2,by simp,hS⟩ (by repeat (first | exact Fr.sub_nil _ | refine Fr.sub_cons rfl ?_)) rfl rfl ?_
 rintro ⟨i,L,pa,ca⟩ ⟨hi,hw,hlen,he⟩ ih
 simp only [List.cons_append,List.nil_append] at hi hw hlen he ih ⊢
 by_cases hil : i < rows.length
 ·have hz : rows[i]? = some (rows.getD i default):=by rw [List.getD_eq_getElem?_getD,List.getElem?_eq_getElem hil];rfl
  rw [zR i hil,spanS] at he
  have hrw:=rwd (rows.getD i default)
  have c_codewrightref24_has:=fun {pl pw : Option Addr} {nl cl nw cw : Nat} {res : Bool} hres=>S_codewrightref24_has (pl:=pl) (pw:=pw) (nl:=nl) (cl:=cl) (nw:=nw) (cw:=cw) (n:=n) (L:=L) (w:=rowW (q : Int) n (rows.getD i default)) (fun u hu=>(hw u hu).1) hrw.1 (res:=res) hres
  by_cases hm : rowW (q : Int) n (rows.getD i default) ∈ L
  ·rw [if_pos hm] at he
   have hd:=decide_eq_true hm
   refine j_nf [_,_,_,_,_,_] rfl ?_
   refine j_run it 2 rfl (by simp) ?_
   refine j_step rfl (x_len sl22 rfl ?_)
   refine j_run it 1 rfl (by simp) ?_
   refine j_nf [_,_,_,_,_] rfl ?_
   refine j_if rfl rfl (fun h1=>?_) (fun h1=>by exfalso;omega)
   refine j_nf [_,_,_,_,_,_,_] rfl ?_
   (apply j_drawK it mx 7;(· rfl);(· rfl))
   (apply lxk_eq;(· rfl);(· exact d_bld_all 0 rfl rfl ld33 rfl))
   (apply lxk_run 3;(· rfl);(· simp))
   (apply lxk_pt;(· rfl);(· exact d_x fun _=>x_idx 3 (i) rfl rfl rfl sl22 rfl (by omega) fun z1 hz1 b4 o1=>(dk_ptD default hz1 0 rfl));intro b4 o1)
   (apply lxk_sl;(· rfl);(· exact d_x fun _=>x_ld_sl 0 rfl rfl ld29 fun pa1 ca1=>(dk_sl 0 rfl));intro pa1 ca1)
   (apply lxk_sl;(· rfl);(· exact d_x fun _=>x_call [0] rfl (c_codewrightref24_Row) rfl (by rintro _ _ _ ⟨pa2,ca2,rfl,rfl,rfl⟩;exact (dk_sl 0 rfl)));intro pa2 ca2)
   refine lxk_end rfl ?_
   simp only [List.map_cons,List.map_nil,List.cons_append,List.nil_append]
   refine j_run it 1 rfl (by simp) ?_
   refine j_nf [_,_,_,_,_,_,_,_] rfl ?_
   refine j_run it 2 rfl (by simp) ?_
   refine j_step rfl (x_call [3,0] rfl (c_codewrightref24_has (by omega)) rfl ?_)
   rintro _ _ _ ⟨rfl,rfl,rfl⟩
   simp only [List.cons_append,List.nil_append]
   refine j_nf [_,_,_,_,_,_,_] rfl ?_
   refine j_true rfl rfl ?_
   refine j_nf [_,_,_,_] rfl ?_
   refine j_run it 3 rfl ⟨trivial,⟨by omega,by omega⟩,trivial,trivial⟩ ?_
   refine j_nfn 1 [.lp (pL 116),.blk 0,.c [1,1,1]] rfl ?_
   refine j_to [3,4,5,6] (by exact fra rfl) rfl rfl (ih (i + 1,L,pa,ca) (by dsimp only;omega) ⟨by dsimp only;omega,hw,hlen,he⟩)
  ·rw [if_neg hm] at he
   have hd:=decide_eq_false hm
   have hdiv : (most : Int) / (q : Int) = ((most / q : Nat) : Int):=(Int.natCast_ediv _ _).symm
   by_cases hb : most / q < L.length
   ·rw [if_pos hb] at he
    subst he
    refine j_nf [_,_,_,_,_,_] rfl ?_
    refine j_run it 2 rfl (by simp) ?_
    refine j_step rfl (x_len sl22 rfl ?_)
    refine j_run it 1 rfl (by simp) ?_
    refine j_nf [_,_,_,_,_] rfl ?_
    refine j_if rfl rfl (fun h1=>?_) (fun h1=>by exfalso;omega)
    refine j_nf [_,_,_,_,_,_,_] rfl ?_
    (apply j_drawK it mx 7;(· rfl);(· rfl))
    (apply lxk_eq;(· rfl);(· exact d_bld_all 0 rfl rfl ld33 rfl))
    (apply lxk_run 3;(· rfl);(· simp))
    (apply lxk_pt;(· rfl);(· exact d_x fun _=>x_idx 3 (i) rfl rfl rfl sl22 rfl (by omega) fun z1 hz1 b4 o1=>(dk_ptD default hz1 0 rfl));intro b4 o1)
    (apply lxk_sl;(· rfl);(· exact d_x fun _=>x_ld_sl 0 rfl rfl ld29 fun pa1 ca1=>(dk_sl 0 rfl));intro pa1 ca1)
    (apply lxk_sl;(· rfl);(· exact d_x fun _=>x_call [0] rfl (c_codewrightref24_Row) rfl (by rintro _ _ _ ⟨pa2,ca2,rfl,rfl,rfl⟩;exact (dk_sl 0 rfl)));intro pa2 ca2)
    refine lxk_end rfl ?_
    simp only [List.map_cons,List.map_nil,List.cons_append,List.nil_append]
    refine j_run it 1 rfl (by simp) ?_
    refine j_nf [_,_,_,_,_,_,_,_] rfl ?_
    refine j_run it 2 rfl (by simp) ?_
    refine j_step rfl (x_call [3,0] rfl (c_codewrightref24_has (by omega)) rfl ?_)
    rintro _ _ _ ⟨rfl,rfl,rfl⟩
    simp only [List.cons_append,List.nil_append]
    refine j_nf [_,_,_,_,_,_,_] rfl ?_
    refine j_false rfl rfl ?_
    refine j_nf [_,_,_,_,_,_,_,_] rfl ?_
    refine j_run it 1 rfl (by simp) ?_
    refine j_step rfl (x_len sl22 rfl ?_)
    refine j_run it 1 rfl (by simp) ?_
    refine j_step rfl (x_bld_all 0 rfl rfl ld33 rfl ?_)
    refine j_step rfl (x_call [] rfl (c_codewrightref04_Order) rfl ?_)
    rintro _ _ _ ⟨rfl,rfl,rfl⟩
    simp only [List.cons_append,List.nil_append]
    refine j_run it 2 rfl ⟨trivial,⟨by omega,by omega,by omega,by omega⟩,trivial⟩ ?_
    refine j_nf [_,_,_,_,_,_,_] rfl ?_
    refine j_if rfl rfl (fun h2=>?_) (fun h2=>by exfalso;omega)
    refine j_nf [_,_,_,_,_,_,_,_] rfl ?_
    refine j_run it 1 rfl (by simp) ?_
    refine j_nf [_,_,_,_,_,_,_] rfl ?_
    refine j_add (slF (encSl I64) none 0 0 []) (fun w A _=>slF_nil _ _ _ _ _) ?_
    refine j_giv [0] rfl rfl rfl ⟨[],_,_,rfl,rfl,rfl,rfl⟩
   ·rw [if_neg hb] at he
    have hqL : q * L.length ≤ 100000:=by
     have h1 : q * L.length ≤ q * (most / q):=Nat.mul_le_mul_left _ (by omega)
     have h2:=Nat.mul_div_le most q
     omega
    refine j_nf [_,_,_,_,_,_] rfl ?_
    refine j_run it 2 rfl (by simp) ?_
    refine j_step rfl (x_len sl22 rfl ?_)
    refine j_run it 1 rfl (by simp) ?_
    refine j_nf [_,_,_,_,_] rfl ?_
    refine j_if rfl rfl (fun h1=>?_) (fun h1=>by exfalso;omega)
    refine j_nf [_,_,_,_,_,_,_] rfl ?_
    (apply j_drawK it mx 7;(· rfl);(· rfl))
    (apply lxk_eq;(· rfl);(· exact d_bld_all 0 rfl rfl ld33 rfl))
    (apply lxk_run 3;(· rfl);(· simp))
    (apply lxk_pt;(· rfl);(· exact d_x fun _=>x_idx 3 (i) rfl rfl rfl sl22 rfl (by omega) fun z1 hz1 b4 o1=>(dk_ptD default hz1 0 rfl));intro b4 o1)
    (apply lxk_sl;(· rfl);(· exact d_x fun _=>x_ld_sl 0 rfl rfl ld29 fun pa1 ca1=>(dk_sl 0 rfl));intro pa1 ca1)
    (apply lxk_sl;(· rfl);(· exact d_x fun _=>x_call [0] rfl (c_codewrightref24_Row) rfl (by rintro _ _ _ ⟨pa2,ca2,rfl,rfl,rfl⟩;exact (dk_sl 0 rfl)));intro pa2 ca2)
    refine lxk_end rfl ?_
    simp only [List.map_cons,List.map_nil,List.cons_append,List.nil_append]
    refine j_run it 1 rfl (by simp) ?_
    refine j_nf [_,_,_,_,_,_,_,_] rfl ?_
    refine j_run it 2 rfl (by simp) ?_
    refine j_step rfl (x_call [3,0] rfl (c_codewrightref24_has (by omega)) rfl ?_)
    rintro _ _ _ ⟨rfl,rfl,rfl⟩
    simp only [List.cons_append,List.nil_append]
    refine j_nf [_,_,_,_,_,_,_] rfl ?_
    refine j_false rfl rfl ?_
    refine j_nf [_,_,_,_,_,_,_,_] rfl ?_
    refine j_run it 1 rfl (by simp) ?_
    refine j_step rfl (x_len sl22 rfl ?_)
    refine j_run it 1 rfl (by simp) ?_
    refine j_step rfl (x_bld_all 0 rfl rfl ld33 rfl ?_)
    refine j_step rfl (x_call [] rfl (c_codewrightref04_Order) rfl ?_)
    rintro _ _ _ ⟨rfl,rfl,rfl⟩
    simp only [List.cons_append,List.nil_append]
    refine j_run it 2 rfl ⟨trivial,⟨by omega,by omega,by omega,by omega⟩,trivial⟩ ?_
    refine j_nf [_,_,_,_,_,_,_] rfl ?_
    refine j_if rfl rfl (fun h2=>by exfalso;omega) (fun h2=>?_)
    refine j_nf [_,_,_,_,_,_,_] rfl ?_
    refine j_run it 1 rfl (by simp) ?_
    refine j_nf [_,_,_,_,_,_,_,_] rfl ?_
    refine j_run it 1 rfl (by simp) ?_
    refine j_nf [_,_,_,_,_,_,_,_] rfl ?_
    clear c_codewrightref24_has
    generalize rowW (q : Int) n (rows.getD i default) = R at *
    refine j_row0 (encSl I64) 29 ?_
    refine j_loopG (X:=Nat × Row) [1,2,3,4,9,10,11,20,21,22,23,26,27,28,29,30,31,32,33,34,35,36,37,38,39,40,41,42] [0,1,2,3,4,5,6,7] (fun x=>[(13,.int .i64 (x.1 : Int)),(12,.slice (ad x.2.bo) (L.length * x.1) x.2.cap)]) (fun x=>[(x.2.bo,29,x.2.cs),(some b1,33,[.int .i64 p,.int .i64 m,.slice pm nm cm])]) (fun x=>[rowF (encSl I64) x.2 (L.length * x.1) ((List.range x.1).flatMap fun a : Nat=>L.map fun u=>axp (aF p m) (mF p m md) a R u)])
     (fun x=>x.1 ≤ q) (fun x=>q - x.1) (0,⟨none,0,[]⟩) [0] rfl rfl rfl (Nat.zero_le _) (by repeat (first | exact Fr.sub_nil _ | refine Fr.sub_cons rfl ?_)) rfl rfl ?_
    rintro ⟨a,r⟩ ha ih2
    simp only [List.cons_append,List.nil_append] at ha ih2 ⊢
    by_cases haq : a < q
    ·have hk : L.length * a + L.length ≤ 100000:=by
      have : L.length * a + L.length = L.length * (a + 1):=rfl
      have:=Nat.mul_le_mul_left L.length (show a + 1 ≤ q by omega)
      rw [Nat.mul_comm q] at hqL
      omega
     have ih2':=fun r1=>ih2 (a + 1,r1) (by dsimp only;omega) (by dsimp only;omega)
     dsimp only at ih2'
     clear ih2
     rw [Nat.mul_succ,List.range_succ,List.flatMap_append,List.flatMap_cons,List.flatMap_nil,List.append_nil] at ih2'
     generalize hf : ((List.range a).flatMap fun a : Nat=>L.map fun u=>axp (aF p m) (mF p m md) a R u) = fl at *
     generalize hal : L.length * a = al at *
     refine j_nf [_,_,_,_,_,_,_,_,_,_,_] rfl ?_
     refine j_run it 1 rfl (by simp) ?_
     refine j_step rfl (x_bld_all 1 rfl rfl ld33 rfl ?_)
     refine j_step rfl (x_call [] rfl (c_codewrightref04_Order) rfl ?_)
     rintro _ _ _ ⟨rfl,rfl,rfl⟩
     simp only [List.cons_append,List.nil_append]
     refine j_run it 1 rfl (by simp) ?_
     refine j_nf [_,_,_,_,_,_,_,_,_,_] rfl ?_
     refine j_if rfl rfl (fun h3=>?_) (fun h3=>by exfalso;omega)
     refine j_nf [_,_,_,_,_,_,_,_,_,_,_,_] rfl ?_
     refine j_run it 1 rfl (by simp) ?_
     refine j_nf [_,_,_,_,_,_,_,_,_,_,_,_] rfl ?_
     rw [show fl = fl++(L.take 0).map fun u=>axp (aF p m) (mF p m md) a R u by simp]
     refine j_loopG (X:=Nat × Row) [1,2,3,4,9,10,11,13,20,21,22,23,26,27,28,29,30,31,32,33,34,35,36,37,38,39,40,41,42,43,44,45,46] [0,1,2,3,4,5,6,7,8] (fun x=>[(14,.int .i64 (x.1 : Int)),(12,.slice (ad x.2.bo) (al + x.1) x.2.cap)]) (fun x=>[(x.2.bo,29,x.2.cs),(some b1,33,[.int .i64 p,.int .i64 m,.slice pm nm cm])]) (fun x=>[rowF (encSl I64) x.2 (al + x.1) (fl++(L.take x.1).map fun u=>axp (aF p m) (mF p m md) a R u)])
      (fun x=>x.1 ≤ L.length) (fun x=>L.length - x.1) (0,r) [0] rfl rfl rfl (Nat.zero_le _) (by repeat (first | exact Fr.sub_nil _ | refine Fr.sub_cons rfl ?_)) rfl rfl ?_
     rintro ⟨j,r2⟩ hj ih3
     simp only [List.cons_append,List.nil_append] at hj ih3 ⊢
     by_cases hjl : j < L.length
     ·have hz2 : L[j]? = some (L.getD j default):=by rw [List.getD_eq_getElem?_getD,List.getElem?_eq_getElem hjl];rfl
      have wu:=wd_nth hw hjl
      have ih3':=fun r1=>ih3 (j + 1,r1) (by dsimp only;omega) (by dsimp only;omega)
      dsimp only at ih3'
      clear ih3
      rw [← Nat.add_assoc,show L.take (j + 1) = L.take j++[L.getD j default] by rw [List.take_succ_eq_append_getElem hjl,List.getD_eq_getElem?_getD,List.getElem?_eq_getElem hjl];rfl,List.map_append,List.map_cons,List.map_nil,← List.append_assoc] at ih3'
      refine j_nf [_,_,_,_,_,_,_,_,_,_,_,_,_,_,_] rfl ?_
      refine j_run it 2 rfl (by simp) ?_
      refine j_step rfl (x_len sl22 rfl ?_)
      refine j_run it 1 rfl (by simp) ?_
      refine j_nf [_,_,_,_,_,_,_,_,_,_,_,_,_,_] rfl ?_
      refine j_if rfl rfl (fun h4=>?_) (fun h4=>by exfalso;omega)
      refine j_nf [_,_,_,_,_,_,_,_,_,_,_,_,_,_,_,_] rfl ?_
      refine j_run it 1 rfl (by simp) ?_
      refine j_step rfl (x_make_nat (n) _ rfl rfl sl29 zo29e by29e (by omega) (by omega) (by omega) fun b5=>?_)
      refine j_run it 1 rfl (by simp) ?_
      refine j_nf [_,_,_,_,_,_,_,_,_,_,_,_,_,_,_,_,_] rfl ?_
      refine j_run it 1 rfl (by simp) ?_
      refine j_nf [_,_,_,_,_,_,_,_,_,_,_,_,_,_,_,_,_] rfl ?_
      have wW : Wd q n (axp (aF p m) (mF p m md) a R (L.getD j default)):=F.axw (by omega) (by omega) hrw wu
      have lu:=wu.1
      have lR2:=hrw.1
      have tz : ∀ k,k < n → (axp (aF p m) (mF p m md) a R (L.getD j default))[k]? = some (aF p m ((L.getD j default).getD k default) (mF p m md a (R.getD k default))):=fun k hk=>axp_at lR2 lu hk
      have eT:=toI_toNat fun x hx=>(wW.2 x hx).1
      have lN : ((axp (aF p m) (mF p m md) a R (L.getD j default)).map Int.toNat).length = n:=by rw [List.length_map,wW.1]
      have nz : ∀ k,k < n → ((axp (aF p m) (mF p m md) a R (L.getD j default)).map Int.toNat)[k]? = some (aF p m ((L.getD j default).getD k default) (mF p m md a (R.getD k default))).toNat:=fun k hk=>by
       rw [List.getElem?_map,tz k hk];rfl
      have rN : ∀ d ∈ (axp (aF p m) (mF p m md) a R (L.getD j default)).map Int.toNat,d ≤ 9223372036854775807:=fun d hd=>by
       obtain ⟨x,hx,rfl⟩:=List.mem_map.1 hd
       have:=wW.2 x hx;omega
      rw [← eT] at ih3'
      generalize (axp (aF p m) (mF p m md) a R (L.getD j default)).map Int.toNat = T at *
      rw [show List.replicate n 0 = T.take 0++List.replicate (n - 0) 0 by simp]
      refine j_loopG (X:=Nat) [1,2,3,4,9,10,11,12,13,14,15,20,21,22,23,26,27,28,29,30,31,32,33,34,35,36,37,38,39,40,41,42,43,44,45,46,49,50,51,52,55,56] [0,1,2,3,4,5,6,7,8,9] (fun k=>[(16,.int .i64 (k : Int))]) (fun k=>[(some b5,3,natCells .i64 (T.take k++List.replicate (n - k) 0)),(r2.bo,29,r2.cs),(some b1,33,[.int .i64 p,.int .i64 m,.slice pm nm cm])]) (fun _=>[]) (fun k=>k ≤ n) (fun k=>n - k) 0 [] rfl rfl rfl (Nat.zero_le _) (by repeat (first | exact Fr.sub_nil _ | refine Fr.sub_cons rfl ?_)) rfl rfl ?_
      rintro k hk4 ih4
      simp only [List.cons_append,List.nil_append] at hk4 ih4 ⊢
      by_cases hkn : k < n
      ·have ih4':=ih4 (k + 1) (by omega) (by omega)
       have zz:=nz k hkn
       rw [← fill_set lN hkn zz] at ih4'
       have lf : (T.take k++List.replicate (n - k) 0).length = n:=by rw [List.length_append,List.length_take,List.length_replicate];omega
       have wa:=wd_at wu hkn
       have wb:=wd_at hrw hkn
       obtain ⟨m0,m1⟩:=F.ml a _ (by omega) (by omega) wb.1 wb.2
       obtain ⟨a0,a1⟩:=F.al _ _ wa.1 wa.2 m0 m1
       have en : (((aF p m ((L.getD j default).getD k default) (mF p m md a (R.getD k default))).toNat : Nat) : Int) = aF p m ((L.getD j default).getD k default) (mF p m md a (R.getD k default)):=Int.toNat_of_nonneg a0
       refine j_nf [_,_,_,_,_,_,_,_,_,_,_,_,_,_,_,_,_,_,_,_] rfl ?_
       refine j_run it 3 rfl (by simp) ?_
       refine j_nf [_,_,_,_,_,_,_,_,_,_,_,_,_,_,_,_,_,_,_] rfl ?_
       refine j_if rfl rfl (fun h5=>?_) (fun h5=>by exfalso;omega)
       refine j_nf [_,_,_,_,_,_,_,_,_,_,_,_,_,_,_,_,_,_,_,_] rfl ?_
       (apply j_drawK it mx 18;(· rfl);(· rfl))
       (apply lxk_run 2;(· rfl);(· simp))
       (apply lxk_eq;(· rfl);(· exact d_bld_all 2 rfl rfl ld33 rfl))
       (apply lxk_run 2;(· rfl);(· simp))
       (apply lxk_pt;(· rfl);(· exact d_x fun _=>x_idx 6 (j) rfl rfl rfl sl22 rfl (by omega) fun z1 hz1 b6 o2=>(dk_ptD default hz1 0 rfl));intro b6 o2)
       (apply lxk_sl;(· rfl);(· exact d_x fun _=>x_ld_sl 0 rfl rfl ld29 fun pa3 ca3=>(dk_sl 0 rfl));intro pa3 ca3)
       (apply lxk_run 1;(· rfl);(· simp))
       (apply lxk_pt;(· rfl);(· exact d_x fun _=>x_idx 0 (k) rfl rfl rfl sl29 rfl (by omega) fun z1 hz1 b7 o3=>(dk_ptD default hz1 0 rfl));intro b7 o3)
       (apply lxk_eq;(· rfl);(· exact d_x fun _=>x_ld_int 0 rfl rfl ld3 fun ⟨r1,r3⟩=>dk_eq))
       (apply lxk_eq;(· rfl);(· exact d_bld_all 2 rfl rfl ld33 rfl))
       (apply lxk_run 3;(· rfl);(· simp))
       (apply lxk_pt;(· rfl);(· exact d_x fun _=>x_idx 3 (k) rfl rfl rfl sl29 rfl (by omega) fun z1 hz1 b8 o4=>(dk_ptD default hz1 0 rfl));intro b8 o4)
       (apply lxk_eq;(· rfl);(· exact d_x fun _=>x_ld_int 0 rfl rfl ld3 fun ⟨r1,r3⟩=>dk_eq))
       (apply lxk_eq;(· rfl);(· exact d_x fun _=>x_call [9] rfl (c_codewrightref04_Mul (by omega) (by omega) (by omega) (by omega)) rfl (by rintro _ _ _ ⟨rfl,rfl,rfl⟩;exact dk_eq)))
       (apply lxk_eq;(· rfl);(· exact d_x fun _=>x_call [] rfl (c_codewrightref04_Add (by omega) (by omega) (by omega) (by omega)) rfl (by rintro _ _ _ ⟨rfl,rfl,rfl⟩;exact dk_eq)))
       refine lxk_end rfl ?_
       simp only [List.map_cons,List.map_nil,List.cons_append,List.nil_append]
       refine j_step rfl (x_idx_own (k) (k) rfl rfl sl29 rfl (by omega) (Nat.mul_one _) ?_)
       refine j_step rfl (x_bst_nat 0 ((liftI (fA p m) ((L.getD j default).getD k default) (liftI (fM p (fpo m md)) (↑a) (R.getD k default)) : Int).toNat) rfl rfl rfl ld3 (by first | rfl | omega) (by first | omega | (simp;omega)) ?_)
       refine j_nf [_,_,_,_,_,_,_,_,_,_,_,_,_,_,_,_,_,_] rfl ?_
       refine j_run it 3 rfl ⟨trivial,⟨by omega,by omega⟩,trivial,trivial⟩ ?_
       refine j_nfn 1 [.lp (pL 3913098388),.blk 6,.c (pL 489137299),.blk 5,.c (pL 61142163),.lp (pL 15285540),.blk 4,.blk 3,.c (pL 955347),.lp (pL 238836),.blk 2,.c (pL 29855),.blk 1,.c (pL 467),.lp (pL 116),.blk 0,.c [1,1,1]] rfl ?_
       refine j_to [4,5,6,7,8,9,10,11,12,13] (by exact fra rfl) rfl rfl (ih4')
      ·obtain rfl : k = n:=by omega
       rw [Nat.sub_self,List.replicate_zero,List.append_nil,List.take_of_length_le (by omega),natCells_toI]
       refine j_pub_madei 8 (toI T) 0 rfl (by rw [toI_len,lN]) (toI_rng rN) (by omega) (by omega) ?_
       simp only [List.eraseIdx_cons_zero]
       refine j_nf [_,_,_,_,_,_,_,_,_,_,_,_,_,_,_,_,_,_,_,_] rfl ?_
       refine j_run it 3 rfl (by simp) ?_
       refine j_nf [_,_,_,_,_,_,_,_,_,_,_,_,_,_,_,_,_,_,_] rfl ?_
       refine j_if rfl rfl (fun h5=>by exfalso;omega) (fun h5=>?_)
       refine j_nf [_,_,_,_,_,_,_,_,_,_,_,_,_,_,_] rfl ?_
       refine j_run it 2 rfl (by simp) ?_
       refine j_step rfl (x_lit sl22 zo22e rfl rfl rfl rfl (by decide) (by decide) rfl fun b6=>?_)
       refine j_step rfl (x_appR (z:=toI T) 1 0 1 rfl rfl rfl rfl rfl sl22 zo22e rfl (fun w A hG=>(rd_of_slF (hG _ (fact_mem (n:=0) rfl)))) (by omega) _ by22e (by omega) fun r1=>?_)
       refine j_run it 1 rfl (by simp) ?_
       refine j_nf [_,_,_,_,_,_,_,_,_,_,_,_,_] rfl ?_
       refine j_run it 3 rfl ⟨trivial,⟨by omega,by omega⟩,trivial,trivial⟩ ?_
       refine j_nfn 1 [.lp (pL 15285540),.blk 4,.blk 3,.c (pL 955347),.lp (pL 238836),.blk 2,.c (pL 29855),.blk 1,.c (pL 467),.lp (pL 116),.blk 0,.c [1,1,1]] rfl ?_
       refine j_toM [true,false,true] [0,3,4,5,6,7,8,9,10,11] (by exact fra rfl) rfl rfl (ih3' r1)
     ·obtain rfl : j = L.length:=by omega
      rw [List.take_length]
      refine j_nf [_,_,_,_,_,_,_,_,_,_,_,_,_,_,_] rfl ?_
      refine j_run it 2 rfl (by simp) ?_
      refine j_step rfl (x_len sl22 rfl ?_)
      refine j_run it 1 rfl (by simp) ?_
      refine j_nf [_,_,_,_,_,_,_,_,_,_,_,_,_,_] rfl ?_
      refine j_if rfl rfl (fun h4=>by exfalso;omega) (fun h4=>?_)
      refine j_nf [_,_,_,_,_,_,_,_,_] rfl ?_
      refine j_run it 3 rfl ⟨trivial,⟨by omega,by omega⟩,trivial,trivial⟩ ?_
      refine j_nfn 1 [.lp (pL 238836),.blk 2,.c (pL 29855),.blk 1,.c (pL 467),.lp (pL 116),.blk 0,.c [1,1,1]] rfl ?_
      refine j_to [0,2,3,4,5,6,7,8,9] (by exact fra rfl) rfl rfl (ih2' r2)
    ·obtain rfl : a = q:=by omega
     have hlx : (extL a (aF p m) (mF p m md) L R).length = L.length * a:=by
      rw [ext_len,Nat.mul_comm]
     rw [← extL]
     refine j_nf [_,_,_,_,_,_,_,_,_,_,_] rfl ?_
     refine j_run it 1 rfl (by simp) ?_
     refine j_step rfl (x_bld_all 1 rfl rfl ld33 rfl ?_)
     refine j_step rfl (x_call [] rfl (c_codewrightref04_Order) rfl ?_)
     rintro _ _ _ ⟨rfl,rfl,rfl⟩
     simp only [List.cons_append,List.nil_append]
     refine j_run it 1 rfl (by simp) ?_
     refine j_nf [_,_,_,_,_,_,_,_,_,_] rfl ?_
     refine j_if rfl rfl (fun h3=>by exfalso;omega) (fun h3=>?_)
     refine j_nf [_,_,_,_,_,_] rfl ?_
     refine j_run it 2 rfl (by simp) ?_
     refine j_nf [_,_,_,_] rfl ?_
     refine j_run it 3 rfl ⟨trivial,⟨by omega,by omega⟩,trivial,trivial⟩ ?_
     refine j_nfn 1 [.lp (pL 116),.blk 0,.c [1,1,1]] rfl ?_
     refine j_pubR 0 0 rfl rfl (by show L.length * a * 24 ≤ _;rw [Nat.mul_comm a] at hqL;omega) ?_
     rw [← hlx]
     refine j_to [0,7,8,9] (by exact fra rfl) rfl rfl (ih (i + 1,extL a (aF p m) (mF p m md) L R,ad r.bo,r.cap) (by dsimp only;omega) ⟨by dsimp only;omega,fun u hu=>by obtain ⟨a',v,ha',hv,rfl⟩:=ext_mem hu;exact F.axw (by omega) (by omega) hrw (hw v hv),by dsimp only;rw [hlx,Nat.mul_comm];omega,he⟩)
 ·obtain rfl : i = rows.length:=by omega
  rw [List.drop_of_length_le (by omega),spanS] at he
  subst he
  refine j_nf [_,_,_,_,_,_] rfl ?_
  refine j_run it 2 rfl (by simp) ?_
  refine j_step rfl (x_len sl22 rfl ?_)
  refine j_run it 1 rfl (by simp) ?_
  refine j_nf [_,_,_,_,_] rfl ?_
  refine j_if rfl rfl (fun h1=>by exfalso;omega) (fun h1=>?_)
  refine j_nf [_,_] rfl ?_
  refine j_run it 2 rfl (by simp) ?_
  refine j_nf [_] rfl ?_
  refine j_giv [0] rfl rfl rfl ⟨_,_,_,rfl,rfl,rfl,rfl⟩
theorem unit_toI (n i : Nat) : toI ((List.replicate n 0).set i 1) = unitW n i:=by
 rw [toI,List.map_set,List.map_replicate,unitW];rfl
theorem rowW_self {q n : Nat} {u : List Int} (h : Wd q n u) : rowW (q : Int) n u = u:=by
 refine List.ext_getElem? fun k=>?_
 rw [rowW,List.getElem?_map]
 have hl:=h.1
 by_cases hk : k < n
 ·rw [List.getElem?_range hk]
  have e : u[k]? = some (u.getD k 0):=by rw [List.getD_eq_getElem?_getD,List.getElem?_eq_getElem (by omega)];rfl
  have hb:=h.2 _ (List.mem_of_getElem? e)
  rw [Option.map_some,if_pos (by omega),e,inI,if_pos (by omega)]
 ·rw [List.getElem?_eq_none (by simp;omega),List.getElem?_eq_none (by omega)];rfl
theorem unit_wd' {q n i : Nat} (hq : 2 ≤ q) : Wd q n (unitW n i):=⟨by simp [unitW],fun x hx=>by
 rcases List.mem_or_eq_of_mem_set hx with h | h
 ·rw [(List.mem_replicate.1 h).2];omega
 ·omega⟩
theorem rows_units {q n : Nat} (hq : 2 ≤ q) : ((List.range n).map (unitW n)).map (rowW (q : Int) n) = (List.range n).map (unitW n):=by
 rw [List.map_map]
 exact List.map_congr_left fun i _=>rowW_self (unit_wd' hq)
theorem S_codewrightref24_All {p m nm cm n most : Nat} {md : List Int} {pm : Option Addr} (K : Fok p m md) (hn : n ≤ 100) (hmost : most ≤ 100000) :
  Ctr Try.prog 31 [.agg #[.int .i64 p,.int .i64 m,.slice pm nm cm],.int .i64 n,.int .i64 most] [] [slF I64 pm nm cm md]
   (SpanE n (spanS (p ^ m) most (aF p m) (mF p m md) ((List.range n).map (unitW n)) [zW n])):=by
 refine Ctr_of_j' (F:=F_codewrightref24_All) rfl fun C=>?_
 have F:=K.fi
 have hq2:=F.q2
 have e0:=rows_units (n:=n) hq2
 have c_codewrightref24_Span:=fun {nr cr : Nat} {pr : Option Addr} {rows : List (List Int)}=>S_codewrightref24_Span (nm:=nm) (cm:=cm) (pm:=pm) (n:=n) (most:=most) (nr:=nr) (cr:=cr) (pr:=pr) (rows:=rows) K hn hmost
 refine j_nf [_,_] rfl (j_step rfl (x_box_agg rfl fun b1=>?_))
 refine j_run it 1 rfl (by simp) ?_
 refine j_nf [_,_] rfl (j_run it 1 rfl (by simp) ?_)
 refine j_nf [_,_,_] rfl (j_run it 1 rfl (by simp) ?_)
 refine j_nf [_,_,_] rfl ?_
 refine j_row0 (encSl I64) 29 ?_
 refine j_loopG (X:=Nat × Row) [1,2,3,6] [0,1] (fun x=>[(8,.int .i64 (x.1 : Int)),(7,.slice (ad x.2.bo) x.1 x.2.cap)]) (fun x=>[(x.2.bo,29,x.2.cs),(some b1,33,[.int .i64 p,.int .i64 m,.slice pm nm cm])]) (fun x=>[rowF (encSl I64) x.2 x.1 ((List.range x.1).map (unitW n))])
  (fun x=>x.1 ≤ n) (fun x=>n - x.1) (0,⟨none,0,[]⟩) [0] rfl rfl rfl (Nat.zero_le _) (by repeat (first | exact Fr.sub_nil _ | refine Fr.sub_cons rfl ?_)) rfl rfl ?_
 rintro ⟨i,r⟩ hi ih
 simp only [List.cons_append,List.nil_append] at hi ih ⊢
 by_cases hin : i < n
 ·have ih':=fun r1=>ih (i + 1,r1) (by dsimp only;omega) (by dsimp only;omega)
  dsimp only at ih'
  rw [range_snoc] at ih'
  have lz : (List.replicate n 0).length = n:=by simp
  have e1 : ((1 : Nat) : Int) = 1:=rfl
  refine j_nf [_,_,_,_,_,_] rfl (j_run it 3 rfl (by simp) ?_)
  refine j_nf [_,_,_,_,_] rfl (j_if rfl rfl (fun h1=>?_) (fun h1=>by exfalso;omega))
  refine j_nf [_,_,_,_,_,_,_] rfl (j_run it 1 rfl (by simp) ?_)
  refine j_step rfl (x_make_nat (n) _ rfl rfl sl29 zo29e by29e (by omega) (by omega) (by omega) fun b2=>?_)
  refine j_run it 1 rfl (by simp) ?_
  refine j_nf [_,_,_,_,_,_,_] rfl (j_run it 2 rfl (by simp) ?_)
  refine j_step rfl (x_idx_own (i) (i) rfl rfl sl29 rfl (by omega) (Nat.mul_one _) ?_)
  refine j_step rfl (x_bst_nat 0 1 rfl rfl rfl ld3 (by first | rfl | omega) (by first | omega | (simp;omega)) ?_)
  refine j_nf [_,_,_,_,_,_] rfl (j_run it 2 rfl (by simp) ?_)
  refine j_step rfl (x_lit sl22 zo22e rfl rfl rfl rfl (by decide) (by decide) rfl fun b3=>?_) --ok
  rw [show natCells .i64 ((List.replicate n 0).set i 1) = intCells .i64 (unitW n i) from by rw [natCells_toI,unit_toI]]
  refine j_pub_madei (kd:=.i64) (n:=n) 8 (unitW n i) 1 rfl (by simp [unitW]) (fun x hx=>by have:=(unit_wd' (q:=2) (n:=n) (i:=i) (by omega)).2 x hx;simp only [InR];omega) (by omega) (by omega) ?_
  simp only [List.eraseIdx_cons_zero,List.eraseIdx_cons_succ]
  refine j_step rfl (x_appR (z:=unitW n i) 1 0 1 rfl rfl rfl rfl rfl sl22 zo22e rfl (fun w A hG=>(rd_of_slF (hG _ (fact_mem (n:=0) rfl)))) (by omega) _ by22e (by omega) fun r1=>?_)
  refine j_run it 1 rfl (by simp) ?_
  refine j_nf [_,_,_,_] rfl (j_run it 3 rfl ⟨trivial,⟨by omega,by omega⟩,trivial,trivial⟩ ?_)
  refine j_nfn 1 [.lp (pL 116),.blk 0,.c [1,1,1]] rfl ?_
  refine j_toM [true,false,true] [0,3,4] (by exact fra rfl) rfl rfl (ih' r1)
 ·obtain rfl : i = n:=by omega
  refine j_nf [_,_,_,_,_,_] rfl (j_run it 3 rfl (by simp) ?_)
  refine j_nf [_,_,_,_,_] rfl (j_if rfl rfl (fun h1=>by exfalso;omega) (fun h1=>?_))
  refine j_nf [_,_] rfl (j_step rfl (x_bld_all 1 rfl rfl ld33 rfl ?_))
  refine j_run it 3 rfl (by simp) ?_
  refine j_pubR 0 0 rfl rfl (by show (i) * 24 ≤ 140737488355328;omega) ?_
  refine j_step rfl (x_call [3,0] rfl (c_codewrightref24_Span) rfl ?_)
  rintro _ _ _ ⟨L1,pa1,ca1,rfl,rfl,rfl,rfl⟩
  simp only [List.cons_append,List.nil_append]
  refine j_run it 1 rfl (by simp) ?_
  refine j_nf [_] rfl ?_
  rw [e0]
  refine j_giv [0] rfl rfl rfl ⟨_,_,_,rfl,rfl,rfl,rfl⟩
abbrev SvL (L : List (List Int)) : Value → List Fact → List Blk → Prop:=fun v Φ β=>∃ (pa : Option Addr) (ca : Nat),v = .slice pa L.length ca ∧ Φ = [slF (encSl I64) pa L.length ca L] ∧ β = []
theorem S_codewrightref24_Orthogonal {p m nm cm n nl cl nr cr : Nat} {md : List Int} {pm pl pr : Option Addr} {L rows : List (List Int)} (K : Fok p m md) (hL : ∀ u ∈ L,Wd (p ^ m) n u) (hR : ∀ u ∈ rows,Wd (p ^ m) n u) :
  Ctr Try.prog 33 [.agg #[.int .i64 p,.int .i64 m,.slice pm nm cm],.slice pl nl cl,.slice pr nr cr] [] [slF I64 pm nm cm md,slF (encSl I64) pl nl cl L,slF (encSl I64) pr nr cr rows]
   (SvL (L.filter (orthB (aF p m) (mF p m md) rows))):=by
 refine Ctr_of_j' (F:=F_codewrightref24_Orthogonal) rfl fun C=>?_
 have F:=K.fi
 refine j_len 1 rfl fun e1 hb1 _=>?_
 refine j_len 2 rfl fun e2 hb2 _=>?_
 have hb1' : L.length * 24 ≤ 140737488355328:=hb1
 have hb2' : rows.length * 24 ≤ 140737488355328:=hb2
 subst e1 e2
 refine j_nf [_,_] rfl ?_
 refine j_step rfl (x_box_agg rfl fun b1=>?_)
 refine j_run it 1 rfl (by simp) ?_
 refine j_nf [_,_] rfl ?_
 refine j_run it 1 rfl (by simp) ?_
 refine j_nf [_,_,_] rfl ?_
 refine j_run it 1 rfl (by simp) ?_
 refine j_nf [_,_,_] rfl ?_
 refine j_row0 (encSl I64) 29 ?_
 refine j_loopG (X:=Nat × Row) [1,2,3,6] [0,1,2,3] (fun x=>[(8,.int .i64 (x.1 : Int)),(7,.slice (ad x.2.bo) ((L.take x.1).filter (orthB (aF p m) (mF p m md) rows)).length x.2.cap)]) (fun x=>[(x.2.bo,29,x.2.cs),(some b1,33,[.int .i64 p,.int .i64 m,.slice pm nm cm])]) (fun x=>[rowF (encSl I64) x.2 ((L.take x.1).filter (orthB (aF p m) (mF p m md) rows)).length ((L.take x.1).filter (orthB (aF p m) (mF p m md) rows))])
  (fun x=>x.1 ≤ L.length) (fun x=>L.length - x.1) (0,⟨none,0,[]⟩) [0] rfl rfl rfl (Nat.zero_le _) (by repeat (first | exact Fr.sub_nil _ | refine Fr.sub_cons rfl ?_)) rfl rfl ?_
 rintro ⟨i,r⟩ hi ih
 simp only [List.cons_append,List.nil_append] at hi ih ⊢
 have hfl : ((L.take i).filter (orthB (aF p m) (mF p m md) rows)).length ≤ i:=by
  have h1:=List.length_filter_le (orthB (aF p m) (mF p m md) rows) (L.take i)
  rw [List.length_take] at h1;omega
 by_cases hil : i < L.length
 ·have hz : L[i]? = some (L.getD i default):=by rw [List.getD_eq_getElem?_getD,List.getElem?_eq_getElem hil];rfl
  have wu:=wd_nth hL hil
  have ih':=fun r1=>ih (i + 1,r1) (by dsimp only;omega) (by dsimp only;omega)
  dsimp only at ih'
  rw [show L.take (i + 1) = L.take i++[L.getD i default] by rw [List.take_succ_eq_append_getElem hil,List.getD_eq_getElem?_getD,List.getElem?_eq_getElem hil];rfl,List.filter_append] at ih'
  generalize (L.take i).filter (orthB (aF p m) (mF p m md) rows) = fl at *
  refine j_nf [_,_,_,_,_,_] rfl ?_
  refine j_run it 2 rfl (by simp) ?_
  refine j_step rfl (x_len sl22 rfl ?_)
  refine j_run it 1 rfl (by simp) ?_
  refine j_nf [_,_,_,_,_] rfl ?_
  refine j_if rfl rfl (fun h1=>?_) (fun h1=>by exfalso;omega)
  refine j_nf [_,_,_,_,_,_,_] rfl ?_
  refine j_run it 1 rfl (by simp) ?_
  refine j_nf [_,_,_,_,_,_,_,_] rfl ?_
  refine j_run it 1 rfl (by simp) ?_
  refine j_nf [_,_,_,_,_,_,_,_] rfl ?_
  refine j_loopG (X:=Nat) [1,2,3,6,7,8,11,12,13,14] [0,1,2,3,4] (fun j=>[(10,.int .i64 (j : Int)),(9,.bool (orthB (aF p m) (mF p m md) (rows.take j) (L.getD i default)))]) (fun _=>[(r.bo,29,r.cs),(some b1,33,[.int .i64 p,.int .i64 m,.slice pm nm cm])]) (fun _=>[])
   (fun j=>j ≤ rows.length) (fun j=>rows.length - j) 0 [] rfl rfl rfl (Nat.zero_le _) (by repeat (first | exact Fr.sub_nil _ | refine Fr.sub_cons rfl ?_)) rfl rfl ?_
  rintro j hj ih2
  simp only [List.cons_append,List.nil_append] at hj ih2 ⊢
  by_cases hjl : j < rows.length
  ·have wr:=wd_nth hR hjl
   have ih2':=ih2 (j + 1) (by omega) (by omega)
   rw [show rows.take (j + 1) = rows.take j++[rows.getD j default] by rw [List.take_succ_eq_append_getElem hjl,List.getD_eq_getElem?_getD,List.getElem?_eq_getElem hjl];rfl,orth_snoc] at ih2'
   have c_codewrightref04_Dot:=fun {na ca nb cb : Nat} {pa pb : Option Addr}=>S_codewrightref04_Dot (nm:=nm) (cm:=cm) (pm:=pm) (na:=na) (ca:=ca) (nb:=nb) (cb:=cb) (pa:=pa) (pb:=pb) K wu wr
   cases hb : orthB (aF p m) (mF p m md) (rows.take j) (L.getD i default) with
   | false =>
    rw [hb,Bool.false_and] at ih2'
    refine j_nf [_,_,_,_,_,_,_,_,_,_,_] rfl ?_
    refine j_run it 2 rfl (by simp) ?_
    refine j_step rfl (x_len sl22 rfl ?_)
    refine j_run it 1 rfl (by simp) ?_
    refine j_nf [_,_,_,_,_,_,_,_,_,_] rfl ?_
    refine j_if rfl rfl (fun h2=>?_) (fun h2=>by exfalso;omega)
    refine j_nf [_,_,_,_,_,_,_,_,_,_,_] rfl ?_
    (apply j_drawK it mx 14;(· rfl);(· rfl))
    (apply lxk_run 12;(· rfl);(· simp))
    (apply lxk_run 2;(· rfl);(· simp))
    refine lxk_end rfl ?_
    simp only [List.map_cons,List.map_nil,List.cons_append,List.nil_append]
    refine j_run it 1 rfl (by simp) ?_
    refine j_nf [_,_,_,_,_,_,_,_,_] rfl ?_
    refine j_run it 3 rfl ⟨trivial,⟨by omega,by omega⟩,trivial,trivial⟩ ?_
    refine j_nfn 1 [.lp (pL 29844),.blk 2,.c (pL 3731),.blk 1,.c (pL 467),.lp (pL 116),.blk 0,.c [1,1,1]] rfl ?_
    refine j_to [0,1,2,3,4] (by exact fra rfl) rfl rfl (ih2')
   | true =>
    rw [hb,Bool.true_and] at ih2'
    refine j_nf [_,_,_,_,_,_,_,_,_,_,_] rfl ?_
    refine j_run it 2 rfl (by simp) ?_
    refine j_step rfl (x_len sl22 rfl ?_)
    refine j_run it 1 rfl (by simp) ?_
    refine j_nf [_,_,_,_,_,_,_,_,_,_] rfl ?_
    refine j_if rfl rfl (fun h2=>?_) (fun h2=>by exfalso;omega)
    refine j_nf [_,_,_,_,_,_,_,_,_,_,_] rfl ?_
    (apply j_drawK it mx 14;(· rfl);(· rfl))
    (apply lxk_run 2;(· rfl);(· simp))
    (apply lxk_eq;(· rfl);(· exact d_bld_all 1 rfl rfl ld33 rfl))
    (apply lxk_run 2;(· rfl);(· simp))
    (apply lxk_pt;(· rfl);(· exact d_x fun _=>x_idx 3 (i) rfl rfl rfl sl22 rfl (by omega) fun z1 hz1 b2 o1=>(dk_ptD default hz1 0 rfl));intro b2 o1)
    (apply lxk_sl;(· rfl);(· exact d_x fun _=>x_ld_sl 0 rfl rfl ld29 fun pa1 ca1=>(dk_sl 0 rfl));intro pa1 ca1)
    (apply lxk_run 2;(· rfl);(· simp))
    (apply lxk_pt;(· rfl);(· exact d_x fun _=>x_idx 4 (j) rfl rfl rfl sl22 rfl (by omega) fun z1 hz1 b3 o2=>(dk_ptD default hz1 0 rfl));intro b3 o2)
    (apply lxk_sl;(· rfl);(· exact d_x fun _=>x_ld_sl 0 rfl rfl ld29 fun pa2 ca2=>(dk_sl 0 rfl));intro pa2 ca2)
    (apply lxk_eq;(· rfl);(· exact d_x fun _=>x_call [6,2,0] rfl (c_codewrightref04_Dot) rfl (by rintro _ _ _ ⟨rfl,rfl,rfl⟩;exact dk_eq)))
    (apply lxk_run 2;(· rfl);(· simp))
    refine lxk_end rfl ?_
    simp only [List.map_cons,List.map_nil,List.cons_append,List.nil_append]
    refine j_run it 1 rfl (by simp) ?_
    refine j_nf [_,_,_,_,_,_,_,_,_] rfl ?_
    refine j_run it 3 rfl ⟨trivial,⟨by omega,by omega⟩,trivial,trivial⟩ ?_
    refine j_nfn 1 [.lp (pL 29844),.blk 2,.c (pL 3731),.blk 1,.c (pL 467),.lp (pL 116),.blk 0,.c [1,1,1]] rfl ?_
    refine j_to [4,5,6,7,8] (by exact fra rfl) rfl rfl (ih2')
  ·obtain rfl : j = rows.length:=by omega
   rw [List.take_length]
   cases hb : orthB (aF p m) (mF p m md) rows (L.getD i default) with
   | false =>
    rw [List.filter_cons,if_neg (by rw [hb];decide),List.filter_nil,List.append_nil] at ih'
    refine j_nf [_,_,_,_,_,_,_,_,_,_,_] rfl ?_
    refine j_run it 2 rfl (by simp) ?_
    refine j_step rfl (x_len sl22 rfl ?_)
    refine j_run it 1 rfl (by simp) ?_
    refine j_nf [_,_,_,_,_,_,_,_,_,_] rfl ?_
    refine j_if rfl rfl (fun h2=>by exfalso;omega) (fun h2=>?_)
    refine j_nf [_,_,_,_,_,_,_] rfl ?_
    refine j_run it 1 rfl (by simp) ?_
    refine j_nf [_,_,_,_,_,_] rfl ?_
    refine j_false rfl rfl ?_
    refine j_nf [_,_,_,_] rfl ?_
    refine j_run it 3 rfl ⟨trivial,⟨by omega,by omega⟩,trivial,trivial⟩ ?_
    refine j_nfn 1 [.lp (pL 116),.blk 0,.c [1,1,1]] rfl ?_
    refine j_to [0,1,2,3,4] (by exact fra rfl) rfl rfl (ih' r)
   | true =>
    rw [List.filter_cons,if_pos hb,List.filter_nil,List.length_append,List.length_singleton] at ih'
    refine j_nf [_,_,_,_,_,_,_,_,_,_,_] rfl ?_
    refine j_run it 2 rfl (by simp) ?_
    refine j_step rfl (x_len sl22 rfl ?_)
    refine j_run it 1 rfl (by simp) ?_
    refine j_nf [_,_,_,_,_,_,_,_,_,_] rfl ?_
    refine j_if rfl rfl (fun h2=>by exfalso;omega) (fun h2=>?_)
    refine j_nf [_,_,_,_,_,_,_] rfl ?_
    refine j_run it 1 rfl (by simp) ?_
    refine j_nf [_,_,_,_,_,_] rfl ?_
    refine j_true rfl rfl ?_
    refine j_nf [_,_,_,_,_,_] rfl ?_
    refine j_run it 3 rfl (by simp) ?_
    refine j_step rfl (x_idx 3 (i) rfl rfl rfl sl22 rfl (by omega) fun z1 hz1 b2 o1=>?_)
    refine j_step rfl (x_ld_sl 0 rfl rfl ld29 fun pa1 ca1=>?_)
    refine j_step rfl (x_lit sl22 zo22e rfl rfl rfl rfl (by decide) (by decide) rfl fun b3=>?_)
    refine j_step rfl (x_appR (z:=z1) 1 0 2 rfl rfl rfl rfl rfl sl22 zo22e rfl (fun w A hG=>(rd_of_slF (hG _ (fact_mem (n:=0) rfl)))) (by omega) _ by22e (by omega) fun r1=>?_)
    refine j_run it 1 rfl (by simp) ?_
    refine j_nf [_,_,_,_] rfl ?_
    refine j_run it 3 rfl ⟨trivial,⟨by omega,by omega⟩,trivial,trivial⟩ ?_
    refine j_nfn 1 [.lp (pL 116),.blk 0,.c [1,1,1]] rfl ?_
    obtain rfl : z1 = L.getD i default:=Option.some.inj (hz1.symm.trans hz)
    refine j_toM [true,false,true] [0,4,5,6,7] (by exact fra rfl) rfl rfl (ih' r1)
 ·obtain rfl : i = L.length:=by omega
  rw [List.take_length] at hfl ⊢
  refine j_nf [_,_,_,_,_,_] rfl ?_
  refine j_run it 2 rfl (by simp) ?_
  refine j_step rfl (x_len sl22 rfl ?_)
  refine j_run it 1 rfl (by simp) ?_
  refine j_nf [_,_,_,_,_] rfl ?_
  refine j_if rfl rfl (fun h1=>by exfalso;omega) (fun h1=>?_)
  refine j_nf [_,_] rfl ?_
  refine j_run it 2 rfl (by simp) ?_
  refine j_nf [_] rfl ?_
  refine j_pubR 0 0 rfl rfl (by show _ * 24 ≤ _;omega) ?_
  refine j_giv [0] rfl rfl rfl ⟨_,_,rfl,rfl,rfl⟩
def cwN (L : List (List Int)) (j : Nat) : Nat:=(L.filter fun u=>decide (wt u = j)).length
theorem cwN_snoc (L : List (List Int)) (u : List Int) (j : Nat) : cwN (L++[u]) j = cwN L j + if wt u = j then 1 else 0:=by
 rw [cwN,List.filter_append,List.length_append,← cwN]
 congr 1
 by_cases h : wt u = j
 ·rw [if_pos h,List.filter_cons,if_pos (decide_eq_true h)];rfl
 ·rw [if_neg h,List.filter_cons,if_neg (by simp [h])];rfl
theorem cwN_le (L : List (List Int)) (j : Nat) : cwN L j ≤ L.length:=List.length_filter_le _ _
theorem cntW_cw : ∀ (L : List (List Int)) (j : Nat),cntW L j = (cwN L j : Int)
 | [],j=>rfl
 | u::L,j=>by
  have ih:=cntW_cw L j
  rw [cntW] at ih ⊢
  rw [lsum,ih,cwN,cwN,List.filter_cons]
  by_cases h : wt u = j
  ·rw [if_pos h,if_pos (decide_eq_true h),List.length_cons];omega
  ·rw [if_neg h,if_neg (by simp [h])];omega
def cwS (n : Nat) (L : List (List Int)) : List Nat:=(List.range (n + 1)).map (cwN L)
theorem cwS_len (n : Nat) (L : List (List Int)) : (cwS n L).length = n + 1:=by simp [cwS]
theorem cwS_at {n j : Nat} {L : List (List Int)} (h : j ≤ n) : (cwS n L)[j]? = some (cwN L j):=by rw [cwS,List.getElem?_map,List.getElem?_range (by omega)];rfl
theorem cwS_snoc {n : Nat} {L : List (List Int)} {u : List Int} : cwS n (L++[u]) = (cwS n L).set (wt u) (cwN L (wt u) + 1):=by
 refine List.ext_getElem? fun k=>?_
 rw [List.getElem?_set]
 by_cases hk : k ≤ n
 ·rw [cwS_at hk,cwN_snoc]
  by_cases e : wt u = k
  ·rw [if_pos e,if_pos e,cwS_len,if_pos (by omega),e]
  ·rw [if_neg e,if_neg e,cwS_at hk];rfl
 ·rw [List.getElem?_eq_none (by rw [cwS_len];omega),List.getElem?_eq_none (by rw [cwS_len];omega),cwS_len]
  by_cases e : wt u = k
  ·rw [if_pos e,if_neg (by omega)]
  ·rw [if_neg e]
theorem cwS_nil (n : Nat) : cwS n [] = List.replicate (n + 1) 0:=by
 refine List.ext_getElem? fun k=>?_
 rw [List.getElem?_replicate]
 by_cases hk : k ≤ n
 ·rw [cwS_at hk,if_pos (by omega)];rfl
 ·rw [List.getElem?_eq_none (by rw [cwS_len];omega),if_neg (by omega)]
def cwL (n : Nat) (L : List (List Int)) : List (List Nat):=(List.range (n + 1)).map fun j=>limbs (cwN L j)
theorem S_codewrightref24_Weights {n nl cl : Nat} {pl : Option Addr} {L : List (List Int)} (hn : n ≤ 100) (hL : ∀ u ∈ L,u.length = n) :
  Ctr Try.prog 12 [.int .i64 n,.slice pl nl cl] [] [slF (encSl I64) pl nl cl L] (fun v Φ β=>∃ pa ca,v = .slice pa (n + 1) ca ∧ Φ = [slF NatE pa (n + 1) ca (cwL n L)] ∧ β = []):=by
 refine Ctr_of_j' (F:=F_codewrightref24_Weights) rfl fun C=>?_
 refine j_len 0 rfl fun e1 hb1 _=>?_
 have hb1' : L.length * 24 ≤ 140737488355328:=hb1
 subst e1
 refine j_nf [_,_] rfl (j_run it 1 rfl (by simp) ?_)
 refine j_nf [_,_] rfl (j_run it 2 rfl ⟨⟨by omega,by omega⟩,trivial,trivial⟩ ?_)
 refine j_step rfl (x_make_nat ((n) + 1) _ rfl rfl sl29 zo29e by29e (by omega) (by omega) (by omega) fun b1=>?_)
 refine j_run it 1 rfl (by simp) ?_
 refine j_nf [_,_] rfl (j_run it 1 rfl (by simp) ?_)
 refine j_step rfl (x_make_nat (n) _ rfl rfl sl29 zo29e by29e (by omega) (by omega) (by omega) fun b2=>?_)
 refine j_run it 1 rfl (by simp) ?_
 refine j_nf [_,_,_] rfl (j_run it 1 rfl (by simp) ?_)
 refine j_nf [_,_,_] rfl ?_
 rw [show natCells .i64 (List.replicate n 0) = intCells .i64 (zW n) from by rw [natCells_toI,toI_zeros]]
 refine j_pub_madei (kd:=.i64) (n:=n) 8 (zW n) 0 rfl (by simp) (fun x hx=>by rw [(List.mem_replicate.1 hx).2];simp [InR]) (by omega) (by omega) ?_
 simp only [List.eraseIdx_cons_zero,List.eraseIdx_cons_succ]
 rw [← cwS_nil]
 refine j_loopG (X:=Nat) [0,1,4,5,6] [0,1] (fun i=>[(7,.int .i64 (i : Int))]) (fun i=>[(some b1,3,natCells .i64 (cwS n (L.take i)))]) (fun _=>[]) (fun i=>i ≤ L.length) (fun i=>L.length - i) 0 [] rfl rfl rfl (Nat.zero_le _) (by repeat (first | exact Fr.sub_nil _ | refine Fr.sub_cons rfl ?_)) rfl rfl ?_
 rintro i hi ih
 simp only [List.cons_append,List.nil_append] at hi ih ⊢
 by_cases hil : i < L.length
 ·have hz : L[i]? = some (L.getD i default):=by rw [List.getD_eq_getElem?_getD,List.getElem?_eq_getElem hil];rfl
  have hl:=hL _ (List.mem_of_getElem? hz)
  have ih':=ih (i + 1) (by omega) (by omega)
  rw [show L.take (i + 1) = L.take i++[L.getD i default] by rw [List.take_succ_eq_append_getElem hil,List.getD_eq_getElem?_getD,List.getElem?_eq_getElem hil];rfl,cwS_snoc] at ih'
  have hdw:=dist_zW n _ hl
  have hwn:=wt_le (L.getD i default)
  rw [hl] at hwn
  have hsa:=cwS_at (L:=L.take i) hwn
  have hlc:=cwS_len n (L.take i)
  have hcl : cwN (L.take i) (wt (L.getD i default)) ≤ L.length:=by
   have:=cwN_le (L.take i) (wt (L.getD i default))
   rw [List.length_take] at this;omega
  rw [← hdw] at ih' hsa hwn hcl
  refine j_nf [_,_,_,_,_,_] rfl (j_run it 2 rfl (by simp) ?_)
  refine j_step rfl (x_len sl22 rfl ?_)
  refine j_run it 1 rfl (by simp) ?_
  refine j_nf [_,_,_,_,_] rfl (j_if rfl rfl (fun h1=>?_) (fun h1=>by exfalso;omega))
  refine j_nf [_,_,_,_,_,_] rfl (j_run it 3 rfl (by simp) ?_)
  refine j_step rfl (x_idx 1 (i) rfl rfl rfl sl22 rfl (by omega) fun z1 hz1 b3 o1=>?_)
  refine j_step rfl (x_ld_sl 0 rfl rfl ld29 fun pa1 ca1=>?_)
  refine j_run it 1 rfl (by simp) ?_
  obtain rfl : z1 = L.getD i default:=Option.some.inj (hz1.symm.trans hz)
  refine j_step rfl (x_call [0,2] rfl (S_codewrightref24_Distance (by omega)) rfl ?_)
  rintro _ _ _ ⟨rfl,rfl,rfl⟩
  simp only [List.cons_append,List.nil_append]
  refine j_step rfl (x_idx_own (dist (L.getD i default) (zW n)) (dist (L.getD i default) (zW n)) rfl rfl sl29 rfl (by omega) (Nat.mul_one _) ?_)
  refine j_step rfl (x_bld_nat 0 rfl rfl ld3 (by first | omega | (simp;omega)) fun z1 hz2=>?_) --ok
  obtain rfl:=Option.some.inj (hz2.symm.trans hsa)
  refine j_run it 1 rfl ⟨⟨by omega,by omega⟩,trivial⟩ ?_
  refine j_step rfl (x_idx_own (dist (L.getD i default) (zW n)) (dist (L.getD i default) (zW n)) rfl rfl sl29 rfl (by omega) (Nat.mul_one _) ?_)
  refine j_step rfl (x_bst_nat 0 ((cwN (List.take i L) (dist (L.getD i default) (zW n))) + 1) rfl rfl rfl ld3 (by first | rfl | omega) (by first | omega | (simp;omega)) ?_)
  refine j_nf [_,_,_,_] rfl (j_run it 3 rfl ⟨trivial,⟨by omega,by omega⟩,trivial,trivial⟩ ?_)
  refine j_nfn 1 [.lp (pL 244),.blk 0,.c [1,1,1,1]] rfl ?_
  refine j_to [2,3] (by exact fra rfl) rfl rfl (ih')
 ·obtain rfl : i = L.length:=by omega
  rw [List.take_length]
  have hlc:=cwS_len n L
  refine j_nf [_,_,_,_,_,_] rfl (j_run it 2 rfl (by simp) ?_)
  refine j_step rfl (x_len sl22 rfl ?_)
  refine j_run it 1 rfl (by simp) ?_
  refine j_nf [_,_,_,_,_] rfl (j_if rfl rfl (fun h1=>by exfalso;omega) (fun h1=>?_))
  refine j_nf [_,_] rfl (j_run it 1 rfl (by simp) ?_)
  refine j_nf [_,_,_] rfl (j_run it 1 rfl (by simp) ?_)
  refine j_nf [_,_,_] rfl ?_
  refine j_row0 NatE 48 ?_
  refine j_loopG (X:=Nat × Row) [0,4,5] [0,1,2] (fun x=>[(9,.int .i64 (x.1 : Int)),(8,.slice (ad x.2.bo) x.1 x.2.cap)]) (fun x=>[(x.2.bo,48,x.2.cs),(some b1,3,natCells .i64 (cwS n L))]) (fun x=>[rowF NatE x.2 x.1 ((List.range x.1).map fun j=>limbs (cwN L j))])
   (fun x=>x.1 ≤ n + 1) (fun x=>n + 1 - x.1) (0,⟨none,0,[]⟩) [0] rfl rfl rfl (Nat.zero_le _) (by repeat (first | exact Fr.sub_nil _ | refine Fr.sub_cons rfl ?_)) rfl rfl ?_
  rintro ⟨k,r⟩ hk ih2
  simp only [List.cons_append,List.nil_append] at hk ih2 ⊢
  by_cases hkn : k < n + 1
  ·have ih2':=fun r1=>ih2 (k + 1,r1) (by dsimp only;omega) (by dsimp only;omega)
   dsimp only at ih2'
   rw [range_snoc] at ih2'
   have hsa:=cwS_at (L:=L) (show k ≤ n by omega)
   have hcl:=cwN_le L k
   refine j_nf [_,_,_,_,_,_] rfl (j_run it 3 rfl (by simp) ?_)
   refine j_nf [_,_,_,_,_] rfl (j_if rfl rfl (fun h2=>?_) (fun h2=>by exfalso;omega))
   refine j_nf [_,_,_,_,_,_] rfl (j_run it 3 rfl (by simp) ?_)
   refine j_step rfl (x_idx_own (k) (k) rfl rfl sl29 rfl (by omega) (Nat.mul_one _) ?_)
   refine j_step rfl (x_bld_nat 1 rfl rfl ld3 (by first | omega | (simp;omega)) fun z1 hz1=>?_)
   refine j_step rfl (x_conv_u64 it rfl rfl rfl ?_)
   refine j_recast (t:=42) ((((z1) % 18446744073709551616) : Nat) : Int) rfl (by omega) ?_
   refine j_step rfl (x_call [] rfl (S_codewrightref01_Of (by omega)) rfl ?_)
   rintro _ _ _ ⟨pa1,ca1,rfl,rfl,rfl⟩
   simp only [List.cons_append,List.nil_append]
   refine j_step rfl (x_lit sl36 zo36e rfl rfl rfl rfl (by decide) (by decide) rfl fun b3=>?_)
   refine j_step rfl (x_appR (z:=limbs (z1 % 18446744073709551616)) 1 0 1 rfl rfl rfl rfl rfl sl36 zo36e rfl (fun w A hG=>(rd_of_slF (hG _ (fact_mem (n:=0) rfl)))) (by omega) _ by36e (by omega) fun r1=>?_)
   refine j_run it 1 rfl (by simp) ?_
   refine j_nf [_,_,_,_] rfl (j_run it 3 rfl ⟨trivial,⟨by omega,by omega⟩,trivial,trivial⟩ ?_)
   refine j_nfn 1 [.lp (pL 1012),.blk 2,.c (pL 127)] rfl ?_
   obtain rfl:=Option.some.inj (hz1.symm.trans hsa)
   rw [Nat.mod_eq_of_lt (show cwN L k < 18446744073709551616 by omega)]
   refine j_toM [true,false,true] [0,3,4,5] (by exact fra rfl) rfl rfl (ih2' r1)
  ·obtain rfl : k = n + 1:=by omega
   refine j_nf [_,_,_,_,_,_] rfl (j_run it 3 rfl (by simp) ?_)
   refine j_nf [_,_,_,_,_] rfl (j_if rfl rfl (fun h2=>by exfalso;omega) (fun h2=>?_))
   refine j_nf [_,_] rfl (j_run it 2 rfl (by simp) ?_)
   refine j_nf [_] rfl ?_
   refine j_pubR 0 0 rfl rfl (by show (n + 1) * 24 ≤ _;omega) ?_
   refine j_giv [0] rfl rfl rfl ⟨_,_,rfl,rfl,rfl⟩
def CodesE (P M : Int) (md : List Int) (n : Nat) (rows : List (List Int)) : Value → List Fact → List Blk → Prop:=fun v Φ β =>
 (v = .tuple #[.int .i64 0,.slice none 0 0,.slice none 0 0,.slice none 0 0,.bool false] ∧ Φ = [] ∧ β = []) ∨
 ∃ (p m : Nat) (L K : List (List Int)) (pa pb pc : Option Addr) (ca cb cc : Nat),P = p ∧ M = m ∧ Fok p m md ∧ rows.length ≤ 12 ∧
  spanS (p ^ m) 4096 (aF p m) (mF p m md) (rows.map (rowW ((p ^ m : Nat) : Int) n)) [zW n] = some L ∧ spanS (p ^ m) 4096 (aF p m) (mF p m md) ((List.range n).map (unitW n)) [zW n] = some K ∧
  v = .tuple #[.int .i64 n,.slice pa L.length ca,.slice pb (K.filter (orthB (aF p m) (mF p m md) (rows.map (rowW ((p ^ m : Nat) : Int) n)))).length cb,.slice pc K.length cc,.bool true] ∧
  Φ = [slF (encSl I64) pa L.length ca L,slF (encSl I64) pb (K.filter (orthB (aF p m) (mF p m md) (rows.map (rowW ((p ^ m : Nat) : Int) n)))).length cb (K.filter (orthB (aF p m) (mF p m md) (rows.map (rowW ((p ^ m : Nat) : Int) n)))),slF (encSl I64) pc K.length cc K] ∧ β = []
theorem spanE_some (n : Nat) (L : List (List Int)) : SpanE n (some L) = SvL L:=by
 funext v Φ β;exact propext ⟨fun ⟨_,pa,ca,e,h⟩=>by subst e;exact ⟨pa,ca,h⟩,fun ⟨pa,ca,h⟩=>⟨L,pa,ca,rfl,h⟩⟩
theorem spanE_none (n : Nat) : SpanE n none = SvL []:=by
 funext v Φ β;exact propext ⟨fun ⟨_,pa,ca,e,h⟩=>by subst e;exact ⟨pa,ca,h⟩,fun ⟨pa,ca,h⟩=>⟨[],pa,ca,rfl,h⟩⟩
open Classical in
theorem S_codewrightlaw24_codes {P M : Int} {x nm cm nr cr : Nat} {md : List Int} {pm pr : Option Addr} {rows : List (List Int)} (hx : x < 256) :
  Ctr Try.prog 11 [.agg #[.int .i64 P,.int .i64 M,.slice pm nm cm],.int .u8 x,.slice pr nr cr] [] [slF I64 pm nm cm md,slF (encSl I64) pr nr cr rows]
   (CodesE P M md (x % 12 + 1) rows):=by
 refine Ctr_of_j' (F:=F_codewrightlaw24_codes) rfl fun C=>?_
 refine j_len 1 rfl fun e1 hb1 _=>?_
 have hb1' : rows.length * 24 ≤ 140737488355328:=hb1
 subst e1
 have c_codewrightref04_Check:=fun {e : Int} he=>S_codewrightref04_Check (P:=P) (M:=M) (pm:=pm) (nm:=nm) (cm:=cm) (md:=md) (e:=e) he
 by_cases hc : chkF P M md
 case neg =>
  have hc1 : (1 : Int) = if chkF P M md then 0 else 1:=by rw [if_neg hc]
  refine j_nf [_,_] rfl ?_
  refine j_step rfl (x_box_agg rfl fun b1=>?_)
  refine j_run it 5 rfl (by simp) ?_
  refine j_nf [_,_] rfl ?_
  refine j_run it 5 rfl ⟨trivial,⟨by omega,by omega⟩,⟨by omega,by omega⟩,⟨by omega,by omega⟩,trivial,trivial⟩ ?_
  refine j_nf [_,_,_] rfl ?_
  refine j_step rfl (x_bld_all 0 rfl rfl ld33 rfl ?_)
  refine j_step rfl (x_call [0] rfl (c_codewrightref04_Check (by omega)) rfl ?_)
  rintro _ _ _ ⟨rfl,rfl,rfl⟩
  simp only [List.cons_append,List.nil_append]
  refine j_run it 6 rfl (by simp) ?_
  refine j_nf [_,_] rfl ?_
  refine j_true rfl rfl ?_
  refine j_nf [_,_,_] rfl ?_
  refine j_run it 5 rfl (by simp) ?_
  refine j_nf [_,_] rfl ?_
  refine j_giv [] rfl rfl rfl (.inl ⟨rfl,rfl,rfl⟩)
 have hc0 : (0 : Int) = if chkF P M md then 0 else 1:=by rw [if_pos hc]
 obtain ⟨p,m,rfl,rfl,K⟩:=chk_ok hc
 by_cases h12 : rows.length ≤ 12
 case neg =>
  refine j_nf [_,_] rfl ?_
  refine j_step rfl (x_box_agg rfl fun b1=>?_)
  refine j_run it 5 rfl (by simp) ?_
  refine j_nf [_,_] rfl ?_
  refine j_run it 5 rfl ⟨trivial,⟨by omega,by omega⟩,⟨by omega,by omega⟩,⟨by omega,by omega⟩,trivial,trivial⟩ ?_
  refine j_nf [_,_,_] rfl ?_
  refine j_step rfl (x_bld_all 0 rfl rfl ld33 rfl ?_)
  refine j_step rfl (x_call [0] rfl (c_codewrightref04_Check (by omega)) rfl ?_)
  rintro _ _ _ ⟨rfl,rfl,rfl⟩
  simp only [List.cons_append,List.nil_append]
  refine j_run it 3 rfl (by simp) ?_
  refine j_split_ndec (t:=20) rfl (fun h1=>by exfalso;omega) (fun h1=>?_)
  refine j_gstep rfl rfl (x_len sl22 rfl ?_)
  refine j_run it 2 rfl (by simp) ?_
  refine j_nf [_,_] rfl ?_
  refine j_if rfl rfl (fun h2=>?_) (fun h2=>by exfalso;omega)
  refine j_nf [_,_,_] rfl ?_
  refine j_run it 5 rfl (by simp) ?_
  refine j_nf [_,_] rfl ?_
  refine j_giv [] rfl rfl rfl (.inl ⟨rfl,rfl,rfl⟩)
 have en : (((x % 12 + 1 : Nat)) : Int) = (x : Int) % 12 + 1:=by omega
 have hn12 : x % 12 + 1 ≤ 12:=by omega
 refine j_nf [_,_] rfl ?_
 refine j_step rfl (x_box_agg rfl fun b1=>?_)
 refine j_run it 5 rfl (by simp) ?_
 refine j_nf [_,_] rfl ?_
 refine j_run it 5 rfl ⟨trivial,⟨by omega,by omega⟩,⟨by omega,by omega⟩,⟨by omega,by omega⟩,trivial,trivial⟩ ?_
 refine j_nf [_,_,_] rfl ?_
 refine j_step rfl (x_bld_all 0 rfl rfl ld33 rfl ?_)
 refine j_step rfl (x_call [0] rfl (c_codewrightref04_Check (by omega)) rfl ?_)
 rintro _ _ _ ⟨rfl,rfl,rfl⟩
 simp only [List.cons_append,List.nil_append]
 refine j_run it 3 rfl (by simp) ?_
 refine j_split_ndec (t:=20) rfl (fun h1=>by exfalso;omega) (fun h1=>?_)
 refine j_gstep rfl rfl (x_len sl22 rfl ?_)
 refine j_run it 2 rfl (by simp) ?_
 refine j_nf [_,_] rfl ?_
 refine j_if rfl rfl (fun h2=>by exfalso;omega) (fun h2=>?_)
 refine j_nf [_,_] rfl ?_
 refine j_step rfl (x_bld_all 0 rfl rfl ld33 rfl ?_)
 refine j_run it 2 rfl (by simp) ?_
 rw [← en]
 generalize x % 12 + 1 = n at *
 have F:=K.fi
 have e00 : ([] : List (List Int)).length = 0:=rfl
 have hq2:=F.q2
 have hq:=K.q
 have c_codewrightref24_Span:=S_codewrightref24_Span (nm:=nm) (cm:=cm) (pm:=pm) (n:=n) (most:=4096) (nr:=rows.length) (cr:=cr) (pr:=pr) (rows:=rows) K (by omega) (by omega)
 have c_codewrightref24_All:=S_codewrightref24_All (nm:=nm) (cm:=cm) (pm:=pm) (n:=n) (most:=4096) K (by omega) (by omega)
 have hord:=K.ord
 have hordP : ordP (p : Int) (m : Int):=by
  have:=K.p2;have:=K.m1;have:=K.m8
  exact ⟨by omega,by omega,by omega,by simpa using K.q⟩
 have c_codewrightref24_Row:=fun {pl : Option Addr} {nl cl : Nat} {l : List Int}=>S_codewrightref24_Row (P:=(p : Int)) (M:=(m : Int)) (n:=n) (nm:=nm) (cm:=cm) (nl:=nl) (cl:=cl) (pm:=pm) (pl:=pl) (l:=l) hordP (by omega)
 rw [hord] at c_codewrightref24_Row
 cases hA : spanS (p ^ m) 4096 (aF p m) (mF p m md) (rows.map (rowW ((p ^ m : Nat) : Int) n)) [zW n] with
 | none =>
  rw [hA,spanE_none] at c_codewrightref24_Span
  cases hB : spanS (p ^ m) 4096 (aF p m) (mF p m md) ((List.range n).map (unitW n)) [zW n] with
  | none =>
   rw [hB,spanE_none] at c_codewrightref24_All
   refine j_step rfl (x_call [0,1] rfl (c_codewrightref24_Span) rfl ?_)
   rintro _ _ _ ⟨pa1,ca1,rfl,rfl,rfl⟩
   simp only [List.cons_append,List.nil_append]
   simp only [decide_true]
   refine j_run it 1 rfl (by simp) ?_
   refine j_nf [_,_] rfl ?_
   refine j_step rfl (x_bld_all 0 rfl rfl ld33 rfl ?_)
   refine j_run it 1 rfl (by simp) ?_
   refine j_step rfl (x_call [1] rfl (c_codewrightref24_All) rfl ?_)
   rintro _ _ _ ⟨pa2,ca2,rfl,rfl,rfl⟩
   simp only [List.cons_append,List.nil_append]
   refine j_run it 1 rfl (by simp) ?_
   refine j_nf [_,_,_] rfl ?_
   refine j_run it 1 rfl (by simp) ?_
   refine j_step rfl (x_len sl22 rfl ?_)
   refine j_run it 6 rfl (by simp) ?_
   refine j_nf [_,_] rfl ?_
   refine j_true rfl rfl ?_
   refine j_nf [_,_,_] rfl ?_
   refine j_run it 5 rfl (by simp) ?_
   refine j_nf [_,_] rfl ?_
   refine j_giv [] rfl rfl rfl (.inl ⟨rfl,rfl,rfl⟩)
  | some T =>
   rw [hB,spanE_some] at c_codewrightref24_All
   refine j_step rfl (x_call [0,1] rfl (c_codewrightref24_Span) rfl ?_)
   rintro _ _ _ ⟨pa1,ca1,rfl,rfl,rfl⟩
   simp only [List.cons_append,List.nil_append]
   simp only [decide_true]
   refine j_run it 1 rfl (by simp) ?_
   refine j_nf [_,_] rfl ?_
   refine j_step rfl (x_bld_all 0 rfl rfl ld33 rfl ?_)
   refine j_run it 1 rfl (by simp) ?_
   refine j_step rfl (x_call [1] rfl (c_codewrightref24_All) rfl ?_)
   rintro _ _ _ ⟨pa2,ca2,rfl,rfl,rfl⟩
   simp only [List.cons_append,List.nil_append]
   refine j_run it 1 rfl (by simp) ?_
   refine j_nf [_,_,_] rfl ?_
   refine j_run it 1 rfl (by simp) ?_
   refine j_step rfl (x_len sl22 rfl ?_)
   refine j_run it 6 rfl (by simp) ?_
   refine j_nf [_,_] rfl ?_
   refine j_true rfl rfl ?_
   refine j_nf [_,_,_] rfl ?_
   refine j_run it 5 rfl (by simp) ?_
   refine j_nf [_,_] rfl ?_
   refine j_giv [] rfl rfl rfl (.inl ⟨rfl,rfl,rfl⟩)
 | some L =>
 rw [hA,spanE_some] at c_codewrightref24_Span
 have wR : ∀ r ∈ rows.map (rowW ((p ^ m : Nat) : Int) n),Wd (p ^ m) n r:=fun r hr=>by
  obtain ⟨l,_,rfl⟩:=List.mem_map.1 hr
  exact rowW_wd (by omega) l
 have hL:=spI_span F (spI_start F n) wR hA
 have lL:=hL.pos
 cases hB : spanS (p ^ m) 4096 (aF p m) (mF p m md) ((List.range n).map (unitW n)) [zW n] with
 | none =>
  rw [hB,spanE_none] at c_codewrightref24_All
  refine j_step rfl (x_call [0,1] rfl (c_codewrightref24_Span) rfl ?_)
  rintro _ _ _ ⟨pa1,ca1,rfl,rfl,rfl⟩
  simp only [List.cons_append,List.nil_append]
  simp only [decide_true]
  refine j_run it 1 rfl (by simp) ?_
  refine j_nf [_,_] rfl ?_
  refine j_step rfl (x_bld_all 0 rfl rfl ld33 rfl ?_)
  refine j_run it 1 rfl (by simp) ?_
  refine j_step rfl (x_call [1] rfl (c_codewrightref24_All) rfl ?_)
  rintro _ _ _ ⟨pa2,ca2,rfl,rfl,rfl⟩
  simp only [List.cons_append,List.nil_append]
  refine j_run it 1 rfl (by simp) ?_
  refine j_nf [_,_,_] rfl ?_
  refine j_run it 1 rfl (by simp) ?_
  refine j_step rfl (x_len sl22 rfl ?_)
  refine j_run it 2 rfl (by simp) ?_
  refine j_split_dec (t:=35) rfl (fun h3=>by exfalso;omega) (fun h3=>?_)
  refine j_run it 1 rfl (by simp) ?_
  refine j_gstep rfl rfl (x_len sl22 rfl ?_)
  refine j_run it 2 rfl (by simp) ?_
  refine j_nf [_,_] rfl ?_
  refine j_if rfl rfl (fun h4=>?_) (fun h4=>by exfalso;omega)
  refine j_nf [_,_,_] rfl ?_
  refine j_run it 5 rfl (by simp) ?_
  refine j_nf [_,_] rfl ?_
  refine j_giv [] rfl rfl rfl (.inl ⟨rfl,rfl,rfl⟩)
 | some T =>
 rw [hB,spanE_some] at c_codewrightref24_All
 have wU : ∀ r ∈ (List.range n).map (unitW n),Wd (p ^ m) n r:=fun r hr=>by
  obtain ⟨i,_,rfl⟩:=List.mem_map.1 hr
  exact unit_wd' hq2
 have hT:=spI_span F (spI_start F n) wU hB
 have lT:=hT.pos
 have wT:=hT.wd
 have c_codewrightref24_Orthogonal:=fun {nl cl nr cr : Nat} {pl pr : Option Addr}=>S_codewrightref24_Orthogonal (nm:=nm) (cm:=cm) (pm:=pm) (n:=n) (nl:=nl) (cl:=cl) (nr:=nr) (cr:=cr) (pl:=pl) (pr:=pr) (L:=T) (rows:=rows.map (rowW ((p ^ m : Nat) : Int) n)) K wT wR
 refine j_step rfl (x_call [0,1] rfl (c_codewrightref24_Span) rfl ?_)
 rintro _ _ _ ⟨pa1,ca1,rfl,rfl,rfl⟩
 simp only [List.cons_append,List.nil_append]
 simp only [decide_true]
 refine j_run it 1 rfl (by simp) ?_
 refine j_nf [_,_] rfl ?_
 refine j_step rfl (x_bld_all 0 rfl rfl ld33 rfl ?_)
 refine j_run it 1 rfl (by simp) ?_
 refine j_step rfl (x_call [1] rfl (c_codewrightref24_All) rfl ?_)
 rintro _ _ _ ⟨pa2,ca2,rfl,rfl,rfl⟩
 simp only [List.cons_append,List.nil_append]
 refine j_run it 1 rfl (by simp) ?_
 refine j_nf [_,_,_] rfl ?_
 refine j_run it 1 rfl (by simp) ?_
 refine j_step rfl (x_len sl22 rfl ?_)
 refine j_run it 2 rfl (by simp) ?_
 refine j_split_dec (t:=35) rfl (fun h3=>by exfalso;omega) (fun h3=>?_)
 refine j_run it 1 rfl (by simp) ?_
 refine j_gstep rfl rfl (x_len sl22 rfl ?_)
 refine j_run it 2 rfl (by simp) ?_
 refine j_nf [_,_] rfl ?_
 refine j_if rfl rfl (fun h4=>by exfalso;omega) (fun h4=>?_)
 refine j_nf [_,_] rfl ?_
 refine j_run it 1 rfl (by simp) ?_
 refine j_nf [_,_,_] rfl ?_
 refine j_run it 1 rfl (by simp) ?_
 refine j_nf [_,_,_] rfl ?_
 refine j_row0 (encSl I64) 29 ?_
 refine j_loopG (X:=Nat × Row) [2,3,6,7,8,9,10] [0,1,2,3,4] (fun x=>[(12,.int .i64 (x.1 : Int)),(11,.slice (ad x.2.bo) x.1 x.2.cap)]) (fun x=>[(x.2.bo,29,x.2.cs),(some b1,33,[.int .i64 p,.int .i64 m,.slice pm nm cm])]) (fun x=>[rowF (encSl I64) x.2 x.1 ((rows.take x.1).map (rowW ((p ^ m : Nat) : Int) n))])
  (fun x=>x.1 ≤ rows.length) (fun x=>rows.length - x.1) (0,⟨none,0,[]⟩) [0] rfl rfl rfl (Nat.zero_le _) (by repeat (first | exact Fr.sub_nil _ | refine Fr.sub_cons rfl ?_)) rfl rfl ?_
 rintro ⟨i,r⟩ hi ih
 simp only [List.cons_append,List.nil_append] at hi ih ⊢
 by_cases hil : i < rows.length
 ·have hz : rows[i]? = some (rows.getD i default):=by rw [List.getD_eq_getElem?_getD,List.getElem?_eq_getElem hil];rfl
  have ih':=fun r1=>ih (i + 1,r1) (by dsimp only;omega) (by dsimp only;omega)
  dsimp only at ih'
  rw [show rows.take (i + 1) = rows.take i++[rows.getD i default] by rw [List.take_succ_eq_append_getElem hil,List.getD_eq_getElem?_getD,List.getElem?_eq_getElem hil];rfl,List.map_append,List.map_cons,List.map_nil] at ih'
  refine j_nf [_,_,_,_,_,_] rfl ?_
  refine j_run it 2 rfl (by simp) ?_
  refine j_step rfl (x_len sl22 rfl ?_)
  refine j_run it 1 rfl (by simp) ?_
  refine j_nf [_,_,_,_,_] rfl ?_
  refine j_if rfl rfl (fun h5=>?_) (fun h5=>by exfalso;omega)
  refine j_nf [_,_,_,_,_,_] rfl ?_
  (apply j_drawK it mx 9;(· rfl);(· rfl))
  (apply lxk_run 1;(· rfl);(· simp))
  (apply lxk_eq;(· rfl);(· exact d_bld_all 1 rfl rfl ld33 rfl))
  (apply lxk_run 3;(· rfl);(· simp))
  (apply lxk_pt;(· rfl);(· exact d_x fun _=>x_idx 5 (i) rfl rfl rfl sl22 rfl (by omega) fun z1 hz1 b2 o1=>(dk_ptD default hz1 0 rfl));intro b2 o1)
  (apply lxk_sl;(· rfl);(· exact d_x fun _=>x_ld_sl 0 rfl rfl ld29 fun pa3 ca3=>(dk_sl 0 rfl));intro pa3 ca3)
  (apply lxk_sl;(· rfl);(· exact d_x fun _=>x_call [0] rfl (c_codewrightref24_Row) rfl (by rintro _ _ _ ⟨pa4,ca4,rfl,rfl,rfl⟩;exact (dk_sl 0 rfl)));intro pa4 ca4)
  (apply lxk_sl;(· rfl);(· exact d_x fun _=>x_lit sl22 zo22e rfl rfl rfl rfl (by decide) (by decide) rfl fun b3=>dk_all (E:=(encSl I64)) [[Value.slice pa4 n ca4]] [rowW (↑(p ^ m)) n (rows.getD i default)] (fun w A hG=>(allrd_cons (rd_of_slF (hG _ (fact_mem (n:=0) rfl))) allrd_nil)) rfl rfl rfl (by first | decide | exact Nat.le_of_ble_eq_true rfl));intro pa5 ca5)
  refine lxk_end rfl ?_
  simp only [List.map_cons,List.map_nil,List.cons_append,List.nil_append]
  refine j_step rfl (x_appS 0 4 0 rfl rfl rfl rfl rfl sl22 zo22e rfl (by omega) _ by22e (by omega) fun r1=>?_)
  refine j_run it 1 rfl (by simp) ?_
  refine j_nf [_,_,_,_] rfl ?_
  refine j_run it 3 rfl ⟨trivial,⟨by omega,by omega⟩,trivial,trivial⟩ ?_
  refine j_nfn 1 [.lp (pL 4084),.blk 0,.c (pL 511)] rfl ?_
  refine j_to [0,6,7,8,9,10] (by exact fra rfl) rfl rfl (ih' r1)
 ·obtain rfl : i = rows.length:=by omega
  rw [List.take_length]
  refine j_nf [_,_,_,_,_,_] rfl ?_
  refine j_run it 2 rfl (by simp) ?_
  refine j_step rfl (x_len sl22 rfl ?_)
  refine j_run it 1 rfl (by simp) ?_
  refine j_nf [_,_,_,_,_] rfl ?_
  refine j_if rfl rfl (fun h5=>by exfalso;omega) (fun h5=>?_)
  refine j_nf [_,_] rfl ?_
  refine j_run it 2 rfl (by simp) ?_
  refine j_step rfl (x_bld_all 1 rfl rfl ld33 rfl ?_)
  refine j_run it 2 rfl (by simp) ?_
  refine j_pubR 0 0 rfl rfl (by show (rows.length) * 24 ≤ 140737488355328;omega) ?_
  refine j_step rfl (x_call [5,3,0] rfl (c_codewrightref24_Orthogonal) rfl ?_)
  rintro _ _ _ ⟨pa3,ca3,rfl,rfl,rfl⟩
  simp only [List.cons_append,List.nil_append]
  refine j_run it 6 rfl (by simp) ?_
  refine j_nf [_] rfl ?_
  refine j_giv [5,0,4] rfl rfl rfl (.inr ⟨p,m,L,T,_,_,_,_,_,_,rfl,rfl,K,h12,hA,hB,rfl,rfl,rfl⟩)
theorem cwL_len (n : Nat) (L : List (List Int)) : (cwL n L).length = n + 1:=by simp [cwL]
theorem cwL_at {n j : Nat} {L : List (List Int)} (h : j ≤ n) : (cwL n L).getD j default = limbs (cwN L j):=by
 rw [List.getD_eq_getElem?_getD,cwL,List.getElem?_map,List.getElem?_range (by omega)];rfl
theorem cwL_small {n : Nat} {L : List (List Int)} (hL : L.length < 4294967296) : ∀ l ∈ cwL n L,l.length ≤ 20:=fun l hl=>by
 obtain ⟨j,_,rfl⟩:=List.mem_map.1 hl
 exact Nat.le_trans (limbs_length_le (k:=1) (by have:=cwN_le L j;omega)) (by decide)
theorem cwL_lt {n : Nat} {L : List (List Int)} : ∀ l ∈ cwL n L,∀ x ∈ l,x < 4294967296:=fun l hl=>by
 obtain ⟨j,_,rfl⟩:=List.mem_map.1 hl
 exact limbs_lt _
theorem spanS_le {q most : Nat} {A M : Int → Int → Int} : ∀ {rs L K : List (List Int)},L.length ≤ most → spanS q most A M rs L = some K → K.length ≤ most
 | [],L,K,h,e=>by
  rw [spanS,Option.some.injEq] at e;subst e;exact h
 | r::rs,L,K,h,e=>by
  rw [spanS] at e
  by_cases h1 : r ∈ L
  ·rw [if_pos h1] at e;exact spanS_le h e
  ·rw [if_neg h1] at e
   by_cases h2 : most / q < L.length
   ·rw [if_pos h2] at e;cases e
   ·rw [if_neg h2] at e
    refine spanS_le ?_ e
    rw [ext_len]
    exact Nat.le_trans (Nat.mul_le_mul_left q (by omega)) (Nat.mul_div_le most q)
section
variable {q : Nat} {A M : Int → Int → Int} (F : FI q A M)
include F
end
theorem units_eq (n : Nat) : (List.range n).map (unitW n) = (List.range' 0 n).map (unitW n):=by rw [List.range_eq_range']
open Go Go.Fw
set_option maxRecDepth 100000
set_option linter.unusedVariables false
set_option linter.unusedSimpArgs false
set_option maxHeartbeats 8000000
theorem lsum_one : ∀ L : List (List Int),lsum L (fun _=>1) = L.length
 | []=>rfl
 | u::L=>by rw [lsum,lsum_one L,List.length_cons];omega
theorem toP_cw {n : Nat} {L : List (List Int)} : ∀ k,k ≤ n + 1 → ((toP (cwL n L) k : Nat) : Int) = sm k (fun i=>1 * cntW L i)
 | 0,_=>rfl
 | k + 1,h=>by rw [toP,sm,Int.natCast_add,toP_cw k (by omega),cwL_at (by omega),val_limbs,cntW_cw,Int.one_mul]
theorem toP_all_cw {n : Nat} {L : List (List Int)} (hL : ∀ u ∈ L,u.length = n) : toP (cwL n L) (n + 1) = L.length:=by
 have h:=toP_cw (L:=L) (n + 1) (Nat.le_refl _)
 rw [← lsum_wt hL (fun _=>1),lsum_one] at h
 exact Int.ofNat.inj h
section
variable {q : Nat} {A M : Int → Int → Int} (F : FI q A M)
include F
theorem duS_cw {n : Nat} {rows L K : List (List Int)} (h : SpI q n A M rows L) (hK : AlI q n n K) (j : Nat) : duS q n (cwL n L) j = L.length * (cwN (K.filter (orthB A M rows)) j : Int):=by
 rw [← cntW_cw,mac_wt F h hK j,lsum_wt (fun u hu=>(h.wd u hu).1) (fun i=>kr ((q : Int) - 1) n j i),duS]
 refine sm_congr fun i hi=>?_
 rw [cwL_at (by omega),val_limbs,cntW_cw,Int.mul_comm]
theorem du_cw {n : Nat} {rows L K : List (List Int)} (h : SpI q n A M rows L) (hK : AlI q n n K) (j : Nat) : duOk q n (cwL n L) j ∧ duV q n (cwL n L) j = cwN (K.filter (orthB A M rows)) j:=by
 have hl:=toP_all_cw fun u hu=>(h.wd u hu).1
 have hp:=h.pos
 have e:=duS_cw F h hK j
 rw [← Int.natCast_mul] at e
 unfold duOk duV
 rw [hl,e,Int.natAbs_natCast,Nat.mul_mod_right,Nat.mul_div_cancel_left _ hp]
 exact ⟨⟨by omega,rfl⟩,rfl⟩
theorem dual_cw {n : Nat} (hq : q ≤ 256) (hn : n ≤ 64) {rows L K : List (List Int)} (h : SpI q n A M rows L) (hK : AlI q n n K) : DE q (n + 1) (cwL n L) = 0 ∧ DR q (n + 1) (cwL n L) = cwL n (K.filter (orthB A M rows)):=by
 have hq2:=F.q2
 have hw : wrongOf q (n + 1) = 0:=by
  rw [wrongOf,if_neg (by omega),shapeOf]
  simp;omega
 have hs : sumV (cwL n L) ≠ 0:=by
  have h1:=toP_all (cwL n L)
  rw [cwL_len,toP_all_cw fun u hu=>(h.wd u hu).1] at h1
  have:=h.pos;omega
 have ha : duAll q n (cwL n L):=fun j _=>(du_cw F h hK j).1
 unfold DE DR
 rw [if_neg (by rw [hw];simp),if_neg hs,if_neg (by rw [hw];simp),if_neg hs,Int.toNat_natCast,Nat.add_sub_cancel,duE,if_pos ha,duR,if_pos ha]
 exact ⟨rfl,List.map_congr_left fun j _=>by rw [(du_cw F h hK j).2]⟩
end
open Go Go.Fw
set_option maxRecDepth 100000
set_option linter.unusedVariables false
set_option linter.unusedSimpArgs false
set_option maxHeartbeats 8000000
def extS (D : List (List Int)) : Nat → List Nat
 | 0=>[]
 | k + 1=>extS D k++(if cwN D (k + 1) = 0 then [] else [k + 1])
theorem extS_mem {D : List (List Int)} : ∀ k j,1 ≤ j → j ≤ k → cwN D j ≠ 0 → j ∈ extS D k
 | 0,j,h1,h2,_=>by omega
 | k + 1,j,h1,h2,h=>by
  rw [extS]
  by_cases e : j = k + 1
  ·subst e;rw [if_neg h];exact List.mem_append_right _ (.head _)
  ·exact List.mem_append_left _ (extS_mem k j h1 (by omega) h)
theorem extS_len {n : Nat} {D : List (List Int)} : ∀ k,k ≤ n → (extS D k).length = cntP (cwL n D) k
 | 0,_=>rfl
 | k + 1,h=>by
  rw [extS,List.length_append,extS_len (n:=n) k (by omega),cntP,cwL_at (n:=n) (show k + 1 ≤ n by omega),val_limbs]
  by_cases e : cwN D (k + 1) = 0
  ·rw [if_pos e,if_pos e];rfl
  ·rw [if_neg e,if_neg e];rfl
def kM (ms : List Nat) (s : Nat) : Nat:=(ms.filter fun m=>decide (m &&& s = s)).length
theorem kM_snoc (ms : List Nat) (m s : Nat) : kM (ms++[m]) s = kM ms s + if m &&& s = s then 1 else 0:=by
 rw [kM,List.filter_append,List.length_append,← kM]
 congr 1
 by_cases h : m &&& s = s
 ·rw [if_pos h,List.filter_cons,if_pos (decide_eq_true h)];rfl
 ·rw [if_neg h,List.filter_cons,if_neg (by simp [h])];rfl
theorem kM_le (ms : List Nat) (s : Nat) : kM ms s ≤ ms.length:=List.length_filter_le _ _
theorem S_macwilliams_Design_1 {b1 b2 b3 n cap s : Nat} {pm : Option Addr} {ms : List Nat} {c : Int} {e : Bool} (hs : s < 18446744073709551616) (hn : ms.length ≤ 1000000) (hc : -1 ≤ c) (hc2 : c ≤ 1000000) :
  Ctr Try.prog 26 [.int .u64 s,.pointer (some ⟨b1,0,none⟩),.pointer (some ⟨b2,0,none⟩),.pointer (some ⟨b3,0,none⟩)]
   [(some b1,52,[.slice pm n cap]),(some b2,3,[.int .i64 c]),(some b3,4,[.bool e])] [slF (encNat .u64 8) pm n cap ms]
   (fun v Φ β=>v = .bool (decide (c < 0 ∨ (kM ms s : Int) = c)) ∧ Φ = [] ∧ β = [(some b1,52,[.slice pm n cap]),(some b2,3,[.int .i64 (kM ms s)]),(some b3,4,[.bool (decide (c < 0 ∨ (kM ms s : Int) = c))])]):=by
 refine Ctr_of_j' (F:=F_macwilliams_Design_1) rfl fun C=>?_
 refine j_len 0 rfl fun e1 hb1 _=>?_
 have hb1' : ms.length * 8 ≤ 140737488355328:=hb1
 subst e1
 refine j_nf [_,_] rfl (j_run it 1 rfl (by simp) ?_)
 refine j_nf [_,_] rfl (j_run it 1 rfl (by simp) ?_)
 refine j_nf [_,_,_] rfl (j_step rfl (x_bld 0 rfl rfl ld52 rfl ?_))
 refine j_step rfl (x_len sl52 rfl ?_)
 refine j_run it 1 rfl (by simp) ?_
 refine j_nf [_,_,_] rfl ?_
 refine j_loopG (X:=Nat) [0,2,3,5,9,10] [0] (fun i=>[(11,.int .i64 (i : Int)),(6,.int .i64 (kM (ms.take i) s : Int))]) (fun _=>[(some b1,52,[.slice pm ms.length cap]),(some b2,3,[.int .i64 c]),(some b3,4,[.bool e])]) (fun _=>[]) (fun i=>i ≤ ms.length) (fun i=>ms.length - i) 0 [] rfl rfl rfl (Nat.zero_le _) (by repeat (first | exact Fr.sub_nil _ | refine Fr.sub_cons rfl ?_)) rfl rfl ?_
 rintro i hi ih
 simp only [List.cons_append,List.nil_append] at hi ih ⊢
 by_cases hil : i < ms.length
 ·have ih':=ih (i + 1) (by omega) (by omega)
  have hz : ms[i]? = some (ms.getD i default):=by rw [List.getD_eq_getElem?_getD,List.getElem?_eq_getElem hil];rfl
  have hk:=kM_le (ms.take i) s
  rw [List.length_take] at hk
  rw [show ms.take (i + 1) = ms.take i++[ms.getD i default] by rw [List.take_succ_eq_append_getElem hil,List.getD_eq_getElem?_getD,List.getElem?_eq_getElem hil];rfl,kM_snoc] at ih'
  refine j_nf [_,_,_,_,_] rfl (j_run it 1 rfl (by simp) ?_)
  refine j_nf [_,_,_,_,_] rfl (j_if rfl rfl (fun h1=>?_) (fun h1=>by exfalso;omega))
  refine j_nf [_,_,_,_,_,_,_] rfl (j_step rfl (x_idx 0 (i) rfl rfl rfl sl52 rfl (by omega) fun z1 hz1 b4 o1=>?_))
  refine j_step rfl (x_ld_nat 0 rfl rfl ld51 fun ⟨r1,r2⟩=>?_)
  refine j_run it 1 rfl (by simp) ?_
  refine j_nf [_,_,_,_,_,_,_] rfl (j_run it 2 rfl (by simp) ?_)
  refine j_step rfl (x_and_nat (z1) (s) rfl rfl (by first | rfl | omega) (by first | rfl | omega) (by omega) (by omega) ?_)
  refine j_run it 2 rfl (by simp) ?_
  refine j_nf [_,_,_,_,_,_] rfl (j_if rfl rfl (fun h2=>?_) (fun h2=>?_))
  ·obtain rfl : z1 = ms.getD i default:=Option.some.inj (hz1.symm.trans hz)
   rw [if_pos (by omega)] at ih'
   refine j_nf [_,_,_,_,_,_] rfl (j_run it 3 rfl ⟨trivial,⟨by omega,by omega⟩,trivial,trivial⟩ ?_)
   refine j_nf [_,_,_,_] rfl (j_run it 2 rfl ⟨trivial,⟨by omega,by omega⟩,trivial⟩ ?_)
   refine j_nfn 1 [.lp (pL 116),.blk 0,.c [1,1,1]] rfl ?_
   refine j_to [1] (by exact fra rfl) rfl rfl (ih')
  ·obtain rfl : z1 = ms.getD i default:=Option.some.inj (hz1.symm.trans hz)
   rw [if_neg (by omega),Nat.add_zero] at ih'
   refine j_nf [_,_,_,_] rfl (j_run it 2 rfl ⟨trivial,⟨by omega,by omega⟩,trivial⟩ ?_)
   refine j_nfn 1 [.lp (pL 116),.blk 0,.c [1,1,1]] rfl ?_
   refine j_to [1] (by exact fra rfl) rfl rfl (ih')
 ·obtain rfl : i = ms.length:=by omega
  rw [List.take_length]
  have hk:=kM_le ms s
  by_cases h0 : c < 0
  ·rw [decide_eq_true (show c < 0 ∨ (kM ms s : Int) = c from .inl h0)]
   refine j_nf [_,_,_,_,_] rfl (j_run it 1 rfl (by simp) ?_)
   refine j_nf [_,_,_,_,_] rfl (j_if rfl rfl (fun h1=>by exfalso;omega) (fun h1=>?_))
   refine j_nf [_,_] rfl (j_step rfl (x_bld 1 rfl rfl ld3 rfl ?_))
   refine j_run it 2 rfl (by simp) ?_
   refine j_split_dec (t:=25) rfl (fun h2=>?_) (fun h2=>by exfalso;omega)
   refine j_run it 4 rfl (by simp) ?_
   refine j_step rfl (x_bst1 2 rfl rfl rfl rfl ld4 rfl (Nat.le_of_ble_eq_true rfl) ?_)
   refine j_nf [_,_] rfl (j_run it 1 rfl (by simp) ?_)
   refine j_step rfl (x_bst1 1 rfl rfl rfl rfl ld3 rfl (Nat.le_of_ble_eq_true rfl) ?_)
   refine j_nf [_,_] rfl (j_step rfl (x_bld 2 rfl rfl ld4 rfl ?_))
   refine j_run it 1 rfl (by simp) ?_
   refine j_nf [_] rfl ?_
   refine j_givK 3 [0,1,2] [] rfl (.tmp rfl .nil) rfl rfl rfl ⟨rfl,rfl,rfl⟩
  ·by_cases h1 : (kM ms s : Int) = c
   ·rw [decide_eq_true (show c < 0 ∨ (kM ms s : Int) = c from .inr h1)]
    refine j_nf [_,_,_,_,_] rfl (j_run it 1 rfl (by simp) ?_)
    refine j_nf [_,_,_,_,_] rfl (j_if rfl rfl (fun h2=>by exfalso;omega) (fun h2=>?_))
    refine j_nf [_,_] rfl (j_step rfl (x_bld 1 rfl rfl ld3 rfl ?_))
    refine j_run it 2 rfl (by simp) ?_
    refine j_split_dec (t:=25) rfl (fun h3=>by exfalso;omega) (fun h3=>?_)
    refine j_run it 1 rfl (by simp) ?_
    refine j_gstep rfl rfl (x_bld 1 rfl rfl ld3 rfl ?_)
    refine j_run it 2 rfl (by simp) ?_
    refine j_step rfl (x_bst1 2 rfl rfl rfl rfl ld4 rfl (Nat.le_of_ble_eq_true rfl) ?_)
    refine j_nf [_,_] rfl (j_run it 1 rfl (by simp) ?_)
    refine j_step rfl (x_bst1 1 rfl rfl rfl rfl ld3 rfl (Nat.le_of_ble_eq_true rfl) ?_)
    refine j_nf [_,_] rfl (j_step rfl (x_bld 2 rfl rfl ld4 rfl ?_))
    refine j_run it 1 rfl (by simp) ?_
    refine j_nf [_] rfl ?_
    rw [decide_eq_true h1]
    refine j_givK 3 [0,1,2] [] rfl (.tmp rfl .nil) rfl rfl rfl ⟨rfl,rfl,rfl⟩
   ·rw [decide_eq_false (show ¬ (c < 0 ∨ (kM ms s : Int) = c) from fun h=>h.elim h0 h1)]
    refine j_nf [_,_,_,_,_] rfl (j_run it 1 rfl (by simp) ?_)
    refine j_nf [_,_,_,_,_] rfl (j_if rfl rfl (fun h2=>by exfalso;omega) (fun h2=>?_))
    refine j_nf [_,_] rfl (j_step rfl (x_bld 1 rfl rfl ld3 rfl ?_))
    refine j_run it 2 rfl (by simp) ?_
    refine j_split_dec (t:=25) rfl (fun h3=>by exfalso;omega) (fun h3=>?_)
    refine j_run it 1 rfl (by simp) ?_
    refine j_gstep rfl rfl (x_bld 1 rfl rfl ld3 rfl ?_)
    refine j_run it 2 rfl (by simp) ?_
    refine j_step rfl (x_bst1 2 rfl rfl rfl rfl ld4 rfl (Nat.le_of_ble_eq_true rfl) ?_)
    refine j_nf [_,_] rfl (j_run it 1 rfl (by simp) ?_)
    refine j_step rfl (x_bst1 1 rfl rfl rfl rfl ld3 rfl (Nat.le_of_ble_eq_true rfl) ?_)
    refine j_nf [_,_] rfl (j_step rfl (x_bld 2 rfl rfl ld4 rfl ?_))
    refine j_run it 1 rfl (by simp) ?_
    refine j_nf [_] rfl ?_
    rw [decide_eq_false h1]
    refine j_givK 3 [0,1,2] [] rfl (.tmp rfl .nil) rfl rfl rfl ⟨rfl,rfl,rfl⟩
end Go.Proofs.Ytmhcfhddmkhaiaa
namespace Go.Fw
set_option linter.unusedVariables false
variable {P : Program} {C : Cx} {σ : Fr} {ty : TypeId} {β : List Blk} {Γ : List Fact}
theorem evs_const (σ : Fr) : ∀ l : List Value,evs σ (l.map Operand.const) = some l
 | []=>rfl
 | v::l=>by
  have h:=evs_const σ l
  simp [evs,ev,h]
theorem x_fv {K : Value → List Blk → List Fact → Prop} {f : FuncId} {x : Operand} {xs : List Operand} {ts : Array TypeId} {args caps : List Value} (hv : ev σ x = some (.func (.func f) #[] caps.toArray)) (hx : evs σ xs = some args)
  (h : Jop P C (.call { callee:=.value (.func f),args:=((args++caps).map Operand.const).toArray,argTypes:=ts }) ty σ β Γ K) : Jop P C (.call { callee:=.value x,args:=xs.toArray,argTypes:=ts }) ty σ β Γ K:=by
 intro w hO hG ρ hρ
 have h1:=h w hO hG ρ hρ
 have hc : ρ (.func f) = .func (.func f) #[] #[]:=hρ _ _ rfl
 have hv' : ρ x = .func (.func f) #[] caps.toArray:=hρ _ _ hv
 have ha : xs.toArray.map ρ = args.toArray:=by rw [List.map_toArray,evs_eq hρ hx]
 have hb : ((args++caps).map Operand.const).toArray.map ρ = (args++caps).toArray:=by rw [List.map_toArray,evs_eq hρ (evs_const σ _)]
 simp only [execOp,bare,resolve,hb,hc,Deferred.ofValue,Sem.run_bind,Sem.run_pure,Result.andThen_ok,invoke,Array.append_empty,Array.empty_append] at h1
 simp only [execOp,bare,resolve,ha,hv',Deferred.ofValue,Sem.run_bind,Sem.run_pure,Result.andThen_ok,invoke,Array.append_empty,Array.empty_append]
 rw [List.append_toArray]
 exact h1
end Go.Fw
namespace Go.Proofs.Ytmhcfhddmkhaiaa
open Go Go.Fw
set_option maxRecDepth 100000
set_option linter.unusedVariables false
set_option linter.unusedSimpArgs false
set_option maxHeartbeats 8000000
def visL (ms : List Nat) : List Nat → Int → Bool → Int × Bool × Bool
 | [],c,e=>(c,e,true)
 | s::l,c,_=>if c < 0 ∨ (kM ms s : Int) = c then visL ms l (kM ms s) true else (kM ms s,false,false)
theorem visL_app (ms : List Nat) : ∀ (l k : List Nat) (c : Int) (e : Bool),visL ms (l++k) c e = if (visL ms l c e).2.2 = true then visL ms k (visL ms l c e).1 (visL ms l c e).2.1 else visL ms l c e
 | [],k,c,e=>rfl
 | s::l,k,c,e=>by
  rw [List.cons_append,visL,visL]
  by_cases h : c < 0 ∨ (kM ms s : Int) = c
  ·rw [if_pos h,if_pos h];exact visL_app ms l k _ _
  ·rw [if_neg h,if_neg h];rfl
theorem visL_rng (ms : List Nat) : ∀ (l : List Nat) (c : Int) (e : Bool),-1 ≤ c → c ≤ 1000000 → ms.length ≤ 1000000 → -1 ≤ (visL ms l c e).1 ∧ (visL ms l c e).1 ≤ 1000000
 | [],c,e,h,h2,_=>⟨h,h2⟩
 | s::l,c,e,h,h2,h3=>by
  have hk:=kM_le ms s
  rw [visL]
  by_cases h : c < 0 ∨ (kM ms s : Int) = c
  ·rw [if_pos h];exact visL_rng ms l _ _ (by omega) (by omega) h3
  ·rw [if_neg h];exact ⟨by show (-1 : Int) ≤ kM ms s;omega,by show (kM ms s : Int) ≤ 1000000;omega⟩
def subsL (n : Nat) : Nat → Nat → Nat → List Nat
 | 0,_,s=>[s]
 | t + 1,low,s=>(List.range' low (n - t - low)).flatMap fun p=>subsL n t (p + 1) (s ||| 1 * 2 ^ p)
abbrev visB (b1 b2 b3 : Nat) (pm : Option Addr) (n cap : Nat) (c : Int) (e : Bool) : List Blk:=[(some b1,52,[.slice pm n cap]),(some b2,3,[.int .i64 c]),(some b3,4,[.bool e])]
theorem S_macwilliams_subsets {b1 b2 b3 nm cap n : Nat} {pm : Option Addr} {ms : List Nat} (hn : n ≤ 64) (hm : ms.length ≤ 1000000) : ∀ {t low s : Nat} {c : Int} {e : Bool},t ≤ n → low ≤ n → s < 18446744073709551616 → -1 ≤ c → c ≤ 1000000 →
  Ctr Try.prog 25 [.int .i64 n,.int .i64 t,.int .i64 low,.int .u64 s,.func (.func 26) #[] #[.pointer (some ⟨b1,0,none⟩),.pointer (some ⟨b2,0,none⟩),.pointer (some ⟨b3,0,none⟩)]]
   (visB b1 b2 b3 pm nm cap c e) [slF (encNat .u64 8) pm nm cap ms]
   (fun v Φ β=>v = .bool (visL ms (subsL n t low s) c e).2.2 ∧ Φ = [] ∧ β = visB b1 b2 b3 pm nm cap (visL ms (subsL n t low s) c e).1 (visL ms (subsL n t low s) c e).2.1):=by
 intro t
 induction t with
 | zero =>
  intro low s c e ht hl hs hc hc2
  refine Ctr_of_j' (F:=F_macwilliams_subsets) rfl fun C=>?_
  have hk:=kM_le ms s
  unfold visB
  have e0 : visL ms (subsL n 0 low s) c e = ((kM ms s : Int),decide (c < 0 ∨ (kM ms s : Int) = c),decide (c < 0 ∨ (kM ms s : Int) = c)):=by
   rw [subsL,visL]
   by_cases h : c < 0 ∨ (kM ms s : Int) = c
   ·rw [if_pos h,decide_eq_true h];rfl
   ·rw [if_neg h,decide_eq_false h]
  rw [e0]
  refine j_nf [_,_] rfl (j_run it 1 rfl (by simp) ?_)
  refine j_nf [_,_,_] rfl (j_run it 2 rfl (by simp) ?_)
  refine j_nf [_,_] rfl (j_if rfl rfl (fun h1=>?_) (fun h1=>by exfalso;omega))
  refine j_nf [_,_,_] rfl (j_run it 2 rfl (by simp) ?_)
  refine j_step rfl <| x_fv rfl rfl (x_callN 3 [0] rfl rfl (S_macwilliams_Design_1 (by omega) (by omega) (by omega) (by omega)) rfl ?_)
  rintro _ _ _ ⟨rfl,rfl,rfl⟩
  simp only [List.cons_append,List.nil_append]
  refine j_run it 1 rfl (by simp) ?_
  refine j_nf [_,_] rfl ?_
  refine j_givK 3 [0,1,2] [] rfl (.tmp rfl .nil) rfl rfl rfl ⟨rfl,rfl,rfl⟩
 | succ t ih =>
  intro low s c e ht hl hs hc hc2
  refine Ctr_of_j' (F:=F_macwilliams_subsets) rfl fun C=>?_
  unfold visB
  rw [show subsL n (t + 1) low s = (List.range' low (n - t - low)).flatMap fun p=>subsL n t (p + 1) (s ||| 1 * 2 ^ p) from rfl]
  generalize hR : visL ms ((List.range' low (n - t - low)).flatMap fun p=>subsL n t (p + 1) (s ||| 1 * 2 ^ p)) c e = R
  refine j_nf [_,_] rfl (j_run it 1 rfl (by simp) ?_)
  refine j_nf [_,_,_] rfl (j_run it 2 rfl (by simp) ?_)
  refine j_nf [_,_] rfl (j_if rfl rfl (fun h1=>by exfalso;omega) (fun h1=>?_))
  refine j_nf [_,_,_] rfl (j_run it 2 rfl (by simp) ?_)
  refine j_nf [_,_,_] rfl ?_
  refine j_loopG (X:=Nat × Int × Bool) [0,1,3,4] [0] (fun x=>[(11,.int .i64 (x.1 : Int))]) (fun x=>[(some b1,52,[.slice pm nm cap]),(some b2,3,[.int .i64 x.2.1]),(some b3,4,[.bool x.2.2])]) (fun _=>[])
   (fun x=>x.1 ≤ n ∧ -1 ≤ x.2.1 ∧ x.2.1 ≤ 1000000 ∧ visL ms ((List.range' x.1 (n - t - x.1)).flatMap fun p=>subsL n t (p + 1) (s ||| 1 * 2 ^ p)) x.2.1 x.2.2 = R) (fun x=>n - x.1) (low,c,e) [] rfl rfl rfl ⟨hl,hc,hc2,hR⟩ (by repeat (first | exact Fr.sub_nil _ | refine Fr.sub_cons rfl ?_)) rfl rfl ?_
  rintro ⟨p,c0,e0⟩ ⟨hp,h1,h2,hv⟩ ihl
  simp only [List.cons_append,List.nil_append] at hp h1 h2 hv ihl ⊢
  by_cases hpl : p < n - t
  ·rw [show n - t - p = (n - t - (p + 1)) + 1 by omega,List.range'_succ,List.flatMap_cons,visL_app] at hv
   have h2p : 2 ^ p < 18446744073709551616:=Nat.pow_lt_pow_right (n:=64) (by decide) (by omega)
   have hb : s ||| 1 * 2 ^ p < 18446744073709551616:=Nat.or_lt_two_pow (n:=64) hs (by rw [Nat.one_mul];exact h2p)
   have hir : InR .u64 ((1 * 2 ^ p : Nat) : Int):=by
    rw [Nat.one_mul]
    generalize 2 ^ p = z at *
    simp only [InR];omega
   have hg:=visL_rng ms (subsL n t (p + 1) (s ||| 1 * 2 ^ p)) c0 e0 h1 h2 hm
   have c_macwilliams_subsets:=ih (low:=p + 1) (s:=s ||| 1 * 2 ^ p) (c:=c0) (e:=e0) (by omega) (by omega) hb h1 h2
   unfold visB at c_macwilliams_subsets
   refine j_nf [_,_,_,_,_,_] rfl (j_run it 5 rfl ⟨trivial,⟨by omega,by omega⟩,trivial,trivial,trivial,trivial⟩ ?_)
   refine j_nf [_,_,_,_,_] rfl (j_if rfl rfl (fun h3=>?_) (fun h3=>by exfalso;omega))
   refine j_nf [_,_,_,_,_,_,_] rfl (j_run it 7 rfl ⟨trivial,trivial,⟨by omega,by omega⟩,trivial,⟨by omega,by omega⟩,trivial,trivial,trivial⟩ ?_)
   refine j_step rfl (x_shl_nat 1 (p) rfl rfl (by first | rfl | omega) (by first | rfl | omega) (by first | decide | (simp only [IntKind.bits];omega)) (by first | assumption | (simp only [InR];omega)) ?_)
   refine j_step rfl (x_or_nat (s) (1 * 2 ^ p) rfl rfl (by first | rfl | omega) (by first | rfl | omega) (by omega) (by omega) ?_)
   refine j_run it 1 rfl (by simp) ?_
   rw [show ((t + 1 : Nat) : Int) - 1 = (t : Int) by omega,show (p : Int) + 1 = ((p + 1 : Nat) : Int) by omega]
   generalize visL ms (subsL n t (p + 1) (s ||| 1 * 2 ^ p)) c0 e0 = v at *
   obtain ⟨c1,e1,r1⟩:=v
   cases r1 with
   | false =>
    rw [if_neg (by simp)] at hv
    subst hv
    refine j_step rfl (x_callN 3 [0] rfl rfl (c_macwilliams_subsets) rfl ?_)
    rintro _ _ _ ⟨rfl,rfl,rfl⟩
    simp only [List.cons_append,List.nil_append]
    refine j_run it 1 rfl (by simp) ?_
    refine j_nf [_,_,_,_,_,_] rfl ?_
    refine j_true rfl rfl ?_
    refine j_nf [_,_,_,_,_,_,_] rfl (j_run it 1 rfl (by simp) ?_)
    refine j_nf [_,_,_,_,_,_] rfl ?_
    refine j_givK 3 [0,1,2] [] rfl (.tmp rfl .nil) rfl rfl rfl ⟨rfl,rfl,rfl⟩
   | true =>
    rw [if_pos rfl] at hv
    refine j_step rfl (x_callN 3 [0] rfl rfl (c_macwilliams_subsets) rfl ?_)
    rintro _ _ _ ⟨rfl,rfl,rfl⟩
    simp only [List.cons_append,List.nil_append]
    refine j_run it 1 rfl (by simp) ?_
    refine j_nf [_,_,_,_,_,_] rfl ?_
    refine j_false rfl rfl ?_
    refine j_nf [_,_,_,_] rfl (j_run it 3 rfl ⟨trivial,⟨by omega,by omega⟩,trivial,trivial⟩ ?_)
    refine j_nfn 1 [.lp (pL 116),.blk 0,.c [1,1,1]] rfl ?_
    refine j_to [0] (by exact fra rfl) rfl rfl (ihl (p + 1,c1,e1) (by dsimp only;omega) ⟨by dsimp only;omega,hg.1,hg.2,hv⟩)
  ·rw [show n - t - p = 0 by omega,List.range'_zero,List.flatMap_nil,visL] at hv
   subst hv
   refine j_nf [_,_,_,_,_,_] rfl (j_run it 5 rfl ⟨trivial,⟨by omega,by omega⟩,trivial,trivial,trivial,trivial⟩ ?_)
   refine j_nf [_,_,_,_,_] rfl (j_if rfl rfl (fun h3=>by exfalso;omega) (fun h3=>?_))
   refine j_nf [_,_] rfl (j_run it 1 rfl (by simp) ?_)
   refine j_nf [_] rfl ?_
   refine j_givK 3 [0,1,2] [] rfl (.tmp rfl .nil) rfl rfl rfl ⟨rfl,rfl,rfl⟩
def setsL (n : Nat) : Nat → Nat → List (List Int)
 | 0,_=>[[]]
 | t + 1,first=>(List.range' first (n - t - first)).flatMap fun i=>(setsL n t (i + 1)).map fun r=>(i : Int)::r
def mskF (s : Nat) (l : List Int) : Nat:=l.foldl (fun m p=>m ||| 1 * 2 ^ p.toNat) s
theorem subs_sets (n : Nat) : ∀ t low s,subsL n t low s = (setsL n t low).map (mskF s)
 | 0,low,s=>rfl
 | t + 1,low,s=>by
  rw [subsL,setsL,List.map_flatMap]
  congr 1
  funext i
  rw [subs_sets n t (i + 1),List.map_map]
  rfl
theorem mskF_bit : ∀ {l : List Int} {s : Nat},(∀ p ∈ l,0 ≤ p) → ∀ i : Nat,(mskF s l).testBit i = (s.testBit i || decide ((i : Int) ∈ l))
 | [],s,_,i=>by simp [mskF]
 | p::l,s,h,i=>by
  have hp:=h p (.head _)
  show (mskF (s ||| 1 * 2 ^ p.toNat) l).testBit i = _
  rw [mskF_bit (fun x hx=>h x (.tail _ hx)) i,Nat.one_mul,Nat.testBit_or,Nat.testBit_two_pow,Bool.or_assoc]
  congr 1
  by_cases e : p.toNat = i
  ·have e2 : (i : Int) = p:=by omega
   simp [e,e2]
  ·have e2 : (i : Int) ≠ p:=by omega
   simp [e,e2]
def desR (n : Int) (L : List (List Int)) (t : Int) : Int × Int :=
 if n < 0 ∨ 64 < n then (0,6) else
 match blksN n.toNat L with
 | none=>(0,5)
 | some ms=>if t < 0 ∨ n < t then (0,6) else if 65536 < binom n.toNat t.toNat then (0,8) else
  let r:=visL ms (subsL n.toNat t.toNat 0 0) (-1) true
  if r.2.1 = true then (r.1,0) else (0,11)
theorem S_macwilliams_Design {pa : Option Addr} {nb ca : Nat} {n t : Int} {L : List (List Int)} (hL : L.length ≤ 1000000) :
  Ctr Try.prog 8 [.int .i64 n,.slice pa nb ca,.int .i64 t] [] [slF (encSl I64) pa nb ca L] (Rv (.tuple #[.int .i64 (desR n L t).1,.int .i64 (desR n L t).2]) []):=by
 refine Ctr_of_j' (F:=F_macwilliams_Design) rfl fun C=>?_
 refine j_len 0 rfl fun e1 hb1 _=>?_
 subst e1
 by_cases h1 : n < 0 ∨ 64 < n
 ·have e0 : desR n L t = (0,6):=by rw [desR,if_pos h1]
  rw [e0]
  by_cases h2 : n < 0
  ·refine j_nf [_,_] rfl (j_run it 2 rfl (by simp) ?_)
   refine j_nf [_,_,_] rfl (j_run it 3 rfl (by simp) ?_)
   refine j_split_dec (t:=21) rfl (fun h3=>?_) (fun h3=>by exfalso;omega)
   refine j_run it 3 rfl (by simp) ?_
   refine j_nf [_,_] rfl ?_
   refine j_true rfl rfl ?_
   refine j_nf [_,_,_] rfl (j_run it 2 rfl (by simp) ?_)
   refine j_nf [_,_] rfl ?_
   refine j_giv [] rfl rfl rfl ⟨rfl,rfl,rfl⟩
  ·have h3 : 64 < n:=by omega
   refine j_nf [_,_] rfl (j_run it 2 rfl (by simp) ?_)
   refine j_nf [_,_,_] rfl (j_run it 3 rfl (by simp) ?_)
   refine j_split_dec (t:=21) rfl (fun h4=>by exfalso;omega) (fun h4=>?_)
   refine j_run it 3 rfl (by simp) ?_
   refine j_nf [_,_] rfl (j_if rfl rfl (fun h5=>?_) (fun h5=>by exfalso;omega))
   refine j_nf [_,_,_] rfl (j_run it 2 rfl (by simp) ?_)
   refine j_nf [_,_] rfl ?_
   refine j_giv [] rfl rfl rfl ⟨rfl,rfl,rfl⟩
 obtain ⟨n,rfl⟩ : ∃ k : Nat,n = k:=⟨n.toNat,by omega⟩
 have hn : n ≤ 64:=by omega
 refine j_nf [_,_] rfl (j_run it 2 rfl (by simp) ?_)
 refine j_nf [_,_,_] rfl (j_run it 6 rfl (by simp) ?_)
 refine j_nf [_,_] rfl (j_if rfl rfl (fun h2=>by exfalso;omega) (fun h2=>?_))
 refine j_nf [_,_] rfl (j_step rfl (x_alloc zo52 fun b1=>?_))
 refine j_nf [_,_,_] rfl (j_run it 1 rfl (by simp) ?_)
 refine j_step rfl (x_len sl22 rfl ?_)
 refine j_run it 1 rfl (by simp) ?_
 refine j_nf [_,_,_] rfl ?_
 refine j_row0 (encNat .u64 8) 51 ?_
 refine j_loopG (X:=Nat × Row × List Nat) [0,2,8,25,26] [0,1] (fun x=>[(27,.int .i64 (x.1 : Int))]) (fun x=>[(x.2.1.bo,51,x.2.1.cs),(some b1,52,[.slice (ad x.2.1.bo) x.1 x.2.1.cap])]) (fun x=>[rowF (encNat .u64 8) x.2.1 x.1 x.2.2])
  (fun x=>x.1 ≤ L.length ∧ blksN n (L.take x.1) = some x.2.2) (fun x=>L.length - x.1) (0,⟨none,0,[]⟩,[]) [0] rfl rfl rfl ⟨Nat.zero_le _,rfl⟩ (by repeat (first | exact Fr.sub_nil _ | refine Fr.sub_cons rfl ?_)) rfl rfl ?_
 rintro ⟨i,r,ms⟩ ⟨hi,hb⟩ ih
 simp only [List.cons_append,List.nil_append] at hi hb ih ⊢
 by_cases hil : i < L.length
 ·have hz : L[i]? = some (L.getD i default):=by rw [List.getD_eq_getElem?_getD,List.getElem?_eq_getElem hil];rfl
  refine j_nf [_,_,_,_,_] rfl (j_run it 1 rfl (by simp) ?_)
  refine j_nf [_,_,_,_,_] rfl (j_if rfl rfl (fun h3=>?_) (fun h3=>by exfalso;omega))
  refine j_nf [_,_,_,_,_,_,_] rfl (j_step rfl (x_idx 2 (i) rfl rfl rfl sl22 rfl (by omega) fun z1 hz1 b2 o1=>?_))
  refine j_step rfl (x_ld_sl 0 rfl rfl ld29 fun pa1 ca1=>?_)
  refine j_run it 1 rfl (by simp) ?_
  refine j_nf [_,_,_,_,_,_,_] rfl (j_run it 2 rfl (by simp) ?_)
  refine j_nf [_,_,_,_,_,_,_,_] rfl (j_run it 1 rfl (by simp) ?_)
  refine j_step rfl (x_len sl29 rfl ?_)
  refine j_run it 1 rfl (by simp) ?_
  refine j_nf [_,_,_,_,_,_,_,_] rfl ?_
  obtain rfl : z1 = L.getD i default:=Option.some.inj (hz1.symm.trans hz)
  generalize hl : L.getD i default = l at *
  generalize hq : blkN n (-1) 0 l = q
  refine j_len 0 rfl fun _ hbl _=>?_
  have hbl' : l.length * 8 ≤ 140737488355328:=hbl
  refine j_loopG (X:=Nat × Int × Nat) [0,2,8,10,25,26,27,28,29,30,31,32] [0,1,2,3,4] (fun x=>[(33,.int .i64 (x.1 : Int)),(12,.int .i64 x.2.1),(11,.int .u64 (x.2.2 : Int))]) (fun _=>[(r.bo,51,r.cs),(some b1,52,[.slice (ad r.bo) i r.cap])]) (fun _=>[])
   (fun x=>x.1 ≤ l.length ∧ -1 ≤ x.2.1 ∧ x.2.1 < 64 ∧ x.2.2 < 18446744073709551616 ∧ blkN n x.2.1 x.2.2 (l.drop x.1) = q) (fun x=>l.length - x.1) (0,-1,0) [] rfl rfl rfl ⟨Nat.zero_le _,by decide,by decide,by decide,hq⟩ (by repeat (first | exact Fr.sub_nil _ | refine Fr.sub_cons rfl ?_)) rfl rfl ?_
  rintro ⟨j,last,m⟩ ⟨hj,hl1,hl2,hm,he⟩ ih2
  simp only [List.cons_append,List.nil_append] at hj hl1 hl2 hm he ih2 ⊢
  by_cases hjl : j < l.length
  ·obtain ⟨p,at_p,ed⟩ : ∃ p,l[j]? = some p ∧ l.drop j = p::l.drop (j + 1):=⟨l[j],List.getElem?_eq_getElem hjl,List.drop_eq_getElem_cons hjl⟩
   rw [ed,blkN] at he
   by_cases hc : p ≤ last ∨ (n : Int) ≤ p
   ·rw [if_pos hc] at he
    have e0 : desR n L t = (0,5):=by
     have : blksN n L = none:=blksN_none (hq.trans he.symm) (List.mem_of_getElem? hz)
     rw [desR,if_neg h1,Int.toNat_natCast,this]
    rw [e0]
    by_cases hc1 : p ≤ last
    ·refine j_nf [_,_,_,_,_,_,_,_,_,_] rfl (j_run it 1 rfl (by simp) ?_)
     refine j_nf [_,_,_,_,_,_,_,_,_,_] rfl (j_if rfl rfl (fun h4=>?_) (fun h4=>by exfalso;omega))
     refine j_nf [_,_,_,_,_,_,_,_,_,_,_,_] rfl (j_step rfl (x_idx 0 (j) rfl rfl rfl sl29 rfl (by omega) fun z1 hz2 b3 o2=>?_))
     obtain rfl : _ = z1:=Option.some.inj (at_p.symm.trans hz2)
     refine j_step rfl (x_ld_int 0 rfl rfl ld3 fun ⟨r1,r2⟩=>?_)
     refine j_run it 1 rfl (by simp) ?_
     refine j_nf [_,_,_,_,_,_,_,_,_,_,_,_,_] rfl (j_run it 4 rfl (by simp) ?_)
     refine j_split_dec (t:=40) rfl (fun h5=>?_) (fun h5=>by exfalso;omega)
     refine j_run it 4 rfl (by simp) ?_
     refine j_nf [_,_,_,_,_,_,_,_,_,_,_,_] rfl ?_
     refine j_true rfl rfl ?_
     refine j_nf [_,_,_,_,_,_,_,_,_,_,_,_,_] rfl (j_run it 2 rfl (by simp) ?_)
     refine j_nf [_,_,_,_,_,_,_,_,_,_,_,_] rfl ?_
     refine j_giv [] rfl rfl rfl ⟨rfl,rfl,rfl⟩
    ·refine j_nf [_,_,_,_,_,_,_,_,_,_] rfl (j_run it 1 rfl (by simp) ?_)
     refine j_nf [_,_,_,_,_,_,_,_,_,_] rfl (j_if rfl rfl (fun h4=>?_) (fun h4=>by exfalso;omega))
     refine j_nf [_,_,_,_,_,_,_,_,_,_,_,_] rfl (j_step rfl (x_idx 0 (j) rfl rfl rfl sl29 rfl (by omega) fun z1 hz2 b3 o2=>?_))
     obtain rfl : _ = z1:=Option.some.inj (at_p.symm.trans hz2)
     refine j_step rfl (x_ld_int 0 rfl rfl ld3 fun ⟨r1,r2⟩=>?_)
     refine j_run it 1 rfl (by simp) ?_
     refine j_nf [_,_,_,_,_,_,_,_,_,_,_,_,_] rfl (j_run it 4 rfl (by simp) ?_)
     refine j_split_dec (t:=40) rfl (fun h5=>by exfalso;omega) (fun h5=>?_)
     refine j_run it 4 rfl (by simp) ?_
     refine j_nf [_,_,_,_,_,_,_,_,_,_,_,_] rfl (j_if rfl rfl (fun h6=>?_) (fun h6=>by exfalso;omega))
     refine j_nf [_,_,_,_,_,_,_,_,_,_,_,_,_] rfl (j_run it 2 rfl (by simp) ?_)
     refine j_nf [_,_,_,_,_,_,_,_,_,_,_,_] rfl ?_
     refine j_giv [] rfl rfl rfl ⟨rfl,rfl,rfl⟩
   ·rw [if_neg hc] at he
    obtain ⟨k,rfl⟩ : ∃ k : Nat,p = k:=⟨p.toNat,by omega⟩
    rw [Int.toNat_natCast] at he
    have h2p : 2 ^ k < 18446744073709551616:=Nat.pow_lt_pow_right (n:=64) (by decide) (by omega)
    have hbm : m ||| 1 * 2 ^ k < 18446744073709551616:=Nat.or_lt_two_pow (n:=64) hm (by rw [Nat.one_mul];exact h2p)
    have hir : InR .u64 ((1 * 2 ^ k : Nat) : Int):=by
     rw [Nat.one_mul]
     generalize 2 ^ k = z at *
     simp only [InR];omega
    refine j_nf [_,_,_,_,_,_,_,_,_,_] rfl (j_run it 1 rfl (by simp) ?_)
    refine j_nf [_,_,_,_,_,_,_,_,_,_] rfl (j_if rfl rfl (fun h4=>?_) (fun h4=>by exfalso;omega))
    refine j_nf [_,_,_,_,_,_,_,_,_,_,_,_] rfl (j_step rfl (x_idx 0 (j) rfl rfl rfl sl29 rfl (by omega) fun z1 hz2 b3 o2=>?_))
    obtain rfl : _ = z1:=Option.some.inj (at_p.symm.trans hz2)
    refine j_step rfl (x_ld_int 0 rfl rfl ld3 fun ⟨r1,r2⟩=>?_)
    refine j_run it 1 rfl (by simp) ?_
    refine j_nf [_,_,_,_,_,_,_,_,_,_,_,_,_] rfl (j_run it 4 rfl (by simp) ?_)
    refine j_split_dec (t:=40) rfl (fun h5=>by exfalso;omega) (fun h5=>?_)
    refine j_run it 4 rfl (by simp) ?_
    refine j_nf [_,_,_,_,_,_,_,_,_,_,_,_] rfl (j_if rfl rfl (fun h6=>by exfalso;omega) (fun h6=>?_))
    refine j_nf [_,_,_,_,_,_,_,_,_,_,_,_] rfl (j_run it 2 rfl (by simp) ?_)
    refine j_nf [_,_,_,_,_,_,_,_,_,_,_] rfl (j_run it 2 rfl (by simp) ?_)
    refine j_step rfl (x_shl_nat 1 (k) rfl rfl (by first | rfl | omega) (by first | rfl | omega) (by first | decide | (simp only [IntKind.bits];omega)) (by first | assumption | (simp only [InR];omega)) ?_)
    refine j_step rfl (x_or_nat (m) (1 * 2 ^ k) rfl rfl (by first | rfl | omega) (by first | rfl | omega) (by omega) (by omega) ?_)
    refine j_run it 1 rfl (by simp) ?_
    refine j_nf [_,_,_,_,_,_,_,_,_] rfl (j_run it 2 rfl ⟨trivial,⟨by omega,by omega⟩,trivial⟩ ?_)
    refine j_nfn 1 [.lp (pL 250676),.blk 2,.c (pL 31335),.blk 1,.c (pL 1959),.lp (pL 244),.blk 0,.c [1,1,1,1]] rfl ?_
    refine j_to [1,2,3,4,5] (by exact fra rfl) rfl rfl (ih2 (j + 1,(k : Int),m ||| 1 * 2 ^ k) (by dsimp only;omega) ⟨by dsimp only;omega,by dsimp only;omega,by dsimp only;omega,hbm,he⟩)
  ·obtain rfl : j = l.length:=by omega
   rw [List.drop_length,blkN] at he
   refine j_nf [_,_,_,_,_,_,_,_,_,_] rfl (j_run it 1 rfl (by simp) ?_)
   refine j_nf [_,_,_,_,_,_,_,_,_,_] rfl (j_if rfl rfl (fun h4=>by exfalso;omega) (fun h4=>?_))
   refine j_nf [_,_,_,_,_,_] rfl (j_step rfl (x_bld 1 rfl rfl ld52 rfl ?_))
   refine j_run it 1 rfl (by simp) ?_
   refine j_step rfl (x_lit sl52 zo52e rfl rfl rfl rfl (by decide) (by decide) rfl fun b3=>?_)
   refine j_step rfl (x_appR (z:=(m)) 1 0 2 rfl rfl rfl rfl rfl sl52 zo52e rfl (fun w A hG=>(rd_nat (by first | rfl | omega) (by first | (simp only [InR];omega) | (simp [InR];done)))) (by omega) _ by52e (by omega) fun r1=>?_)
   refine j_step rfl (x_bst1 2 rfl rfl rfl rfl ld52 rfl (Nat.le_of_ble_eq_true rfl) ?_)
   refine j_nf [_,_,_,_] rfl (j_run it 2 rfl ⟨trivial,⟨by omega,by omega⟩,trivial⟩ ?_)
   refine j_nfn 1 [.lp (pL 244),.blk 0,.c [1,1,1,1]] rfl ?_
   refine j_toM [true,false,true] [0,4,5] (by exact fra rfl) rfl rfl (ih (i + 1,r1,ms++[m]) (by dsimp only;omega) ⟨by dsimp only;omega,by
    dsimp only
    rw [List.take_succ_eq_append_getElem hil,show L[i] = l from Option.some.inj ((List.getElem?_eq_getElem hil).symm.trans hz)]
    exact blksN_snoc (hq.trans he.symm) hb⟩)
 ·obtain rfl : i = L.length:=by omega
  rw [List.take_length] at hb
  have hml:=blksN_len hb
  have e0 : desR n L t = if t < 0 ∨ n < t then (0,6) else if 65536 < binom n t.toNat then (0,8) else
    if (visL ms (subsL n t.toNat 0 0) (-1) true).2.1 = true then ((visL ms (subsL n t.toNat 0 0) (-1) true).1,0) else (0,11):=by
   rw [desR,if_neg h1,Int.toNat_natCast,hb]
  rw [e0]
  clear e0
  by_cases ht : t < 0 ∨ n < t
  ·rw [if_pos ht]
   by_cases ht1 : t < 0
   ·refine j_nf [_,_,_,_,_] rfl (j_run it 1 rfl (by simp) ?_)
    refine j_nf [_,_,_,_,_] rfl (j_if rfl rfl (fun h3=>by exfalso;omega) (fun h3=>?_))
    refine j_nf [_,_,_] rfl (j_run it 3 rfl (by simp) ?_)
    refine j_split_dec (t:=58) rfl (fun h4=>?_) (fun h4=>by exfalso;omega)
    refine j_run it 4 rfl (by simp) ?_
    refine j_nf [_,_] rfl ?_
    refine j_true rfl rfl ?_
    refine j_nf [_,_,_] rfl (j_run it 2 rfl (by simp) ?_)
    refine j_nf [_,_] rfl ?_
    refine j_giv [] rfl rfl rfl ⟨rfl,rfl,rfl⟩
   ·refine j_nf [_,_,_,_,_] rfl (j_run it 1 rfl (by simp) ?_)
    refine j_nf [_,_,_,_,_] rfl (j_if rfl rfl (fun h3=>by exfalso;omega) (fun h3=>?_))
    refine j_nf [_,_,_] rfl (j_run it 3 rfl (by simp) ?_)
    refine j_split_dec (t:=58) rfl (fun h4=>by exfalso;omega) (fun h4=>?_)
    refine j_run it 4 rfl (by simp) ?_
    refine j_nf [_,_] rfl (j_if rfl rfl (fun h5=>?_) (fun h5=>by exfalso;omega))
    refine j_nf [_,_,_] rfl (j_run it 2 rfl (by simp) ?_)
    refine j_nf [_,_] rfl ?_
    refine j_giv [] rfl rfl rfl ⟨rfl,rfl,rfl⟩
  rw [if_neg ht]
  obtain ⟨t,rfl⟩ : ∃ k : Nat,t = k:=⟨t.toNat,by omega⟩
  rw [Int.toNat_natCast]
  by_cases hB : 65536 < binom n t
  ·rw [if_pos hB]
   have hcm : cmpN (val (limbs (binom n t))) (val (limbs 65536)) = 1:=by rw [val_limbs,val_limbs];exact cmpN_gt hB
   refine j_nf [_,_,_,_,_] rfl (j_run it 1 rfl (by simp) ?_)
   refine j_nf [_,_,_,_,_] rfl (j_if rfl rfl (fun h3=>by exfalso;omega) (fun h3=>?_))
   refine j_nf [_,_,_] rfl (j_run it 7 rfl (by simp) ?_)
   refine j_nf [_,_] rfl (j_if rfl rfl (fun h4=>by exfalso;omega) (fun h4=>?_))
   refine j_nf [_,_,_] rfl (j_run it 2 rfl (by simp) ?_)
   refine j_step rfl (x_call [] rfl (S_nat_Binomial (by omega)) rfl ?_)
   rintro _ _ _ ⟨pa1,ca1,rfl,rfl,rfl⟩
   simp only [List.cons_append,List.nil_append]
   refine j_run it 5 rfl (by simp) ?_
   refine j_nf [_,_,_] rfl (j_run it 1 rfl (by simp) ?_)
   refine j_step rfl (x_call [] rfl (S_nat_Of (by simp)) rfl ?_)
   rintro _ _ _ ⟨pa2,ca2,rfl,rfl,rfl⟩
   simp only [List.cons_append,List.nil_append]
   refine j_step rfl (x_call [1,0] rfl (S_nat_Cmp) rfl ?_)
   rintro _ _ _ ⟨rfl,rfl,rfl⟩
   simp only [List.cons_append,List.nil_append]
   refine j_run it 1 rfl (by simp) ?_
   refine j_nf [_,_] rfl (j_if rfl rfl (fun h5=>?_) (fun h5=>by exfalso;omega))
   refine j_nf [_,_,_] rfl (j_run it 2 rfl (by simp) ?_)
   refine j_nf [_,_] rfl ?_
   refine j_giv [] rfl rfl rfl ⟨rfl,rfl,rfl⟩
  ·rw [if_neg hB]
   have hcm : ¬ 0 < cmpN (val (limbs (binom n t))) (val (limbs 65536)):=by
    rw [val_limbs,val_limbs,cmpN,if_neg hB];split <;> omega
   refine j_pubR 0 0 rfl rfl (by show L.length * 8 ≤ 140737488355328;omega) ?_
   have hg:=visL_rng ms (subsL n t 0 0) (-1) true (by decide) (by decide) (by omega)
   refine j_nf [_,_,_,_,_] rfl (j_run it 1 rfl (by simp) ?_)
   refine j_nf [_,_,_,_,_] rfl (j_if rfl rfl (fun h3=>by exfalso;omega) (fun h3=>?_))
   refine j_nf [_,_,_] rfl (j_run it 7 rfl (by simp) ?_)
   refine j_nf [_,_] rfl (j_if rfl rfl (fun h4=>by exfalso;omega) (fun h4=>?_))
   refine j_nf [_,_,_] rfl (j_run it 2 rfl (by simp) ?_)
   refine j_step rfl (x_call [] rfl (S_nat_Binomial (by omega)) rfl ?_)
   rintro _ _ _ ⟨pa1,ca1,rfl,rfl,rfl⟩
   simp only [List.cons_append,List.nil_append]
   refine j_run it 5 rfl (by simp) ?_
   refine j_nf [_,_,_] rfl (j_run it 1 rfl (by simp) ?_)
   refine j_step rfl (x_call [] rfl (S_nat_Of (by simp)) rfl ?_)
   rintro _ _ _ ⟨pa2,ca2,rfl,rfl,rfl⟩
   simp only [List.cons_append,List.nil_append]
   refine j_step rfl (x_call [1,0] rfl (S_nat_Cmp) rfl ?_)
   rintro _ _ _ ⟨rfl,rfl,rfl⟩
   simp only [List.cons_append,List.nil_append]
   refine j_run it 1 rfl (by simp) ?_
   refine j_nf [_,_] rfl (j_if rfl rfl (fun h5=>by exfalso;omega) (fun h5=>?_))
   refine j_nf [_,_] rfl (j_step rfl (x_alloc zo3 fun b2=>?_))
   refine j_step rfl (x_bst1 0 rfl rfl rfl rfl ld3 rfl (Nat.le_of_ble_eq_true rfl) ?_)
   refine j_nf [_,_] rfl (j_step rfl (x_alloc zo4 fun b3=>?_))
   refine j_step rfl (x_bst1 0 rfl rfl rfl rfl ld4 rfl (Nat.le_of_ble_eq_true rfl) ?_)
   refine j_nf [_,_] rfl (j_run it 3 rfl (by simp) ?_)
   refine j_selB [2,1,0] rfl rfl ?_
   refine j_step rfl (x_callN 3 [2] rfl rfl (S_macwilliams_subsets (by omega) (by omega) (by omega) (by simp) (by simp) (by omega) (by omega)) rfl ?_)
   rintro _ _ _ ⟨rfl,rfl,rfl⟩
   simp only [List.cons_append,List.nil_append]
   refine j_nf [_,_,_] rfl (j_step rfl (x_bld 2 rfl rfl ld4 rfl ?_))
   refine j_run it 1 rfl (by simp) ?_
   refine j_nf [_,_] rfl ?_
   refine j_cond rfl rfl (fun h6=>?_) (fun h6=>?_)
   ·rw [if_neg (by simpa using h6)]
    refine j_nf [_,_,_] rfl (j_run it 2 rfl (by simp) ?_)
    refine j_nf [_,_] rfl ?_
    refine j_giv [] rfl rfl rfl ⟨rfl,rfl,rfl⟩
   ·rw [if_pos (by simpa using h6)]
    refine j_nf [_,_] rfl (j_step rfl (x_bld 1 rfl rfl ld3 rfl ?_))
    refine j_run it 2 rfl (by simp) ?_
    refine j_nf [_] rfl ?_
    refine j_giv [] rfl rfl rfl ⟨rfl,rfl,rfl⟩
def blkS (n : Nat) : Int → List Int → Bool
 | _,[]=>true
 | last,p::l=>if p ≤ last ∨ (n : Int) ≤ p then false else blkS n p l
theorem blkS_eq (n : Nat) : ∀ (l : List Int) (last : Int) (m : Nat),(blkN n last m l).isSome = blkS n last l
 | [],_,_=>rfl
 | p::l,last,m=>by
  rw [blkN,blkS]
  by_cases h : p ≤ last ∨ (n : Int) ≤ p
  ·rw [if_pos h,if_pos h];rfl
  ·rw [if_neg h,if_neg h];exact blkS_eq n l _ _
def insB (s t : List Int) : Bool:=s.all fun x=>t.any fun y=>y == x
theorem S_codewrightref24_Inside {pa pb : Option Addr} {n m ca cb : Nat} {s t : List Int} :
  Ctr Try.prog 28 [.slice pa n ca,.slice pb m cb] [] [slF I64 pa n ca s,slF I64 pb m cb t] (Rv (.bool (insB s t)) []):=by
 refine Ctr_of_j' (F:=F_codewrightref24_Inside) rfl fun C=>?_
 refine j_len 0 rfl fun e1 hb1 _=>?_
 have hb1' : s.length * 8 ≤ 140737488355328:=hb1
 subst e1
 refine j_len 1 rfl fun e1 hb2 _=>?_
 have hb2' : t.length * 8 ≤ 140737488355328:=hb2
 subst e1
 generalize hR : insB s t = R
 refine j_nf [_,_] rfl ?_
 refine j_run it 1 rfl (by simp) ?_
 refine j_nf [_,_,_] rfl ?_
 refine j_run it 1 rfl (by simp) ?_
 refine j_nf [_,_,_] rfl ?_
 refine j_loopG (X:=Nat) [0,1] [0,1] (fun i=>[(5,.int .i64 (i : Int))]) (fun _=>[]) (fun _=>[]) (fun i=>i ≤ s.length ∧ insB (s.drop i) t = R) (fun i=>s.length - i) 0 [] rfl rfl rfl ⟨Nat.zero_le _,hR⟩ (by repeat (first | exact Fr.sub_nil _ | refine Fr.sub_cons rfl ?_)) rfl rfl ?_
 rintro i ⟨hi,he⟩ ih
 simp only [List.cons_append,List.nil_append] at hi he ih ⊢
 by_cases hil : i < s.length
 ·obtain ⟨z,hz,ed⟩ : ∃ z,s[i]? = some z ∧ s.drop i = z::s.drop (i + 1):=⟨s[i],List.getElem?_eq_getElem hil,List.drop_eq_getElem_cons hil⟩
  have hzd : s.getD i default = z:=by rw [List.getD_eq_getElem?_getD,hz];rfl
  rw [ed,insB,List.all_cons] at he
  generalize hA : t.any (fun y=>y == z) = A at he
  refine j_nf [_,_,_,_,_,_] rfl ?_
  refine j_run it 2 rfl (by simp) ?_
  refine j_step rfl (x_len sl29 rfl ?_)
  refine j_run it 1 rfl (by simp) ?_
  refine j_nf [_,_,_,_,_] rfl ?_
  refine j_if rfl rfl (fun h1=>?_) (fun h1=>by exfalso;omega)
  refine j_nf [_,_,_,_,_,_,_] rfl ?_
  refine j_run it 1 rfl (by simp) ?_
  refine j_nf [_,_,_,_,_,_,_,_] rfl ?_
  refine j_run it 1 rfl (by simp) ?_
  refine j_nf [_,_,_,_,_,_,_,_] rfl ?_
  refine j_loopG (X:=Nat × Bool) [0,1,5,8,9,10,11] [0,1] (fun x=>[(7,.int .i64 (x.1 : Int)),(6,.bool x.2)]) (fun _=>[]) (fun _=>[]) (fun x=>x.1 ≤ t.length ∧ (x.2 || (t.drop x.1).any fun y=>y == z) = A) (fun x=>t.length - x.1) (0,false) [] rfl rfl rfl ⟨Nat.zero_le _,by rw [Bool.false_or];exact hA⟩ (by repeat (first | exact Fr.sub_nil _ | refine Fr.sub_cons rfl ?_)) rfl rfl ?_
  rintro ⟨j,b⟩ ⟨hj,hb⟩ ih2
  simp only [List.cons_append,List.nil_append] at hj hb ih2 ⊢
  by_cases hjl : j < t.length
  ·obtain ⟨y,hy,ey⟩ : ∃ y,t[j]? = some y ∧ t.drop j = y::t.drop (j + 1):=⟨t[j],List.getElem?_eq_getElem hjl,List.drop_eq_getElem_cons hjl⟩
   have hyd : t.getD j default = y:=by rw [List.getD_eq_getElem?_getD,hy];rfl
   rw [ey,List.any_cons] at hb
   cases b with
   | true =>
    rw [Bool.true_or] at hb
    refine j_nf [_,_,_,_,_,_,_,_,_,_,_] rfl ?_
    refine j_run it 2 rfl (by simp) ?_
    refine j_step rfl (x_len sl29 rfl ?_)
    refine j_run it 1 rfl (by simp) ?_
    refine j_nf [_,_,_,_,_,_,_,_,_,_] rfl ?_
    refine j_if rfl rfl (fun h2=>?_) (fun h2=>by exfalso;omega)
    refine j_nf [_,_,_,_,_,_,_,_,_,_,_] rfl ?_
    (apply j_drawK it mx 12;(· rfl);(· rfl))
    (apply lxk_run 10;(· rfl);(· simp))
    (apply lxk_run 2;(· rfl);(· simp))
    refine lxk_end rfl ?_
    simp only [List.map_cons,List.map_nil,List.cons_append,List.nil_append]
    refine j_run it 1 rfl (by simp) ?_
    refine j_nf [_,_,_,_,_,_,_,_,_] rfl ?_
    refine j_run it 3 rfl ⟨trivial,⟨by omega,by omega⟩,trivial,trivial⟩ ?_
    refine j_nfn 1 [.lp (pL 13460),.blk 2,.c (pL 1683),.blk 1,.c (pL 211),.lp [1,0,1,0,0],.blk 0,.c [1,1]] rfl ?_
    refine j_to [0,1] (by exact fra rfl) rfl rfl (ih2 (j + 1,true) (by dsimp only;omega) ⟨by dsimp only;omega,by rw [Bool.true_or];exact hb⟩)
   | false =>
    rw [Bool.false_or] at hb
    by_cases h : y = z
    ·refine j_nf [_,_,_,_,_,_,_,_,_,_,_] rfl ?_
     refine j_run it 2 rfl (by simp) ?_
     refine j_step rfl (x_len sl29 rfl ?_)
     refine j_run it 1 rfl (by simp) ?_
     refine j_nf [_,_,_,_,_,_,_,_,_,_] rfl ?_
     refine j_if rfl rfl (fun h2=>?_) (fun h2=>by exfalso;omega)
     refine j_nf [_,_,_,_,_,_,_,_,_,_,_] rfl ?_
     (apply j_drawK it mx 12;(· rfl);(· rfl))
     (apply lxk_run 4;(· rfl);(· simp))
     (apply lxk_pt;(· rfl);(· exact d_x fun _=>x_idx 1 (j) rfl rfl rfl sl29 rfl (by omega) fun z1 hz1 b1 o1=>(dk_ptD default hz1 0 rfl));intro b1 o1)
     (apply lxk_eq;(· rfl);(· exact d_x fun _=>x_ld_int 0 rfl rfl ld3 fun ⟨r1,r2⟩=>dk_eq))
     (apply lxk_run 2;(· rfl);(· simp))
     (apply lxk_pt;(· rfl);(· exact d_x fun _=>x_idx 0 (i) rfl rfl rfl sl29 rfl (by omega) fun z1 hz1 b2 o2=>(dk_ptD default hz1 0 rfl));intro b2 o2)
     (apply lxk_eq;(· rfl);(· exact d_x fun _=>x_ld_int 0 rfl rfl ld3 fun ⟨r1,r2⟩=>dk_eq))
     (apply lxk_eq;(· rfl);(· exact d_x fun _=>x_true it rfl (by trivial) (by omega) dk_eq))
     (apply lxk_run 1;(· rfl);(· simp))
     refine lxk_end rfl ?_
     simp only [List.map_cons,List.map_nil,List.cons_append,List.nil_append]
     refine j_run it 1 rfl (by simp) ?_
     refine j_nf [_,_,_,_,_,_,_,_,_] rfl ?_
     refine j_run it 3 rfl ⟨trivial,⟨by omega,by omega⟩,trivial,trivial⟩ ?_
     refine j_nfn 1 [.lp (pL 13460),.blk 2,.c (pL 1683),.blk 1,.c (pL 211),.lp [1,0,1,0,0],.blk 0,.c [1,1]] rfl ?_
     refine j_to [2,3] (by exact fra rfl) rfl rfl (ih2 (j + 1,true) (by dsimp only;omega) ⟨by dsimp only;omega,by rw [← hb,h];simp⟩)
    ·refine j_nf [_,_,_,_,_,_,_,_,_,_,_] rfl ?_
     refine j_run it 2 rfl (by simp) ?_
     refine j_step rfl (x_len sl29 rfl ?_)
     refine j_run it 1 rfl (by simp) ?_
     refine j_nf [_,_,_,_,_,_,_,_,_,_] rfl ?_
     refine j_if rfl rfl (fun h2=>?_) (fun h2=>by exfalso;omega)
     refine j_nf [_,_,_,_,_,_,_,_,_,_,_] rfl ?_
     (apply j_drawK it mx 12;(· rfl);(· rfl))
     (apply lxk_run 4;(· rfl);(· simp))
     (apply lxk_pt;(· rfl);(· exact d_x fun _=>x_idx 1 (j) rfl rfl rfl sl29 rfl (by omega) fun z1 hz1 b1 o1=>(dk_ptD default hz1 0 rfl));intro b1 o1)
     (apply lxk_eq;(· rfl);(· exact d_x fun _=>x_ld_int 0 rfl rfl ld3 fun ⟨r1,r2⟩=>dk_eq))
     (apply lxk_run 2;(· rfl);(· simp))
     (apply lxk_pt;(· rfl);(· exact d_x fun _=>x_idx 0 (i) rfl rfl rfl sl29 rfl (by omega) fun z1 hz1 b2 o2=>(dk_ptD default hz1 0 rfl));intro b2 o2)
     (apply lxk_eq;(· rfl);(· exact d_x fun _=>x_ld_int 0 rfl rfl ld3 fun ⟨r1,r2⟩=>dk_eq))
     (apply lxk_eq;(· rfl);(· exact d_x fun _=>x_false it rfl (by trivial) (by omega) dk_eq))
     (apply lxk_run 1;(· rfl);(· simp))
     refine lxk_end rfl ?_
     simp only [List.map_cons,List.map_nil,List.cons_append,List.nil_append]
     refine j_run it 1 rfl (by simp) ?_
     refine j_nf [_,_,_,_,_,_,_,_,_] rfl ?_
     refine j_run it 3 rfl ⟨trivial,⟨by omega,by omega⟩,trivial,trivial⟩ ?_
     refine j_nfn 1 [.lp (pL 13460),.blk 2,.c (pL 1683),.blk 1,.c (pL 211),.lp [1,0,1,0,0],.blk 0,.c [1,1]] rfl ?_
     refine j_to [2,3] (by exact fra rfl) rfl rfl (ih2 (j + 1,false) (by dsimp only;omega) ⟨by dsimp only;omega,by rw [← hb];simp [h]⟩)
  ·obtain rfl : j = t.length:=by omega
   rw [List.drop_length,List.any_nil,Bool.or_false] at hb
   subst hb
   cases b with
   | true =>
    refine j_nf [_,_,_,_,_,_,_,_,_,_,_] rfl ?_
    refine j_run it 2 rfl (by simp) ?_
    refine j_step rfl (x_len sl29 rfl ?_)
    refine j_run it 1 rfl (by simp) ?_
    refine j_nf [_,_,_,_,_,_,_,_,_,_] rfl ?_
    refine j_if rfl rfl (fun h2=>by exfalso;omega) (fun h2=>?_)
    refine j_nf [_,_,_,_,_,_,_] rfl ?_
    refine j_run it 2 rfl (by simp) ?_
    refine j_nf [_,_,_,_,_,_] rfl ?_
    refine j_false rfl rfl ?_
    refine j_nf [_,_,_,_] rfl ?_
    refine j_run it 3 rfl ⟨trivial,⟨by omega,by omega⟩,trivial,trivial⟩ ?_
    refine j_nfn 1 [.lp [1,0,1,0,0],.blk 0,.c [1,1]] rfl ?_
    refine j_to [0,1] (by exact fra rfl) rfl rfl (ih (i + 1) (by omega) ⟨by omega,by rw [Bool.true_and] at he;exact he⟩)
   | false =>
    rw [Bool.false_and] at he
    subst he
    refine j_nf [_,_,_,_,_,_,_,_,_,_,_] rfl ?_
    refine j_run it 2 rfl (by simp) ?_
    refine j_step rfl (x_len sl29 rfl ?_)
    refine j_run it 1 rfl (by simp) ?_
    refine j_nf [_,_,_,_,_,_,_,_,_,_] rfl ?_
    refine j_if rfl rfl (fun h2=>by exfalso;omega) (fun h2=>?_)
    refine j_nf [_,_,_,_,_,_,_] rfl ?_
    refine j_run it 2 rfl (by simp) ?_
    refine j_nf [_,_,_,_,_,_] rfl ?_
    refine j_true rfl rfl ?_
    refine j_nf [_,_,_,_,_,_,_] rfl ?_
    refine j_run it 1 rfl (by simp) ?_
    refine j_nf [_,_,_,_,_,_] rfl ?_
    refine j_giv [] rfl rfl rfl ⟨rfl,rfl,rfl⟩
 ·obtain rfl : i = s.length:=by omega
  rw [List.drop_length] at he
  subst he
  refine j_nf [_,_,_,_,_,_] rfl ?_
  refine j_run it 2 rfl (by simp) ?_
  refine j_step rfl (x_len sl29 rfl ?_)
  refine j_run it 1 rfl (by simp) ?_
  refine j_nf [_,_,_,_,_] rfl ?_
  refine j_if rfl rfl (fun h1=>by exfalso;omega) (fun h1=>?_)
  refine j_nf [_,_] rfl ?_
  refine j_run it 1 rfl (by simp) ?_
  refine j_nf [_] rfl ?_
  refine j_giv [] rfl rfl rfl ⟨rfl,rfl,rfl⟩
theorem setsL_mem {n : Nat} : ∀ {t first : Nat} {z : List Int},z ∈ setsL n t first → z.length = t
 | 0,first,z,h=>by
  rw [setsL,List.mem_singleton] at h
  rw [h];rfl
 | t + 1,first,z,h=>by
  rw [setsL,List.mem_flatMap] at h
  obtain ⟨i,_,h⟩:=h
  obtain ⟨r,hr,rfl⟩:=List.mem_map.1 h
  rw [List.length_cons,setsL_mem hr]
def kS (L : List (List Int)) (s : List Int) : Nat:=(L.filter fun b=>insB s b).length
theorem kS_cons (y : List Int) (L : List (List Int)) (s : List Int) : kS (y::L) s = (if insB s y = true then 1 else 0) + kS L s:=by
 rw [kS,kS,List.filter_cons]
 split
 ·rw [List.length_cons,Nat.add_comm]
 ·rw [Nat.zero_add]
def cntS (L : List (List Int)) : List (List Int) → Int → Int × Int
 | [],out=>(out,0)
 | s::l,out=>if 0 ≤ out ∧ out ≠ kS L s then (0,11) else cntS L l (kS L s)
def desS (n : Int) (L : List (List Int)) (t : Int) : Int × Int :=
 if n < 0 ∨ 64 < n then (0,6) else
 if L.all (blkS n.toNat (-1)) = false then (0,5) else
 if t < 0 ∨ n < t then (0,6) else if 65536 < binom n.toNat t.toNat then (0,8) else cntS L (setsL n.toNat t.toNat 0) (-1)
theorem blksN_isSome (n : Nat) : ∀ L : List (List Int),(blksN n L).isSome = L.all (blkS n (-1))
 | []=>rfl
 | l::L=>by
  rw [blksN,List.all_cons,← blkS_eq n l (-1) 0,← blksN_isSome n L]
  cases blkN n (-1) 0 l <;> cases blksN n L <;> rfl
theorem kM_kS {n : Nat} : ∀ {L : List (List Int)} {ms : List Nat} {s : List Int},blksN n L = some ms → (∀ p ∈ s,0 ≤ p) → kM ms (mskF 0 s) = kS L s
 | [],ms,s,h,_=>by
  rw [blksN,Option.some.injEq] at h;subst h;rfl
 | l::L,ms,s,h,hs=>by
  rw [blksN] at h
  cases h1 : blkN n (-1) 0 l with
  | none=>rw [h1] at h;cases h
  | some a =>
   cases h2 : blksN n L with
   | none=>rw [h1,h2] at h;cases h
   | some bs =>
    rw [h1,h2] at h
    have e : a::bs = ms:=by simpa using h
    subst e
    have ih:=kM_kS h2 hs
    have key : (a &&& mskF 0 s = mskF 0 s) ↔ insB s l = true:=by
     rw [sub_bit,insB,List.all_eq_true]
     constructor
     ·intro hb x hx
      have h0:=hs x hx
      have:=hb x.toNat (by rw [mskF_bit hs,Nat.zero_testBit,Bool.false_or,decide_eq_true_eq,Int.toNat_of_nonneg h0];exact hx)
      rw [blkN_bit (by decide) h1,Nat.zero_testBit,Bool.false_or,decide_eq_true_eq,Int.toNat_of_nonneg h0] at this
      exact List.any_eq_true.2 ⟨x,this,by simp⟩
     ·intro hb i hi
      rw [mskF_bit hs,Nat.zero_testBit,Bool.false_or,decide_eq_true_eq] at hi
      obtain ⟨y,hy,e⟩:=List.any_eq_true.1 (hb _ hi)
      have e : y = (i : Int):=by simpa using e
      rw [blkN_bit (by decide) h1,Nat.zero_testBit,Bool.false_or,decide_eq_true_eq]
      rw [← e];exact hy
    rw [kM,kS,List.filter_cons,List.filter_cons]
    rw [kM,kS] at ih
    by_cases hk : a &&& mskF 0 s = mskF 0 s
    ·rw [if_pos (decide_eq_true hk),if_pos (key.1 hk),List.length_cons,List.length_cons,ih]
    ·rw [if_neg (by simp [hk]),if_neg (by rw [← key];exact hk),ih]
theorem setsL_nn {n : Nat} : ∀ {t first : Nat} {z : List Int},z ∈ setsL n t first → ∀ p ∈ z,0 ≤ p
 | 0,first,z,h,p,hp=>by
  rw [setsL,List.mem_singleton] at h
  rw [h] at hp;cases hp
 | t + 1,first,z,h,p,hp=>by
  rw [setsL,List.mem_flatMap] at h
  obtain ⟨i,_,h⟩:=h
  obtain ⟨r,hr,rfl⟩:=List.mem_map.1 h
  rcases List.mem_cons.1 hp with rfl | hp
  ·omega
  ·exact setsL_nn hr p hp
theorem vis_cnt {n : Nat} {L : List (List Int)} {ms : List Nat} (hb : blksN n L = some ms) : ∀ {S : List (List Int)} {c : Int},(∀ z ∈ S,∀ p ∈ z,0 ≤ p) →
  (if (visL ms (S.map (mskF 0)) c true).2.1 = true then ((visL ms (S.map (mskF 0)) c true).1,(0 : Int)) else (0,11)) = cntS L S c
 | [],c,_=>rfl
 | s::S,c,hS=>by
  rw [List.map_cons,visL,kM_kS hb (hS s (.head _)),cntS]
  by_cases h : c < 0 ∨ (kS L s : Int) = c
  ·rw [if_pos h,if_neg (show ¬ (0 ≤ c ∧ c ≠ kS L s) by omega)]
   exact vis_cnt hb (fun z hz=>hS z (.tail _ hz))
  ·rw [if_neg h,if_pos (show 0 ≤ c ∧ c ≠ kS L s by omega)];rfl
theorem des_eq (n : Int) (L : List (List Int)) (t : Int) : desR n L t = desS n L t:=by
 rw [desR,desS]
 by_cases h1 : n < 0 ∨ 64 < n
 ·rw [if_pos h1,if_pos h1]
 rw [if_neg h1,if_neg h1,← blksN_isSome]
 cases hb : blksN n.toNat L with
 | none=>rfl
 | some ms =>
  rw [if_neg (by simp)]
  dsimp only
  by_cases h2 : t < 0 ∨ n < t
  ·rw [if_pos h2,if_pos h2]
  rw [if_neg h2,if_neg h2]
  by_cases h3 : 65536 < binom n.toNat t.toNat
  ·rw [if_pos h3,if_pos h3]
  rw [if_neg h3,if_neg h3,subs_sets]
  exact vis_cnt hb fun z hz=>setsL_nn hz
theorem cntS_all {L : List (List Int)} : ∀ {S : List (List Int)} {c : Int},(∀ s ∈ S,(kS L s : Int) = c) → cntS L S c = (c,0)
 | [],c,_=>rfl
 | s::S,c,h=>by
  rw [cntS,if_neg (fun hc=>hc.2 (h s (.head _)).symm),h s (.head _)]
  exact cntS_all fun x hx=>h x (.tail _ hx)
theorem cntS_const {L S : List (List Int)} {c : Nat} (hS : S ≠ []) (h : ∀ s ∈ S,kS L s = c) : cntS L S (-1) = ((c : Int),0):=by
 match S,hS with
 | s::S,_ =>
  rw [cntS,if_neg (by omega),h s (.head _)]
  exact cntS_all fun x hx=>by rw [h x (.tail _ hx)]
theorem setsL_cons {n t first i : Nat} {r : List Int} (h1 : first ≤ i) (h2 : i + t < n) (hr : r ∈ setsL n t (i + 1)) : (i : Int)::r ∈ setsL n (t + 1) first:=by
 rw [setsL,List.mem_flatMap]
 exact ⟨i,List.mem_range'_1.2 ⟨h1,by omega⟩,List.mem_map.2 ⟨r,hr,rfl⟩⟩
theorem setsL_inv {n t first : Nat} {z : List Int} (h : z ∈ setsL n (t + 1) first) : ∃ (i : Nat) (r : List Int),z = (i : Int)::r ∧ first ≤ i ∧ i + t < n ∧ r ∈ setsL n t (i + 1):=by
 rw [setsL,List.mem_flatMap] at h
 obtain ⟨i,hi,h⟩:=h
 obtain ⟨r,hr,rfl⟩:=List.mem_map.1 h
 obtain ⟨h1,h2⟩:=List.mem_range'_1.1 hi
 exact ⟨i,r,rfl,h1,by omega,hr⟩
theorem setsL_blk {n : Nat} : ∀ {t first : Nat} {z : List Int} {last : Int},z ∈ setsL n t first → last < first → blkS n last z = true
 | 0,first,z,last,h,_=>by
  rw [setsL,List.mem_singleton] at h
  subst h;rfl
 | t + 1,first,z,last,h,hl=>by
  obtain ⟨i,r,rfl,h3,h4,hr⟩:=setsL_inv h
  rw [blkS,if_neg (by omega)]
  exact setsL_blk hr (by omega)
theorem insB_iff {s t : List Int} : insB s t = true ↔ ∀ x ∈ s,x ∈ t:=by
 rw [insB,List.all_eq_true]
 constructor
 ·intro h x hx
  obtain ⟨y,hy,e⟩:=List.any_eq_true.1 (h x hx)
  have e : y = x:=by simpa using e
  rw [← e];exact hy
 ·intro h x hx
  exact List.any_eq_true.2 ⟨x,h x hx,by simp⟩
theorem countP_add {α : Type} {f g k : α → Bool} : ∀ {l : List α},(∀ x ∈ l,(if k x = true then 1 else 0) = (if f x = true then 1 else 0) + if g x = true then 1 else 0) → l.countP k = l.countP f + l.countP g
 | [],_=>rfl
 | x::l,h=>by
  rw [List.countP_cons,List.countP_cons,List.countP_cons,countP_add (l:=l) fun y hy=>h y (.tail _ hy)]
  have:=h x (.head _)
  omega
theorem cnt_one {n p : Nat} (h : p < n) : (List.range n).countP (fun i : Nat=>decide ((i : Int) = p)) = 1:=by
 have h1 : (List.range n).count p = 1:=by rw [List.nodup_range.count,if_pos (List.mem_range.2 h)]
 rw [← h1,List.count]
 refine List.countP_congr fun x _=>?_
 simp only [decide_eq_true_eq,beq_iff_eq]
 omega
theorem blkS_gt {n : Nat} : ∀ {l : List Int} {last : Int},blkS n last l = true → ∀ x ∈ l,last < x
 | [],last,_,x,hx=>by cases hx
 | p::l,last,h,x,hx=>by
  rw [blkS] at h
  by_cases hc : p ≤ last ∨ (n : Int) ≤ p
  ·rw [if_pos hc] at h;cases h
  ·rw [if_neg hc] at h
   rcases List.mem_cons.1 hx with rfl | hx
   ·omega
   ·have:=blkS_gt h x hx
    omega
theorem cnt_blk {n : Nat} : ∀ {l : List Int} {last : Int},-1 ≤ last → blkS n last l = true → (List.range n).countP (fun i : Nat=>decide ((i : Int) ∈ l)) = l.length
 | [],last,_,_=>by
  rw [List.countP_eq_zero.2 fun x _=>by simp];rfl
 | p::l,last,h0,h=>by
  rw [blkS] at h
  by_cases hc : p ≤ last ∨ (n : Int) ≤ p
  ·rw [if_pos hc] at h;cases h
  ·rw [if_neg hc] at h
   obtain ⟨p,rfl⟩ : ∃ k : Nat,p = k:=⟨p.toNat,by omega⟩
   have hg:=blkS_gt h
   rw [countP_add (f:=fun i : Nat=>decide ((i : Int) = p)) (g:=fun i : Nat=>decide ((i : Int) ∈ l)),cnt_one (by omega),cnt_blk (by omega) h,List.length_cons,Nat.add_comm]
   intro x _
   by_cases h1 : (x : Int) = p
   ·have h2 : ¬ (x : Int) ∈ l:=fun hm=>by have:=hg _ hm;omega
    have h3 : (p : Int) ∉ l:=h1 ▸ h2
    simp [h1,h3]
   ·simp [h1]
def rest (n : Nat) (T : List Int) : List Nat:=(List.range n).filter fun i : Nat=>!decide ((i : Int) ∈ T)
set_option maxHeartbeats 4000000
def nzB (c : List Int) (i : Nat) : Bool:=decide (c.getD i 0 ≠ 0)
def suppW (c : List Int) : List Int:=((List.range c.length).filter (nzB c)).map fun i : Nat=>(i : Int)
theorem supp_mem {c : List Int} {x : Int} : x ∈ suppW c ↔ ∃ i : Nat,x = i ∧ c.getD i 0 ≠ 0:=by
 rw [suppW,List.mem_map]
 constructor
 ·rintro ⟨i,hi,rfl⟩
  exact ⟨i,rfl,by simpa [nzB] using (List.mem_filter.1 hi).2⟩
 ·rintro ⟨i,rfl,h⟩
  refine ⟨i,List.mem_filter.2 ⟨List.mem_range.2 (Nat.lt_of_not_le fun hl=>h ?_),by simpa [nzB] using h⟩,rfl⟩
  rw [List.getD_eq_getElem?_getD,List.getElem?_eq_none hl];rfl
theorem supp_cnt (c : List Int) : (suppW c).length = (List.range c.length).countP (nzB c):=by
 rw [suppW,List.length_map,List.countP_eq_length_filter]
theorem supp_len : ∀ c : List Int,(suppW c).length = wt c
 | []=>rfl
 | x::c=>by
  have ih:=supp_len c
  rw [supp_cnt] at ih ⊢
  rw [List.length_cons,List.range_succ_eq_map,List.countP_cons,List.countP_map,wt,← ih,Nat.add_comm]
  congr 1
  by_cases h : x = 0
  ·subst h;rfl
  ·rw [if_neg h,if_pos];simp [nzB,h]
theorem blk_filter {n : Nat} (p : Nat → Bool) : ∀ (k a : Nat) (last : Int),last < a → a + k ≤ n → blkS n last (((List.range' a k).filter p).map fun i : Nat=>(i : Int)) = true
 | 0,a,last,_,_=>rfl
 | k + 1,a,last,h1,h2=>by
  rw [List.range'_succ,List.filter_cons]
  split
  ·rw [List.map_cons,blkS,if_neg (by omega)]
   exact blk_filter p k (a + 1) a (by omega) (by omega)
  ·exact blk_filter p k (a + 1) last (by omega) (by omega)
theorem supp_blk {c : List Int} : blkS c.length (-1) (suppW c) = true:=by
 rw [suppW,List.range_eq_range']
 exact blk_filter _ _ 0 (-1) (by decide) (by omega)
theorem supp_same {n : Nat} {c e : List Int} (hc : c.length = n) (he : e.length = n) (hl : (suppW e).length = (suppW c).length) (hi : insB (suppW c) (suppW e) = true) : suppW c = suppW e:=by
 rw [supp_cnt,supp_cnt,hc,he] at hl
 have hsub : ∀ i,nzB c i = true → nzB e i = true:=fun i h=>by
  obtain ⟨j,ej,hj⟩:=supp_mem.1 (insB_iff.1 hi (i : Int) (supp_mem.2 ⟨i,rfl,by simpa [nzB] using h⟩))
  obtain rfl : i = j:=by omega
  simpa [nzB] using hj
 have h1:=countP_add (l:=List.range n) (k:=nzB e) (f:=nzB c) (g:=fun i=>nzB e i && !nzB c i) (fun i _=>by
  have:=hsub i
  cases h2 : nzB c i <;> cases h3 : nzB e i <;> simp_all)
 have h0 : (List.range n).countP (fun i=>nzB e i && !nzB c i) = 0:=by omega
 rw [suppW,suppW,hc,he]
 congr 1
 refine List.filter_congr fun i hm=>?_
 have h4:=List.countP_eq_zero.1 h0 i hm
 have:=hsub i
 cases h2 : nzB c i <;> cases h3 : nzB e i <;> simp_all
def oldB (out : List (List Int)) (s : List Int) : Bool:=out.any fun y=>decide (y.length = s.length) && insB s y
def suppsL (d : Nat) : List (List Int) → List (List Int) → List (List Int)
 | out,[]=>out
 | out,c::W=>suppsL d (if (suppW c).length = d ∧ oldB out (suppW c) = false then out++[suppW c] else out) W
structure SuI (n d : Nat) (S W : List (List Int)) : Prop where
 of : ∀ s ∈ S,∃ c ∈ W,c.length = n ∧ wt c = d ∧ s = suppW c
 nd : S.Nodup
 all : ∀ c ∈ W,wt c = d → suppW c ∈ S
theorem sui_step {n d : Nat} {S W : List (List Int)} {c : List Int} (h : SuI n d S W) (hc : c.length = n) : SuI n d (if (suppW c).length = d ∧ oldB S (suppW c) = false then S++[suppW c] else S) (W++[c]):=by
 have hl:=supp_len c
 by_cases h1 : (suppW c).length = d ∧ oldB S (suppW c) = false
 ·rw [if_pos h1]
  obtain ⟨h2,h3⟩:=h1
  have hn : suppW c ∉ S:=fun hm=>by
   rw [oldB,List.any_eq_false] at h3
   refine h3 _ hm ?_
   rw [decide_eq_true rfl,Bool.true_and]
   exact insB_iff.2 fun x hx=>hx
  refine ⟨fun s hs=>?_,?_,fun e he hw=>?_⟩
  ·rcases List.mem_append.1 hs with hs | hs
   ·obtain ⟨e,he,h4⟩:=h.of s hs
    exact ⟨e,List.mem_append_left _ he,h4⟩
   ·rw [List.mem_singleton.1 hs]
    exact ⟨c,List.mem_append_right _ (.head _),hc,by omega,rfl⟩
  ·rw [List.nodup_append]
   refine ⟨h.nd,by simp,fun a ha b hb e=>hn ?_⟩
   rw [List.mem_singleton.1 hb] at e
   exact e ▸ ha
  ·rcases List.mem_append.1 he with he | he
   ·exact List.mem_append_left _ (h.all e he hw)
   ·rw [List.mem_singleton.1 he]
    exact List.mem_append_right _ (.head _)
 ·rw [if_neg h1]
  refine ⟨fun s hs=>?_,h.nd,fun e he hw=>?_⟩
  ·obtain ⟨e,he,h4⟩:=h.of s hs
   exact ⟨e,List.mem_append_left _ he,h4⟩
  ·rcases List.mem_append.1 he with he | he
   ·exact h.all e he hw
   ·rw [List.mem_singleton.1 he] at hw ⊢
    have h2 : oldB S (suppW c) = true:=by
     cases ho : oldB S (suppW c) with
     | true=>rfl
     | false=>exact absurd ⟨by omega,ho⟩ h1
    obtain ⟨y,hy,h3⟩:=List.any_eq_true.1 h2
    rw [Bool.and_eq_true,decide_eq_true_eq] at h3
    obtain ⟨e,_,e1,e2,rfl⟩:=h.of y hy
    rw [supp_same hc e1 h3.1 h3.2];exact hy
theorem sui_all {n d : Nat} : ∀ {W S V : List (List Int)},SuI n d S V → (∀ c ∈ W,c.length = n) → SuI n d (suppsL d S W) (V++W)
 | [],S,V,h,_=>by rw [List.append_nil];exact h
 | c::W,S,V,h,hW=>by
  rw [suppsL,show V++c::W = (V++[c])++W by simp]
  exact sui_all (sui_step h (hW c (.head _))) fun x hx=>hW x (.tail _ hx)
theorem sui {n d : Nat} {W : List (List Int)} (hW : ∀ c ∈ W,c.length = n) : SuI n d (suppsL d [] W) W :=
 sui_all (V:=[]) ⟨fun s hs=>by (cases hs),by simp,fun c hc=>by (cases hc)⟩ hW
theorem suppsL_len (d : Nat) : ∀ (W out : List (List Int)),(suppsL d out W).length ≤ out.length + W.length
 | [],out=>Nat.le_refl _
 | c::W,out=>by
  rw [suppsL]
  refine Nat.le_trans (suppsL_len d W _) ?_
  rw [List.length_cons]
  split
  ·rw [List.length_append,List.length_singleton];omega
  ·omega
theorem lsum_swap (f : List Int → List Int → Int) (S : List (List Int)) : ∀ L : List (List Int),lsum L (fun c=>lsum S (f c)) = lsum S (fun s=>lsum L (fun c=>f c s))
 | []=>by
  have h:=lsum_const 0 S
  rw [Int.zero_mul] at h
  exact h.symm
 | c::L=>by
  rw [lsum,lsum_swap f S L,← lsum_add]
  rfl
theorem lsum_pick {g : List Int → Int} {x : List Int} : ∀ {S : List (List Int)},S.Nodup → lsum S (fun s=>if x = s then g s else 0) = if x ∈ S then g x else 0
 | [],_=>rfl
 | s::S,h=>by
  obtain ⟨h1,h2⟩:=List.nodup_cons.1 h
  rw [lsum,lsum_pick h2]
  by_cases e : x = s
  ·subst e
   rw [if_pos rfl,if_neg h1,if_pos (.head _)];omega
  ·rw [if_neg e,Int.zero_add]
   by_cases hm : x ∈ S
   ·rw [if_pos hm,if_pos (.tail _ hm)]
   ·rw [if_neg hm,if_neg fun h=>(List.mem_cons.1 h).elim e hm]
theorem kS_sum (T : List Int) : ∀ S : List (List Int),(kS S T : Int) = lsum S (fun s=>if insB T s = true then 1 else 0)
 | []=>rfl
 | s::S=>by
  rw [kS_cons,lsum,← kS_sum T S,Int.natCast_add]
  congr 1
  split <;> rfl
section
variable {q : Nat} {A M : Int → Int → Int} (F : FI q A M)
include F
theorem FI.axp_getD {n : Nat} {a : Int} (a0 : 0 ≤ a) (a1 : a < q) {r u : List Int} (hr : Wd q n r) (hu : Wd q n u) (i : Nat) : (axp A M a r u).getD i 0 = A (u.getD i 0) (M a (r.getD i 0)):=by
 have hw:=F.axw a0 a1 hr hu
 by_cases h : i < n
 ·have h1 : (axp A M a r u)[i]? = some ((axp A M a r u).getD i 0):=by rw [List.getD_eq_getElem?_getD,List.getElem?_eq_getElem (by rw [hw.1];exact h)];rfl
  obtain ⟨y,z,e1,e2,e3,_,_⟩:=axp_get hr hu h1
  rw [e3,List.getD_eq_getElem?_getD,List.getD_eq_getElem?_getD,e1,e2];rfl
 ·rw [List.getD_eq_getElem?_getD,List.getD_eq_getElem?_getD,List.getD_eq_getElem?_getD,List.getElem?_eq_none (by rw [hw.1];omega),List.getElem?_eq_none (by rw [hu.1];omega),List.getElem?_eq_none (by rw [hr.1];omega)]
  show (0 : Int) = A 0 (M a 0)
  rw [F.m0 a0 a1,F.a0 0 (Int.le_refl 0) F.z]
omit F in
theorem wd_getD {n : Nat} (hq : 0 < q) {u : List Int} (hu : Wd q n u) (i : Nat) : 0 ≤ u.getD i 0 ∧ u.getD i 0 < q:=by
 rw [List.getD_eq_getElem?_getD]
 cases h : u[i]? with
 | none=>exact ⟨Int.le_refl 0,by show (0 : Int) < q;omega⟩
 | some x=>exact hu.2 x (List.mem_of_getElem? h)
omit F in
theorem wt_zero {n : Nat} {u : List Int} (hu : u.length = n) (h : wt u = 0) : u = zW n:=by
 rw [← supp_len,List.length_eq_zero_iff] at h
 refine wd_ext hu (by simp) fun i x y hx hy=>?_
 rw [(List.mem_replicate.1 (List.mem_of_getElem? hy)).2]
 refine Classical.byContradiction fun hn=>?_
 have : (i : Int) ∈ suppW u:=supp_mem.2 ⟨i,rfl,by rw [List.getD_eq_getElem?_getD,hx];exact hn⟩
 rw [h] at this;cases this
omit F in
theorem lt_supp {n i : Nat} {u v : List Int} (hu : u.length = n) (hv : v.length = n) (hs : ∀ j,u.getD j 0 ≠ 0 → v.getD j 0 ≠ 0) (h1 : u.getD i 0 = 0) (h2 : v.getD i 0 ≠ 0) : wt u < wt v:=by
 rw [← supp_len,← supp_len,supp_cnt,supp_cnt,hu,hv]
 have hin : i < n:=Nat.lt_of_not_le fun hl=>h2 (by rw [List.getD_eq_getElem?_getD,List.getElem?_eq_none (by omega)];rfl)
 have h3:=countP_add (l:=List.range n) (k:=nzB v) (f:=nzB u) (g:=fun j=>nzB v j && !nzB u j) (fun j _=>by
  have:=hs j
  by_cases h4 : u.getD j 0 = 0 <;> by_cases h5 : v.getD j 0 = 0 <;> simp_all [nzB])
 have h6 : 0 < (List.range n).countP (fun j=>nzB v j && !nzB u j):=List.countP_pos_iff.2 ⟨i,List.mem_range.2 hin,by show (nzB v i && !nzB u i) = true;rw [nzB,nzB,decide_eq_true h2,decide_eq_false (not_not_intro h1)];rfl⟩
 omega
theorem mu_supp {n d : Nat} {L : List (List Int)} (h : LinI q n A M L) (hmin : ∀ u ∈ L,wt u = 0 ∨ d ≤ wt u) (hd : 0 < d) {c0 : List Int} (hc0 : c0 ∈ L) (hw : wt c0 = d) : lsum L (fun c=>if suppW c = suppW c0 then 1 else 0) = (q : Int) - 1:=by
 have hq:=F.q2
 have w0:=h.wd c0 hc0
 obtain ⟨x0,hx0⟩ : ∃ x,x ∈ suppW c0:=List.exists_mem_of_ne_nil _ fun e=>by
  have:=supp_len c0
  rw [e] at this
  simp at this;omega
 obtain ⟨i0,rfl,hi0⟩:=supp_mem.1 hx0
 obtain ⟨v0,v1⟩:=wd_getD (by omega) w0 i0
 generalize hv : c0.getD i0 0 = v at *
 obtain ⟨y,⟨y0,y1⟩,ey⟩:=F.inv6 v0 v1 hi0
 have hz:=zW_wd (n:=n) hq
 obtain ⟨m1,⟨m0,m1l⟩,em⟩:=F.an 1 (by omega) (by omega)
 have e1 : lsum L (fun c=>if suppW c = suppW c0 then (1 : Int) else 0) = lsum L (fun c=>sm q (fun a=>if (c.getD i0 0).toNat = a then (if suppW c = suppW c0 then (1 : Int) else 0) else 0)):=lsum_congr fun c hc=>by
  obtain ⟨b0,b1⟩:=wd_getD (by omega) (h.wd c hc) i0
  rw [sm_pick (by omega) (fun _=>if suppW c = suppW c0 then (1 : Int) else 0)]
 rw [e1,lsum_sm]
 have e2 : sm q (fun a=>lsum L (fun c=>if (c.getD i0 0).toNat = a then (if suppW c = suppW c0 then (1 : Int) else 0) else 0)) = sm q (fun a=>1 + (-1) * if 0 = a then (fun _=>(1 : Int)) a else 0):=sm_congr fun a ha=>by
  by_cases h0 : a = 0
  ·subst h0
   rw [if_pos rfl]
   have : lsum L (fun c=>if (c.getD i0 0).toNat = 0 then (if suppW c = suppW c0 then (1 : Int) else 0) else 0) = lsum L (fun _=>0):=lsum_congr fun c hc=>by
    obtain ⟨b0,b1⟩:=wd_getD (by omega) (h.wd c hc) i0
    by_cases e : (c.getD i0 0).toNat = 0
    ·rw [if_pos e,if_neg]
     intro es
     obtain ⟨j,ej,hj⟩:=supp_mem.1 (es ▸ hx0)
     obtain rfl : i0 = j:=by omega
     omega
    ·rw [if_neg e]
   rw [this,lsum_const,Int.zero_mul];rfl
  ·rw [if_neg (fun e=>h0 e.symm)]
   obtain ⟨s0,s1⟩:=F.ml a y (by omega) (by omega) y0 y1
   have hw1 : axp A M (M a y) c0 (zW n) ∈ L:=h.cl _ s0 s1 c0 hc0 _ h.z
   have gz : ∀ j,(zW n).getD j 0 = 0:=fun j=>by
    rw [List.getD_eq_getElem?_getD]
    cases e : (zW n)[j]? with
    | none=>rfl
    | some x=>exact (List.mem_replicate.1 (List.mem_of_getElem? e)).2
   have gw : ∀ j,(axp A M (M a y) c0 (zW n)).getD j 0 = M (M a y) (c0.getD j 0):=fun j=>by
    obtain ⟨b0,b1⟩:=wd_getD (q:=q) (by omega) w0 j
    obtain ⟨p0,p1⟩:=F.ml _ _ s0 s1 b0 b1
    rw [F.axp_getD s0 s1 w0 hz,gz,F.ac 0 _ (Int.le_refl 0) F.z p0 p1,F.a0 _ p0 p1]
   have ga : (axp A M (M a y) c0 (zW n)).getD i0 0 = a:=by
    rw [gw,hv,F.ma a y v (by omega) (by omega) y0 y1 v0 v1,F.mc y v y0 y1 v0 v1,ey,F.m1 a (by omega) (by omega)]
   have sne : M a y ≠ 0:=fun e=>by
    rw [gw,hv,e,F.mc 0 v (Int.le_refl 0) F.z v0 v1,F.m0 v0 v1] at ga
    omega
   have iff0 : ∀ j,(axp A M (M a y) c0 (zW n)).getD j 0 ≠ 0 ↔ c0.getD j 0 ≠ 0:=fun j=>by
    obtain ⟨b0,b1⟩:=wd_getD (q:=q) (by omega) w0 j
    rw [gw]
    constructor
    ·exact fun hn e=>hn (by rw [e,F.m0 s0 s1])
    ·exact fun hn e=>(F.nz _ _ s0 s1 b0 b1 e).elim sne hn
   generalize hW : axp A M (M a y) c0 (zW n) = w at *
   have ww:=h.wd w hw1
   have sw : suppW w = suppW c0:=by
    rw [suppW,suppW,ww.1,w0.1]
    congr 1
    refine List.filter_congr fun j _=>?_
    rw [nzB,nzB]
    exact decide_eq_decide.2 (iff0 j)
   have e3 : lsum L (fun c=>if (c.getD i0 0).toNat = a then (if suppW c = suppW c0 then (1 : Int) else 0) else 0) = lsum L (fun c=>if w = c then (fun _=>(1 : Int)) c else 0):=lsum_congr fun c hc=>by
    have wc:=h.wd c hc
    obtain ⟨b0,b1⟩:=wd_getD (q:=q) (by omega) wc i0
    by_cases e : w = c
    ·subst e
     rw [if_pos (by omega),if_pos sw,if_pos rfl]
    ·rw [if_neg e]
     by_cases e6 : (c.getD i0 0).toNat = a
     ·rw [if_pos e6,if_neg]
      intro es
      refine e ?_
      have hx:=h.cl m1 m0 m1l w hw1 c hc
      have gx:=F.axp_getD m0 m1l ww wc
      have hx0 : (axp A M m1 w c).getD i0 0 = 0:=by
       have g2:=F.axp_getD m0 m1l ww ww i0
       rw [F.ax_self m0 m1l em ww,gz] at g2
       rw [gx,show c.getD i0 0 = w.getD i0 0 by omega,← g2]
      have hlt:=lt_supp (F.axw m0 m1l ww wc).1 w0.1 (fun j hj=>?_) hx0 (by rw [hv];exact hi0)
      ·have h0 : wt (axp A M m1 w c) = 0:=by
        rcases hmin _ hx with h | h
        ·exact h
        ·omega
       have h1:=wt_zero (F.axw m0 m1l ww wc).1 h0
       rw [← F.ax_self m0 m1l em ww] at h1
       exact (F.ax_inj m0 m1l ww wc ww h1).symm
      ·intro hc0j
       have hwj : w.getD j 0 = 0:=Classical.byContradiction fun hn=>(iff0 j).1 hn hc0j
       have hcj : c.getD j 0 = 0:=Classical.byContradiction fun hn=>by
        obtain ⟨k,ek,hk⟩:=supp_mem.1 (es ▸ supp_mem.2 ⟨j,rfl,hn⟩ : (j : Int) ∈ suppW c0)
        obtain rfl : j = k:=by omega
        exact hk hc0j
       refine hj ?_
       rw [gx,hwj,hcj,F.m0 m0 m1l,F.a0 0 (Int.le_refl 0) F.z]
     ·rw [if_neg e6]
   rw [e3,lsum_pick h.nd,if_pos hw1];rfl
 rw [e2,sm_add,sm_mul,sm_pick (by omega) (fun _=>(1 : Int))]
 have : sm q (fun _=>(1 : Int)) = q:=by
  have:=sm_const q 1
  omega
 omega
end
end Go.Proofs.Ytmhcfhddmkhaiaa
