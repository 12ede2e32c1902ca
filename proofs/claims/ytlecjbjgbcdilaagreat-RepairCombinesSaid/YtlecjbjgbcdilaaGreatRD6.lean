/-
Functions of slices that are handed a function; sets of positions. Sets of positions. Canonical matrices. A multiple of a row is added to an own row; combinations of rows. The kernel of a matrix. Products and transposes of matrices. The program's tests of spaces and codes. The words of a space that vanish outside some positions; the least witness. The least witness, and the program's answer whether helpers suffice. Whether helpers suffice: what the program answers.
-/
import Derived.Test.YtlecjbjgbcdilaaGreatRD5
set_option linter.unusedVariables false
set_option linter.unusedSimpArgs false
namespace Go.Proofs.YtlecjbjgbcdilaaGreat
open Go Go.Fw
set_option maxRecDepth 100000
set_option linter.unusedVariables false
set_option linter.unusedSimpArgs false
set_option maxHeartbeats 8000000
def fxI {α : Type} (p : α → Bool) (l : List α) : Int:=if l.any p then (l.findIdx p : Int) else -1
theorem fxI_of {α : Type} {p : α → Bool} {l : List α} {i : Nat} {x : α} (h : l[i]? = some x) (hp : p x = true) (hn : ∀ (j : Nat) (y : α),j < i → l[j]? = some y → p y = false) : fxI p l = i:=by
 obtain ⟨hi,e⟩:=List.getElem?_eq_some_iff.1 h
 rw [fxI,if_pos (List.any_eq_true.2 ⟨x,List.mem_of_getElem? h,hp⟩)]
 congr 1
 refine (List.findIdx_eq hi).2 ⟨by rw [e];exact hp,fun j hj=>?_⟩
 have:=hn j _ hj (List.getElem?_eq_getElem (by omega))
 simpa using this
theorem fxI_no {α : Type} {p : α → Bool} {l : List α} (hn : ∀ (j : Nat) (y : α),l[j]? = some y → p y = false) : fxI p l = -1:=by
 rw [fxI,if_neg]
 intro h
 obtain ⟨x,hx,hp⟩:=List.any_eq_true.1 h
 obtain ⟨j,hj⟩:=List.getElem?_of_mem hx
 rw [hn j x hj] at hp;cases hp
theorem fxI_le {α : Type} {p : α → Bool} {l : List α} : -1 ≤ fxI p l ∧ fxI p l ≤ l.length:=by
 rw [fxI];have:=List.findIdx_le_length (p:=p) (xs:=l);split <;> omega
theorem fxI_any {α : Type} {p : α → Bool} {l : List α} : decide (0 ≤ fxI p l) = l.any p:=by
 rw [fxI]
 cases h : l.any p with
 | true=>rw [if_pos rfl,decide_eq_true (by omega)]
 | false=>rw [if_neg (by simp),decide_eq_false (by omega)]
theorem S_slices_IndexFunc___int_int_ {f : FuncId} {caps : List Value} {g : Fact} {p : Int → Bool} {ps : Option Addr} {n c : Nat} {l : List Int} (hf : ∀ x ∈ l,Ctr Tryz.prog f (.int .i64 x::caps) [] [g] (Rv (.bool (p x)) [])) :
  Ctr Tryz.prog 114 [.slice ps n c,.func (.func f) #[] caps.toArray] [] [slF I64 ps n c l,g] (Rv (.int .i64 (fxI p l)) []):=by
 refine Ctr_of_j' (F:=F_slices_IndexFunc___int_int_) rfl fun C=>?_
 refine j_len 0 rfl fun hn hb _=>?_
 subst hn
 have hb' : l.length * 8 ≤ 140737488355328:=hb
 refine j_nf [_,_] rfl (j_run it 1 rfl (by simp) ?_)
 refine j_nf [_,_,_] rfl (j_run it 1 rfl (by simp) ?_)
 refine j_step rfl (x_len sl22 rfl ?_)
 refine j_run it 1 rfl (by simp) ?_
 refine j_nf [_,_,_] rfl ?_
 refine j_loopG (X:=Nat) [0,1,7] [0,1] (fun i=>[(8,.int .i64 (i : Int))]) (fun _=>[]) (fun _=>[]) (fun i=>i ≤ l.length ∧ ∀ j y,j < i → l[j]? = some y → p y = false) (fun i=>l.length - i) 0 [] rfl rfl rfl ⟨Nat.zero_le _,fun j y h=>by omega⟩ (by repeat (first | exact Fr.sub_nil _ | refine Fr.sub_cons rfl ?_)) rfl rfl ?_
 rintro i ⟨hi,hno⟩ ih
 simp only [List.cons_append,List.nil_append] at hi ih ⊢
 by_cases h9 : i < l.length
 ·obtain ⟨y,at_y⟩ : ∃ y,l[i]? = some y:=⟨_,List.getElem?_eq_getElem h9⟩
  have hfy:=hf y (List.mem_of_getElem? at_y)
  refine j_nf [_,_,_,_,_] rfl (j_run it 1 rfl (by simp) ?_)
  refine j_nf [_,_,_,_,_] rfl (j_if rfl rfl (fun h1=>?_) (fun h1=>by exfalso;omega))
  refine j_nf [_,_,_,_,_,_,_] rfl (j_run it 2 rfl (by simp) ?_)
  refine j_nf [_,_,_,_,_,_,_] rfl (j_run it 3 rfl (by simp) ?_)
  refine j_step rfl (x_idx 0 (i) rfl rfl rfl sl22 rfl (by omega) fun z1 hz1 b1 o1=>?_)
  obtain rfl : _ = z1:=Option.some.inj (at_y.symm.trans hz1)
  refine j_step rfl (x_ld_int 0 rfl rfl ld3 fun ⟨r1,r2⟩=>?_) --ok
  refine j_step rfl (x_fv rfl rfl (x_call [2] (evs_const _ _) hfy rfl ?_))
  rintro _ _ _ ⟨rfl,rfl,rfl⟩
  simp only [List.nil_append]
  cases hp : p y with
  | true =>
   rw [fxI_of at_y hp hno]
   refine j_nf [_,_,_,_,_,_] rfl ?_
   refine j_true rfl rfl ?_
   refine j_nf [_,_,_,_,_,_,_] rfl (j_run it 2 rfl (by simp) ?_)
   refine j_nf [_,_,_,_,_,_] rfl ?_
   refine j_giv [] rfl rfl rfl ⟨rfl,rfl,rfl⟩
  | false =>
   refine j_nf [_,_,_,_,_,_] rfl ?_
   refine j_false rfl rfl ?_
   refine j_nf [_,_,_,_] rfl (j_run it 2 rfl ⟨trivial,⟨by omega,by omega⟩,trivial⟩ ?_)
   refine j_nfn 1 [.lp [1,0,1,0,0],.blk 0,.c [1,1]] rfl ?_
   refine j_to [1,2] (by exact fra rfl) rfl rfl (ih (i + 1) (by omega) ⟨by omega,fun j z hj hz=>by
    rcases Nat.lt_succ_iff_lt_or_eq.1 hj with h | rfl
    ·exact hno j z h hz
    ·rw [at_y] at hz;rw [← Option.some.inj hz];exact hp⟩)
 ·rw [fxI_no fun j y hj=>hno j y (by have:=(List.getElem?_eq_some_iff.1 hj).1;omega) hj]
  refine j_nf [_,_,_,_,_] rfl (j_run it 1 rfl (by simp) ?_)
  refine j_nf [_,_,_,_,_] rfl (j_if rfl rfl (fun h1=>by exfalso;omega) (fun h1=>?_))
  refine j_nf [_,_] rfl (j_run it 1 rfl (by simp) ?_)
  refine j_nf [_] rfl ?_
  refine j_giv [] rfl rfl rfl ⟨rfl,rfl,rfl⟩
theorem S_slices_ContainsFunc___int_int_ {f : FuncId} {caps : List Value} {g : Fact} {p : Int → Bool} {ps : Option Addr} {n c : Nat} {l : List Int} (hf : ∀ x ∈ l,Ctr Tryz.prog f (.int .i64 x::caps) [] [g] (Rv (.bool (p x)) [])) :
  Ctr Tryz.prog 75 [.slice ps n c,.func (.func f) #[] caps.toArray] [] [slF I64 ps n c l,g] (Rv (.bool (l.any p)) []):=by
 refine Ctr_of_j' (F:=F_slices_ContainsFunc___int_int_) rfl fun C=>?_
 have hx:=S_slices_IndexFunc___int_int_ (ps:=ps) (n:=n) (c:=c) hf
 have hle:=fxI_le (p:=p) (l:=l)
 rw [← fxI_any]
 refine j_len 0 rfl fun hn hb _=>?_
 subst hn
 have hb' : l.length * 8 ≤ 140737488355328:=hb
 refine j_nf [_,_] rfl ?_
 refine j_run it 1 rfl (by simp) ?_
 refine j_nf [_,_] rfl ?_
 refine j_run it 2 rfl (by simp) ?_ --ok
 refine j_step rfl (x_call [0,1] rfl hx rfl ?_)
 rintro _ _ _ ⟨rfl,rfl,rfl⟩
 simp only [List.nil_append]
 refine j_run it 2 rfl (by simp) ?_
 refine j_nf [_] rfl ?_
 refine j_giv [] rfl rfl rfl ⟨rfl,rfl,rfl⟩
theorem S_slices_IndexFunc_____int___int_ {f : FuncId} {caps : List Value} {g : Fact} {p : List Int → Bool} {ps : Option Addr} {n c : Nat} {l : List (List Int)} (hf : ∀ r ∈ l,∀ pa ca,Ctr Tryz.prog f (.slice pa r.length ca::caps) [] [slF I64 pa r.length ca r,g] (Rv (.bool (p r)) [])) :
  Ctr Tryz.prog 116 [.slice ps n c,.func (.func f) #[] caps.toArray] [] [slF (encSl I64) ps n c l,g] (Rv (.int .i64 (fxI p l)) []):=by
 refine Ctr_of_j' (F:=F_slices_IndexFunc_____int___int_) rfl fun C=>?_
 refine j_len 0 rfl fun hn hb _=>?_
 subst hn
 have hb' : l.length * 24 ≤ 140737488355328:=hb
 refine j_nf [_,_] rfl (j_run it 1 rfl (by simp) ?_)
 refine j_nf [_,_,_] rfl (j_run it 1 rfl (by simp) ?_)
 refine j_step rfl (x_len sl25 rfl ?_)
 refine j_run it 1 rfl (by simp) ?_
 refine j_nf [_,_,_] rfl ?_
 refine j_loopG (X:=Nat) [0,1,7] [0,1] (fun i=>[(8,.int .i64 (i : Int))]) (fun _=>[]) (fun _=>[]) (fun i=>i ≤ l.length ∧ ∀ j y,j < i → l[j]? = some y → p y = false) (fun i=>l.length - i) 0 [] rfl rfl rfl ⟨Nat.zero_le _,fun j y h=>by omega⟩ (by repeat (first | exact Fr.sub_nil _ | refine Fr.sub_cons rfl ?_)) rfl rfl ?_
 rintro i ⟨hi,hno⟩ ih
 simp only [List.cons_append,List.nil_append] at hi ih ⊢
 by_cases h9 : i < l.length
 ·obtain ⟨y,at_y⟩ : ∃ y,l[i]? = some y:=⟨_,List.getElem?_eq_getElem h9⟩
  have hfy:=hf y (List.mem_of_getElem? at_y)
  refine j_nf [_,_,_,_,_] rfl (j_run it 1 rfl (by simp) ?_)
  refine j_nf [_,_,_,_,_] rfl (j_if rfl rfl (fun h1=>?_) (fun h1=>by exfalso;omega))
  refine j_nf [_,_,_,_,_,_,_] rfl (j_run it 2 rfl (by simp) ?_)
  refine j_nf [_,_,_,_,_,_,_] rfl (j_run it 3 rfl (by simp) ?_)
  refine j_step rfl (x_idx 0 (i) rfl rfl rfl sl25 rfl (by omega) fun z1 hz1 b1 o1=>?_)
  obtain rfl : _ = z1:=Option.some.inj (at_y.symm.trans hz1)
  refine j_step rfl (x_ld_sl 0 rfl rfl ld22 fun pa1 ca1=>?_) --ok
  refine j_step rfl (x_fv rfl rfl (x_call [0,3] (evs_const _ _) (hfy _ _) rfl ?_))
  rintro _ _ _ ⟨rfl,rfl,rfl⟩
  simp only [List.nil_append]
  cases hp : p y with
  | true =>
   rw [fxI_of at_y hp hno]
   refine j_nf [_,_,_,_,_,_] rfl ?_
   refine j_true rfl rfl ?_
   refine j_nf [_,_,_,_,_,_,_] rfl (j_run it 2 rfl (by simp) ?_)
   refine j_nf [_,_,_,_,_,_] rfl ?_
   refine j_giv [] rfl rfl rfl ⟨rfl,rfl,rfl⟩
  | false =>
   refine j_nf [_,_,_,_,_,_] rfl ?_
   refine j_false rfl rfl ?_
   refine j_nf [_,_,_,_] rfl (j_run it 2 rfl ⟨trivial,⟨by omega,by omega⟩,trivial⟩ ?_)
   refine j_nfn 1 [.lp [1,0,1,0,0],.blk 0,.c [1,1]] rfl ?_
   refine j_to [2,3] (by exact fra rfl) rfl rfl (ih (i + 1) (by omega) ⟨by omega,fun j z hj hz=>by
    rcases Nat.lt_succ_iff_lt_or_eq.1 hj with h | rfl
    ·exact hno j z h hz
    ·rw [at_y] at hz;rw [← Option.some.inj hz];exact hp⟩)
 ·rw [fxI_no fun j y hj=>hno j y (by have:=(List.getElem?_eq_some_iff.1 hj).1;omega) hj]
  refine j_nf [_,_,_,_,_] rfl (j_run it 1 rfl (by simp) ?_)
  refine j_nf [_,_,_,_,_] rfl (j_if rfl rfl (fun h1=>by exfalso;omega) (fun h1=>?_))
  refine j_nf [_,_] rfl (j_run it 1 rfl (by simp) ?_)
  refine j_nf [_] rfl ?_
  refine j_giv [] rfl rfl rfl ⟨rfl,rfl,rfl⟩
theorem S_slices_ContainsFunc_____int___int_ {f : FuncId} {caps : List Value} {g : Fact} {p : List Int → Bool} {ps : Option Addr} {n c : Nat} {l : List (List Int)} (hf : ∀ r ∈ l,∀ pa ca,Ctr Tryz.prog f (.slice pa r.length ca::caps) [] [slF I64 pa r.length ca r,g] (Rv (.bool (p r)) [])) :
  Ctr Tryz.prog 78 [.slice ps n c,.func (.func f) #[] caps.toArray] [] [slF (encSl I64) ps n c l,g] (Rv (.bool (l.any p)) []):=by
 refine Ctr_of_j' (F:=F_slices_ContainsFunc_____int___int_) rfl fun C=>?_
 have hx:=S_slices_IndexFunc_____int___int_ (ps:=ps) (n:=n) (c:=c) hf
 have hle:=fxI_le (p:=p) (l:=l)
 rw [← fxI_any]
 refine j_len 0 rfl fun hn hb _=>?_
 subst hn
 have hb' : l.length * 24 ≤ 140737488355328:=hb
 refine j_nf [_,_] rfl ?_
 refine j_run it 1 rfl (by simp) ?_
 refine j_nf [_,_] rfl ?_
 refine j_run it 2 rfl (by simp) ?_ --ok
 refine j_step rfl (x_call [0,1] rfl hx rfl ?_)
 rintro _ _ _ ⟨rfl,rfl,rfl⟩
 simp only [List.nil_append]
 refine j_run it 2 rfl (by simp) ?_
 refine j_nf [_] rfl ?_
 refine j_giv [] rfl rfl rfl ⟨rfl,rfl,rfl⟩
theorem S_slices_EqualFunc_____int_____int___int___int_ {pl pk : Option Addr} {nl cl nk ck : Nat} {l k : List (List Int)} {res : Bool} (hr : decide (l = k) = res) : Ctr Tryz.prog 126 [.slice pl nl cl,.slice pk nk ck,.func (.func 127) #[] #[]] [] [slF (encSl I64) pl nl cl l,slF (encSl I64) pk nk ck k] (Rv (.bool res) []):=by
 refine Ctr_of_j' (F:=F_slices_EqualFunc_____int_____int___int___int_) rfl fun C=>?_
 subst hr
 refine j_len 0 rfl fun hn hb _=>?_
 refine j_len 1 rfl fun hn2 hb2 _=>?_
 subst hn
 subst hn2
 have hb' : l.length * 24 ≤ 140737488355328:=hb
 have hb2' : k.length * 24 ≤ 140737488355328:=hb2
 by_cases hl : l.length = k.length
 ·refine j_nf [_,_] rfl (j_run it 1 rfl (by simp) ?_)
  refine j_nf [_,_,_] rfl (j_run it 1 rfl (by simp) ?_)
  refine j_step rfl (x_len sl25 rfl ?_)
  refine j_run it 1 rfl (by simp) ?_
  refine j_step rfl (x_len sl25 rfl ?_)
  refine j_run it 1 rfl (by simp) ?_
  refine j_nf [_,_] rfl (j_ifn rfl rfl (fun h1=>by exfalso;omega) (fun h1=>?_))
  refine j_nf [_,_,_] rfl (j_run it 1 rfl (by simp) ?_)
  refine j_step rfl (x_len sl25 rfl ?_)
  refine j_run it 1 rfl (by simp) ?_
  refine j_nf [_,_,_] rfl ?_
  refine j_loopG (X:=Nat) [1,2,15,16] [0,1] (fun i=>[(17,.int .i64 (i : Int))]) (fun _=>[]) (fun _=>[]) (fun i=>i ≤ l.length ∧ ∀ j,j < i → l[j]? = k[j]?) (fun i=>l.length - i) 0 [] rfl rfl rfl ⟨Nat.zero_le _,fun j h=>by omega⟩ (by repeat (first | exact Fr.sub_nil _ | refine Fr.sub_cons rfl ?_)) rfl rfl ?_
  rintro i ⟨hi,hno⟩ ih
  simp only [List.cons_append,List.nil_append] at hi ih ⊢
  by_cases h9 : i < l.length
  ·obtain ⟨y,at_y⟩ : ∃ y,l[i]? = some y:=⟨_,List.getElem?_eq_getElem h9⟩
   obtain ⟨z,at_z⟩ : ∃ z,k[i]? = some z:=⟨_,List.getElem?_eq_getElem (by omega)⟩
   by_cases h8 : y = z
   ·have hd : decide (y = z) = true:=decide_eq_true h8
    refine j_nf [_,_,_,_,_] rfl (j_run it 1 rfl (by simp) ?_)
    refine j_nf [_,_,_,_,_] rfl (j_if rfl rfl (fun h2=>?_) (fun h2=>by exfalso;omega))
    refine j_nf [_,_,_,_,_,_,_] rfl (j_run it 1 rfl (by simp) ?_)
    refine j_step rfl (x_idx 0 (i) rfl rfl rfl sl25 rfl (by omega) fun z1 hz1 b1 o1=>?_)
    obtain rfl : _ = z1:=Option.some.inj (at_y.symm.trans hz1)
    refine j_step rfl (x_ld_sl 0 rfl rfl ld22 fun pa1 ca1=>?_)
    refine j_run it 2 rfl (by simp) ?_
    refine j_nf [_,_,_,_,_,_,_] rfl (j_run it 2 rfl (by simp) ?_)
    refine j_step rfl (x_idx 3 (i) rfl rfl rfl sl25 rfl (by omega) fun z1 hz2 b2 o2=>?_)
    obtain rfl : _ = z1:=Option.some.inj (at_z.symm.trans hz2)
    refine j_step rfl (x_ld_sl 0 rfl rfl ld22 fun pa2 ca2=>?_)
    refine j_run it 1 rfl (by simp) ?_
    refine j_nf [_,_,_,_,_,_,_] rfl (j_run it 3 rfl (by simp) ?_)
    refine j_step rfl <| x_fv rfl rfl (x_call [2,0] rfl (S_slices_Equal___int_int_ (by omega)) rfl ?_)
    rintro _ _ _ ⟨rfl,rfl,rfl⟩
    simp only [List.cons_append,List.nil_append]
    refine j_run it 1 rfl (by simp) ?_
    refine j_nf [_,_,_,_,_,_] rfl ?_
    refine j_false rfl rfl ?_
    refine j_nf [_,_,_,_] rfl (j_run it 2 rfl ⟨trivial,⟨by omega,by omega⟩,trivial⟩ ?_)
    refine j_nfn 1 [.lp (pL 116),.blk 0,.c [1,1,1]] rfl ?_
    refine j_to [4,5] (by exact fra rfl) rfl rfl (ih (i + 1) (by omega) ⟨by omega,fun j hj=>by
     rcases Nat.lt_succ_iff_lt_or_eq.1 hj with h | rfl
     ·exact hno j h
     ·rw [at_y,at_z,h8]⟩)
   ·have hd : decide (y = z) = false:=decide_eq_false h8
    rw [decide_eq_false (show l ≠ k from fun e=>by rw [e,at_z] at at_y;exact h8 (Option.some.inj at_y).symm)]
    refine j_nf [_,_,_,_,_] rfl (j_run it 1 rfl (by simp) ?_)
    refine j_nf [_,_,_,_,_] rfl (j_if rfl rfl (fun h2=>?_) (fun h2=>by exfalso;omega))
    refine j_nf [_,_,_,_,_,_,_] rfl (j_run it 1 rfl (by simp) ?_)
    refine j_step rfl (x_idx 0 (i) rfl rfl rfl sl25 rfl (by omega) fun z1 hz1 b1 o1=>?_)
    obtain rfl : _ = z1:=Option.some.inj (at_y.symm.trans hz1)
    refine j_step rfl (x_ld_sl 0 rfl rfl ld22 fun pa1 ca1=>?_)
    refine j_run it 2 rfl (by simp) ?_
    refine j_nf [_,_,_,_,_,_,_] rfl (j_run it 2 rfl (by simp) ?_)
    refine j_step rfl (x_idx 3 (i) rfl rfl rfl sl25 rfl (by omega) fun z1 hz2 b2 o2=>?_)
    obtain rfl : _ = z1:=Option.some.inj (at_z.symm.trans hz2)
    refine j_step rfl (x_ld_sl 0 rfl rfl ld22 fun pa2 ca2=>?_)
    refine j_run it 1 rfl (by simp) ?_
    refine j_nf [_,_,_,_,_,_,_] rfl (j_run it 3 rfl (by simp) ?_)
    refine j_step rfl <| x_fv rfl rfl (x_call [2,0] rfl (S_slices_Equal___int_int_ (by omega)) rfl ?_)
    rintro _ _ _ ⟨rfl,rfl,rfl⟩
    simp only [List.cons_append,List.nil_append]
    refine j_run it 1 rfl (by simp) ?_
    refine j_nf [_,_,_,_,_,_] rfl ?_
    refine j_true rfl rfl ?_
    refine j_nf [_,_,_,_,_,_,_] rfl (j_run it 1 rfl (by simp) ?_)
    refine j_nf [_,_,_,_,_,_] rfl ?_
    refine j_giv [] rfl rfl rfl ⟨rfl,rfl,rfl⟩
  ·rw [decide_eq_true (show l = k from List.ext_getElem? fun j=>by
    by_cases h : j < i
    ·exact hno j h
    ·rw [List.getElem?_eq_none (by omega),List.getElem?_eq_none (by omega)])]
   refine j_nf [_,_,_,_,_] rfl (j_run it 1 rfl (by simp) ?_)
   refine j_nf [_,_,_,_,_] rfl (j_if rfl rfl (fun h2=>by exfalso;omega) (fun h2=>?_))
   refine j_nf [_,_] rfl (j_run it 1 rfl (by simp) ?_)
   refine j_nf [_] rfl ?_
   refine j_giv [] rfl rfl rfl ⟨rfl,rfl,rfl⟩
 ·rw [decide_eq_false (show l ≠ k from fun e=>hl (by rw [e]))]
  refine j_nf [_,_] rfl (j_run it 1 rfl (by simp) ?_)
  refine j_nf [_,_,_] rfl (j_run it 1 rfl (by simp) ?_)
  refine j_step rfl (x_len sl25 rfl ?_)
  refine j_run it 1 rfl (by simp) ?_
  refine j_step rfl (x_len sl25 rfl ?_)
  refine j_run it 1 rfl (by simp) ?_
  refine j_nf [_,_] rfl (j_ifn rfl rfl (fun h1=>?_) (fun h1=>by exfalso;omega))
  refine j_nf [_,_,_] rfl (j_run it 1 rfl (by simp) ?_)
  refine j_nf [_,_] rfl ?_
  refine j_giv [] rfl rfl rfl ⟨rfl,rfl,rfl⟩
def stP (n : Int) (l : List Int) : Prop:=(∀ x ∈ l,0 ≤ x ∧ x < n) ∧ l.Pairwise (· < ·)
instance (n : Int) (l : List Int) : Decidable (stP n l):=inferInstanceAs (Decidable (_ ∧ _))
def stA (n : Int) (l : List Int) (i : Nat) : Prop:=∀ x,l[i]? = some x → (0 ≤ x ∧ x < n) ∧ ∀ y,0 < i → l[i - 1]? = some y → y < x
theorem stP_iff {n : Int} {l : List Int} : stP n l ↔ ∀ i,i < l.length → stA n l i:=by
 constructor
 ·rintro ⟨h1,h2⟩ i hi x hx
  refine ⟨h1 x (List.mem_of_getElem? hx),fun y h0 hy=>?_⟩
  obtain ⟨a1,a2⟩:=List.getElem?_eq_some_iff.1 hx
  obtain ⟨b1,b2⟩:=List.getElem?_eq_some_iff.1 hy
  have:=List.pairwise_iff_getElem.1 h2 (i - 1) i b1 a1 (by omega)
  omega
 ·intro h
  refine ⟨fun x hx=>?_,List.pairwise_iff_getElem.2 fun i j hi hj hij=>?_⟩
  ·obtain ⟨i,hi⟩:=List.getElem?_of_mem hx
   exact (h i (List.getElem?_eq_some_iff.1 hi).1 x hi).1
  ·have key : ∀ d,i + d + 1 < l.length → ∀ x y,l[i]? = some x → l[i + d + 1]? = some y → x < y:=by
    intro d
    induction d with
    | zero =>
     intro hd x y hx hy
     exact (h _ hd y hy).2 x (by omega) (by rw [show i + 0 + 1 - 1 = i by omega];exact hx)
    | succ d ih =>
     intro hd x y hx hy
     obtain ⟨z,hz⟩ : ∃ z,l[i + d + 1]? = some z:=⟨_,List.getElem?_eq_getElem (by omega)⟩
     have h1:=ih (by omega) x z hx hz
     have h2:=(h _ hd y hy).2 z (by omega) (by rw [show i + (d + 1) + 1 - 1 = i + d + 1 by omega];exact hz)
     omega
   exact key (j - i - 1) (by omega) _ _ (List.getElem?_eq_getElem hi) (by rw [show i + (j - i - 1) + 1 = j by omega];exact List.getElem?_eq_getElem hj)
theorem stP_no {n : Int} {l : List Int} {i : Nat} (hi : i < l.length) (h : ¬ stA n l i) : ¬ stP n l:=fun hp=>h (stP_iff.1 hp i hi)
theorem S_repair_meet_1 {b : Nat} {x : Int} {pb : Option Addr} {nb cb : Nat} {l : List Int} {res : Bool} (hr : decide (x ∈ l) = res) :
  Ctr Tryz.prog 76 [.int .i64 x,.pointer (some ⟨b,0,none⟩)] [] [celF b [.slice pb nb cb],slF I64 pb nb cb l] (Rv (.bool res) []):=by
 refine Ctr_of_j' (F:=F_repair_meet_1) rfl fun C=>?_
 refine j_nf [_,_] rfl (j_run it 1 rfl (by simp) ?_)
 refine j_nf [_,_] rfl (j_step rfl (x_ldC 0 rfl rfl ld22 rfl ?_))
 refine j_run it 1 rfl (by simp) ?_
 refine j_step rfl (x_call [1] rfl (S_slices_Contains___int_int_ (by omega)) rfl ?_)
 rintro _ _ _ ⟨rfl,rfl,rfl⟩
 simp only [List.cons_append,List.nil_append]
 refine j_run it 1 rfl (by simp) ?_
 refine j_nf [_] rfl ?_
 refine j_giv [] rfl rfl rfl ⟨rfl,rfl,rfl⟩
theorem S_repair_others_1 {b : Nat} {x : Int} {pb : Option Addr} {nb cb : Nat} {l : List Int} {res : Bool} (hr : decide (x ∈ l) = res) :
  Ctr Tryz.prog 124 [.slice pb nb cb,.pointer (some ⟨b,0,none⟩)] [] [slF I64 pb nb cb l,celF b [.int .i64 x]] (Rv (.bool res) []):=by
 refine Ctr_of_j' (F:=F_repair_others_1) rfl fun C=>?_
 refine j_nf [_,_] rfl (j_run it 1 rfl (by simp) ?_)
 refine j_nf [_,_] rfl (j_run it 1 rfl (by simp) ?_)
 refine j_step rfl (x_ldC 1 rfl rfl ld3 rfl ?_)
 refine j_step rfl (x_call [0] rfl (S_slices_Contains___int_int_ (by omega)) rfl ?_)
 rintro _ _ _ ⟨rfl,rfl,rfl⟩
 simp only [List.cons_append,List.nil_append]
 refine j_run it 1 rfl (by simp) ?_
 refine j_nf [_] rfl ?_
 refine j_giv [] rfl rfl rfl ⟨rfl,rfl,rfl⟩
theorem S_repair_nonzero_1 {b : Nat} {x : Int} {pb : Option Addr} {nb cb : Nat} {l : List Int} {res : Bool} (h0 : 0 ≤ x) (h1 : x < l.length) (hr : decide (l.getD x.toNat 0 ≠ 0) = res) :
  Ctr Tryz.prog 125 [.int .i64 x,.pointer (some ⟨b,0,none⟩)] [] [celF b [.slice pb nb cb],slF I64 pb nb cb l] (Rv (.bool res) []):=by
 refine Ctr_of_j' (F:=F_repair_nonzero_1) rfl fun C=>?_
 obtain ⟨k,rfl⟩:=Int.eq_ofNat_of_zero_le h0
 subst hr
 rw [Int.toNat_natCast]
 obtain ⟨y,at_y⟩ : ∃ y,l[k]? = some y:=⟨_,List.getElem?_eq_getElem (by omega)⟩
 rw [List.getD_eq_getElem?_getD,at_y]
 refine j_len 1 rfl fun hn hb _=>?_
 subst hn
 have e : decide ((some y).getD 0 ≠ 0) = !decide (y = 0):=by
  by_cases h : y = 0 <;> simp [h]
 rw [e]
 refine j_nf [_,_] rfl (j_run it 1 rfl (by simp) ?_)
 refine j_nf [_,_] rfl (j_step rfl (x_ldC 0 rfl rfl ld22 rfl ?_))
 refine j_run it 1 rfl (by simp) ?_
 refine j_step rfl (x_idx 1 (k) rfl rfl rfl sl22 rfl (by omega) fun z1 hz1 b1 o1=>?_)
 obtain rfl : _ = z1:=Option.some.inj (at_y.symm.trans hz1)
 refine j_step rfl (x_ld_int 0 rfl rfl ld3 fun ⟨r1,r2⟩=>?_)
 refine j_run it 2 rfl (by simp) ?_
 refine j_nf [_] rfl ?_
 refine j_giv [] rfl rfl rfl ⟨rfl,rfl,rfl⟩
theorem S_repair_meet {pa pb : Option Addr} {na ca nb cb : Nat} {k l : List Int} : Ctr Tryz.prog 42 [.slice pa na ca,.slice pb nb cb] [] [slF I64 pa na ca k,slF I64 pb nb cb l] (Rv (.bool (k.any fun x=>decide (x ∈ l))) []):=by
 refine Ctr_of_j' (F:=F_repair_meet) rfl fun C=>?_
 refine j_nf [_,_] rfl (j_step rfl (x_box_one rfl rfl fun b1=>?_))
 refine j_pubC 0 rfl ?_
 refine j_conj [0,2] rfl ?_
 have c_slices_ContainsFunc___int_int_:=fun {b : Nat}=>S_slices_ContainsFunc___int_int_ (f:=76) (caps:=[.pointer (some ⟨b,0,none⟩)]) (g:=conjF [celF b [.slice pb nb cb],slF I64 pb nb cb l]) (p:=fun x=>decide (x ∈ l)) (ps:=pa) (n:=na) (c:=ca) (l:=k) fun x _=>(S_repair_meet_1 rfl).conj
 refine j_run it 1 rfl (by simp) ?_
 refine j_nf [_,_] rfl (j_run it 2 rfl (by simp) ?_)
 refine j_step rfl (x_call [2,0] rfl (c_slices_ContainsFunc___int_int_) rfl ?_)
 rintro _ _ _ ⟨rfl,rfl,rfl⟩
 simp only [List.cons_append,List.nil_append]
 refine j_run it 1 rfl (by simp) ?_
 refine j_nf [_] rfl ?_
 refine j_giv [] rfl rfl rfl ⟨rfl,rfl,rfl⟩
theorem S_repair_nonzero {pa pb : Option Addr} {na ca nb cb : Nat} {k l : List Int} (hk : ∀ x ∈ k,0 ≤ x ∧ x < l.length) : Ctr Tryz.prog 98 [.slice pb nb cb,.slice pa na ca] [] [slF I64 pb nb cb l,slF I64 pa na ca k] (Rv (.bool (k.any fun x=>decide (l.getD x.toNat 0 ≠ 0))) []):=by
 refine Ctr_of_j' (F:=F_repair_nonzero) rfl fun C=>?_
 refine j_nf [_,_] rfl (j_step rfl (x_box_one rfl rfl fun b1=>?_))
 refine j_pubC 0 rfl ?_
 refine j_conj [0,1] rfl ?_
 have c_slices_ContainsFunc___int_int_:=fun {b : Nat}=>S_slices_ContainsFunc___int_int_ (f:=125) (caps:=[.pointer (some ⟨b,0,none⟩)]) (g:=conjF [celF b [.slice pb nb cb],slF I64 pb nb cb l]) (p:=fun x=>decide (l.getD x.toNat 0 ≠ 0)) (ps:=pa) (n:=na) (c:=ca) (l:=k) fun x hx=>(S_repair_nonzero_1 (hk x hx).1 (hk x hx).2 rfl).conj
 refine j_run it 1 rfl (by simp) ?_
 refine j_nf [_,_] rfl (j_run it 2 rfl (by simp) ?_)
 refine j_step rfl (x_call [3,0] rfl (c_slices_ContainsFunc___int_int_) rfl ?_)
 rintro _ _ _ ⟨rfl,rfl,rfl⟩
 simp only [List.cons_append,List.nil_append]
 refine j_run it 1 rfl (by simp) ?_
 refine j_nf [_] rfl ?_
 refine j_giv [] rfl rfl rfl ⟨rfl,rfl,rfl⟩
def othB (ls : List (List Int)) (i : Nat) : Bool:=!ls.any fun l=>decide ((i : Int) ∈ l)
def othL (n : Nat) (ls : List (List Int)) : List Int:=((List.range n).filter (othB ls)).map fun i : Nat=>(i : Int)
theorem othL_succ (n : Nat) (ls : List (List Int)) : othL (n + 1) ls = othL n ls++if othB ls n then [(n : Int)] else []:=by
 rw [othL,othL,List.range_succ,List.filter_append,List.map_append]
 congr 1
 cases h : othB ls n <;> simp [h]
theorem S_repair_others {ps : Option Addr} {nn c n : Nat} {ls : List (List Int)} (hn : n ≤ 1000000) : Ctr Tryz.prog 97 [.int .i64 n,.slice ps nn c] [] [slF (encSl I64) ps nn c ls] (RwI (othL n ls).length (othL n ls)):=by
 refine Ctr_of_j' (F:=F_repair_others) rfl fun C=>?_
 have hle : ∀ k,(othL k ls).length ≤ k:=fun k=>by rw [othL,List.length_map];have:=List.length_filter_le (othB ls) (List.range k);rwa [List.length_range] at this
 refine j_nf [_,_] rfl (j_run it 1 rfl (by simp) ?_)
 refine j_nf [_,_] rfl (j_run it 1 rfl (by simp) ?_)
 refine j_nf [_,_,_] rfl (j_run it 2 rfl (by simp) ?_)
 refine j_nf [_,_,_] rfl ?_
 refine j_row0 I64 3 ?_
 refine j_loopG (X:=Nat × Row) [1,4,7] [0,1] (fun x=>[(8,.int .i64 (x.1 : Int)),(5,.slice (ad x.2.bo) (othL x.1 ls).length x.2.cap)]) (fun x=>[(x.2.bo,3,x.2.cs)]) (fun x=>[rowF I64 x.2 (othL x.1 ls).length (othL x.1 ls)]) (fun x=>x.1 ≤ n) (fun x=>n - x.1) (0,⟨none,0,[]⟩) [0] rfl rfl rfl (Nat.zero_le _) (by repeat (first | exact Fr.sub_nil _ | refine Fr.sub_cons rfl ?_)) rfl rfl ?_
 rintro ⟨k,r⟩ hk ih
 simp only [List.cons_append,List.nil_append] at hk ih ⊢
 by_cases h9 : k < n
 ·have hk1:=hle k
  have ih':=fun r=>ih (k + 1,r)
  simp only [othL_succ] at ih'
  have c_slices_ContainsFunc_____int___int_:=fun {b : Nat}=>S_slices_ContainsFunc_____int___int_ (f:=124) (caps:=[.pointer (some ⟨b,0,none⟩)]) (g:=conjF [celF b [.int .i64 (k : Int)]]) (p:=fun l=>decide ((k : Int) ∈ l)) (ps:=ps) (n:=nn) (c:=c) (l:=ls) fun x _ pa ca=>(S_repair_others_1 rfl).conj1
  refine j_nf [_,_,_,_,_] rfl (j_run it 1 rfl (by simp) ?_)
  refine j_nf [_,_,_,_,_] rfl (j_if rfl rfl (fun h1=>?_) (fun h1=>by exfalso;omega))
  refine j_nf [_,_,_,_,_,_,_] rfl (j_run it 1 rfl (by simp) ?_)
  refine j_step rfl (x_alloc zo3 fun b1=>?_)
  refine j_step rfl (x_bst1 0 rfl rfl rfl rfl ld3 rfl (Nat.le_of_ble_eq_true rfl) ?_)
  refine j_nf [_,_,_,_,_,_,_] rfl (j_run it 2 rfl (by simp) ?_)
  simp only [setB,List.set_cons_zero]
  refine j_pubC 0 rfl ?_
  refine j_conj [0] rfl ?_
  cases hB : (ls.any fun l=>decide ((k : Int) ∈ l)) with
  | true =>
   rw [hB] at c_slices_ContainsFunc_____int___int_
   rw [othB,hB,Bool.not_true,if_neg (by simp),List.append_nil] at ih'
   refine j_step rfl (x_call [4,0] rfl (c_slices_ContainsFunc_____int___int_) rfl ?_)
   rintro _ _ _ ⟨rfl,rfl,rfl⟩
   simp only [List.cons_append,List.nil_append]
   refine j_run it 1 rfl (by simp) ?_
   refine j_nf [_,_,_,_,_,_] rfl ?_
   refine j_false rfl rfl ?_
   refine j_nf [_,_,_,_] rfl (j_run it 2 rfl ⟨trivial,⟨by omega,by omega⟩,trivial⟩ ?_)
   refine j_nfn 1 [.lp (pL 116),.blk 0,.c [1,1,1]] rfl ?_
   refine j_to [2,3,4] (by exact fra rfl) rfl rfl (ih' r (by omega) (by omega))
  | false =>
   rw [hB] at c_slices_ContainsFunc_____int___int_
   rw [othB,hB,Bool.not_false,if_pos rfl] at ih'
   simp only [List.length_append,List.length_singleton] at ih'
   refine j_step rfl (x_call [4,0] rfl (c_slices_ContainsFunc_____int___int_) rfl ?_)
   rintro _ _ _ ⟨rfl,rfl,rfl⟩
   simp only [List.cons_append,List.nil_append]
   refine j_run it 1 rfl (by simp) ?_
   refine j_nf [_,_,_,_,_,_] rfl ?_
   refine j_true rfl rfl ?_
   refine j_nf [_,_,_,_,_,_] rfl (j_run it 1 rfl (by simp) ?_)
   refine j_step rfl (x_ldC 1 rfl rfl ld3 rfl ?_)
   refine j_step rfl (x_lit sl22 zo22e rfl rfl rfl rfl (by decide) (by decide) rfl fun b2=>?_)
   refine j_step rfl (x_appR (z:=(↑k : Int)) 1 0 2 rfl rfl rfl rfl rfl sl22 zo22e rfl (fun w A hG=>(rd_int (by first | (simp only [InR];omega) | (simp [InR];done)))) (by omega) _ by22e (by omega) fun r1=>?_)
   refine j_run it 1 rfl (by simp) ?_
   refine j_nf [_,_,_,_] rfl (j_run it 2 rfl ⟨trivial,⟨by omega,by omega⟩,trivial⟩ ?_)
   refine j_nfn 1 [.lp (pL 116),.blk 0,.c [1,1,1]] rfl ?_
   refine j_toM [true,false] [0,4,5] (by exact fra rfl) rfl rfl (ih' r1 (by omega) (by omega))
 ·obtain rfl : k = n:=by omega
  refine j_nf [_,_,_,_,_] rfl (j_run it 1 rfl (by simp) ?_)
  refine j_nf [_,_,_,_,_] rfl (j_if rfl rfl (fun h1=>by exfalso;omega) (fun h1=>?_))
  refine j_nf [_,_] rfl (j_run it 2 rfl (by simp) ?_)
  refine j_nf [_] rfl ?_
  refine j_givK 1 [0] [0] rfl (.tmp rfl .nil) rfl rfl rfl ⟨r,rfl,rfl,rfl⟩
theorem S_repair_set {ps : Option Addr} {nn c : Nat} {n : Int} {l : List Int} {res : Bool} (hr : decide (stP n l) = res) : Ctr Tryz.prog 36 [.slice ps nn c,.int .i64 n] [] [slF I64 ps nn c l] (Rv (.bool res) []):=by
 refine Ctr_of_j' (F:=F_repair_set) rfl fun C=>?_
 subst hr
 refine j_len 0 rfl fun hn hb _=>?_
 subst hn
 have hb' : l.length * 8 ≤ 140737488355328:=hb
 refine j_nf [_,_] rfl (j_run it 1 rfl (by simp) ?_)
 refine j_nf [_,_,_] rfl (j_run it 1 rfl (by simp) ?_)
 refine j_step rfl (x_len sl22 rfl ?_)
 refine j_run it 1 rfl (by simp) ?_
 refine j_nf [_,_,_] rfl ?_
 refine j_loopG (X:=Nat) [0,1,7,8] [0] (fun i=>[(9,.int .i64 (i : Int))]) (fun _=>[]) (fun _=>[]) (fun i=>i ≤ l.length ∧ ∀ j,j < i → stA n l j) (fun i=>l.length - i) 0 [] rfl rfl rfl ⟨Nat.zero_le _,fun j h=>by omega⟩ (by repeat (first | exact Fr.sub_nil _ | refine Fr.sub_cons rfl ?_)) rfl rfl ?_
 rintro i ⟨hi,hno⟩ ih
 simp only [List.cons_append,List.nil_append] at hi ih ⊢
 by_cases h9 : i < l.length
 ·obtain ⟨x,at_x⟩ : ∃ x,l[i]? = some x:=⟨_,List.getElem?_eq_getElem h9⟩
  have bad : ∀ P : Prop,¬ stA n l i → decide (stP n l) = false:=fun _ h=>decide_eq_false (stP_no h9 h)
  have good : stA n l i → ∀ j,j < i + 1 → stA n l j:=fun h j hj=>by
   rcases Nat.lt_succ_iff_lt_or_eq.1 hj with h1 | rfl
   ·exact hno j h1
   ·exact h
  by_cases a0 : x < 0
  ·rw [bad True fun h=>by have:=(h x at_x).1;omega]
   refine j_nf [_,_,_,_,_] rfl (j_run it 1 rfl (by simp) ?_)
   refine j_nf [_,_,_,_,_] rfl (j_if rfl rfl (fun h1=>?_) (fun h1=>by exfalso;omega))
   refine j_nf [_,_,_,_,_,_,_] rfl (j_run it 1 rfl (by simp) ?_)
   refine j_step rfl (x_idx 0 (i) rfl rfl rfl sl22 rfl (by omega) fun z1 hz1 b1 o1=>?_)
   obtain rfl : _ = z1:=Option.some.inj (at_x.symm.trans hz1)
   refine j_step rfl (x_ld_int 0 rfl rfl ld3 fun ⟨r1,r2⟩=>?_)
   refine j_run it 2 rfl (by simp) ?_
   refine j_nf [_,_,_,_,_,_,_] rfl (j_run it 3 rfl (by simp) ?_)
   refine j_split_dec (t:=16) rfl (fun h2=>?_) (fun h2=>by exfalso;omega)
   refine j_run it 8 rfl (by simp) ?_
   refine j_gskipU rfl rfl ?_
   refine j_gskipU rfl rfl ?_
   refine j_gskipU rfl rfl ?_
   refine j_gskipU rfl rfl ?_
   refine j_gskipU rfl rfl ?_
   refine j_gskipU rfl rfl ?_
   refine j_gskipU rfl rfl ?_
   refine j_run it 2 rfl (by simp) ?_
   refine j_nf [_,_,_,_,_,_] rfl ?_
   refine j_true rfl rfl ?_
   refine j_nf [_,_,_,_,_,_,_] rfl (j_run it 1 rfl (by simp) ?_)
   refine j_nf [_,_,_,_,_,_] rfl ?_
   refine j_giv [] rfl rfl rfl ⟨rfl,rfl,rfl⟩
  ·by_cases a1 : n ≤ x
   ·rw [bad True fun h=>by have:=(h x at_x).1;omega]
    refine j_nf [_,_,_,_,_] rfl (j_run it 1 rfl (by simp) ?_)
    refine j_nf [_,_,_,_,_] rfl (j_if rfl rfl (fun h1=>?_) (fun h1=>by exfalso;omega))
    refine j_nf [_,_,_,_,_,_,_] rfl (j_run it 1 rfl (by simp) ?_)
    refine j_step rfl (x_idx 0 (i) rfl rfl rfl sl22 rfl (by omega) fun z1 hz1 b1 o1=>?_)
    obtain rfl : _ = z1:=Option.some.inj (at_x.symm.trans hz1)
    refine j_step rfl (x_ld_int 0 rfl rfl ld3 fun ⟨r1,r2⟩=>?_)
    refine j_run it 2 rfl (by simp) ?_
    refine j_nf [_,_,_,_,_,_,_] rfl (j_run it 3 rfl (by simp) ?_)
    refine j_split_dec (t:=16) rfl (fun h2=>by exfalso;omega) (fun h2=>?_)
    refine j_run it 5 rfl (by simp) ?_
    refine j_split_dec (t:=21) rfl (fun h3=>?_) (fun h3=>by exfalso;omega)
    refine j_run it 3 rfl (by simp) ?_
    refine j_gskipU rfl rfl ?_
    refine j_gskipU rfl rfl ?_
    refine j_gskipU rfl rfl ?_
    refine j_gskipU rfl rfl ?_
    refine j_gskipU rfl rfl ?_
    refine j_gskipU rfl rfl ?_
    refine j_gskipU rfl rfl ?_
    refine j_run it 2 rfl (by simp) ?_
    refine j_nf [_,_,_,_,_,_] rfl ?_
    refine j_true rfl rfl ?_
    refine j_nf [_,_,_,_,_,_,_] rfl (j_run it 1 rfl (by simp) ?_)
    refine j_nf [_,_,_,_,_,_] rfl ?_
    refine j_giv [] rfl rfl rfl ⟨rfl,rfl,rfl⟩
   ·rcases Nat.eq_zero_or_pos i with hi0 | hi0
    ·subst hi0
     refine j_nf [_,_,_,_,_] rfl (j_run it 1 rfl (by simp) ?_)
     refine j_nf [_,_,_,_,_] rfl (j_if rfl rfl (fun h1=>?_) (fun h1=>by exfalso;omega))
     refine j_nf [_,_,_,_,_,_,_] rfl (j_run it 1 rfl (by simp) ?_)
     refine j_step rfl (x_idx 0 (0) rfl rfl rfl sl22 rfl (by omega) fun z1 hz1 b1 o1=>?_)
     obtain rfl : _ = z1:=Option.some.inj (at_x.symm.trans hz1)
     refine j_step rfl (x_ld_int 0 rfl rfl ld3 fun ⟨r1,r2⟩=>?_)
     refine j_run it 2 rfl (by simp) ?_
     refine j_nf [_,_,_,_,_,_,_] rfl (j_run it 3 rfl (by simp) ?_)
     refine j_split_dec (t:=16) rfl (fun h2=>by exfalso;omega) (fun h2=>?_)
     refine j_run it 5 rfl (by simp) ?_
     refine j_split_dec (t:=21) rfl (fun h3=>by exfalso;omega) (fun h3=>?_)
     refine j_run it 12 rfl (by simp) ?_
     refine j_nf [_,_,_,_,_,_] rfl ?_
     refine j_false rfl rfl ?_
     refine j_nf [_,_,_,_] rfl (j_run it 2 rfl ⟨trivial,⟨by omega,by omega⟩,trivial⟩ ?_)
     refine j_nfn 1 [.lp [1,0,1,0,0],.blk 0,.c [1,1]] rfl ?_
     refine j_to [1] (by exact fra rfl) rfl rfl (ih 1 (by omega) ⟨by omega,good fun z hz=>by
      rw [at_x] at hz;obtain rfl:=Option.some.inj hz
      exact ⟨by omega,fun y h=>by omega⟩⟩)
    ·obtain ⟨k,rfl⟩ : ∃ k,i = k + 1:=⟨i - 1,by omega⟩
     obtain ⟨y,at_y⟩ : ∃ y,l[k]? = some y:=⟨_,List.getElem?_eq_getElem (by omega)⟩
     by_cases a2 : x ≤ y
     ·rw [bad True fun h=>by have:=(h x at_x).2 y (by omega) at_y;omega]
      refine j_nf [_,_,_,_,_] rfl (j_run it 1 rfl (by simp) ?_)
      refine j_nf [_,_,_,_,_] rfl (j_if rfl rfl (fun h1=>?_) (fun h1=>by exfalso;omega))
      refine j_nf [_,_,_,_,_,_,_] rfl (j_run it 1 rfl (by simp) ?_)
      refine j_step rfl (x_idx 0 (k + 1) rfl rfl rfl sl22 rfl (by omega) fun z1 hz1 b1 o1=>?_)
      obtain rfl : _ = z1:=Option.some.inj (at_x.symm.trans hz1)
      refine j_step rfl (x_ld_int 0 rfl rfl ld3 fun ⟨r1,r2⟩=>?_)
      refine j_run it 2 rfl (by simp) ?_
      refine j_nf [_,_,_,_,_,_,_] rfl (j_run it 3 rfl (by simp) ?_)
      refine j_split_dec (t:=16) rfl (fun h2=>by exfalso;omega) (fun h2=>?_)
      refine j_run it 5 rfl (by simp) ?_
      refine j_split_dec (t:=21) rfl (fun h3=>by exfalso;omega) (fun h3=>?_)
      refine j_run it 3 rfl (by simp) ?_
      refine j_split_dec (t:=24) rfl (fun h4=>?_) (fun h4=>by exfalso;omega)
      refine j_run it 4 rfl ⟨⟨by omega,by omega⟩,trivial,trivial,trivial,trivial⟩ ?_
      refine j_gstep rfl rfl (x_idx 1 ((k + 1) - 1) rfl rfl rfl sl22 (by omega) (by omega) fun z1 hz2 b2 o2=>?_)
      obtain rfl : _ = z1:=Option.some.inj (at_y.symm.trans hz2)
      refine j_gstep rfl rfl (x_ld_int 0 rfl rfl ld3 fun ⟨r3,r4⟩=>?_)
      refine j_run it 3 rfl (by simp) ?_
      refine j_nf [_,_,_,_,_,_] rfl (j_if rfl rfl (fun h5=>?_) (fun h5=>by exfalso;omega))
      refine j_nf [_,_,_,_,_,_,_] rfl (j_run it 1 rfl (by simp) ?_)
      refine j_nf [_,_,_,_,_,_] rfl ?_
      refine j_giv [] rfl rfl rfl ⟨rfl,rfl,rfl⟩
     ·refine j_nf [_,_,_,_,_] rfl (j_run it 1 rfl (by simp) ?_)
      refine j_nf [_,_,_,_,_] rfl (j_if rfl rfl (fun h1=>?_) (fun h1=>by exfalso;omega))
      refine j_nf [_,_,_,_,_,_,_] rfl (j_run it 1 rfl (by simp) ?_)
      refine j_step rfl (x_idx 0 (k + 1) rfl rfl rfl sl22 rfl (by omega) fun z1 hz1 b1 o1=>?_)
      obtain rfl : _ = z1:=Option.some.inj (at_x.symm.trans hz1)
      refine j_step rfl (x_ld_int 0 rfl rfl ld3 fun ⟨r1,r2⟩=>?_)
      refine j_run it 2 rfl (by simp) ?_
      refine j_nf [_,_,_,_,_,_,_] rfl (j_run it 3 rfl (by simp) ?_)
      refine j_split_dec (t:=16) rfl (fun h2=>by exfalso;omega) (fun h2=>?_)
      refine j_run it 5 rfl (by simp) ?_
      refine j_split_dec (t:=21) rfl (fun h3=>by exfalso;omega) (fun h3=>?_)
      refine j_run it 3 rfl (by simp) ?_
      refine j_split_dec (t:=24) rfl (fun h4=>?_) (fun h4=>by exfalso;omega)
      refine j_run it 4 rfl ⟨⟨by omega,by omega⟩,trivial,trivial,trivial,trivial⟩ ?_
      refine j_gstep rfl rfl (x_idx 1 ((k + 1) - 1) rfl rfl rfl sl22 (by omega) (by omega) fun z1 hz2 b2 o2=>?_)
      obtain rfl : _ = z1:=Option.some.inj (at_y.symm.trans hz2)
      refine j_gstep rfl rfl (x_ld_int 0 rfl rfl ld3 fun ⟨r3,r4⟩=>?_)
      refine j_run it 3 rfl (by simp) ?_
      refine j_nf [_,_,_,_,_,_] rfl (j_if rfl rfl (fun h5=>by exfalso;omega) (fun h5=>?_))
      refine j_nf [_,_,_,_] rfl (j_run it 2 rfl ⟨trivial,⟨by omega,by omega⟩,trivial⟩ ?_)
      refine j_nfn 1 [.lp [1,0,1,0,0],.blk 0,.c [1,1]] rfl ?_
      refine j_to [2] (by exact fra rfl) rfl rfl (ih (k + 2) (by omega) ⟨by omega,good fun z hz=>by
       rw [at_x] at hz;obtain rfl:=Option.some.inj hz
       exact ⟨by omega,fun z h hz=>by
        rw [show k + 1 - 1 = k by omega,at_y] at hz;obtain rfl:=Option.some.inj hz;omega⟩⟩)
 ·rw [decide_eq_true (stP_iff.2 fun j hj=>hno j (by omega))]
  refine j_nf [_,_,_,_,_] rfl (j_run it 1 rfl (by simp) ?_)
  refine j_nf [_,_,_,_,_] rfl (j_if rfl rfl (fun h1=>by exfalso;omega) (fun h1=>?_))
  refine j_nf [_,_] rfl (j_run it 1 rfl (by simp) ?_)
  refine j_nf [_] rfl ?_
  refine j_giv [] rfl rfl rfl ⟨rfl,rfl,rfl⟩
abbrev cnP (p m : Nat) (md : List Int) (n : Nat) (rows : List (List Int)) : List (List Int) × List Nat:=cnE (liftI (fA p m)) (liftI (fM p (fpo m md))) (negI p m) (invI p m md) n rows
theorem mtE_ok {q N : Nat} {rows : List (List Int)} (hN : N ≤ 256) (hl : rows.length ≤ 256) (hM : Mat q N rows) : mtE (N : Int) rows q = 0:=by
 rw [mtE,if_neg (by omega),if_neg,if_pos fun r hr x hx=>(hM r hr).2 x hx]
 rintro ⟨r,hr,h⟩
 exact h (by rw [(hM r hr).1])
theorem mtE_of {q : Nat} {N : Int} {rows : List (List Int)} (h : mtE N rows q = 0) : ∃ n : Nat,N = n ∧ n ≤ 256 ∧ rows.length ≤ 256 ∧ Mat q n rows:=by
 rw [mtE] at h
 by_cases h1 : N < 0 ∨ 256 < N ∨ 256 < rows.length
 ·rw [if_pos h1] at h;omega
 rw [if_neg h1] at h
 by_cases h2 : ∃ r ∈ rows,(r.length : Int) ≠ N
 ·rw [if_pos h2] at h;omega
 rw [if_neg h2] at h
 by_cases h3 : ∀ r ∈ rows,∀ x ∈ r,0 ≤ x ∧ x < (q : Int)
 ·refine ⟨N.toNat,by omega,by omega,by omega,fun r hr=>⟨?_,h3 r hr⟩⟩
  have:=Classical.byContradiction fun h=>h2 ⟨r,hr,h⟩
  omega
 ·rw [if_neg h3] at h;omega
theorem op_one {q : Nat} {z : Int × List (List Int)} {e : Int} (h : mtE z.1 z.2 q = e) : opE q [z] = e:=by
 rw [opE,opE]
 split
 ·omega
 ·exact h
abbrev CaQ (N : Nat) (E : List (List Int) × List Nat) : Value → List Fact → List Blk → Prop:=fun v Φ β=>∃ (pb pp : Option Addr) (cb cp : Nat),v = .tuple #[.agg #[.int .i64 N,.slice pb E.2.length cb],.slice pp E.2.length cp,.int .i64 0]
 ∧ Φ = [slF (encSl I64) pb E.2.length cb E.1,slF I64 pp E.2.length cp (toI E.2)] ∧ β = []
section
variable {p m n c nm cm : Nat} {pm ps : Option Addr} {md : List Int} {rows : List (List Int)}
theorem S_matrix_Canonical_ok {N : Nat} (K : Fok p m md) (hN : N ≤ 256) (hl : rows.length ≤ 256) (hM : Mat (p ^ m) N rows) :
  Ctr Tryz.prog 123 [.agg #[.int .i64 p,.int .i64 m,.slice pm nm cm],.agg #[.int .i64 N,.slice ps n c]] [] [slF I64 pm nm cm md,slF (encSl I64) ps n c rows] (CaQ N (cnP p m md N rows)):=by
 refine Ctr_of_j' (F:=F_matrix_Canonical) rfl fun C=>?_
 refine j_len 1 rfl fun hn hb _=>?_
 subst hn
 have c_matrix_open:=fun {pm ps : Option Addr} {nm cm n c : Nat}=>S_matrix_open_ok (pm:=pm) (nm:=nm) (cm:=cm) (ps:=ps) (n:=n) (c:=c) (Ms:=[((N : Int),rows)]) K (fun z hz=>by rw [List.mem_singleton.1 hz];simp only [InR];omega) (op_one (mtE_ok hN hl hM))
 have c_matrix_canon:=fun {b ng cg ce cl c : Nat} {pg pe pl ps : Option Addr}=>S_matrix_canon (b:=b) (ng:=ng) (cg:=cg) (ce:=ce) (cl:=cl) (pg:=pg) (pe:=pe) (pl:=pl) (ps:=ps) (c:=c) (n:=rows.length) (rows:=rows) K (by omega) (show N ≤ 1000000 by omega) rfl hM
 refine j_nf [_,_] rfl (j_step rfl (x_box_agg rfl fun b1=>?_))
 refine j_step rfl (x_box_agg rfl fun b2=>?_)
 refine j_step rfl (x_alloc zo57 fun b3=>?_)
 refine j_run it 2 rfl (by simp) ?_
 refine j_nf [_,_] rfl (j_step rfl (x_bld_all 2 rfl rfl ld24 rfl ?_))
 refine j_step rfl (x_bld_all 1 rfl rfl ld57 rfl ?_)
 refine j_step rfl (x_lit sl109 zo109e rfl rfl rfl rfl (by decide) (by decide) rfl fun b4=>?_)
 refine j_pub_all (E:=MatE) (n:=1) [[Value.int IntKind.i64 ↑N,Value.slice ps rows.length c]] [((↑N : Int),rows)] 0 (fun w A hG=>(allrd_cons (rd_pair (v1:=[Value.int IntKind.i64 ↑N]) (rd_int (by first | (simp only [InR];omega) | (simp [InR];done) | assumption)) (rd_of_slF (hG _ (fact_mem (n:=1) rfl)))) allrd_nil)) rfl rfl rfl rfl (by first | decide | exact Nat.le_of_ble_eq_true rfl) (by first | decide | exact Nat.le_of_ble_eq_true rfl) ?_
 refine j_step rfl (x_call [1,0] rfl (c_matrix_open) rfl ?_)
 rintro _ _ _ ⟨b5,pg1,cg1,pe1,ce1,pl1,cl1,rfl,rfl,rfl⟩
 simp only [List.cons_append,List.nil_append]
 refine j_run it 5 rfl (by simp) ?_
 refine j_nf [_,_,_] rfl (j_run it 2 rfl (by simp) ?_)
 refine j_nf [_,_] rfl (j_ifn rfl rfl (fun h1=>by exfalso;omega) (fun h1=>?_))
 refine j_nf [_,_] rfl (j_run it 1 rfl (by simp) ?_)
 refine j_step rfl (x_field rfl fd57_1 ?_)
 refine j_step rfl (x_bld 1 rfl rfl ld25 rfl ?_)
 refine j_step rfl (x_field rfl fd57_0 ?_)
 refine j_step rfl (x_bld 1 rfl rfl ld3 rfl ?_)
 refine j_step rfl (x_call [0,2,3,6] rfl (c_matrix_canon) rfl ?_)
 rintro _ _ _ ⟨pb1,pp1,cb1,cp1,rfl,rfl,rfl⟩
 simp only [List.cons_append,List.nil_append]
 simp only [decide_true]
 refine j_run it 5 rfl (by simp) ?_
 refine j_nf [_,_] rfl (j_step rfl (x_field rfl fd57_0 ?_))
 refine j_step rfl (x_bld 1 rfl rfl ld3 rfl ?_)
 refine j_run it 1 rfl (by simp) ?_
 refine j_step rfl (x_build (cs:=[Value.int IntKind.i64 ↑N,Value.slice pb1 (elP p m md N 0 0 rows).snd.length cb1]) st57 zo57 rfl rfl ?_)
 refine j_run it 1 rfl (by simp) ?_
 refine j_step rfl (x_bst_all 0 rfl rfl rfl ld57 rfl rfl (by simp [Value.oneCell']) ?_)
 refine j_run it 2 rfl (by simp) ?_
 refine j_nf [_] rfl ?_
 refine j_givC [0,1] rfl (.agg 0 rfl rfl ld57 rfl (.tmp rfl (.tmp rfl .nil))) rfl ⟨_,_,_,_,rfl,rfl,rfl⟩
theorem S_matrix_Canonical_bad {N e : Int} (K : Fok p m md) (hN : InR .i64 N) (h : mtE N rows (p ^ m) = e) (he : e ≠ 0) :
  Ctr Tryz.prog 123 [.agg #[.int .i64 p,.int .i64 m,.slice pm nm cm],.agg #[.int .i64 N,.slice ps n c]] [] [slF I64 pm nm cm md,slF (encSl I64) ps n c rows] (Rv (.tuple #[.agg #[.int .i64 0,.slice none 0 0],.slice none 0 0,.int .i64 e]) []):=by
 refine Ctr_of_j' (F:=F_matrix_Canonical) rfl fun C=>?_
 have hr:=mtE_rng N rows (p ^ m)
 have c_matrix_open:=fun {pm ps : Option Addr} {nm cm n c : Nat}=>S_matrix_open_bad (pm:=pm) (nm:=nm) (cm:=cm) (ps:=ps) (n:=n) (c:=c) (Ms:=[(N,rows)]) K (fun z hz=>by rw [List.mem_singleton.1 hz];exact hN) (op_one h) he
 refine j_nf [_,_] rfl (j_step rfl (x_box_agg rfl fun b1=>?_))
 refine j_step rfl (x_box_agg rfl fun b2=>?_)
 refine j_step rfl (x_alloc zo57 fun b3=>?_)
 refine j_run it 2 rfl (by simp) ?_
 refine j_nf [_,_] rfl (j_step rfl (x_bld_all 2 rfl rfl ld24 rfl ?_))
 refine j_step rfl (x_bld_all 1 rfl rfl ld57 rfl ?_)
 refine j_step rfl (x_lit sl109 zo109e rfl rfl rfl rfl (by decide) (by decide) rfl fun b4=>?_)
 refine j_pub_all (E:=MatE) (n:=1) [[Value.int IntKind.i64 N,Value.slice ps n c]] [((N : Int),rows)] 0 (fun w A hG=>(allrd_cons (rd_pair (v1:=[Value.int IntKind.i64 N]) (rd_int (by first | (simp only [InR];omega) | (simp [InR];done) | assumption)) (rd_of_slF (hG _ (fact_mem (n:=1) rfl)))) allrd_nil)) rfl rfl rfl rfl (by first | decide | exact Nat.le_of_ble_eq_true rfl) (by first | decide | exact Nat.le_of_ble_eq_true rfl) ?_
 refine j_step rfl (x_call [1,0] rfl (c_matrix_open) rfl ?_)
 rintro _ _ _ ⟨rfl,rfl,rfl⟩
 simp only [List.cons_append,List.nil_append]
 refine j_run it 5 rfl (by simp) ?_
 refine j_nf [_,_,_] rfl (j_run it 2 rfl (by simp) ?_)
 refine j_nf [_,_] rfl (j_ifn rfl rfl (fun h1=>?_) (fun h1=>by exfalso;omega))
 refine j_nf [_,_,_] rfl (j_step rfl (x_build (cs:=[Value.int IntKind.i64 0,Value.slice none 0 0]) st57 zo57 rfl rfl ?_))
 refine j_run it 1 rfl (by simp) ?_
 refine j_step rfl (x_bst_all 0 rfl rfl rfl ld57 rfl rfl (by simp [Value.oneCell']) ?_)
 refine j_run it 2 rfl (by simp) ?_
 refine j_nf [_,_] rfl ?_
 refine j_givC [] rfl (.agg 0 rfl rfl ld57 rfl (.tmp rfl (.tmp rfl .nil))) rfl ⟨rfl,rfl,rfl⟩
theorem S_matrix_Columns_ok {N ns cs' : Nat} {pt : Option Addr} {set : List Int} (K : Fok p m md) (hN : N ≤ 256) (hl : rows.length ≤ 256) (hM : Mat (p ^ m) N rows) (hs : set.length ≤ 256) (hst : ∀ x ∈ set,0 ≤ x ∧ x < (N : Int)) :
  Ctr Tryz.prog 22 [.agg #[.int .i64 p,.int .i64 m,.slice pm nm cm],.agg #[.int .i64 N,.slice ps n c],.slice pt ns cs'] [] [slF I64 pm nm cm md,slF (encSl I64) ps n c rows,slF I64 pt ns cs' set]
   (fun v Φ β=>∃ (pb : Option Addr) (cb : Nat),v = .tuple #[.agg #[.int .i64 (set.length : Nat),.slice pb rows.length cb],.int .i64 0] ∧ Φ = [slF (encSl I64) pb rows.length cb (rows.map fun r=>set.map fun j=>at0 r j.toNat)] ∧ β = []):=by
 refine Ctr_of_j' (F:=F_matrix_Columns) rfl fun C=>?_
 refine j_len 1 rfl fun hn hb _=>?_
 subst hn
 refine j_len 2 rfl fun hn hb2 _=>?_
 subst hn
 have c_matrix_open:=fun {pm ps : Option Addr} {nm cm n c : Nat}=>S_matrix_open_ok (pm:=pm) (nm:=nm) (cm:=cm) (ps:=ps) (n:=n) (c:=c) (Ms:=[((N : Int),rows)]) K (fun z hz=>by rw [List.mem_singleton.1 hz];simp only [InR];omega) (op_one (mtE_ok hN hl hM))
 refine j_nf [_,_] rfl (j_step rfl (x_box_agg rfl fun b1=>?_))
 refine j_step rfl (x_box_agg rfl fun b2=>?_)
 refine j_step rfl (x_alloc zo57 fun b3=>?_)
 refine j_run it 1 rfl (by simp) ?_
 refine j_nf [_,_,_] rfl (j_step rfl (x_bld_all 2 rfl rfl ld24 rfl ?_))
 refine j_step rfl (x_bld_all 1 rfl rfl ld57 rfl ?_)
 refine j_step rfl (x_lit sl109 zo109e rfl rfl rfl rfl (by decide) (by decide) rfl fun b4=>?_)
 refine j_pub_all (E:=MatE) (n:=1) [[Value.int IntKind.i64 ↑N,Value.slice ps rows.length c]] [((↑N : Int),rows)] 0 (fun w A hG=>(allrd_cons (rd_pair (v1:=[Value.int IntKind.i64 ↑N]) (rd_int (by first | (simp only [InR];omega) | (simp [InR];done) | assumption)) (rd_of_slF (hG _ (fact_mem (n:=1) rfl)))) allrd_nil)) rfl rfl rfl rfl (by first | decide | exact Nat.le_of_ble_eq_true rfl) (by first | decide | exact Nat.le_of_ble_eq_true rfl) ?_
 refine j_step rfl (x_call [1,0] rfl (c_matrix_open) rfl ?_)
 rintro _ _ _ ⟨b5,pg1,cg1,pe1,ce1,pl1,cl1,rfl,rfl,rfl⟩
 simp only [List.cons_append,List.nil_append]
 refine j_run it 5 rfl (by simp) ?_
 refine j_nf [_,_,_] rfl (j_run it 2 rfl (by simp) ?_)
 refine j_nf [_,_] rfl (j_ifn rfl rfl (fun h1=>by exfalso;omega) (fun h1=>?_))
 refine j_nf [_,_,_] rfl (j_run it 1 rfl (by simp) ?_)
 refine j_step rfl (x_len sl22 rfl ?_)
 refine j_run it 1 rfl (by simp) ?_
 refine j_nf [_,_] rfl (j_if rfl rfl (fun h2=>by exfalso;omega) (fun h2=>?_))
 refine j_nf [_,_,_] rfl (j_run it 1 rfl (by simp) ?_)
 refine j_step rfl (x_len sl22 rfl ?_)
 refine j_run it 1 rfl (by simp) ?_
 refine j_nf [_,_,_] rfl ?_
 refine j_loopG (X:=Nat) [2,4,6,33,34] [0,1,2,3,4,5,6,7] (fun i=>[(35,.int .i64 (i : Int))]) (fun _=>[(some b3,57,[.int .i64 0,.slice none 0 0]),(some b2,57,[.int .i64 N,.slice ps rows.length c]),(some b1,24,[.int .i64 p,.int .i64 m,.slice pm nm cm])]) (fun _=>[]) (fun i=>i ≤ set.length) (fun i=>set.length - i) 0 [] rfl rfl rfl (Nat.zero_le _) (by repeat (first | exact Fr.sub_nil _ | refine Fr.sub_cons rfl ?_)) rfl rfl ?_
 rintro i hi ih
 simp only [List.cons_append,List.nil_append] at hi ih ⊢
 by_cases h9 : i < set.length
 ·obtain ⟨x,at_x⟩ : ∃ x,set[i]? = some x:=⟨_,List.getElem?_eq_getElem h9⟩
  obtain ⟨x0,x1⟩:=hst x (List.mem_of_getElem? at_x)
  refine j_nf [_,_,_,_,_] rfl (j_run it 1 rfl (by simp) ?_)
  refine j_nf [_,_,_,_,_] rfl (j_if rfl rfl (fun h3=>?_) (fun h3=>by exfalso;omega))
  refine j_nf [_,_,_,_,_,_,_] rfl (j_step rfl (x_idx 7 (i) rfl rfl rfl sl22 rfl (by omega) fun z1 hz1 b6 o1=>?_))
  obtain rfl : _ = z1:=Option.some.inj (at_x.symm.trans hz1)
  refine j_step rfl (x_ld_int 0 rfl rfl ld3 fun ⟨r1,r2⟩=>?_)
  refine j_run it 1 rfl (by simp) ?_
  refine j_nf [_,_,_,_,_,_,_] rfl (j_run it 3 rfl (by simp) ?_)
  refine j_split_dec (t:=41) rfl (fun h4=>by exfalso;omega) (fun h4=>?_)
  refine j_run it 1 rfl (by simp) ?_
  refine j_gstep rfl rfl (x_field rfl fd57_0 ?_)
  refine j_gstep rfl rfl (x_bld 1 rfl rfl ld3 rfl ?_)
  refine j_run it 2 rfl (by simp) ?_
  refine j_nf [_,_,_,_,_,_] rfl (j_if rfl rfl (fun h5=>by exfalso;omega) (fun h5=>?_))
  refine j_nf [_,_,_,_] rfl (j_run it 2 rfl ⟨trivial,⟨by omega,by omega⟩,trivial⟩ ?_)
  refine j_nfn 1 [.lp (pL 244),.blk 0,.c [1,1,1,1]] rfl ?_
  refine j_to [1,2,3,4,5,6,7,8] (by exact fra rfl) rfl rfl (ih (i + 1) (by omega) (by omega))
 ·clear ih
  refine j_nf [_,_,_,_,_] rfl (j_run it 1 rfl (by simp) ?_)
  refine j_nf [_,_,_,_,_] rfl (j_if rfl rfl (fun h3=>by exfalso;omega) (fun h3=>?_))
  refine j_nf [_,_] rfl (j_run it 1 rfl (by simp) ?_)
  refine j_step rfl (x_len sl22 rfl ?_)
  refine j_step rfl (x_build (cs:=[Value.int IntKind.i64 ↑set.length,Value.slice none 0 0]) st57 zo57 rfl rfl ?_)
  refine j_step rfl (x_alloc zo57 fun b6=>?_)
  refine j_step rfl (x_bst_all 0 rfl rfl rfl ld57 rfl rfl (by simp [Value.oneCell']) ?_)
  refine j_nf [_,_,_] rfl (j_step rfl (x_field rfl fd57_1 ?_))
  refine j_step rfl (x_bld 2 rfl rfl ld25 rfl ?_)
  refine j_step rfl (x_len sl25 rfl ?_)
  refine j_run it 1 rfl (by simp) ?_
  refine j_nf [_,_,_] rfl ?_
  refine j_row0 (encSl I64) 22 ?_
  refine j_loopG (X:=Nat × Row) [2,6,12,53,54] [0,1,2,3,4,5,6,7,8] (fun x=>[(55,.int .i64 (x.1 : Int))]) (fun x=>[(x.2.bo,22,x.2.cs),(some b6,57,[.int .i64 (set.length : Nat),.slice (ad x.2.bo) x.1 x.2.cap]),(some b3,57,[.int .i64 0,.slice none 0 0]),(some b2,57,[.int .i64 N,.slice ps rows.length c]),(some b1,24,[.int .i64 p,.int .i64 m,.slice pm nm cm])]) (fun x=>[rowF (encSl I64) x.2 x.1 ((rows.take x.1).map fun r=>set.map fun j=>at0 r j.toNat)]) (fun x=>x.1 ≤ rows.length) (fun x=>rows.length - x.1) (0,⟨none,0,[]⟩) [0] rfl rfl rfl (Nat.zero_le _) (by repeat (first | exact Fr.sub_nil _ | refine Fr.sub_cons rfl ?_)) rfl rfl ?_
  rintro ⟨k,r⟩ hk ih
  simp only [List.cons_append,List.nil_append] at hk ih ⊢
  by_cases h8 : k < rows.length
  ·obtain ⟨u,at_u⟩ : ∃ u,rows[k]? = some u:=⟨_,List.getElem?_eq_getElem h8⟩
   have hu:=hM u (List.mem_of_getElem? at_u)
   have ih':=fun r=>ih (k + 1,r) (by dsimp only;omega) (by dsimp only;omega)
   simp only [List.take_add_one,at_u,Option.toList_some,List.map_append,List.map_cons,List.map_nil] at ih'
   clear ih
   have hTl : (set.map fun j=>at0 u j.toNat).length = set.length:=List.length_map _
   have hTa : ∀ (i : Nat) (x : Int),set[i]? = some x → (set.map fun j=>at0 u j.toNat)[i]? = some (at0 u x.toNat):=fun i x h=>by rw [List.getElem?_map,h];rfl
   have hTr : ∀ z ∈ (set.map fun j=>at0 u j.toNat),InR .i64 z:=fun z hz=>by
    obtain ⟨j,_,rfl⟩:=List.mem_map.1 hz
    have:=wd_at (by have:=K.p2;exact Nat.pow_pos (by omega)) hu j.toNat
    have:=K.q
    simp only [InR];omega
   generalize (set.map fun j=>at0 u j.toNat) = T at *
   refine j_nf [_,_,_,_,_] rfl (j_run it 1 rfl (by simp) ?_)
   refine j_nf [_,_,_,_,_] rfl (j_if rfl rfl (fun h4=>?_) (fun h4=>by exfalso;omega))
   refine j_nf [_,_,_,_,_,_,_] rfl (j_step rfl (x_idx 8 (k) rfl rfl rfl sl25 rfl (by omega) fun z1 hz1 b7 o1=>?_))
   obtain rfl : _ = z1:=Option.some.inj (at_u.symm.trans hz1)
   refine j_step rfl (x_ld_sl 0 rfl rfl ld22 fun pa1 ca1=>?_)
   refine j_run it 1 rfl (by simp) ?_
   refine j_nf [_,_,_,_,_,_,_] rfl (j_run it 1 rfl (by simp) ?_)
   refine j_step rfl (x_len sl22 rfl ?_)
   refine j_step rfl (x_make_nat (set.length) _ rfl rfl sl22 zo22e by22e (by omega) (by omega) (by omega) fun b8=>?_)
   refine j_run it 1 rfl (by simp) ?_
   refine j_nf [_,_,_,_,_,_,_,_] rfl (j_run it 1 rfl (by simp) ?_)
   refine j_step rfl (x_len sl22 rfl ?_)
   refine j_run it 1 rfl (by simp) ?_
   refine j_nf [_,_,_,_,_,_,_,_] rfl ?_
   rw [show natCells .i64 (List.replicate set.length 0) = intCells .i64 (T.take 0++List.replicate (set.length - 0) 0) by simp [natCells,intCells]]
   refine j_loopG (X:=Nat) [2,6,12,14,15,53,54,55,56,57,58,59,60,61,62,63] [0,1,2,3,4,5,6,7,8,9,10,11] (fun i=>[(64,.int .i64 (i : Int))]) (fun i=>[(some b8,3,intCells .i64 (T.take i++List.replicate (set.length - i) 0)),(r.bo,22,r.cs),(some b6,57,[.int .i64 (set.length : Nat),.slice (ad r.bo) k r.cap]),(some b3,57,[.int .i64 0,.slice none 0 0]),(some b2,57,[.int .i64 N,.slice ps rows.length c]),(some b1,24,[.int .i64 p,.int .i64 m,.slice pm nm cm])]) (fun _=>[]) (fun i=>i ≤ set.length) (fun i=>set.length - i) 0 [] rfl rfl rfl (Nat.zero_le _) (by repeat (first | exact Fr.sub_nil _ | refine Fr.sub_cons rfl ?_)) rfl rfl ?_
   rintro i hi ih
   simp only [List.cons_append,List.nil_append] at hi ih ⊢
   by_cases h9 : i < set.length
   ·obtain ⟨x,at_x⟩ : ∃ x,set[i]? = some x:=⟨_,List.getElem?_eq_getElem h9⟩
    obtain ⟨x0,x1⟩:=hst x (List.mem_of_getElem? at_x)
    have hT:=hTa i x at_x
    obtain ⟨x,rfl⟩:=Int.eq_ofNat_of_zero_le x0
    rw [Int.toNat_natCast] at hT
    have hul:=hu.1
    have at_y : u[x]? = some (at0 u x):=by
     rw [at0,List.getD_eq_getElem?_getD,List.getElem?_eq_getElem (by omega)];rfl
    have ih':=ih (i + 1) (by omega) (by omega)
    rw [← take_set hT h9] at ih'
    have hln : (T.take i++List.replicate (set.length - i) 0).length = set.length:=by rw [List.length_append,List.length_take,List.length_replicate];omega
    generalize T.take i++List.replicate (set.length - i) 0 = L at *
    refine j_nf [_,_,_,_,_,_,_,_,_,_] rfl (j_run it 1 rfl (by simp) ?_)
    refine j_nf [_,_,_,_,_,_,_,_,_,_] rfl (j_if rfl rfl (fun h5=>?_) (fun h5=>by exfalso;omega))
    refine j_nf [_,_,_,_,_,_,_,_,_,_,_,_] rfl (j_run it 1 rfl (by simp) ?_)
    refine j_step rfl (x_idx 11 (i) rfl rfl rfl sl22 rfl (by omega) fun z1 hz2 b9 o2=>?_)
    obtain rfl : _ = z1:=Option.some.inj (at_x.symm.trans hz2)
    refine j_step rfl (x_ld_int 0 rfl rfl ld3 fun ⟨r1,r2⟩=>?_)
    refine j_run it 2 rfl (by simp) ?_
    refine j_nf [_,_,_,_,_,_,_,_,_,_,_] rfl (j_run it 4 rfl (by simp) ?_)
    refine j_step rfl (x_idx 1 (x) rfl rfl rfl sl22 rfl (by omega) fun z1 hz3 b10 o3=>?_)
    obtain rfl : _ = z1:=Option.some.inj (at_y.symm.trans hz3)
    refine j_step rfl (x_ld_int 0 rfl rfl ld3 fun ⟨r3,r4⟩=>?_)
    refine j_step rfl (x_idx_own (i) (i) rfl rfl sl22 rfl (by omega) (Nat.mul_one _) ?_)
    refine j_step rfl (x_bst_int 0 rfl rfl rfl ld3 (by first | omega | (simp;omega)) ?_)
    refine j_nf [_,_,_,_,_,_,_,_,_] rfl (j_run it 2 rfl ⟨trivial,⟨by omega,by omega⟩,trivial⟩ ?_)
    refine j_nfn 1 [.lp (pL 1037108),.blk 4,.c (pL 129639),.blk 3,.c (pL 8103),.lp (pL 1012),.blk 2,.c (pL 127)] rfl ?_
    refine j_to [2,3,4,5,6,7,8,9,10,11,12,13] (by exact fra rfl) rfl rfl (ih')
   ·obtain rfl : i = set.length:=by omega
    rw [Nat.sub_self,List.replicate_zero,List.append_nil,List.take_of_length_le (by omega)]
    clear ih
    refine j_nf [_,_,_,_,_,_,_,_,_,_] rfl (j_run it 1 rfl (by simp) ?_)
    refine j_nf [_,_,_,_,_,_,_,_,_,_] rfl ?_
    refine j_rowInt 0 rfl hTl.symm hTr (by omega) ?_
    refine j_if rfl rfl (fun h5=>by exfalso;omega) (fun h5=>?_)
    refine j_nf [_,_,_,_,_,_] rfl (j_step rfl (x_field rfl fd57_1 ?_))
    refine j_step rfl (x_bld 2 rfl rfl ld25 rfl ?_)
    refine j_run it 1 rfl (by simp) ?_
    refine j_step rfl (x_lit sl25 zo25e rfl rfl rfl rfl (by decide) (by decide) rfl fun b9=>?_)
    refine j_pubRb 1 0 rfl rfl (by show (set.length) * 8 ≤ 140737488355328;omega) ?_
    refine j_step rfl (x_appR (z:=T) 1 0 4 rfl rfl rfl rfl rfl sl25 zo25e rfl (fun w A hG=>(rd_of_slF (hG _ (fact_mem (n:=0) rfl)))) (by omega) _ by25e (by omega) fun r1=>?_)
    refine j_step rfl (x_field rfl fd57_1 ?_)
    refine j_step rfl (x_bst1 2 rfl rfl rfl rfl ld25 rfl (Nat.le_of_ble_eq_true rfl) ?_)
    refine j_nf [_,_,_,_] rfl (j_run it 2 rfl ⟨trivial,⟨by omega,by omega⟩,trivial⟩ ?_)
    refine j_nfn 1 [.lp (pL 1012),.blk 2,.c (pL 127)] rfl ?_
    refine j_toM [true,false,true,true,true,true] [0,6,7,8,9,10,11,12,13,14] (by exact fra rfl) rfl rfl (ih' r1)
  ·obtain rfl : k = rows.length:=by omega
   rw [List.take_length]
   refine j_pubR 0 0 rfl rfl (by show rows.length * 24 ≤ 140737488355328;omega) ?_
   refine j_nf [_,_,_,_,_] rfl (j_run it 1 rfl (by simp) ?_)
   refine j_nf [_,_,_,_,_] rfl (j_if rfl rfl (fun h4=>by exfalso;omega) (fun h4=>?_))
   refine j_nf [_,_] rfl (j_step rfl (x_bld_all 0 rfl rfl ld57 rfl ?_))
   refine j_step rfl (x_bst_all 1 rfl rfl rfl ld57 rfl rfl (by simp [Value.oneCell']) ?_)
   refine j_run it 1 rfl (by simp) ?_
   refine j_nf [_] rfl ?_
   refine j_givC [0] rfl (.agg 1 rfl rfl ld57 rfl (.tmp rfl .nil)) rfl ⟨_,_,rfl,rfl,rfl⟩
end
open Go Go.Fw
set_option maxRecDepth 100000
set_option linter.unusedVariables false
set_option linter.unusedSimpArgs false
set_option maxHeartbeats 8000000
theorem S_matrix_addP {b p m n ng cg ce cl nv cv : Nat} {pg pe pl pv : Option Addr} {r : Row} {c : Int} {u v md : List Int} (K : Fok p m md) (c0 : 0 ≤ c) (c1 : c < ((p ^ m : Nat) : Int)) (hu : Wd (p ^ m) n u) (hv : Wd (p ^ m) n v) (hn : n ≤ 1000000) :
  Ctr Tryz.prog 95 [.pointer (some ⟨b,0,none⟩),.slice (ad r.bo) n r.cap,.int .i64 c,.slice pv nv cv] [(r.bo,3,r.cs)] [gfC b p m (p ^ m) pg ng cg pe (p ^ m - 1) ce pl (p ^ m) cl,slF I64 pe (p ^ m - 1) ce (exL p m md),slF I64 pl (p ^ m) cl (lgL p m md),rowF I64 r n u,slF I64 pv nv cv v]
   (fun w Φ β=>∃ cs',w = .tuple #[] ∧ Φ = [rowF I64 ⟨r.bo,r.cap,cs'⟩ n (axp (liftI (fA p m)) (liftI (fM p (fpo m md))) c v u)] ∧ β = [(r.bo,3,cs')]):=by
 refine Ctr_of_j' (F:=F_matrix_add) rfl fun C=>?_
 have FF:=K.fi
 have c_field_GF__Mul:=fun {b ng cg ce cl : Nat} {pg pe pl : Option Addr} {x y : Int}=>S_field_GF__Mul (b:=b) (ng:=ng) (cg:=cg) (ce:=ce) (cl:=cl) (pg:=pg) (pe:=pe) (pl:=pl) (x:=x) (y:=y) K
 have c_field_GF__Add:=fun {b ng cg ne ce nl cl : Nat} {pg pe pl : Option Addr} {x y : Int}=>S_field_GF__Add (b:=b) (ng:=ng) (cg:=cg) (ne:=ne) (ce:=ce) (nl:=nl) (cl:=cl) (pg:=pg) (pe:=pe) (pl:=pl) (x:=x) (y:=y) K.p2 K.m1 K.q
 have hq:=K.q
 have hax:=FF.axw c0 c1 hv hu
 generalize liftI (fM p (fpo m md)) = M at *
 generalize liftI (fA p m) = A0 at *
 generalize exL p m md = ex at *
 generalize lgL p m md = lg at *
 generalize p ^ m = q at *
 obtain ⟨bo,cap,cs⟩:=r
 dsimp only
 have hul:=hu.1
 have hvl:=hv.1
 have hal:=hax.1
 refine j_len 4 rfl fun hnv hbv _=>?_
 rw [hvl] at hnv
 have hnv:=hnv.symm
 subst hnv
 rcases Nat.eq_zero_or_pos n with hn0 | hn0
 ·subst hn0
  obtain rfl:=List.length_eq_zero_iff.1 hul
  obtain rfl:=List.length_eq_zero_iff.1 hvl
  refine j_nf [_,_] rfl ?_
  refine j_run it 1 rfl (by simp) ?_
  refine j_step rfl (x_len sl22 rfl ?_)
  refine j_run it 1 rfl (by simp) ?_
  refine j_nf [_,_] rfl ?_
  refine j_loopG (X:=Unit) [0,1,2,10,11] [0,1,2,3,4] (fun _=>[(12,.int .i64 0)]) (fun _=>[(bo,3,cs)]) (fun _=>[]) (fun _=>True) (fun _=>0) () [] rfl rfl rfl trivial (by repeat (first | exact Fr.sub_nil _ | refine Fr.sub_cons rfl ?_)) rfl rfl ?_
  rintro ⟨⟩ - ih
  simp only [List.cons_append,List.nil_append] at ih ⊢
  refine j_nf [_,_,_,_] rfl ?_
  refine j_run it 1 rfl (by simp) ?_
  refine j_nf [_,_,_,_] rfl ?_
  refine j_if rfl rfl (fun h1=>by exfalso;omega) (fun h1=>?_)
  refine j_nf [] rfl ?_
  refine j_gives_end [3] rfl rfl ⟨_,rfl,rfl,rfl⟩
 refine j_rowB 3 rfl hn0 fun b9 cap9 cs9 hr=>?_
 obtain ⟨rfl,rfl,rfl⟩:=Row.mk.inj hr
 refine j_nf [_,_] rfl ?_
 refine j_run it 1 rfl (by simp) ?_
 refine j_step rfl (x_len sl22 rfl ?_)
 refine j_run it 1 rfl (by simp) ?_
 refine j_nf [_,_] rfl ?_
 refine j_loopG (X:=Nat × List Value) [0,1,2,10,11] [0,1,2,3,4] (fun x=>[(12,.int .i64 (x.1 : Int))]) (fun x=>[(some b9,3,x.2)])
  (fun x=>[rowF I64 ⟨some b9,cap,x.2⟩ n ((axp A0 M c v u).take x.1++u.drop x.1)]) (fun x=>x.1 ≤ n) (fun x=>n - x.1) (0,cs) [3] rfl rfl rfl (Nat.zero_le _) (by repeat (first | exact Fr.sub_nil _ | refine Fr.sub_cons rfl ?_)) rfl rfl ?_
 rintro ⟨k,cs⟩ hk ih
 simp only [List.cons_append,List.nil_append] at hk ih ⊢
 by_cases hkl : k < n
 ·obtain ⟨x,at_x⟩ : ∃ x,v[k]? = some x:=⟨_,List.getElem?_eq_getElem (by omega)⟩
  obtain ⟨y,hy⟩ : ∃ y,u[k]? = some y:=⟨_,List.getElem?_eq_getElem (by omega)⟩
  obtain ⟨x0,x1⟩:=hv.2 x (List.mem_of_getElem? at_x)
  obtain ⟨y0,y1⟩:=hu.2 y (List.mem_of_getElem? hy)
  have hT : (axp A0 M c v u)[k]? = some (A0 y (M c x)):=by rw [axp,List.getElem?_zipWith,hy,at_x]
  have hL:=(mixI_at hal hul hkl).trans hy
  have hset:=mixI_set hal hul hkl hT
  have hLl : ((axp A0 M c v u).take k++u.drop k).length = n:=by rw [List.length_append,List.length_take,List.length_drop];omega
  have ih':=fun cs=>ih (k + 1,cs) (by dsimp only;omega) (by dsimp only;omega)
  dsimp only at ih'
  rw [← hset] at ih'
  obtain ⟨m0,m1⟩:=FF.ml c x c0 c1 x0 x1
  generalize (axp A0 M c v u).take k++u.drop k = L at *
  by_cases h0 : x = 0
  ·have e0 : L.set k (A0 y (M c x)) = L:=by
    have : A0 y (M c x) = y:=by rw [h0,FF.m0 c0 c1,FF.a0 y y0 y1]
    rw [this]
    obtain ⟨h1,h2⟩:=List.getElem?_eq_some_iff.1 hL
    rw [← h2,List.set_getElem_self]
   rw [e0] at ih'
   refine j_nf [_,_,_,_] rfl ?_
   refine j_run it 1 rfl (by simp) ?_
   refine j_nf [_,_,_,_] rfl ?_
   refine j_if rfl rfl (fun h1=>?_) (fun h1=>by exfalso;omega)
   refine j_nf [_,_,_,_,_,_] rfl ?_
   refine j_run it 1 rfl (by simp) ?_
   refine j_step rfl (x_idx 5 (k) rfl rfl rfl sl22 rfl (by omega) fun z1 hz1 b1 o1=>?_)
   obtain rfl : _ = z1:=Option.some.inj (at_x.symm.trans hz1)
   refine j_step rfl (x_ld_int 0 rfl rfl ld3 fun ⟨r1,r2⟩=>?_)
   refine j_run it 2 rfl (by simp) ?_
   refine j_nf [_,_,_,_,_,_] rfl ?_
   refine j_run it 2 rfl (by simp) ?_
   refine j_nf [_,_,_,_,_] rfl ?_
   refine j_ifn rfl rfl (fun h2=>by exfalso;omega) (fun h2=>?_)
   refine j_nf [_,_,_] rfl ?_
   refine j_run it 2 rfl ⟨trivial,⟨by omega,by omega⟩,trivial⟩ ?_
   refine j_nfn 1 [.lp [1,0,0],.blk 0] rfl ?_
   refine j_to [1,2,3,4,5,6] (by exact fra rfl) rfl rfl (ih' cs)
  ·obtain ⟨a0,a1⟩:=FF.al y (M c x) y0 y1 m0 m1
   refine j_nf [_,_,_,_] rfl ?_
   refine j_run it 1 rfl (by simp) ?_
   refine j_nf [_,_,_,_] rfl ?_
   refine j_if rfl rfl (fun h1=>?_) (fun h1=>by exfalso;omega)
   refine j_nf [_,_,_,_,_,_] rfl ?_
   refine j_run it 1 rfl (by simp) ?_
   refine j_step rfl (x_idx 5 (k) rfl rfl rfl sl22 rfl (by omega) fun z1 hz1 b1 o1=>?_)
   obtain rfl : _ = z1:=Option.some.inj (at_x.symm.trans hz1)
   refine j_step rfl (x_ld_int 0 rfl rfl ld3 fun ⟨r1,r2⟩=>?_)
   refine j_run it 2 rfl (by simp) ?_
   refine j_nf [_,_,_,_,_,_] rfl ?_
   refine j_run it 2 rfl (by simp) ?_
   refine j_nf [_,_,_,_,_] rfl ?_
   refine j_ifn rfl rfl (fun h2=>?_) (fun h2=>by exfalso;omega)
   (apply j_drawK it mx 12;(· rfl);(· rfl))
   (apply lxk_run 5;(· rfl);(· simp))
   (apply lxk_eq;(· rfl);(· exact d_x fun _=>x_idx_own (k) (k) rfl rfl sl22 rfl (by omega) (Nat.mul_one _) dk_eq))
   (apply lxk_eq;(· rfl);(· exact d_ldR_int 0 1 (k) rfl rfl rfl ld3 rfl (by assumption)))
   (apply lxk_run 3;(· rfl);(· simp))
   (apply lxk_eq;(· rfl);(· exact d_x fun _=>x_call [2,3,4] rfl (c_field_GF__Mul (by omega) (by omega) (by omega) (by omega)) rfl (by rintro _ _ _ ⟨rfl,rfl,rfl⟩;exact dk_eq)))
   (apply lxk_eq;(· rfl);(· exact d_x fun _=>x_call [2] rfl (c_field_GF__Add (by omega) (by omega) (by omega) (by omega)) rfl (by rintro _ _ _ ⟨rfl,rfl,rfl⟩;exact dk_eq)))
   refine lxk_end rfl ?_
   simp only [List.map_cons,List.map_nil,List.cons_append,List.nil_append]
   refine j_step rfl (x_idx_own (k) (k) rfl rfl sl22 rfl (by omega) (Nat.mul_one _) ?_)
   refine j_step rfl (x_stR (vs:=[Value.int IntKind.i64 (A0 y (M c x))]) (z:=(A0 y (M c x) : Int)) 0 1 (k) rfl rfl rfl rfl rfl ld3 (Nat.mul_one _).symm (by omega) (fun w A hG=>(rd_int (by first | (simp only [InR];omega) | (simp [InR];done)))) fun cs1=>?_)
   refine j_nf [_,_,_] rfl ?_
   refine j_run it 2 rfl ⟨trivial,⟨by omega,by omega⟩,trivial⟩ ?_
   refine j_nfn 1 [.lp [1,0,0],.blk 0] rfl ?_
   refine j_to [0,3,4,5,6,7] (by exact fra rfl) rfl rfl (ih' cs1)
 ·obtain rfl : n = k:=by omega
  rw [List.take_of_length_le (by omega),List.drop_of_length_le (by omega),List.append_nil]
  refine j_nf [_,_,_,_] rfl ?_
  refine j_run it 1 rfl (by simp) ?_
  refine j_nf [_,_,_,_] rfl ?_
  refine j_if rfl rfl (fun h1=>by exfalso;omega) (fun h1=>?_)
  refine j_nf [] rfl ?_
  refine j_gives_end [0] rfl rfl ⟨_,rfl,rfl,rfl⟩
theorem cmbF_drop {A M : Int → Int → Int} {x : List Int} {rows : List (List Int)} {i : Nat} {a : Int} {r u : List Int} (hx : x[i]? = some a) (hr : rows[i]? = some r) : cmbF A M (x.drop i) (rows.drop i) u = cmbF A M (x.drop (i + 1)) (rows.drop (i + 1)) (if a = 0 then u else axp A M a r u):=by
 obtain ⟨h1,rfl⟩:=List.getElem?_eq_some_iff.1 hx
 obtain ⟨h2,rfl⟩:=List.getElem?_eq_some_iff.1 hr
 rw [List.drop_eq_getElem_cons h1,List.drop_eq_getElem_cons h2,cmbF]
theorem cmbF_end {A M : Int → Int → Int} {x : List Int} {rows : List (List Int)} {i : Nat} {u : List Int} (h : x.length ≤ i) : cmbF A M (x.drop i) (rows.drop i) u = u:=by
 rw [List.drop_of_length_le h,cmbF];intros;contradiction
abbrev cbP (p m : Nat) (md : List Int) (n : Nat) (x : List Int) (rows : List (List Int)) : List Int:=cmbL (liftI (fA p m)) (liftI (fM p (fpo m md))) n x rows
theorem S_matrix_vec {b p m ng cg ce cl nx cx n c N : Nat} {pg pe pl px ps : Option Addr} {x md : List Int} {rows : List (List Int)} (K : Fok p m md) (hN : N ≤ 1000000) (hM : Mat (p ^ m) N rows) (hx : Wd (p ^ m) rows.length x) :
  Ctr Tryz.prog 136 [.pointer (some ⟨b,0,none⟩),.slice px nx cx,.slice ps n c,.int .i64 N] [] [gfC b p m (p ^ m) pg ng cg pe (p ^ m - 1) ce pl (p ^ m) cl,slF I64 pe (p ^ m - 1) ce (exL p m md),slF I64 pl (p ^ m) cl (lgL p m md),slF I64 px nx cx x,slF (encSl I64) ps n c rows] (RwI N (cbP p m md N x rows)):=by
 refine Ctr_of_j' (F:=F_matrix_vec) rfl fun C=>?_
 have O:=fok_fo K
 have hq:=K.q
 refine j_len 3 rfl fun hn hb _=>?_
 subst hn
 refine j_len 4 rfl fun hn hb2 _=>?_
 subst hn
 have hb' : x.length * 8 ≤ 140737488355328:=hb
 have hb2' : rows.length * 24 ≤ 140737488355328:=hb2
 have c_matrix_add:=fun {b ng cg ce cl nv cv b1 : Nat} {pg pe pl pv : Option Addr} {cs : List Value} {c : Int} {u v : List Int}=>S_matrix_addP (b:=b) (n:=N) (ng:=ng) (cg:=cg) (ce:=ce) (cl:=cl) (pg:=pg) (pe:=pe) (pl:=pl) (nv:=nv) (cv:=cv) (pv:=pv) (r:=⟨some b1,N,cs⟩) (c:=c) (u:=u) (v:=v) K
 refine j_nf [_,_] rfl (j_run it 1 rfl (by simp) ?_)
 refine j_nf [_,_] rfl (j_run it 1 rfl (by simp) ?_)
 refine j_step rfl (x_make_nat (N) _ rfl rfl sl22 zo22e by22e (by omega) (by omega) (by omega) fun b1=>?_)
 refine j_run it 1 rfl (by simp) ?_
 refine j_nf [_,_,_] rfl (j_run it 1 rfl (by simp) ?_)
 refine j_step rfl (x_len sl22 rfl ?_)
 refine j_run it 1 rfl (by simp) ?_
 refine j_nf [_,_,_] rfl ?_
 have hz:=O.wz N
 rw [show natCells .i64 (List.replicate N 0) = intCells .i64 (zW N) by simp [natCells,intCells,zW]]
 refine j_rowInt 0 rfl hz.1.symm (fun y hy=>by have:=hz.2 y hy;simp only [InR];omega) (by omega) ?_
 refine j_loopG (X:=Nat × List Value × List Int) [0,2,8,9,14,15] [0,1,2,3,4,5] (fun i=>[(16,.int .i64 (i.1 : Int))]) (fun i=>[(some b1,3,i.2.1)]) (fun i=>[rowF I64 ⟨some b1,N,i.2.1⟩ N i.2.2]) (fun i=>i.1 ≤ x.length ∧ Wd (p ^ m) N i.2.2 ∧ cmbF (liftI (fA p m)) (liftI (fM p (fpo m md))) (x.drop i.1) (rows.drop i.1) i.2.2 = cbP p m md N x rows) (fun i=>x.length - i.1) (0,intCells .i64 (zW N),zW N) [0] rfl rfl rfl ⟨Nat.zero_le _,hz,rfl⟩ (by repeat (first | exact Fr.sub_nil _ | refine Fr.sub_cons rfl ?_)) rfl rfl ?_
 rintro ⟨i,cs,u⟩ ⟨hi,hu,he⟩ ih
 simp only [List.cons_append,List.nil_append] at hi hu he ih ⊢
 by_cases h9 : i < x.length
 ·have hxl:=hx.1
  obtain ⟨a,at_a⟩ : ∃ a,x[i]? = some a:=⟨_,List.getElem?_eq_getElem h9⟩
  obtain ⟨v,at_v⟩ : ∃ v,rows[i]? = some v:=⟨_,List.getElem?_eq_getElem (by omega)⟩
  obtain ⟨a0,a1⟩:=hx.2 a (List.mem_of_getElem? at_a)
  have hv:=hM v (List.mem_of_getElem? at_v)
  rw [cmbF_drop at_a at_v] at he
  by_cases ha : a = 0
  ·rw [if_pos ha] at he
   refine j_nf [_,_,_,_,_] rfl (j_run it 1 rfl (by simp) ?_)
   refine j_nf [_,_,_,_,_] rfl (j_if rfl rfl (fun h1=>?_) (fun h1=>by exfalso;omega))
   refine j_nf [_,_,_,_,_,_,_] rfl (j_run it 1 rfl (by simp) ?_)
   refine j_step rfl (x_idx 5 (i) rfl rfl rfl sl22 rfl (by omega) fun z1 hz1 b2 o1=>?_)
   obtain rfl : _ = z1:=Option.some.inj (at_a.symm.trans hz1)
   refine j_step rfl (x_ld_int 0 rfl rfl ld3 fun ⟨r1,r2⟩=>?_)
   refine j_run it 2 rfl (by simp) ?_
   refine j_nf [_,_,_,_,_,_,_] rfl (j_run it 2 rfl (by simp) ?_)
   refine j_nf [_,_,_,_,_,_] rfl (j_ifn rfl rfl (fun h2=>by exfalso;omega) (fun h2=>?_))
   refine j_nf [_,_,_,_] rfl (j_run it 2 rfl ⟨trivial,⟨by omega,by omega⟩,trivial⟩ ?_)
   refine j_nfn 1 [.lp (pL 116),.blk 0,.c [1,1,1]] rfl ?_
   refine j_to [1,2,3,4,5,6,7] (by exact fra rfl) rfl rfl (ih (i + 1,cs,u) (by dsimp only;omega) ⟨by dsimp only;omega,hu,he⟩)
  ·rw [if_neg ha] at he
   refine j_nf [_,_,_,_,_] rfl (j_run it 1 rfl (by simp) ?_)
   refine j_nf [_,_,_,_,_] rfl (j_if rfl rfl (fun h1=>?_) (fun h1=>by exfalso;omega))
   refine j_nf [_,_,_,_,_,_,_] rfl (j_run it 1 rfl (by simp) ?_)
   refine j_step rfl (x_idx 5 (i) rfl rfl rfl sl22 rfl (by omega) fun z1 hz1 b2 o1=>?_)
   obtain rfl : _ = z1:=Option.some.inj (at_a.symm.trans hz1)
   refine j_step rfl (x_ld_int 0 rfl rfl ld3 fun ⟨r1,r2⟩=>?_)
   refine j_run it 2 rfl (by simp) ?_
   refine j_nf [_,_,_,_,_,_,_] rfl (j_run it 2 rfl (by simp) ?_)
   refine j_nf [_,_,_,_,_,_] rfl (j_ifn rfl rfl (fun h2=>?_) (fun h2=>by exfalso;omega))
   refine j_nf [_,_,_,_,_,_] rfl (j_run it 5 rfl (by simp) ?_)
   refine j_step rfl (x_idx 7 (i) rfl rfl rfl sl25 rfl (by omega) fun z1 hz2 b3 o2=>?_)
   obtain rfl : _ = z1:=Option.some.inj (at_v.symm.trans hz2)
   refine j_step rfl (x_ld_sl 0 rfl rfl ld22 fun pa1 ca1=>?_)
   refine j_step rfl (x_callB 0 [5,6,7,3,0] rfl rfl (c_matrix_add (by omega) (by omega) (by omega) (by omega) (by omega)) rfl ?_)
   rintro _ _ _ ⟨cs'1,rfl,rfl,rfl⟩
   simp only [List.cons_append,List.nil_append]
   refine j_nf [_,_,_,_] rfl (j_run it 2 rfl ⟨trivial,⟨by omega,by omega⟩,trivial⟩ ?_)
   refine j_nfn 1 [.lp (pL 116),.blk 0,.c [1,1,1]] rfl ?_
   refine j_to [0,5,6,7,8,9,10] (by exact fra rfl) rfl rfl (ih (i + 1,cs'1,axp (liftI (fA p m)) (liftI (fM p (fpo m md))) a v u) (by dsimp only;omega) ⟨by dsimp only;omega,O.fi.axw a0 a1 hv hu,he⟩)
 ·rw [cmbF_end (by omega)] at he
  subst he
  refine j_nf [_,_,_,_,_] rfl (j_run it 1 rfl (by simp) ?_)
  refine j_nf [_,_,_,_,_] rfl (j_if rfl rfl (fun h1=>by exfalso;omega) (fun h1=>?_))
  refine j_nf [_,_] rfl (j_run it 2 rfl (by simp) ?_)
  refine j_nf [_] rfl ?_
  refine j_givK 1 [0] [0] rfl (.tmp rfl .nil) rfl rfl rfl ⟨⟨some b1,N,cs⟩,rfl,rfl,rfl⟩
def nvI (N : Int → Int) (n : Nat) (R : List (List Int)) (P : List Nat) (c i : Nat) : List Int:=(List.range n).map fun e=>if e = c then 1 else if e ∈ P.take i then N (en R (P.idxOf e) c) else 0
theorem nvI_len {N : Int → Int} {n c i : Nat} {R : List (List Int)} {P : List Nat} : (nvI N n R P c i).length = n:=by simp [nvI]
theorem nvI_zero {N : Int → Int} {n c : Nat} {R : List (List Int)} {P : List Nat} : nvI N n R P c 0 = (zW n).set c 1:=by
 refine List.ext_getElem (by simp [nvI,zW]) fun j h1 h2=>?_
 rw [List.getElem_set]
 simp only [nvI,List.getElem_map,List.getElem_range]
 by_cases h : j = c
 ·rw [if_pos h,if_pos h.symm]
 ·rw [if_neg h,if_neg fun (e : c = j)=>h e.symm];simp [zW]
theorem nvI_all {N : Int → Int} {n c : Nat} {R : List (List Int)} {P : List Nat} : nvI N n R P c P.length = nullV N n R P c:=by rw [nvI,nullV,List.take_length]
theorem nvI_set {q : Nat} {N : Int → Int} {n c i a : Nat} {R : List (List Int)} {P : List Nat} (h : Red q n R P) (hc : c ∉ P) (hi : P[i]? = some a) : (nvI N n R P c i).set a (N (en R i c)) = nvI N n R P c (i + 1):=by
 have ha:=List.mem_of_getElem? hi
 refine List.ext_getElem (by simp [nvI]) fun j h1 h2=>?_
 rw [List.getElem_set]
 simp only [nvI,List.getElem_map,List.getElem_range]
 by_cases e : a = j
 ·subst e
  rw [if_pos rfl,if_neg fun (e : a = c)=>hc (e ▸ ha),if_pos (List.mem_of_getElem? (i:=i) (by rw [List.getElem?_take,if_pos (by omega),hi])),h.idx hi]
 ·rw [if_neg e]
  by_cases hjc : j = c
  ·rw [if_pos hjc,if_pos hjc]
  ·rw [if_neg hjc,if_neg hjc,List.take_add_one,hi]
   by_cases hm : j ∈ P.take i
   ·rw [if_pos hm,if_pos (List.mem_append_left _ hm)]
   ·rw [if_neg hm,if_neg]
    intro hm2
    rcases List.mem_append.1 hm2 with h3 | h3
    ·exact hm h3
    ·rw [Option.toList_some,List.mem_singleton] at h3;exact e h3.symm
def nvK (N : Int → Int) (n : Nat) (E : List (List Int) × List Nat) (k : Nat) : List (List Int):=((List.range k).filter fun c=>decide (c ∉ E.2)).map (nullV N n E.1 E.2)
theorem nvK_succ {N : Int → Int} {n k : Nat} {E : List (List Int) × List Nat} : nvK N n E (k + 1) = nvK N n E k++if k ∈ E.2 then [] else [nullV N n E.1 E.2 k]:=by
 rw [nvK,nvK,List.range_succ,List.filter_append,List.map_append]
 congr 1
 by_cases h : k ∈ E.2 <;> simp [h]
theorem nvK_len {N : Int → Int} {n k : Nat} {E : List (List Int) × List Nat} : (nvK N n E k).length ≤ k:=by
 rw [nvK,List.length_map];have:=List.length_filter_le (fun c=>decide (c ∉ E.2)) (List.range k);rwa [List.length_range] at this
abbrev nuP (p m : Nat) (md : List Int) (n : Nat) (rows : List (List Int)) : List (List Int):=nuL (liftI (fA p m)) (liftI (fM p (fpo m md))) (negI p m) (invI p m md) n rows
abbrev CnR (E : List (List Int) × List Nat) : Value → List Fact → List Blk → Prop:=fun v Φ β=>∃ (pb pp : Option Addr) (cb cp : Nat),v = .tuple #[.slice pb E.2.length cb,.slice pp E.2.length cp]
 ∧ Φ = [slF (encSl I64) pb E.2.length cb E.1,slF I64 pp E.2.length cp (toI E.2)] ∧ β = []
theorem S_matrix_canonR {b p m n N c ng cg ce cl : Nat} {pg pe pl ps : Option Addr} {rows : List (List Int)} {md : List Int} (K : Fok p m md) (hn : n ≤ 1000000) (hN : N ≤ 1000000) (hl : rows.length = n) (hM : Mat (p ^ m) N rows) :
  Ctr Tryz.prog 135 [.pointer (some ⟨b,0,none⟩),.slice ps n c,.int .i64 N] []
   [gfC b p m (p ^ m) pg ng cg pe (p ^ m - 1) ce pl (p ^ m) cl,slF I64 pe (p ^ m - 1) ce (exL p m md),slF I64 pl (p ^ m) cl (lgL p m md),slF (encSl I64) ps n c rows]
   (CnR (cnP p m md N rows)):=S_matrix_canon K hn hN hl hM
theorem S_matrix_Kernel_ok {p m n c nm cm N : Nat} {pm ps : Option Addr} {md : List Int} {rows : List (List Int)} (K : Fok p m md) (hN : N ≤ 256) (hl : rows.length ≤ 256) (hM : Mat (p ^ m) N rows) :
  Ctr Tryz.prog 121 [.agg #[.int .i64 p,.int .i64 m,.slice pm nm cm],.agg #[.int .i64 N,.slice ps n c]] [] [slF I64 pm nm cm md,slF (encSl I64) ps n c rows]
   (fun v Φ β=>∃ (pb : Option Addr) (cb : Nat),v = .tuple #[.agg #[.int .i64 N,.slice pb (nuP p m md N rows).length cb],.int .i64 0] ∧ Φ = [slF (encSl I64) pb (nuP p m md N rows).length cb (nuP p m md N rows)] ∧ β = []):=by
 refine Ctr_of_j' (F:=F_matrix_Kernel) rfl fun C=>?_
 have O:=fok_fo K
 have hq:=K.q
 refine j_len 1 rfl fun hn hb _=>?_
 subst hn
 have hb' : rows.length * 24 ≤ 140737488355328:=hb
 have c_matrix_open:=fun {pm ps : Option Addr} {nm cm n c : Nat}=>S_matrix_open_ok (pm:=pm) (nm:=nm) (cm:=cm) (ps:=ps) (n:=n) (c:=c) (Ms:=[((N : Int),rows)]) K (fun z hz=>by rw [List.mem_singleton.1 hz];simp only [InR];omega) (op_one (mtE_ok hN hl hM))
 have hN6 : N ≤ 1000000:=by omega
 have c_matrix_canon:=fun {b ng cg ce cl c n : Nat} {pg pe pl ps : Option Addr} {rows : List (List Int)} (hn : n ≤ 1000000) (hl : rows.length = n) (hM : Mat (p ^ m) N rows)=>S_matrix_canonR (b:=b) (ng:=ng) (cg:=cg) (ce:=ce) (cl:=cl) (pg:=pg) (pe:=pe) (pl:=pl) (ps:=ps) (c:=c) (n:=n) (rows:=rows) K hn hN6 hl hM
 have c_field_GF__Neg:=fun {b ng cg ne ce nl cl : Nat} {pg pe pl : Option Addr} {x : Int}=>S_field_GF__Neg (b:=b) (ng:=ng) (cg:=cg) (ne:=ne) (ce:=ce) (nl:=nl) (cl:=cl) (pg:=pg) (pe:=pe) (pl:=pl) (x:=x) K.p2 K.m1 hq
 have hred : Red (p ^ m) N (cnP p m md N rows).1 (cnP p m md N rows).2:=(O.cn hM).1
 have hEl : (cnP p m md N rows).1.length = (cnP p m md N rows).2.length:=O.cn_len hM
 have hnm : Mat (p ^ m) N (nvK (negI p m) N (cnP p m md N rows) N):=O.nv_mat hred
 have hnl : (cnP p m md N (nvK (negI p m) N (cnP p m md N rows) N)).1.length = (cnP p m md N (nvK (negI p m) N (cnP p m md N rows) N)).2.length:=O.cn_len hnm
 have hnk:=fun k=>nvK_len (N:=negI p m) (n:=N) (k:=k) (E:=cnP p m md N rows)
 have hng:=fun x (h0 : 0 ≤ x) (h1 : x < ((p ^ m : Nat) : Int))=>(O.ng x h0 h1).1
 rw [show nuP p m md N rows = (cnP p m md N (nvK (negI p m) N (cnP p m md N rows) N)).1 from rfl,hnl]
 clear hnl
 refine j_nf [_,_] rfl (j_step rfl (x_box_agg rfl fun b1=>?_))
 refine j_step rfl (x_box_agg rfl fun b2=>?_)
 refine j_step rfl (x_alloc zo57 fun b3=>?_)
 refine j_run it 1 rfl (by simp) ?_
 refine j_nf [_,_] rfl (j_step rfl (x_bld_all 2 rfl rfl ld24 rfl ?_))
 refine j_step rfl (x_bld_all 1 rfl rfl ld57 rfl ?_)
 refine j_step rfl (x_lit sl109 zo109e rfl rfl rfl rfl (by decide) (by decide) rfl fun b4=>?_)
 refine j_pub_all (E:=MatE) (n:=1) [[Value.int IntKind.i64 ↑N,Value.slice ps rows.length c]] [((↑N : Int),rows)] 0 (fun w A hG=>(allrd_cons (rd_pair (v1:=[Value.int IntKind.i64 ↑N]) (rd_int (by first | (simp only [InR];omega) | (simp [InR];done) | assumption)) (rd_of_slF (hG _ (fact_mem (n:=1) rfl)))) allrd_nil)) rfl rfl rfl rfl (by first | decide | exact Nat.le_of_ble_eq_true rfl) (by first | decide | exact Nat.le_of_ble_eq_true rfl) ?_
 refine j_step rfl (x_call [1,0] rfl (c_matrix_open) rfl ?_)
 rintro _ _ _ ⟨b5,pg1,cg1,pe1,ce1,pl1,cl1,rfl,rfl,rfl⟩
 simp only [List.cons_append,List.nil_append]
 refine j_run it 5 rfl (by simp) ?_
 refine j_nf [_,_,_] rfl (j_run it 2 rfl (by simp) ?_)
 refine j_nf [_,_] rfl (j_ifn rfl rfl (fun h1=>by exfalso;omega) (fun h1=>?_))
 refine j_nf [_,_] rfl (j_run it 1 rfl (by simp) ?_)
 refine j_step rfl (x_field rfl fd57_1 ?_)
 refine j_step rfl (x_bld 1 rfl rfl ld25 rfl ?_)
 refine j_step rfl (x_field rfl fd57_0 ?_)
 refine j_step rfl (x_bld 1 rfl rfl ld3 rfl ?_)
 refine j_step rfl (x_call [0,2,3,6] rfl (c_matrix_canon (by omega) (by omega) (by omega)) rfl ?_)
 rintro _ _ _ ⟨pb1,pp1,cb1,cp1,rfl,rfl,rfl⟩
 simp only [List.cons_append,List.nil_append]
 simp only [decide_true]
 refine j_run it 5 rfl (by simp) ?_
 refine j_nf [_,_] rfl (j_run it 1 rfl (by simp) ?_)
 refine j_nf [_,_,_] rfl (j_step rfl (x_field rfl fd57_0 ?_))
 refine j_step rfl (x_bld 1 rfl rfl ld3 rfl ?_)
 refine j_run it 1 rfl (by simp) ?_
 refine j_nf [_,_,_] rfl ?_
 generalize hE : cnP p m md N rows = E at *
 refine j_row0 (encSl I64) 22 ?_
 refine j_loopG (X:=Nat × Row) [3,4,5,6,8,9,36] [0,1,2,3,4,5,6,7,8,9] (fun x=>[(37,.int .i64 (x.1 : Int)),(10,.slice (ad x.2.bo) (nvK (negI p m) N E x.1).length x.2.cap)]) (fun x=>[(x.2.bo,22,x.2.cs),(some b3,57,[.int .i64 0,.slice none 0 0]),(some b2,57,[.int .i64 N,.slice ps rows.length c]),(some b1,24,[.int .i64 p,.int .i64 m,.slice pm nm cm])]) (fun x=>[rowF (encSl I64) x.2 (nvK (negI p m) N E x.1).length (nvK (negI p m) N E x.1)]) (fun x=>x.1 ≤ N) (fun x=>N - x.1) (0,⟨none,0,[]⟩) [0] rfl rfl rfl (Nat.zero_le _) (by repeat (first | exact Fr.sub_nil _ | refine Fr.sub_cons rfl ?_)) rfl rfl ?_
 rintro ⟨k,r⟩ hk ih
 simp only [List.cons_append,List.nil_append] at hk ih ⊢
 by_cases h8 : k < N
 ·have ih':=fun r=>ih (k + 1,r) (by dsimp only;omega) (by dsimp only;omega)
  simp only [nvK_succ] at ih'
  have hnk1:=hnk k
  clear ih
  by_cases hm : k ∈ E.2
  ·have hd : decide ((k : Int) ∈ toI E.2) = true:=decide_eq_true (List.mem_map.2 ⟨k,hm,rfl⟩)
   simp only [if_pos hm,List.append_nil] at ih'
   refine j_nf [_,_,_,_,_] rfl (j_run it 1 rfl (by simp) ?_)
   refine j_nf [_,_,_,_,_] rfl (j_if rfl rfl (fun h2=>?_) (fun h2=>by exfalso;omega))
   refine j_nf [_,_,_,_,_,_,_] rfl (j_run it 2 rfl (by simp) ?_)
   refine j_nf [_,_,_,_,_,_,_,_] rfl (j_run it 2 rfl (by simp) ?_)
   refine j_step rfl (x_call [3] rfl (S_slices_Contains___int_int_ (by omega)) rfl ?_)
   rintro _ _ _ ⟨rfl,rfl,rfl⟩
   simp only [List.cons_append,List.nil_append]
   refine j_nf [_,_,_,_,_,_,_] rfl ?_
   refine j_true rfl rfl ?_
   refine j_nf [_,_,_,_] rfl (j_run it 2 rfl ⟨trivial,⟨by omega,by omega⟩,trivial⟩ ?_)
   refine j_nfn 1 [.lp (pL 1012),.blk 0,.c (pL 127)] rfl ?_
   refine j_to [0,1,2,3,4,5,6,7,8,9,10] (by exact fra rfl) rfl rfl (ih' r)
  ·have hd : decide ((k : Int) ∈ toI E.2) = false:=decide_eq_false fun h=>by
    obtain ⟨j,hj,e⟩:=List.mem_map.1 h
    exact hm ((Int.ofNat.inj e) ▸ hj)
   simp only [if_neg hm,List.length_append,List.length_singleton] at ih'
   refine j_nf [_,_,_,_,_] rfl (j_run it 1 rfl (by simp) ?_)
   refine j_nf [_,_,_,_,_] rfl (j_if rfl rfl (fun h2=>?_) (fun h2=>by exfalso;omega))
   refine j_nf [_,_,_,_,_,_,_] rfl (j_run it 2 rfl (by simp) ?_)
   refine j_nf [_,_,_,_,_,_,_,_] rfl (j_run it 2 rfl (by simp) ?_)
   refine j_step rfl (x_call [3] rfl (S_slices_Contains___int_int_ (by omega)) rfl ?_)
   rintro _ _ _ ⟨rfl,rfl,rfl⟩
   simp only [List.cons_append,List.nil_append]
   refine j_nf [_,_,_,_,_,_,_] rfl ?_
   refine j_false rfl rfl ?_
   refine j_nf [_,_,_,_,_,_,_] rfl (j_step rfl (x_field rfl fd57_0 ?_))
   refine j_step rfl (x_bld 2 rfl rfl ld3 rfl ?_)
   refine j_step rfl (x_make_nat (N) _ rfl rfl sl22 zo22e by22e (by omega) (by omega) (by omega) fun b6=>?_)
   refine j_run it 1 rfl (by simp) ?_
   refine j_nf [_,_,_,_,_,_,_] rfl (j_run it 2 rfl (by simp) ?_)
   refine j_step rfl (x_idx_own (k) (k) rfl rfl sl22 rfl (by omega) (Nat.mul_one _) ?_)
   refine j_step rfl (x_bst_nat 0 1 rfl rfl rfl ld3 (by first | rfl | omega) (by first | omega | (simp;omega)) ?_)
   refine j_nf [_,_,_,_,_,_,_,_] rfl (j_run it 1 rfl (by simp) ?_)
   refine j_step rfl (x_len sl22 rfl ?_)
   refine j_run it 1 rfl (by simp) ?_
   refine j_nf [_,_,_,_,_,_,_,_] rfl ?_
   have hx0 : natCells .i64 ((List.replicate N 0).set k 1) = intCells .i64 (nvI (negI p m) N E.1 E.2 k 0):=by
    rw [nvI_zero]
    simp [natCells,intCells,zW,List.map_set]
   simp only [setB]
   rw [hx0]
   refine j_loopG (X:=Nat) [3,4,5,6,8,9,10,11,12,36,37,38,39,40,41,42,43,44,45,46,47,48,49,50] [0,1,2,3,4,5,6,7,8,9,10] (fun i=>[(51,.int .i64 (i : Int))]) (fun i=>[(some b6,3,intCells .i64 (nvI (negI p m) N E.1 E.2 k i)),(r.bo,22,r.cs),(some b3,57,[.int .i64 0,.slice none 0 0]),(some b2,57,[.int .i64 N,.slice ps rows.length c]),(some b1,24,[.int .i64 p,.int .i64 m,.slice pm nm cm])]) (fun _=>[]) (fun i=>i ≤ E.2.length) (fun i=>E.2.length - i) 0 [] rfl rfl rfl (Nat.zero_le _) (by repeat (first | exact Fr.sub_nil _ | refine Fr.sub_cons rfl ?_)) rfl rfl ?_
   rintro i hi ih
   simp only [List.cons_append,List.nil_append] at hi ih ⊢
   have hple:=hred.piv_le
   by_cases h9 : i < E.2.length
   ·obtain ⟨a,ha⟩ : ∃ a,E.2[i]? = some a:=⟨_,List.getElem?_eq_getElem h9⟩
    have at_a : (toI E.2)[i]? = some (a : Int):=by rw [toI,List.getElem?_map,ha];rfl
    obtain ⟨u,at_u⟩ : ∃ u,E.1[i]? = some u:=⟨_,List.getElem?_eq_getElem (by omega)⟩
    have hu:=hred.mat u (List.mem_of_getElem? at_u)
    have hul:=hu.1
    have hen : at0 u k = en E.1 i k:=by rw [en,row0,List.getD_eq_getElem?_getD,at_u];rfl
    have at_y : u[k]? = some (en E.1 i k):=by
     rw [← hen,at0,List.getD_eq_getElem?_getD,List.getElem?_eq_getElem (by omega)];rfl
    obtain ⟨y0,y1⟩:=hu.2 _ (List.mem_of_getElem? at_y)
    have haN:=hred.ech.lt a (List.mem_of_getElem? ha)
    have ih':=ih (i + 1) (by omega) (by omega)
    rw [← nvI_set hred hm ha] at ih'
    have hln:=nvI_len (N:=negI p m) (n:=N) (c:=k) (i:=i) (R:=E.1) (P:=E.2)
    generalize nvI (negI p m) N E.1 E.2 k i = L at *
    refine j_nf [_,_,_,_,_,_,_,_,_,_] rfl (j_run it 1 rfl (by simp) ?_)
    refine j_nf [_,_,_,_,_,_,_,_,_,_] rfl (j_if rfl rfl (fun h3=>?_) (fun h3=>by exfalso;omega))
    refine j_nf [_,_,_,_,_,_,_,_,_,_,_,_] rfl (j_run it 1 rfl (by simp) ?_)
    refine j_step rfl (x_idx 3 (i) rfl rfl rfl sl22 rfl (by omega) fun z1 hz1 b7 o1=>?_)
    obtain rfl : _ = z1:=Option.some.inj (at_a.symm.trans hz1)
    refine j_step rfl (x_ld_int 0 rfl rfl ld3 fun ⟨r1,r2⟩=>?_)
    refine j_run it 2 rfl (by simp) ?_
    refine j_nf [_,_,_,_,_,_,_,_,_,_,_] rfl (j_run it 5 rfl (by simp) ?_)
    refine j_step rfl (x_idx 3 (i) rfl rfl rfl sl25 rfl (by omega) fun z1 hz2 b8 o2=>?_)
    obtain rfl : _ = z1:=Option.some.inj (at_u.symm.trans hz2)
    refine j_step rfl (x_ld_sl 0 rfl rfl ld22 fun pa1 ca1=>?_)
    refine j_run it 1 rfl (by simp) ?_
    refine j_step rfl (x_idx 0 (k) rfl rfl rfl sl22 rfl (by omega) fun z1 hz3 b9 o3=>?_)
    obtain rfl : _ = z1:=Option.some.inj (at_y.symm.trans hz3)
    refine j_step rfl (x_ld_int 0 rfl rfl ld3 fun ⟨r3,r4⟩=>?_)
    refine j_step rfl (x_call [8] rfl (c_field_GF__Neg (by omega) (by omega)) rfl ?_)
    rintro _ _ _ ⟨rfl,rfl,rfl⟩
    simp only [List.cons_append,List.nil_append]
    refine j_step rfl (x_idx_own (a) (a) rfl rfl sl22 rfl (by omega) (Nat.mul_one _) ?_)
    refine j_step rfl (x_bst_int 0 rfl rfl rfl ld3 (by first | omega | (simp;omega)) ?_)
    refine j_nf [_,_,_,_,_,_,_,_,_] rfl (j_run it 2 rfl ⟨trivial,⟨by omega,by omega⟩,trivial⟩ ?_)
    refine j_nfn 1 [.lp (pL 4148468),.blk 2,.c (pL 518559),.blk 1,.c (pL 8103),.lp (pL 1012),.blk 0,.c (pL 127)] rfl ?_
    refine j_to [4,5,6,7,8,9,10,11,12,13,14] (by exact fra rfl) rfl rfl (ih')
   ·obtain rfl : i = E.2.length:=by omega
    rw [nvI_all]
    clear ih
    have hnw:=O.null_wd hred k
    have hnr : ∀ z ∈ nullV (negI p m) N E.1 E.2 k,InR .i64 z:=fun z hz=>by
     have:=hnw.2 z hz
     simp only [InR];omega
    have hnl : (nullV (negI p m) N E.1 E.2 k).length = N:=hnw.1
    generalize nullV (negI p m) N E.1 E.2 k = T at *
    refine j_nf [_,_,_,_,_,_,_,_,_,_] rfl (j_run it 1 rfl (by simp) ?_)
    refine j_nf [_,_,_,_,_,_,_,_,_,_] rfl ?_
    refine j_rowInt 0 rfl hnl.symm hnr (by omega) ?_
    refine j_if rfl rfl (fun h3=>by exfalso;omega) (fun h3=>?_)
    refine j_nf [_,_,_,_,_,_] rfl (j_run it 2 rfl (by simp) ?_)
    refine j_step rfl (x_lit sl25 zo25e rfl rfl rfl rfl (by decide) (by decide) rfl fun b7=>?_)
    refine j_pubRb 1 0 rfl rfl (by show (N) * 8 ≤ 140737488355328;omega) ?_
    refine j_step rfl (x_appR (z:=T) 1 0 2 rfl rfl rfl rfl rfl sl25 zo25e rfl (fun w A hG=>(rd_of_slF (hG _ (fact_mem (n:=0) rfl)))) (by omega) _ by25e (by omega) fun r1=>?_)
    refine j_run it 1 rfl (by simp) ?_
    refine j_nf [_,_,_,_] rfl (j_run it 2 rfl ⟨trivial,⟨by omega,by omega⟩,trivial⟩ ?_)
    refine j_nfn 1 [.lp (pL 1012),.blk 0,.c (pL 127)] rfl ?_
    refine j_toM [true,false,true,true,true] [0,4,5,6,7,8,9,10,11,12,13] (by exact fra rfl) rfl rfl (ih' r1)
 ·obtain rfl : k = N:=by omega
  have:=hnk k
  refine j_pubR 0 0 rfl rfl (by show (nvK (negI p m) k E k).length * 24 ≤ 140737488355328;omega) ?_
  refine j_nf [_,_,_,_,_] rfl (j_run it 1 rfl (by simp) ?_)
  refine j_nf [_,_,_,_,_] rfl (j_if rfl rfl (fun h2=>by exfalso;omega) (fun h2=>?_))
  refine j_nf [_,_] rfl (j_run it 2 rfl (by simp) ?_)
  refine j_step rfl (x_field rfl fd57_0 ?_)
  refine j_step rfl (x_bld 1 rfl rfl ld3 rfl ?_)
  refine j_step rfl (x_call [5,7,8,0] rfl (c_matrix_canon (by omega) (by omega) (by omega)) rfl ?_)
  rintro _ _ _ ⟨pb2,pp2,cb2,cp2,rfl,rfl,rfl⟩
  simp only [List.cons_append,List.nil_append]
  refine j_run it 4 rfl (by simp) ?_
  refine j_nf [_,_] rfl (j_step rfl (x_field rfl fd57_0 ?_))
  refine j_step rfl (x_bld 1 rfl rfl ld3 rfl ?_)
  refine j_run it 1 rfl (by simp) ?_
  refine j_step rfl (x_build (cs:=[Value.int IntKind.i64 ↑k,Value.slice pb2 (cnP p m md k (nvK (negI p m) k E k)).snd.length cb2]) st57 zo57 rfl rfl ?_)
  refine j_step rfl (x_bst_all 0 rfl rfl rfl ld57 rfl rfl (by simp [Value.oneCell']) ?_)
  refine j_run it 1 rfl (by simp) ?_
  refine j_nf [_] rfl ?_
  refine j_givC [0] rfl (.agg 0 rfl rfl ld57 rfl (.tmp rfl .nil)) rfl ⟨_,_,rfl,rfl,rfl⟩
theorem op_two {q : Nat} {z y : Int × List (List Int)} (h : mtE z.1 z.2 q = 0) (h2 : mtE y.1 y.2 q = 0) : opE q [z,y] = 0:=by
 rw [opE,if_pos h];exact op_one h2
theorem S_matrix_Mul_ok {p m n c n2 c2 nm cm k N : Nat} {pm ps p2 : Option Addr} {md : List Int} {a rows : List (List Int)} (K : Fok p m md) (hN : N ≤ 256) (hl : rows.length ≤ 256) (hM : Mat (p ^ m) N rows) (hal : a.length ≤ 256) (hk : rows.length = k) (ha : Mat (p ^ m) k a) :
  Ctr Tryz.prog 122 [.agg #[.int .i64 p,.int .i64 m,.slice pm nm cm],.agg #[.int .i64 k,.slice p2 n2 c2],.agg #[.int .i64 N,.slice ps n c]] [] [slF I64 pm nm cm md,slF (encSl I64) p2 n2 c2 a,slF (encSl I64) ps n c rows]
   (fun v Φ β=>∃ (pb : Option Addr) (cb : Nat),v = .tuple #[.agg #[.int .i64 N,.slice pb a.length cb],.int .i64 0] ∧ Φ = [slF (encSl I64) pb a.length cb (a.map fun x=>cbP p m md N x rows)] ∧ β = []):=by
 refine Ctr_of_j' (F:=F_matrix_Mul) rfl fun C=>?_
 have O:=fok_fo K
 have hq:=K.q
 subst hk
 refine j_len 1 rfl fun hn hb _=>?_
 subst hn
 refine j_len 2 rfl fun hn hb2 _=>?_
 subst hn
 have hb' : a.length * 24 ≤ 140737488355328:=hb
 have hb2' : rows.length * 24 ≤ 140737488355328:=hb2
 have c_matrix_open:=fun {pm ps : Option Addr} {nm cm n c : Nat}=>S_matrix_open_ok (pm:=pm) (nm:=nm) (cm:=cm) (ps:=ps) (n:=n) (c:=c) (Ms:=[((rows.length : Int),a),((N : Int),rows)]) K (fun z hz=>by
  rcases List.mem_cons.1 hz with rfl | hz
  ·simp only [InR];omega
  ·rw [List.mem_singleton.1 hz];simp only [InR];omega) (op_two (mtE_ok hl hal ha) (mtE_ok hN hl hM))
 refine j_nf [_,_] rfl ?_
 refine j_step rfl (x_box_agg rfl fun b1=>?_)
 refine j_step rfl (x_box_agg rfl fun b2=>?_)
 refine j_step rfl (x_box_agg rfl fun b3=>?_)
 refine j_step rfl (x_alloc zo57 fun b4=>?_)
 refine j_run it 1 rfl (by simp) ?_
 refine j_nf [_,_] rfl ?_
 refine j_step rfl (x_bld_all 3 rfl rfl ld24 rfl ?_)
 refine j_step rfl (x_bld_all 2 rfl rfl ld57 rfl ?_)
 refine j_step rfl (x_bld_all 1 rfl rfl ld57 rfl ?_)
 refine j_step rfl (x_lit sl109 zo109e rfl rfl rfl rfl (by decide) (by decide) rfl fun b5=>?_)
 refine j_pub_all (E:=MatE) (n:=2) [[Value.int IntKind.i64 ↑rows.length,Value.slice p2 a.length c2],[Value.int IntKind.i64 ↑N,Value.slice ps rows.length c]] [((↑rows.length : Int),a),((↑N : Int),rows)] 0 (fun w A hG=>(allrd_cons (rd_pair (v1:=[Value.int IntKind.i64 ↑rows.length]) (rd_int (by first | (simp only [InR];omega) | (simp [InR];done) | assumption)) (rd_of_slF (hG _ (fact_mem (n:=1) rfl)))) (allrd_cons (rd_pair (v1:=[Value.int IntKind.i64 ↑N]) (rd_int (by first | (simp only [InR];omega) | (simp [InR];done) | assumption)) (rd_of_slF (hG _ (fact_mem (n:=2) rfl)))) allrd_nil))) rfl rfl rfl rfl (by first | decide | exact Nat.le_of_ble_eq_true rfl) (by first | decide | exact Nat.le_of_ble_eq_true rfl) ?_
 refine j_step rfl (x_call [1,0] rfl (c_matrix_open) rfl ?_)
 rintro _ _ _ ⟨b6,pg1,cg1,pe1,ce1,pl1,cl1,rfl,rfl,rfl⟩
 simp only [List.cons_append,List.nil_append]
 refine j_run it 5 rfl (by simp) ?_
 refine j_nf [_,_,_] rfl ?_
 refine j_run it 2 rfl (by simp) ?_
 refine j_nf [_,_] rfl ?_
 refine j_ifn rfl rfl (fun h1=>by exfalso;omega) (fun h1=>?_)
 refine j_nf [_,_,_] rfl ?_
 refine j_step rfl (x_field rfl fd57_0 ?_)
 refine j_step rfl (x_bld 2 rfl rfl ld3 rfl ?_)
 refine j_step rfl (x_field rfl fd57_1 ?_)
 refine j_step rfl (x_bld 1 rfl rfl ld25 rfl ?_)
 refine j_step rfl (x_len sl25 rfl ?_)
 refine j_run it 1 rfl (by simp) ?_
 refine j_nf [_,_] rfl ?_
 refine j_ifn rfl rfl (fun h2=>by exfalso;omega) (fun h2=>?_)
 refine j_nf [_,_] rfl ?_
 refine j_step rfl (x_field rfl fd57_0 ?_)
 refine j_step rfl (x_bld 1 rfl rfl ld3 rfl ?_)
 refine j_step rfl (x_build (cs:=[Value.int IntKind.i64 ↑N,Value.slice none 0 0]) st57 zo57 rfl rfl ?_)
 refine j_step rfl (x_alloc zo57 fun b7=>?_)
 refine j_step rfl (x_bst_all 0 rfl rfl rfl ld57 rfl rfl (by simp [Value.oneCell']) ?_)
 refine j_nf [_,_,_] rfl ?_
 refine j_step rfl (x_field rfl fd57_1 ?_)
 refine j_step rfl (x_bld 3 rfl rfl ld25 rfl ?_)
 refine j_step rfl (x_len sl25 rfl ?_)
 refine j_run it 1 rfl (by simp) ?_
 refine j_nf [_,_,_] rfl ?_
 refine j_row0 (encSl I64) 22 ?_
 refine j_loopG (X:=Nat × Row) [5,6,7,8,10,36,37] [0,1,2,3,4,5,6,7,8] (fun x=>[(38,.int .i64 (x.1 : Int))]) (fun x=>[(x.2.bo,22,x.2.cs),(some b7,57,[.int .i64 N,.slice (ad x.2.bo) x.1 x.2.cap]),(some b4,57,[.int .i64 0,.slice none 0 0]),(some b3,57,[.int .i64 N,.slice ps rows.length c]),(some b2,57,[.int .i64 (rows.length : Nat),.slice p2 a.length c2]),(some b1,24,[.int .i64 p,.int .i64 m,.slice pm nm cm])]) (fun x=>[rowF (encSl I64) x.2 x.1 ((a.take x.1).map fun x=>cbP p m md N x rows)]) (fun x=>x.1 ≤ a.length) (fun x=>a.length - x.1) (0,⟨none,0,[]⟩) [0] rfl rfl rfl (Nat.zero_le _) (by repeat (first | exact Fr.sub_nil _ | refine Fr.sub_cons rfl ?_)) rfl rfl ?_
 rintro ⟨k,r⟩ hk ih
 simp only [List.cons_append,List.nil_append] at hk ih ⊢
 by_cases h8 : k < a.length
 ·obtain ⟨u,at_u⟩ : ∃ u,a[k]? = some u:=⟨_,List.getElem?_eq_getElem h8⟩
  have hu:=ha u (List.mem_of_getElem? at_u)
  have ih':=fun r=>ih (k + 1,r) (by dsimp only;omega) (by dsimp only;omega)
  simp only [List.take_add_one,at_u,Option.toList_some,List.map_append,List.map_cons,List.map_nil] at ih'
  clear ih
  have hN6 : N ≤ 1000000:=by omega
  have c_matrix_vec:=fun {b ng cg ce cl nx cx c : Nat} {pg pe pl px ps : Option Addr}=>S_matrix_vec (b:=b) (ng:=ng) (cg:=cg) (ce:=ce) (cl:=cl) (pg:=pg) (pe:=pe) (pl:=pl) (nx:=nx) (cx:=cx) (px:=px) (ps:=ps) (n:=rows.length) (c:=c) (x:=u) (rows:=rows) K hN6 hM hu |>.pubR (by show N * 8 ≤ 140737488355328;omega)
  refine j_nf [_,_,_,_,_] rfl ?_
  refine j_run it 1 rfl (by simp) ?_
  refine j_nf [_,_,_,_,_] rfl ?_
  refine j_if rfl rfl (fun h3=>?_) (fun h3=>by exfalso;omega)
  refine j_nf [_,_,_,_,_,_,_] rfl ?_
  refine j_step rfl (x_idx 8 (k) rfl rfl rfl sl25 rfl (by omega) fun z1 hz1 b8 o1=>?_)
  obtain rfl : _ = z1:=Option.some.inj (at_u.symm.trans hz1)
  refine j_step rfl (x_ld_sl 0 rfl rfl ld22 fun pa1 ca1=>?_)
  refine j_run it 1 rfl (by simp) ?_
  refine j_nf [_,_,_,_,_,_] rfl ?_
  (apply j_drawK it mx 10;(· rfl);(· rfl))
  (apply lxk_eq;(· rfl);(· exact d_x fun _=>x_field rfl fd57_1 dk_eq))
  (apply lxk_eq;(· rfl);(· exact d_bld 1 rfl rfl ld25 rfl))
  (apply lxk_run 2;(· rfl);(· simp))
  (apply lxk_eq;(· rfl);(· exact d_x fun _=>x_field rfl fd57_1 dk_eq))
  (apply lxk_eq;(· rfl);(· exact d_bld 3 rfl rfl ld25 rfl))
  (apply lxk_eq;(· rfl);(· exact d_x fun _=>x_field rfl fd57_0 dk_eq))
  (apply lxk_eq;(· rfl);(· exact d_bld 3 rfl rfl ld3 rfl))
  (apply lxk_sl;(· rfl);(· exact d_x fun _=>x_call [4,6,7,0,11] rfl (c_matrix_vec) rfl (by rintro _ _ _ ⟨pa2,ca2,rfl,rfl,rfl⟩;exact (dk_sl 0 rfl)));intro pa2 ca2)
  (apply lxk_sl;(· rfl);(· exact d_x fun _=>x_lit sl25 zo25e rfl rfl rfl rfl (by decide) (by decide) rfl fun b9=>dk_all (E:=(encSl (I64))) [[Value.slice pa2 N ca2]] [cbP p m md N u rows] (fun w A hG=>(allrd_cons (rd_of_slF (hG _ (fact_mem (n:=0) rfl))) allrd_nil)) rfl rfl rfl (by first | decide | exact Nat.le_of_ble_eq_true rfl));intro pa3 ca3)
  refine lxk_end rfl ?_
  simp only [List.map_cons,List.map_nil,List.cons_append,List.nil_append]
  refine j_step rfl (x_appS 0 4 0 rfl rfl rfl rfl rfl sl25 zo25e rfl (by omega) _ by25e (by omega) fun r1=>?_)
  refine j_step rfl (x_field rfl fd57_1 ?_)
  refine j_step rfl (x_bst1 1 rfl rfl rfl rfl ld25 rfl (Nat.le_of_ble_eq_true rfl) ?_)
  refine j_nf [_,_,_,_] rfl ?_
  refine j_run it 2 rfl ⟨trivial,⟨by omega,by omega⟩,trivial⟩ ?_
  refine j_nfn 1 [.lp (pL 1012),.blk 0,.c (pL 127)] rfl ?_
  refine j_to [0,6,7,8,9,10,11,12,13,14] (by exact fra rfl) rfl rfl (ih' r1)
 ·obtain rfl : k = a.length:=by omega
  rw [List.take_length]
  refine j_pubR 0 0 rfl rfl (by show a.length * 24 ≤ 140737488355328;omega) ?_
  refine j_nf [_,_,_,_,_] rfl ?_
  refine j_run it 1 rfl (by simp) ?_
  refine j_nf [_,_,_,_,_] rfl ?_
  refine j_if rfl rfl (fun h3=>by exfalso;omega) (fun h3=>?_)
  refine j_nf [_,_] rfl ?_
  refine j_step rfl (x_bld_all 0 rfl rfl ld57 rfl ?_)
  refine j_step rfl (x_bst_all 1 rfl rfl rfl ld57 rfl rfl (by simp [Value.oneCell']) ?_)
  refine j_run it 1 rfl (by simp) ?_
  refine j_nf [_] rfl ?_
  refine j_givC [0] rfl (.agg 1 rfl rfl ld57 rfl (.tmp rfl .nil)) rfl ⟨_,_,rfl,rfl,rfl⟩
def trL (N : Nat) (rows : List (List Int)) : List (List Int):=(List.range N).map (colL rows)
theorem S_matrix_Transpose_ok {p m n c nm cm N : Nat} {pm ps : Option Addr} {md : List Int} {rows : List (List Int)} (K : Fok p m md) (hN : N ≤ 256) (hl : rows.length ≤ 256) (hM : Mat (p ^ m) N rows) :
  Ctr Tryz.prog 120 [.agg #[.int .i64 p,.int .i64 m,.slice pm nm cm],.agg #[.int .i64 N,.slice ps n c]] [] [slF I64 pm nm cm md,slF (encSl I64) ps n c rows]
   (fun v Φ β=>∃ (pb : Option Addr) (cb : Nat),v = .tuple #[.agg #[.int .i64 (rows.length : Nat),.slice pb N cb],.int .i64 0] ∧ Φ = [slF (encSl I64) pb N cb (trL N rows)] ∧ β = []):=by
 refine Ctr_of_j' (F:=F_matrix_Transpose) rfl fun C=>?_
 have O:=fok_fo K
 have hq:=K.q
 refine j_len 1 rfl fun hn hb _=>?_
 subst hn
 have hb' : rows.length * 24 ≤ 140737488355328:=hb
 have c_matrix_open:=fun {pm ps : Option Addr} {nm cm n c : Nat}=>S_matrix_open_ok (pm:=pm) (nm:=nm) (cm:=cm) (ps:=ps) (n:=n) (c:=c) (Ms:=[((N : Int),rows)]) K (fun z hz=>by rw [List.mem_singleton.1 hz];simp only [InR];omega) (op_one (mtE_ok hN hl hM))
 refine j_nf [_,_] rfl ?_
 refine j_step rfl (x_box_agg rfl fun b1=>?_)
 refine j_step rfl (x_box_agg rfl fun b2=>?_)
 refine j_step rfl (x_alloc zo57 fun b3=>?_)
 refine j_run it 1 rfl (by simp) ?_
 refine j_nf [_,_,_] rfl ?_
 refine j_step rfl (x_bld_all 2 rfl rfl ld24 rfl ?_)
 refine j_step rfl (x_bld_all 1 rfl rfl ld57 rfl ?_)
 refine j_step rfl (x_lit sl109 zo109e rfl rfl rfl rfl (by decide) (by decide) rfl fun b4=>?_)
 refine j_pub_all (E:=MatE) (n:=1) [[Value.int IntKind.i64 ↑N,Value.slice ps rows.length c]] [((↑N : Int),rows)] 0 (fun w A hG=>(allrd_cons (rd_pair (v1:=[Value.int IntKind.i64 ↑N]) (rd_int (by first | (simp only [InR];omega) | (simp [InR];done) | assumption)) (rd_of_slF (hG _ (fact_mem (n:=1) rfl)))) allrd_nil)) rfl rfl rfl rfl (by first | decide | exact Nat.le_of_ble_eq_true rfl) (by first | decide | exact Nat.le_of_ble_eq_true rfl) ?_
 refine j_step rfl (x_call [1,0] rfl (c_matrix_open) rfl ?_)
 rintro _ _ _ ⟨b5,pg1,cg1,pe1,ce1,pl1,cl1,rfl,rfl,rfl⟩
 simp only [List.cons_append,List.nil_append]
 refine j_run it 5 rfl (by simp) ?_
 refine j_nf [_,_,_] rfl ?_
 refine j_run it 2 rfl (by simp) ?_
 refine j_nf [_,_] rfl ?_
 refine j_ifn rfl rfl (fun h1=>by exfalso;omega) (fun h1=>?_)
 refine j_nf [_,_] rfl ?_
 (apply j_drawK it mx 8;(· rfl);(· rfl))
 (apply lxk_eq;(· rfl);(· exact d_x fun _=>x_field rfl fd57_1 dk_eq))
 (apply lxk_eq;(· rfl);(· exact d_bld 1 rfl rfl ld25 rfl))
 (apply lxk_eq;(· rfl);(· exact d_x fun _=>x_len sl25 rfl dk_eq))
 (apply lxk_eq;(· rfl);(· exact d_x fun _=>x_field rfl fd57_0 dk_eq))
 (apply lxk_eq;(· rfl);(· exact d_bld 1 rfl rfl ld3 rfl))
 (apply lxk_make (N) _;(· rfl);(· rfl);(· rfl);(· exact sl25);(· exact zo25e);(· rfl);(· rfl);(· exact by25e);(· rfl);(· omega);(· omega);intro b6)
 (apply lxk_pv [25,28] (fun vs=>Value.agg ((fillL ([(0,1),(1,1)]) ([Value.int IntKind.i64 0,Value.slice none 0 0]) [(0,cellsL (vs.getD 0 undef)),(1,cellsL (vs.getD 1 undef))]).getD []).toArray) (v:=Value.agg #[Value.int IntKind.i64 ↑rows.length,Value.slice (some { block:=b6,off:=0 }) N N]);(· rfl);(· rfl);(· rfl);(· rfl);(· exact d_x fun _=>x_build (cs:=[Value.int IntKind.i64 ↑rows.length,Value.slice (some { block:=b6,off:=0 }) N N]) st57 zo57 rfl rfl dk_eq))
 (apply lxk_alloc;(· rfl);(· exact zo57);intro b7)
 refine lxk_end rfl ?_
 simp only [List.map_cons,List.map_nil,List.cons_append,List.nil_append]
 refine j_step rfl (x_bst_all 0 rfl rfl rfl ld57 rfl rfl (by simp [Value.oneCell']) ?_)
 refine j_nf [_,_,_] rfl ?_
 refine j_step rfl (x_field rfl fd57_1 ?_)
 refine j_step rfl (x_bld 0 rfl rfl ld25 rfl ?_)
 refine j_step rfl (x_len sl25 rfl ?_)
 refine j_run it 1 rfl (by simp) ?_
 refine j_nf [_,_,_] rfl ?_
 simp only [setB]
 refine j_hd0 1 rfl (by omega) fun csA=>?_
 refine j_famNil I64 3 0 ?_
 simp only [setB,List.cons_append,List.nil_append]
 refine j_matCongr (row0 (trL N rows)) 0 rfl (fun g hg=>absurd hg (Nat.not_lt_zero g)) ?_
 simp only [List.eraseIdx_cons_zero,List.cons_append,List.nil_append]
 have htl : (trL N rows).length = N:=by simp [trL]
 have hta : ∀ j,j < N → row0 (trL N rows) j = colL rows j:=fun j hj=>by
  rw [row0,trL,List.getD_eq_getElem?_getD,List.getElem?_map,List.getElem?_range hj];rfl
 refine j_loopG (X:=Nat × List Value × (Nat → Hd) × (Nat → List Value)) [3,4,5,8,32] [0,1,2,3,4,5,6,7,8,9] (fun x=>[(33,.int .i64 (x.1 : Int))])
  (fun x=>(some b7,57,[.int .i64 (rows.length : Nat),.slice (some ⟨b6,0,none⟩) N N])::(some b6,22,x.2.1)::(some b3,57,[.int .i64 0,.slice none 0 0])::(some b2,57,[.int .i64 N,.slice ps rows.length c])::(some b1,24,[.int .i64 p,.int .i64 m,.slice pm nm cm])::famB 3 x.2.2.1 x.2.2.2 x.1 [])
  (fun x=>[rowF hdE ⟨some b6,N,x.2.1⟩ N (hdl x.2.2.1 N),matF I64 x.2.2.1 x.2.2.2 (row0 (trL N rows)) x.1 []])
  (fun x=>x.1 ≤ N) (fun x=>N - x.1) (0,csA,fun _=>(none,0,0),fun _=>[]) [2,0] rfl rfl rfl (Nat.zero_le _) (by repeat (first | exact Fr.sub_nil _ | refine Fr.sub_cons rfl ?_)) rfl rfl ?_
 rintro ⟨k,hc,hd,cs⟩ hk ih
 simp only [List.cons_append,List.nil_append] at hk ih ⊢
 by_cases hkl : k < N
 ·refine j_nf [_,_,_,_,_] rfl ?_
  refine j_run it 1 rfl (by simp) ?_
  refine j_nf [_,_,_,_,_] rfl ?_
  refine j_if rfl rfl (fun h2=>?_) (fun h2=>by exfalso;omega)
  refine j_nf [_,_,_,_,_,_,_] rfl ?_
  refine j_run it 2 rfl (by simp) ?_
  refine j_nf [_,_,_,_,_,_,_] rfl ?_
  (apply j_drawK it mx 7;(· rfl);(· rfl))
  (apply lxk_eq;(· rfl);(· exact d_x fun _=>x_field rfl fd57_1 dk_eq))
  (apply lxk_eq;(· rfl);(· exact d_bld 0 rfl rfl ld25 rfl))
  (apply lxk_run 1;(· rfl);(· simp))
  (apply lxk_eq;(· rfl);(· exact d_x fun _=>x_field rfl fd57_1 dk_eq))
  (apply lxk_eq;(· rfl);(· exact d_bld 3 rfl rfl ld25 rfl))
  (apply lxk_eq;(· rfl);(· exact d_x fun _=>x_len sl25 rfl dk_eq))
  (apply lxk_make (rows.length) _;(· rfl);(· rfl);(· rfl);(· exact sl22);(· exact zo22e);(· rfl);(· rfl);(· exact by22e);(· rfl);(· omega);(· omega);intro b8)
  refine lxk_end rfl ?_
  simp only [List.map_cons,List.map_nil,List.cons_append,List.nil_append]
  refine j_step rfl (x_idx_own (k) (k) rfl rfl sl25 rfl (by omega) (Nat.mul_one _) ?_)
  refine j_step rfl (x_stR (vs:=[Value.slice (some { block:=b8,off:=0 }) rows.length rows.length]) (z:=(some b8,rows.length,rows.length)) 2 0 (k) rfl rfl rfl rfl rfl ld22 (Nat.mul_one _).symm (by omega) (fun w A hG=>(rd_hd (some _) _ _)) fun cs1=>?_)
  refine j_nf [_,_,_,_,_,_,_] rfl ?_
  refine j_step rfl (x_field rfl fd57_1 ?_)
  refine j_step rfl (x_bld 4 rfl rfl ld25 rfl ?_)
  refine j_step rfl (x_len sl25 rfl ?_)
  refine j_run it 1 rfl (by simp) ?_
  refine j_nf [_,_,_,_,_,_,_] rfl ?_
  simp only [setB]
  rw [hdl_set]
  have hz : (hdl (upd hd k (some b8,rows.length,rows.length)) N)[k]? = some (some b8,rows.length,rows.length):=by
   rw [hdl,List.getElem?_map,List.getElem?_range hkl,Option.map_some,upd_self]
  have hTl : (colL rows k).length = rows.length:=List.length_map _
  have hTa : ∀ (i : Nat) (x : List Int),rows[i]? = some x → (colL rows k)[i]? = some (at0 x k):=fun i x h=>by rw [colL,List.getElem?_map,h];rfl
  have hTr : ∀ z ∈ colL rows k,InR .i64 z:=fun z hz=>by
   have:=(wd_col (by have:=O.q2;omega) hM k).2 z hz
   simp only [InR];omega
  rw [make_int,show List.replicate rows.length (0 : Int) = (colL rows k).take 0++List.replicate (rows.length - 0) 0 by simp]
  refine j_loopG (X:=Nat) [3,4,5,8,9,32,33,34,35,36,37,38,39,40,41,42,43,44,45,46] [0,1,2,3,4,5,6,7,8,9,10,11,12] (fun i=>[(47,.int .i64 (i : Int))]) (fun i=>(some b8,3,intCells .i64 ((colL rows k).take i++List.replicate (rows.length - i) 0))::(some b7,57,[.int .i64 (rows.length : Nat),.slice (some ⟨b6,0,none⟩) N N])::(some b6,22,cs1)::(some b3,57,[.int .i64 0,.slice none 0 0])::(some b2,57,[.int .i64 N,.slice ps rows.length c])::(some b1,24,[.int .i64 p,.int .i64 m,.slice pm nm cm])::famB 3 hd cs k []) (fun _=>[]) (fun i=>i ≤ rows.length) (fun i=>rows.length - i) 0 [] rfl rfl rfl (Nat.zero_le _) (by repeat (first | exact Fr.sub_nil _ | refine Fr.sub_cons rfl ?_)) rfl rfl ?_
  rintro i hi ihi
  simp only [List.cons_append,List.nil_append] at hi ihi ⊢
  by_cases h9 : i < rows.length
  ·obtain ⟨x,at_x⟩ : ∃ x,rows[i]? = some x:=⟨_,List.getElem?_eq_getElem h9⟩
   have hx:=hM x (List.mem_of_getElem? at_x)
   have hT:=hTa i x at_x
   have hxl:=hx.1
   have at_y : x[k]? = some (at0 x k):=by
    rw [at0,List.getD_eq_getElem?_getD,List.getElem?_eq_getElem (by omega)];rfl
   have ih':=ihi (i + 1) (by omega) (by omega)
   rw [← take_set hT h9] at ih'
   have hln : ((colL rows k).take i++List.replicate (rows.length - i) 0).length = rows.length:=by rw [List.length_append,List.length_take,List.length_replicate];omega
   generalize (colL rows k).take i++List.replicate (rows.length - i) 0 = L at *
   refine j_nf [_,_,_,_,_,_,_,_,_] rfl ?_
   refine j_run it 1 rfl (by simp) ?_
   refine j_nf [_,_,_,_,_,_,_,_,_] rfl ?_
   refine j_if rfl rfl (fun h3=>?_) (fun h3=>by exfalso;omega)
   refine j_nf [_,_,_,_,_,_,_,_,_,_,_] rfl ?_
   refine j_run it 1 rfl (by simp) ?_
   refine j_step rfl (x_idx 12 (i) rfl rfl rfl sl25 rfl (by omega) fun z1 hz1 b9 o1=>?_)
   obtain rfl : _ = z1:=Option.some.inj (at_x.symm.trans hz1)
   refine j_step rfl (x_ld_sl 0 rfl rfl ld22 fun pa1 ca1=>?_)
   refine j_run it 2 rfl (by simp) ?_
   refine j_nf [_,_,_,_,_,_,_,_,_,_] rfl ?_
   (apply j_drawK it mx 10;(· rfl);(· rfl))
   (apply lxk_eq;(· rfl);(· exact d_x fun _=>x_field rfl fd57_1 dk_eq))
   (apply lxk_eq;(· rfl);(· exact d_bld 1 rfl rfl ld25 rfl))
   (apply lxk_run 1;(· rfl);(· simp))
   (apply lxk_eq;(· rfl);(· exact d_x fun _=>x_idx_own (k) (k) rfl rfl sl25 rfl (by omega) (Nat.mul_one _) dk_eq))
   (apply lxk_eq;(· rfl);(· exact d_ldR_hd 2 2 (k) rfl rfl rfl ld22 rfl (by assumption)))
   dsimp only
   (apply lxk_run 3;(· rfl);(· simp))
   (apply lxk_pt;(· rfl);(· exact d_x fun _=>x_idx 0 (k) rfl rfl rfl sl22 rfl (by omega) fun z1 hz2 b10 o2=>(dk_ptD default hz2 0 rfl));intro b10 o2)
   (apply lxk_eq;(· rfl);(· exact d_x fun _=>x_ld_int 0 rfl rfl ld3 fun ⟨r1,r2⟩=>dk_eq))
   refine lxk_end rfl ?_
   simp only [List.map_cons,List.map_nil,List.cons_append,List.nil_append]
   refine j_step rfl (x_idx_own (i) (i) rfl rfl sl22 rfl (by omega) (Nat.mul_one _) ?_)
   refine j_step rfl (x_bst_int 0 rfl rfl rfl ld3 (by first | omega | (simp;omega)) ?_)
   refine j_nf [_,_,_,_,_,_,_,_] rfl ?_
   refine j_run it 2 rfl ⟨trivial,⟨by omega,by omega⟩,trivial⟩ ?_
   refine j_nfn 1 [.lp (pL 125340),.blk 2,.blk 1,.c (pL 1959),.lp (pL 244),.blk 0,.c [1,1,1,1]] rfl ?_
   refine j_to [3,4,5,6,7,8,9,10,11,12,13,14,15] (by exact fra rfl) rfl rfl (ih')
  ·obtain rfl : i = rows.length:=by omega
   rw [Nat.sub_self,List.replicate_zero,List.append_nil,List.take_of_length_le (by omega)]
   clear ihi
   refine j_nf [_,_,_,_,_,_,_,_,_] rfl ?_
   refine j_run it 1 rfl (by simp) ?_
   refine j_nf [_,_,_,_,_,_,_,_,_] rfl ?_
   refine j_rowInt 0 rfl hTl.symm hTr (by omega) ?_
   refine j_push 5 0 0 3 rfl rfl rfl rfl ?_
   simp only [List.eraseIdx_cons_zero,List.eraseIdx_cons_succ,List.take_succ_cons,List.take_zero,List.cons_append,List.nil_append]
   refine j_matCongr (row0 (trL N rows)) 0 rfl (fun g hg=>by
    by_cases e : g = k
    ·subst e
     rw [upd_self,hta g hkl]
    ·rw [upd_ne e]) ?_
   refine j_if rfl rfl (fun h3=>by exfalso;omega) (fun h3=>?_)
   refine j_nf [_,_,_,_] rfl ?_
   refine j_run it 2 rfl ⟨trivial,⟨by omega,by omega⟩,trivial⟩ ?_
   refine j_nfn 1 [.lp (pL 244),.blk 0,.c [1,1,1,1]] rfl ?_
   refine j_to [3,0,6,7,8,9,10,11,12,13,14,15] (by exact fra rfl) rfl rfl (ih (k + 1,cs1,upd hd k (some b8,rows.length,rows.length),upd cs k (intCells .i64 (colL rows k))) (by dsimp only;omega) (by dsimp only;omega))
 ·obtain rfl : N = k:=by omega
  refine j_nf [_,_,_,_,_] rfl ?_
  refine j_run it 1 rfl (by simp) ?_
  refine j_nf [_,_,_,_,_] rfl ?_
  refine j_hdlen 1 rfl fun hlen=>?_
  refine j_pubFamL 5 1 0 1 rfl rfl rfl rfl (fun i hi=>by rw [hlen i hi rfl,hta i hi,List.length_map];show rows.length * 8 ≤ _;omega) ?_
  simp only [List.take_succ_cons,List.take_zero]
  rw [show (List.range N).map (row0 (trL N rows)) = trL N rows from by
   refine List.ext_getElem (by rw [List.length_map,List.length_range,htl]) fun i h1 h2=>?_
   rw [List.getElem_map,List.getElem_range,row0,List.getD_eq_getElem?_getD,List.getElem?_eq_getElem h2];rfl]
  refine j_pubR 1 0 rfl rfl (by show N * 24 ≤ 140737488355328;omega) ?_
  simp only [List.eraseIdx_cons_zero,List.eraseIdx_cons_succ]
  refine j_if rfl rfl (fun h2=>by exfalso;omega) (fun h2=>?_)
  refine j_nf [_,_] rfl ?_
  refine j_step rfl (x_bld_all 0 rfl rfl ld57 rfl ?_)
  refine j_step rfl (x_bst_all 1 rfl rfl rfl ld57 rfl rfl (by simp [Value.oneCell']) ?_)
  refine j_run it 1 rfl (by simp) ?_
  refine j_nf [_] rfl ?_
  refine j_givC [0] rfl (.agg 1 rfl rfl ld57 rfl (.tmp rfl .nil)) rfl ⟨_,_,rfl,rfl,rfl⟩
theorem S_field_Check_ok {pm : Option Addr} {nm cm p m : Nat} {md : List Int} (K : Fok p m md) : Ctr Tryz.prog 63 [.agg #[.int .i64 p,.int .i64 m,.slice pm nm cm]] [] [slF I64 pm nm cm md] (Rv (.int .i64 0) []):=by
 refine Ctr_of_j' (F:=F_field_Check) rfl fun C=>?_
 have c_field_shape:=fun {pm : Option Addr} {nm cm : Nat}=>S_field_shape (P:=(p : Int)) (M:=(m : Int)) (pm:=pm) (nm:=nm) (cm:=cm) (md:=md) (res:=true) ⟨fun _=>chk_shp (fok_chk K),fun _=>rfl⟩
 have c_field_order:=S_field_order K.ord
 have hx:=gnX_ok ((shp_fok K.shp K.pr).2 K)
 have c_field_generator:=fun {nm cm : Nat} {pm : Option Addr}=>S_field_generator_some (nm:=nm) (cm:=cm) (pm:=pm) K.shp rfl hx.1 hx.2.1 hx.2.2.1 hx.2.2.2
 generalize p ^ m = q at *
 refine j_nf [_,_] rfl ?_
 refine j_step rfl (x_box_agg rfl fun b1=>?_)
 refine j_run it 1 rfl (by simp) ?_
 refine j_nf [_,_,_] rfl ?_
 (apply j_drawK it mx 13;(· rfl);(· rfl))
 (apply lxk_eq;(· rfl);(· exact d_bld_all 0 rfl rfl ld24 rfl))
 (apply lxk_eq;(· rfl);(· exact d_x fun _=>x_call [0] rfl (c_field_shape) rfl (by rintro _ _ _ ⟨rfl,rfl,rfl⟩;exact dk_eq)))
 (apply lxk_run 2;(· rfl);(· simp))
 (apply lxk_eq;(· rfl);(· exact d_bld_all 0 rfl rfl ld24 rfl))
 (apply lxk_eq;(· rfl);(· exact d_x fun _=>x_field rfl fd24_0 dk_eq))
 (apply lxk_eq;(· rfl);(· exact d_bld 0 rfl rfl ld3 rfl))
 (apply lxk_eq;(· rfl);(· exact d_x fun _=>x_field rfl fd24_1 dk_eq))
 (apply lxk_eq;(· rfl);(· exact d_bld 0 rfl rfl ld3 rfl))
 (apply lxk_eq;(· rfl);(· exact d_x fun _=>x_call [] rfl (c_field_order) rfl (by rintro _ _ _ ⟨rfl,rfl,rfl⟩;exact dk_eq)))
 (apply lxk_fa (val:=(fun g=>Value.slice (some { block:=(g 0).snd.fst,off:=(g 1).snd.fst }) (q - 1) (g 2).snd.fst)) (f:=(fun g=>[slF I64 (some { block:=(g 0).snd.fst,off:=(g 1).snd.fst }) (q - 1) (g 2).snd.fst (powI q (fM p (fpo m md)) (gnX q (fM p (fpo m md))))]));(· rfl);(· exact d_x fun _=>x_call [0] rfl (c_field_generator) rfl (by rintro _ _ _ ⟨bg0,og1,cag2,rfl,rfl,rfl⟩;exact fun _ _ _ hG=>⟨(fun | 0=>(none,bg0,0,[]) | 1=>(none,og1,0,[]) | 2=>(none,cag2,0,[]) | _=>default),rfl,fun g hg=>drop_own (hG _ (List.mem_append_left _ hg))⟩));intro g1;dsimp only [List.map_cons,List.map_nil])
 (apply lxk_eq;(· rfl);(· exact d_x fun _=>x_eqnilS sl22 rfl rfl dk_eq))
 (apply lxk_run 1;(· rfl);(· simp))
 refine lxk_end rfl ?_
 simp only [List.map_cons,List.map_nil,List.cons_append,List.nil_append]
 refine j_nf [_,_] rfl ?_
 refine j_false rfl rfl ?_
 refine j_nf [_,_] rfl ?_
 refine j_run it 1 rfl (by simp) ?_
 refine j_nf [_] rfl ?_
 refine j_giv [] rfl rfl rfl ⟨rfl,rfl,rfl⟩
theorem S_field_Check_err {pm : Option Addr} {nm cm : Nat} {P M : Int} {md : List Int} (h : ¬ chkF P M md) : Ctr Tryz.prog 63 [.agg #[.int .i64 P,.int .i64 M,.slice pm nm cm]] [] [slF I64 pm nm cm md] (Rv (.int .i64 1) []):=by
 refine Ctr_of_j' (F:=F_field_Check) rfl fun C=>?_
 by_cases hs : shpF P M md
 ·obtain ⟨p,m,rfl,rfl,K,hp⟩:=shp_of hs
  have hno : ∀ y,1 ≤ y → y < p ^ m → ¬ genF (p ^ m) (fM p (fpo m md)) y:=fun y h1 h2 h3=>h (fok_chk ((shp_fok K hp).1 ⟨y,h1,h2,h3⟩))
  have c_field_shape:=fun {pm : Option Addr} {nm cm : Nat}=>S_field_shape (P:=(p : Int)) (M:=(m : Int)) (pm:=pm) (nm:=nm) (cm:=cm) (md:=md) (res:=true) ⟨fun _=>hs,fun _=>rfl⟩
  have ho : ordI (p : Int) (m : Int) = ((p ^ m : Nat) : Int):=by rw [ordI,if_pos hs.1,Int.toNat_natCast,Int.toNat_natCast]
  have c_field_order:=S_field_order ho
  have c_field_generator:=fun {nm cm : Nat} {pm : Option Addr}=>S_field_generator_none (nm:=nm) (cm:=cm) (pm:=pm) K rfl hno
  generalize p ^ m = q at *
  refine j_nf [_,_] rfl ?_
  refine j_step rfl (x_box_agg rfl fun b1=>?_)
  refine j_run it 1 rfl (by simp) ?_
  refine j_nf [_,_,_] rfl ?_
  (apply j_drawK it mx 13;(· rfl);(· rfl))
  (apply lxk_eq;(· rfl);(· exact d_bld_all 0 rfl rfl ld24 rfl))
  (apply lxk_eq;(· rfl);(· exact d_x fun _=>x_call [0] rfl (c_field_shape) rfl (by rintro _ _ _ ⟨rfl,rfl,rfl⟩;exact dk_eq)))
  (apply lxk_run 2;(· rfl);(· simp))
  (apply lxk_eq;(· rfl);(· exact d_bld_all 0 rfl rfl ld24 rfl))
  (apply lxk_eq;(· rfl);(· exact d_x fun _=>x_field rfl fd24_0 dk_eq))
  (apply lxk_eq;(· rfl);(· exact d_bld 0 rfl rfl ld3 rfl))
  (apply lxk_eq;(· rfl);(· exact d_x fun _=>x_field rfl fd24_1 dk_eq))
  (apply lxk_eq;(· rfl);(· exact d_bld 0 rfl rfl ld3 rfl))
  (apply lxk_eq;(· rfl);(· exact d_x fun _=>x_call [] rfl (c_field_order) rfl (by rintro _ _ _ ⟨rfl,rfl,rfl⟩;exact dk_eq)))
  (apply lxk_eq;(· rfl);(· exact d_x fun _=>x_call [0] rfl (c_field_generator) rfl (by rintro _ _ _ ⟨rfl,rfl,rfl⟩;exact dk_eq)))
  (apply lxk_eq;(· rfl);(· exact d_x fun _=>x_eqnilN sl22 rfl rfl dk_eq))
  (apply lxk_run 1;(· rfl);(· simp))
  refine lxk_end rfl ?_
  simp only [List.map_cons,List.map_nil,List.cons_append,List.nil_append]
  refine j_nf [_,_] rfl ?_
  refine j_true rfl rfl ?_
  refine j_nf [_,_,_] rfl ?_
  refine j_run it 1 rfl (by simp) ?_
  refine j_nf [_,_] rfl ?_
  refine j_giv [] rfl rfl rfl ⟨rfl,rfl,rfl⟩
 ·have c_field_shape:=fun {pm : Option Addr} {nm cm : Nat}=>S_field_shape (P:=P) (M:=M) (pm:=pm) (nm:=nm) (cm:=cm) (md:=md) (res:=false) ⟨fun e=>Bool.noConfusion e,fun e=>absurd e hs⟩
  refine j_nf [_,_] rfl ?_
  refine j_step rfl (x_box_agg rfl fun b1=>?_)
  refine j_run it 1 rfl (by simp) ?_
  refine j_nf [_,_,_] rfl ?_
  (apply j_drawK it mx 13;(· rfl);(· rfl))
  (apply lxk_eq;(· rfl);(· exact d_bld_all 0 rfl rfl ld24 rfl))
  (apply lxk_eq;(· rfl);(· exact d_x fun _=>x_call [0] rfl (c_field_shape) rfl (by rintro _ _ _ ⟨rfl,rfl,rfl⟩;exact dk_eq)))
  (apply lxk_run 9;(· rfl);(· simp))
  (apply lxk_run 2;(· rfl);(· simp))
  refine lxk_end rfl ?_
  simp only [List.map_cons,List.map_nil,List.cons_append,List.nil_append]
  refine j_nf [_,_] rfl ?_
  refine j_true rfl rfl ?_
  refine j_nf [_,_,_] rfl ?_
  refine j_run it 1 rfl (by simp) ?_
  refine j_nf [_,_] rfl ?_
  refine j_giv [] rfl rfl rfl ⟨rfl,rfl,rfl⟩
theorem S_code_length {n e : Int} (h : (if n < 1 ∨ 64 < n then 4 else 0) = e) : Ctr Tryz.prog 64 [.int .i64 n] [] [] (Rv (.int .i64 e) []):=by
 refine Ctr_of_j' (F:=F_code_length) rfl fun C=>?_
 by_cases h1 : n < 1
 ·rw [if_pos (.inl h1)] at h
  subst h
  refine j_nf [_,_] rfl (j_run it 1 rfl (by simp) ?_)
  refine j_nf [_,_,_] rfl (j_run it 3 rfl (by simp) ?_)
  refine j_split_dec (t:=5) rfl (fun h2=>?_) (fun h2=>by exfalso;omega)
  refine j_run it 3 rfl (by simp) ?_
  refine j_nf [_,_] rfl ?_
  refine j_true rfl rfl ?_
  refine j_nf [_,_,_] rfl (j_run it 1 rfl (by simp) ?_)
  refine j_nf [_,_] rfl ?_
  refine j_giv [] rfl rfl rfl ⟨rfl,rfl,rfl⟩
 ·by_cases h2 : 64 < n
  ·rw [if_pos (.inr h2)] at h
   subst h
   refine j_nf [_,_] rfl (j_run it 1 rfl (by simp) ?_)
   refine j_nf [_,_,_] rfl (j_run it 3 rfl (by simp) ?_)
   refine j_split_dec (t:=5) rfl (fun h3=>by exfalso;omega) (fun h3=>?_)
   refine j_run it 3 rfl (by simp) ?_
   refine j_nf [_,_] rfl (j_if rfl rfl (fun h4=>?_) (fun h4=>by exfalso;omega))
   refine j_nf [_,_,_] rfl (j_run it 1 rfl (by simp) ?_)
   refine j_nf [_,_] rfl ?_
   refine j_giv [] rfl rfl rfl ⟨rfl,rfl,rfl⟩
  ·rw [if_neg (by omega)] at h
   subst h
   refine j_nf [_,_] rfl (j_run it 1 rfl (by simp) ?_)
   refine j_nf [_,_,_] rfl (j_run it 3 rfl (by simp) ?_)
   refine j_split_dec (t:=5) rfl (fun h3=>by exfalso;omega) (fun h3=>?_)
   refine j_run it 3 rfl (by simp) ?_
   refine j_nf [_,_] rfl (j_if rfl rfl (fun h4=>by exfalso;omega) (fun h4=>?_))
   refine j_nf [_,_] rfl (j_run it 1 rfl (by simp) ?_)
   refine j_nf [_] rfl ?_
   refine j_giv [] rfl rfl rfl ⟨rfl,rfl,rfl⟩
theorem S_code_gen {P M N : Int} {pm ps : Option Addr} {nm cm n c : Nat} : Ctr Tryz.prog 66 [.agg #[.int .i64 P,.int .i64 M,.slice pm nm cm,.int .i64 N,.slice ps n c]] [] [] (Rv (.agg #[.int .i64 N,.slice ps n c]) []):=by
 refine Ctr_of_j' (F:=F_code_gen) rfl fun C=>?_
 refine j_nf [_,_] rfl (j_step rfl (x_box_agg rfl fun b1=>?_))
 refine j_step rfl (x_alloc zo57 fun b2=>?_)
 refine j_nf [_,_] rfl (j_step rfl (x_field rfl fd27_1 ?_))
 refine j_step rfl (x_bld 1 rfl rfl ld3 rfl ?_)
 refine j_step rfl (x_field rfl fd27_2 ?_)
 refine j_step rfl (x_bld 1 rfl rfl ld25 rfl ?_)
 refine j_step rfl (x_build (cs:=[Value.int IntKind.i64 N,Value.slice ps n c]) st57 zo57 rfl rfl ?_)
 refine j_step rfl (x_bst_all 0 rfl rfl rfl ld57 rfl rfl (by simp [Value.oneCell']) ?_)
 refine j_nf [_] rfl ?_
 refine j_givC [] rfl (.agg 0 rfl rfl ld57 rfl .nil) rfl ⟨rfl,rfl,rfl⟩
section
variable {p m n c nm cm : Nat} {pm ps : Option Addr} {md : List Int} {rows : List (List Int)}
noncomputable abbrev OpQ (p m : Nat) (md : List Int) (N : Nat) (rows : List (List Int)) (ps : Option Addr) (c : Nat) : Value → List Fact → List Blk → Prop:=fun v Φ β=>∃ (b : Nat) (pg : Option Addr) (cg : Nat) (pe : Option Addr) (ce : Nat) (pl : Option Addr) (cl : Nat) (pp : Option Addr) (cp : Nat),
 v = .tuple #[.agg #[.pointer (some ⟨b,0,none⟩),.int .i64 N,.slice ps rows.length c,.slice pp (cnP p m md N rows).2.length cp],.int .i64 0]
 ∧ Φ = slF I64 pp (cnP p m md N rows).2.length cp (toI (cnP p m md N rows).2)::gfL p m md b pg cg pe ce pl cl ∧ β = []
theorem S_space_open_ok {N : Nat} (K : Fok p m md) (hN : N ≤ 256) (hl : rows.length ≤ 256) (hM : Mat (p ^ m) N rows) (hc : (cnP p m md N rows).1 = rows) :
  Ctr Tryz.prog 105 [.agg #[.int .i64 p,.int .i64 m,.slice pm nm cm],.agg #[.int .i64 N,.slice ps n c]] [] [slF I64 pm nm cm md,slF (encSl I64) ps n c rows] (OpQ p m md N rows ps c):=by
 refine Ctr_of_j' (F:=F_space_open) rfl fun C=>?_
 refine j_len 1 rfl fun hn hb _=>?_
 subst hn
 have hb' : rows.length * 24 ≤ 140737488355328:=hb
 have c_field_New:=fun {pm : Option Addr} {nm cm : Nat}=>S_field_New_ok (pm:=pm) (nm:=nm) (cm:=cm) K
 have c_matrix_Canonical:=fun {pm ps : Option Addr} {nm cm n c : Nat}=>S_matrix_Canonical_ok (pm:=pm) (nm:=nm) (cm:=cm) (ps:=ps) (n:=n) (c:=c) (rows:=rows) K hN hl hM
 have hd : decide ((cnP p m md N rows).1 = rows) = true:=decide_eq_true hc
 refine j_nf [_,_] rfl (j_step rfl (x_box_agg rfl fun b1=>?_))
 refine j_step rfl (x_box_agg rfl fun b2=>?_)
 refine j_step rfl (x_alloc zo123 fun b3=>?_)
 refine j_run it 1 rfl (by simp) ?_
 refine j_nf [_,_] rfl (j_step rfl (x_bld_all 2 rfl rfl ld24 rfl ?_))
 refine j_step rfl (x_bld_all 1 rfl rfl ld57 rfl ?_)
 refine j_step rfl (x_call [0,1] rfl (c_matrix_Canonical) rfl ?_)
 rintro _ _ _ ⟨pb1,pp1,cb1,cp1,rfl,rfl,rfl⟩
 simp only [List.cons_append,List.nil_append]
 refine j_run it 4 rfl (by simp) ?_
 refine j_step rfl (x_alloc zo57 fun b4=>?_)
 refine j_step rfl (x_bst_all 0 rfl rfl rfl ld57 rfl rfl (by simp [Value.oneCell']) ?_)
 refine j_run it 2 rfl (by simp) ?_
 refine j_nf [_,_,_] rfl (j_run it 2 rfl (by simp) ?_)
 refine j_nf [_,_] rfl (j_ifn rfl rfl (fun h1=>by exfalso;omega) (fun h1=>?_))
 refine j_nf [_,_,_] rfl (j_step rfl (x_field rfl fd57_1 ?_))
 refine j_step rfl (x_bld 0 rfl rfl ld25 rfl ?_)
 refine j_step rfl (x_field rfl fd57_1 ?_)
 refine j_step rfl (x_bld 2 rfl rfl ld25 rfl ?_)
 refine j_step rfl (x_call [0,3] rfl (S_slices_EqualFunc_____int_____int___int___int_ (by omega)) rfl ?_)
 rintro _ _ _ ⟨rfl,rfl,rfl⟩
 simp only [List.cons_append,List.nil_append]
 simp only [decide_true]
 refine j_run it 1 rfl (by simp) ?_
 refine j_nf [_,_] rfl ?_
 refine j_false rfl rfl ?_
 refine j_nf [_,_] rfl (j_step rfl (x_bld_all 3 rfl rfl ld24 rfl ?_))
 refine j_step rfl (x_call [2] rfl (c_field_New) rfl ?_)
 rintro _ _ _ ⟨b5,pg1,cg1,pe1,ce1,pl1,cl1,rfl,rfl,rfl⟩
 simp only [List.cons_append,List.nil_append]
 refine j_run it 5 rfl (by simp) ?_
 refine j_nf [_,_] rfl (j_run it 1 rfl (by simp) ?_)
 refine j_step rfl (x_bld_all 2 rfl rfl ld57 rfl ?_)
 refine j_run it 1 rfl (by simp) ?_
 refine j_step rfl (x_build (cs:=[Value.pointer (some { block:=b5,off:=0 }),Value.int IntKind.i64 ↑N,Value.slice ps rows.length c,Value.slice pp1 (cnP p m md N rows).snd.length cp1]) st123 zo123 rfl rfl ?_)
 refine j_run it 1 rfl (by simp) ?_
 refine j_step rfl (x_bst_all 1 rfl rfl rfl ld123 rfl rfl (by simp [Value.oneCell']) ?_)
 refine j_run it 1 rfl (by simp) ?_
 refine j_nf [_] rfl ?_
 refine j_givC [5,0,1,2,3] rfl (.agg 1 rfl rfl ld123 rfl (.tmp rfl .nil)) rfl ⟨_,_,_,_,_,_,_,_,_,rfl,rfl,rfl⟩
theorem S_space_open_form {N : Nat} (K : Fok p m md) (hN : N ≤ 256) (hl : rows.length ≤ 256) (hM : Mat (p ^ m) N rows) (hc : (cnP p m md N rows).1 ≠ rows) :
  Ctr Tryz.prog 105 [.agg #[.int .i64 p,.int .i64 m,.slice pm nm cm],.agg #[.int .i64 N,.slice ps n c]] [] [slF I64 pm nm cm md,slF (encSl I64) ps n c rows] (Rv (.tuple #[.agg #[.pointer none,.int .i64 0,.slice none 0 0,.slice none 0 0],.int .i64 5]) []):=by
 refine Ctr_of_j' (F:=F_space_open) rfl fun C=>?_
 refine j_len 1 rfl fun hn hb _=>?_
 subst hn
 have hb' : rows.length * 24 ≤ 140737488355328:=hb
 have c_matrix_Canonical:=fun {pm ps : Option Addr} {nm cm n c : Nat}=>S_matrix_Canonical_ok (pm:=pm) (nm:=nm) (cm:=cm) (ps:=ps) (n:=n) (c:=c) (rows:=rows) K hN hl hM
 have hd : decide ((cnP p m md N rows).1 = rows) = false:=decide_eq_false hc
 refine j_nf [_,_] rfl (j_step rfl (x_box_agg rfl fun b1=>?_))
 refine j_step rfl (x_box_agg rfl fun b2=>?_)
 refine j_step rfl (x_alloc zo123 fun b3=>?_)
 refine j_run it 1 rfl (by simp) ?_
 refine j_nf [_,_] rfl (j_step rfl (x_bld_all 2 rfl rfl ld24 rfl ?_))
 refine j_step rfl (x_bld_all 1 rfl rfl ld57 rfl ?_)
 refine j_step rfl (x_call [0,1] rfl (c_matrix_Canonical) rfl ?_)
 rintro _ _ _ ⟨pb1,pp1,cb1,cp1,rfl,rfl,rfl⟩
 simp only [List.cons_append,List.nil_append]
 refine j_run it 4 rfl (by simp) ?_
 refine j_step rfl (x_alloc zo57 fun b4=>?_)
 refine j_step rfl (x_bst_all 0 rfl rfl rfl ld57 rfl rfl (by simp [Value.oneCell']) ?_)
 refine j_run it 2 rfl (by simp) ?_
 refine j_nf [_,_,_] rfl (j_run it 2 rfl (by simp) ?_)
 refine j_nf [_,_] rfl (j_ifn rfl rfl (fun h1=>by exfalso;omega) (fun h1=>?_))
 refine j_nf [_,_,_] rfl (j_step rfl (x_field rfl fd57_1 ?_))
 refine j_step rfl (x_bld 0 rfl rfl ld25 rfl ?_)
 refine j_step rfl (x_field rfl fd57_1 ?_)
 refine j_step rfl (x_bld 2 rfl rfl ld25 rfl ?_)
 refine j_step rfl (x_call [0,3] rfl (S_slices_EqualFunc_____int_____int___int___int_ (by omega)) rfl ?_)
 rintro _ _ _ ⟨rfl,rfl,rfl⟩
 simp only [List.cons_append,List.nil_append]
 simp only [decide_true]
 refine j_run it 1 rfl (by simp) ?_
 refine j_nf [_,_] rfl ?_
 refine j_true rfl rfl ?_
 refine j_nf [_,_,_] rfl (j_step rfl (x_build (cs:=[Value.pointer none,Value.int IntKind.i64 0,Value.slice none 0 0,Value.slice none 0 0]) st123 zo123 rfl rfl ?_))
 refine j_step rfl (x_bst_all 1 rfl rfl rfl ld123 rfl rfl (by simp [Value.oneCell']) ?_)
 refine j_run it 1 rfl (by simp) ?_
 refine j_nf [_,_] rfl ?_
 refine j_givC [] rfl (.agg 1 rfl rfl ld123 rfl (.tmp rfl .nil)) rfl ⟨rfl,rfl,rfl⟩
theorem S_space_open_bad {N e : Int} (K : Fok p m md) (hN : InR .i64 N) (h : mtE N rows (p ^ m) = e) (he : e ≠ 0) :
  Ctr Tryz.prog 105 [.agg #[.int .i64 p,.int .i64 m,.slice pm nm cm],.agg #[.int .i64 N,.slice ps n c]] [] [slF I64 pm nm cm md,slF (encSl I64) ps n c rows] (Rv (.tuple #[.agg #[.pointer none,.int .i64 0,.slice none 0 0,.slice none 0 0],.int .i64 e]) []):=by
 refine Ctr_of_j' (F:=F_space_open) rfl fun C=>?_
 have hr:=mtE_rng N rows (p ^ m)
 have c_matrix_Canonical:=fun {pm ps : Option Addr} {nm cm n c : Nat}=>S_matrix_Canonical_bad (pm:=pm) (nm:=nm) (cm:=cm) (ps:=ps) (n:=n) (c:=c) (rows:=rows) K hN h he
 refine j_nf [_,_] rfl (j_step rfl (x_box_agg rfl fun b1=>?_))
 refine j_step rfl (x_box_agg rfl fun b2=>?_)
 refine j_step rfl (x_alloc zo123 fun b3=>?_)
 refine j_run it 1 rfl (by simp) ?_
 refine j_nf [_,_] rfl (j_step rfl (x_bld_all 2 rfl rfl ld24 rfl ?_))
 refine j_step rfl (x_bld_all 1 rfl rfl ld57 rfl ?_)
 refine j_step rfl (x_call [0,1] rfl (c_matrix_Canonical) rfl ?_)
 rintro _ _ _ ⟨rfl,rfl,rfl⟩
 simp only [List.cons_append,List.nil_append]
 refine j_run it 4 rfl (by simp) ?_
 refine j_step rfl (x_alloc zo57 fun b4=>?_)
 refine j_step rfl (x_bst_all 0 rfl rfl rfl ld57 rfl rfl (by simp [Value.oneCell']) ?_)
 refine j_run it 2 rfl (by simp) ?_
 refine j_nf [_,_,_] rfl (j_run it 2 rfl (by simp) ?_)
 refine j_nf [_,_] rfl (j_ifn rfl rfl (fun h1=>?_) (fun h1=>by exfalso;omega))
 refine j_nf [_,_,_] rfl (j_step rfl (x_build (cs:=[Value.pointer none,Value.int IntKind.i64 0,Value.slice none 0 0,Value.slice none 0 0]) st123 zo123 rfl rfl ?_))
 refine j_run it 1 rfl (by simp) ?_
 refine j_step rfl (x_bst_all 1 rfl rfl rfl ld123 rfl rfl (by simp [Value.oneCell']) ?_)
 refine j_run it 1 rfl (by simp) ?_
 refine j_nf [_,_] rfl ?_
 refine j_givC [] rfl (.agg 1 rfl rfl ld123 rfl (.tmp rfl .nil)) rfl ⟨rfl,rfl,rfl⟩
def spE (p m : Nat) (md : List Int) (N : Int) (rows : List (List Int)) : Int:=if mtE N rows (p ^ m) ≠ 0 then mtE N rows (p ^ m) else if (cnP p m md N.toNat rows).1 = rows then 0 else 5
theorem S_space_Check {N e : Int} (K : Fok p m md) (hN : InR .i64 N) (h : spE p m md N rows = e) :
  Ctr Tryz.prog 65 [.agg #[.int .i64 p,.int .i64 m,.slice pm nm cm],.agg #[.int .i64 N,.slice ps n c]] [] [slF I64 pm nm cm md,slF (encSl I64) ps n c rows] (Rv (.int .i64 e) []):=by
 refine Ctr_of_j' (F:=F_space_Check) rfl fun C=>?_
 have hr:=mtE_rng N rows (p ^ m)
 refine j_len 1 rfl fun hn hb _=>?_
 subst hn
 rw [spE] at h
 by_cases h0 : mtE N rows (p ^ m) = 0
 ·rw [if_neg (by omega)] at h
  obtain ⟨k,rfl,hk,hl,hM⟩:=mtE_of h0
  rw [Int.toNat_natCast] at h
  by_cases hc : (cnP p m md k rows).1 = rows
  ·rw [if_pos hc] at h
   subst h
   have c_space_open:=fun {pm ps : Option Addr} {nm cm n c : Nat}=>S_space_open_ok (pm:=pm) (nm:=nm) (cm:=cm) (ps:=ps) (n:=n) (c:=c) (rows:=rows) K hk hl hM hc
   refine j_nf [_,_] rfl (j_step rfl (x_box_agg rfl fun b1=>?_))
   refine j_step rfl (x_box_agg rfl fun b2=>?_)
   refine j_run it 1 rfl (by simp) ?_
   refine j_nf [_,_] rfl (j_step rfl (x_bld_all 1 rfl rfl ld24 rfl ?_))
   refine j_step rfl (x_bld_all 0 rfl rfl ld57 rfl ?_)
   refine j_step rfl (x_call [0,1] rfl (c_space_open) rfl ?_)
   rintro _ _ _ ⟨b3,pg1,cg1,pe1,ce1,pl1,cl1,pp1,cp1,rfl,rfl,rfl⟩
   simp only [List.cons_append,List.nil_append]
   refine j_run it 3 rfl (by simp) ?_
   refine j_step rfl (x_alloc zo123 fun b4=>?_)
   refine j_step rfl (x_bst_all 0 rfl rfl rfl ld123 rfl rfl (by simp [Value.oneCell']) ?_)
   refine j_run it 1 rfl (by simp) ?_
   refine j_nf [_,_] rfl (j_run it 2 rfl (by simp) ?_)
   refine j_nf [_] rfl ?_
   refine j_giv [] rfl rfl rfl ⟨rfl,rfl,rfl⟩
  ·rw [if_neg hc] at h
   subst h
   have c_space_open:=fun {pm ps : Option Addr} {nm cm n c : Nat}=>S_space_open_form (pm:=pm) (nm:=nm) (cm:=cm) (ps:=ps) (n:=n) (c:=c) (rows:=rows) K hk hl hM hc
   refine j_nf [_,_] rfl (j_step rfl (x_box_agg rfl fun b1=>?_))
   refine j_step rfl (x_box_agg rfl fun b2=>?_)
   refine j_run it 1 rfl (by simp) ?_
   refine j_nf [_,_] rfl (j_step rfl (x_bld_all 1 rfl rfl ld24 rfl ?_))
   refine j_step rfl (x_bld_all 0 rfl rfl ld57 rfl ?_)
   refine j_step rfl (x_call [0,1] rfl (c_space_open) rfl ?_)
   rintro _ _ _ ⟨rfl,rfl,rfl⟩
   simp only [List.cons_append,List.nil_append]
   refine j_run it 3 rfl (by simp) ?_
   refine j_step rfl (x_alloc zo123 fun b3=>?_)
   refine j_step rfl (x_bst_all 0 rfl rfl rfl ld123 rfl rfl (by simp [Value.oneCell']) ?_)
   refine j_run it 1 rfl (by simp) ?_
   refine j_nf [_,_] rfl (j_run it 2 rfl (by simp) ?_)
   refine j_nf [_] rfl ?_
   refine j_giv [] rfl rfl rfl ⟨rfl,rfl,rfl⟩
 ·rw [if_pos h0] at h
  subst h
  have c_space_open:=fun {pm ps : Option Addr} {nm cm n c : Nat}=>S_space_open_bad (pm:=pm) (nm:=nm) (cm:=cm) (ps:=ps) (n:=n) (c:=c) (rows:=rows) K hN rfl h0
  refine j_nf [_,_] rfl (j_step rfl (x_box_agg rfl fun b1=>?_))
  refine j_step rfl (x_box_agg rfl fun b2=>?_)
  refine j_run it 1 rfl (by simp) ?_
  refine j_nf [_,_] rfl (j_step rfl (x_bld_all 1 rfl rfl ld24 rfl ?_))
  refine j_step rfl (x_bld_all 0 rfl rfl ld57 rfl ?_)
  refine j_step rfl (x_call [0,1] rfl (c_space_open) rfl ?_)
  rintro _ _ _ ⟨rfl,rfl,rfl⟩
  simp only [List.cons_append,List.nil_append]
  refine j_run it 3 rfl (by simp) ?_
  refine j_step rfl (x_alloc zo123 fun b3=>?_)
  refine j_step rfl (x_bst_all 0 rfl rfl rfl ld123 rfl rfl (by simp [Value.oneCell']) ?_)
  refine j_run it 1 rfl (by simp) ?_
  refine j_nf [_,_] rfl (j_run it 2 rfl (by simp) ?_)
  refine j_nf [_] rfl ?_
  refine j_giv [] rfl rfl rfl ⟨rfl,rfl,rfl⟩
end
noncomputable def ckE (P M : Int) (md : List Int) (N : Int) (rows : List (List Int)) : Int :=
 open Classical in if ¬ chkF P M md then 1 else if N < 1 ∨ 64 < N then 4 else spE P.toNat M.toNat md N rows
theorem S_code_Check {P M N e : Int} {pm ps : Option Addr} {nm cm n c : Nat} {md : List Int} {rows : List (List Int)} (hN : InR .i64 N) (h : ckE P M md N rows = e) :
  Ctr Tryz.prog 35 [.agg #[.int .i64 P,.int .i64 M,.slice pm nm cm,.int .i64 N,.slice ps n c]] [] [slF I64 pm nm cm md,slF (encSl I64) ps n c rows] (Rv (.int .i64 e) []):=by
 refine Ctr_of_j' (F:=F_code_Check) rfl fun C=>?_
 rw [ckE] at h
 by_cases hc : chkF P M md
 ·rw [if_neg (fun h=>h hc)] at h
  obtain ⟨p,m,rfl,rfl,K⟩:=chk_ok hc
  rw [Int.toNat_natCast,Int.toNat_natCast] at h
  have c_field_Check:=fun {pm : Option Addr} {nm cm : Nat}=>S_field_Check_ok (pm:=pm) (nm:=nm) (cm:=cm) K
  by_cases h1 : N < 1 ∨ 64 < N
  ·rw [if_pos h1] at h
   subst h
   have c_code_length:=S_code_length (n:=N) (if_pos h1)
   refine j_nf [_,_] rfl ?_
   refine j_step rfl (x_box_agg rfl fun b1=>?_)
   refine j_run it 1 rfl (by simp) ?_
   refine j_nf [_,_,_] rfl ?_
   refine j_step rfl (x_field rfl fd27_0 ?_)
   refine j_step rfl (x_bld_agg 0 rfl rfl ld24 rfl rfl ?_)
   refine j_step rfl (x_call [0] rfl (c_field_Check) rfl ?_)
   rintro _ _ _ ⟨rfl,rfl,rfl⟩
   simp only [List.cons_append,List.nil_append]
   refine j_run it 1 rfl (by simp) ?_
   refine j_nf [_,_] rfl ?_
   refine j_ifn rfl rfl (fun h2=>by exfalso;omega) (fun h2=>?_)
   refine j_nf [_,_,_] rfl ?_
   refine j_step rfl (x_field rfl fd27_1 ?_)
   refine j_step rfl (x_bld 0 rfl rfl ld3 rfl ?_)
   refine j_step rfl (x_call [] rfl (c_code_length) rfl ?_)
   rintro _ _ _ ⟨rfl,rfl,rfl⟩
   simp only [List.cons_append,List.nil_append]
   simp only [decide_true]
   refine j_run it 1 rfl (by simp) ?_
   refine j_nf [_,_,_] rfl ?_
   refine j_run it 2 rfl (by simp) ?_
   refine j_nf [_,_] rfl ?_
   refine j_ifn rfl rfl (fun h3=>?_) (fun h3=>by exfalso;omega)
   refine j_nf [_,_,_] rfl ?_
   refine j_run it 2 rfl (by simp) ?_
   refine j_nf [_,_] rfl ?_
   refine j_giv [] rfl rfl rfl ⟨rfl,rfl,rfl⟩
  ·rw [if_neg h1] at h
   have c_code_length:=S_code_length (n:=N) (if_neg h1)
   have c_space_Check:=fun {pm ps : Option Addr} {nm cm n c : Nat}=>S_space_Check (pm:=pm) (nm:=nm) (cm:=cm) (ps:=ps) (n:=n) (c:=c) (rows:=rows) K hN h
   refine j_nf [_,_] rfl ?_
   refine j_step rfl (x_box_agg rfl fun b1=>?_)
   refine j_run it 1 rfl (by simp) ?_
   refine j_nf [_,_,_] rfl ?_
   refine j_step rfl (x_field rfl fd27_0 ?_)
   refine j_step rfl (x_bld_agg 0 rfl rfl ld24 rfl rfl ?_)
   refine j_step rfl (x_call [0] rfl (c_field_Check) rfl ?_)
   rintro _ _ _ ⟨rfl,rfl,rfl⟩
   simp only [List.cons_append,List.nil_append]
   refine j_run it 1 rfl (by simp) ?_
   refine j_nf [_,_] rfl ?_
   refine j_ifn rfl rfl (fun h2=>by exfalso;omega) (fun h2=>?_)
   refine j_nf [_,_,_] rfl ?_
   refine j_step rfl (x_field rfl fd27_1 ?_)
   refine j_step rfl (x_bld 0 rfl rfl ld3 rfl ?_)
   refine j_step rfl (x_call [] rfl (c_code_length) rfl ?_)
   rintro _ _ _ ⟨rfl,rfl,rfl⟩
   simp only [List.cons_append,List.nil_append]
   simp only [decide_true]
   refine j_run it 1 rfl (by simp) ?_
   refine j_nf [_,_,_] rfl ?_
   refine j_run it 2 rfl (by simp) ?_
   refine j_nf [_,_] rfl ?_
   refine j_ifn rfl rfl (fun h3=>by exfalso;omega) (fun h3=>?_)
   refine j_nf [_,_] rfl ?_
   (apply j_drawK it mx 5;(· rfl);(· rfl))
   (apply lxk_eq;(· rfl);(· exact d_x fun _=>x_field rfl fd27_0 dk_eq))
   (apply lxk_eq;(· rfl);(· exact d_bld_agg 0 rfl rfl ld24 rfl rfl))
   (apply lxk_eq;(· rfl);(· exact d_bld_all 0 rfl rfl ld27 rfl))
   (apply lxk_eq;(· rfl);(· exact d_x fun _=>x_call [] rfl (S_code_gen) rfl (by rintro _ _ _ ⟨rfl,rfl,rfl⟩;exact dk_eq)))
   (apply lxk_eq;(· rfl);(· exact d_x fun _=>x_call [0,1] rfl (c_space_Check) rfl (by rintro _ _ _ ⟨rfl,rfl,rfl⟩;exact dk_eq)))
   refine lxk_end rfl ?_
   simp only [List.map_cons,List.map_nil,List.cons_append,List.nil_append]
   refine j_run it 1 rfl (by simp) ?_
   refine j_nf [_] rfl ?_
   refine j_giv [] rfl rfl rfl ⟨rfl,rfl,rfl⟩
 ·rw [if_pos hc] at h
  subst h
  have c_field_Check:=fun {pm : Option Addr} {nm cm : Nat}=>S_field_Check_err (pm:=pm) (nm:=nm) (cm:=cm) hc
  refine j_nf [_,_] rfl ?_
  refine j_step rfl (x_box_agg rfl fun b1=>?_)
  refine j_run it 1 rfl (by simp) ?_
  refine j_nf [_,_,_] rfl ?_
  refine j_step rfl (x_field rfl fd27_0 ?_)
  refine j_step rfl (x_bld_agg 0 rfl rfl ld24 rfl rfl ?_)
  refine j_step rfl (x_call [0] rfl (c_field_Check) rfl ?_)
  rintro _ _ _ ⟨rfl,rfl,rfl⟩
  simp only [List.cons_append,List.nil_append]
  refine j_run it 1 rfl (by simp) ?_
  refine j_nf [_,_] rfl ?_
  refine j_ifn rfl rfl (fun h1=>?_) (fun h1=>by exfalso;omega)
  refine j_nf [_,_,_] rfl ?_
  refine j_run it 1 rfl (by simp) ?_
  refine j_nf [_,_] rfl ?_
  refine j_giv [] rfl rfl rfl ⟨rfl,rfl,rfl⟩
structure Cok (p m : Nat) (md : List Int) (n : Nat) (rows : List (List Int)) : Prop where
 K : Fok p m md
 n1 : 1 ≤ n
 n64 : n ≤ 64
 mat : Mat (p ^ m) n rows
 can : (cnP p m md n rows).1 = rows
theorem Cok.red {p m n : Nat} {md : List Int} {rows : List (List Int)} (h : Cok p m md n rows) : Red (p ^ m) n rows (cnP p m md n rows).2 ∧ rows.length = (cnP p m md n rows).2.length:=by
 have O:=fok_fo h.K
 have h1 : Red (p ^ m) n (cnP p m md n rows).1 (cnP p m md n rows).2:=(O.cn h.mat).1
 have h2 : (cnP p m md n rows).1.length = (cnP p m md n rows).2.length:=O.cn_len h.mat
 rw [h.can] at h1 h2
 exact ⟨h1,h2⟩
theorem Cok.len {p m n : Nat} {md : List Int} {rows : List (List Int)} (h : Cok p m md n rows) : rows.length ≤ 64:=by
 obtain ⟨h1,h2⟩:=h.red
 have:=h1.piv_le
 have:=h.n64
 omega
theorem ck_of {P M N : Int} {md : List Int} {rows : List (List Int)} (h : ckE P M md N rows = 0) : ∃ p m n : Nat,P = p ∧ M = m ∧ N = n ∧ Cok p m md n rows:=by
 rw [ckE] at h
 by_cases hc : chkF P M md
 ·rw [if_neg (fun h=>h hc)] at h
  obtain ⟨p,m,rfl,rfl,K⟩:=chk_ok hc
  rw [Int.toNat_natCast,Int.toNat_natCast] at h
  by_cases h1 : N < 1 ∨ 64 < N
  ·rw [if_pos h1] at h;omega
  ·rw [if_neg h1,spE] at h
   by_cases h0 : mtE N rows (p ^ m) = 0
   ·rw [if_neg (by omega)] at h
    obtain ⟨k,rfl,hk,hl,hM⟩:=mtE_of h0
    rw [Int.toNat_natCast] at h
    by_cases hcn : (cnP p m md k rows).1 = rows
    ·exact ⟨p,m,k,rfl,rfl,rfl,K,by omega,by omega,hM,hcn⟩
    ·rw [if_neg hcn] at h;omega
   ·rw [if_pos h0] at h;omega
 ·rw [if_pos hc] at h;omega
theorem Cok.ck {p m n : Nat} {md : List Int} {rows : List (List Int)} (h : Cok p m md n rows) : ckE p m md n rows = 0:=by
 have hl:=h.len
 have h1:=h.n1
 have h2:=h.n64
 rw [ckE,if_neg (fun e=>e (fok_chk h.K)),if_neg (by omega),Int.toNat_natCast,Int.toNat_natCast,spE,mtE_ok (by omega) (by omega) h.mat,if_neg (by omega),Int.toNat_natCast,if_pos h.can]
theorem ckE_rng (P M : Int) (md : List Int) (N : Int) (rows : List (List Int)) : 0 ≤ ckE P M md N rows ∧ ckE P M md N rows ≤ 5:=by
 rw [ckE]
 split
 ·omega
 ·split
  ·omega
  ·have:=mtE_rng N rows (P.toNat ^ M.toNat)
   rw [spE]
   repeat' split
   all_goals omega
open Go Go.Fw
set_option maxRecDepth 100000
set_option linter.unusedVariables false
set_option linter.unusedSimpArgs false
set_option maxHeartbeats 8000000
theorem othL_mem {n : Nat} {ls : List (List Int)} {x : Int} : x ∈ othL n ls ↔ (0 ≤ x ∧ x < n) ∧ ∀ l ∈ ls,x ∉ l:=by
 rw [othL,List.mem_map]
 constructor
 ·rintro ⟨i,hi,rfl⟩
  obtain ⟨h1,h2⟩:=List.mem_filter.1 hi
  refine ⟨⟨by omega,by have:=List.mem_range.1 h1;omega⟩,fun l hl hx=>?_⟩
  rw [othB,List.any_eq_true.2 ⟨l,hl,decide_eq_true hx⟩] at h2
  cases h2
 ·rintro ⟨⟨h0,h1⟩,h2⟩
  refine ⟨x.toNat,List.mem_filter.2 ⟨List.mem_range.2 (by omega),?_⟩,by omega⟩
  rw [othB]
  cases h : ls.any fun l=>decide (((x.toNat : Nat) : Int) ∈ l) with
  | false=>rfl
  | true =>
   obtain ⟨l,hl,hx⟩:=List.any_eq_true.1 h
   rw [Int.toNat_of_nonneg h0] at hx
   exact absurd (of_decide_eq_true hx) (h2 l hl)
theorem othL_len (n : Nat) (ls : List (List Int)) : (othL n ls).length ≤ n:=by
 rw [othL,List.length_map];have:=List.length_filter_le (othB ls) (List.range n);rwa [List.length_range] at this
theorem othL_st (n : Nat) (ls : List (List Int)) : stP n (othL n ls):=by
 refine ⟨fun x hx=>(othL_mem.1 hx).1,?_⟩
 rw [othL,List.pairwise_map]
 refine List.Pairwise.sublist List.filter_sublist ?_
 refine List.pairwise_lt_range.imp fun h=>?_
 omega
theorem trL_col {rows : List (List Int)} {O : List Int} : trL O.length (rows.map fun r=>O.map fun j=>at0 r j.toNat) = O.map fun j=>colL rows j.toNat:=by
 refine List.ext_getElem (by simp [trL]) fun i h1 h2=>?_
 have hi : i < O.length:=by simpa using h2
 simp only [trL,List.getElem_map,List.getElem_range,colL,List.map_map]
 refine List.map_congr_left fun r _=>?_
 show at0 (O.map fun j=>at0 r j.toNat) i = at0 r O[i].toNat
 rw [at0,List.getD_eq_getElem?_getD,List.getElem?_map,List.getElem?_eq_getElem hi];rfl
abbrev wiP (p m : Nat) (md : List Int) (n : Nat) (gen : List (List Int)) (hs : List Int) : List (List Int):=wiL (liftI (fA p m)) (liftI (fM p (fpo m md))) (negI p m) (invI p m md) n gen (hs.map fun j=>colL gen j.toNat)
theorem cnP_len {p m n : Nat} {md : List Int} {rows : List (List Int)} (K : Fok p m md) (hM : Mat (p ^ m) n rows) : (cnP p m md n rows).1.length = (cnP p m md n rows).2.length ∧ (cnP p m md n rows).2.length ≤ n:=by
 have O:=fok_fo K
 have h1 : Red (p ^ m) n (cnP p m md n rows).1 (cnP p m md n rows).2:=(O.cn hM).1
 exact ⟨O.cn_len hM,h1.piv_le⟩
theorem nuP_len {p m n : Nat} {md : List Int} {rows : List (List Int)} (K : Fok p m md) (hM : Mat (p ^ m) n rows) : (nuP p m md n rows).length ≤ n:=by
 have O:=fok_fo K
 have h1 : Mat (p ^ m) n (nvL (negI p m) n (cnP p m md n rows)):=O.nv_mat (O.cn hM).1
 obtain ⟨h2,h3⟩:=cnP_len K h1
 show (cnP p m md n (nvL (negI p m) n (cnP p m md n rows))).1.length ≤ n
 omega
theorem S_space_Supported_ok {p m n c nm cm N ns cs' : Nat} {pm ps pt : Option Addr} {md set : List Int} {rows : List (List Int)} (CC : Cok p m md N rows) (hst : stP N set) :
  Ctr Tryz.prog 96 [.agg #[.int .i64 p,.int .i64 m,.slice pm nm cm],.agg #[.int .i64 N,.slice ps n c],.slice pt ns cs'] [] [slF I64 pm nm cm md,slF (encSl I64) ps n c rows,slF I64 pt ns cs' set]
   (fun v Φ β=>∃ (pb : Option Addr) (cb : Nat),v = .tuple #[.agg #[.int .i64 N,.slice pb (wiP p m md N rows (othL N [set])).length cb],.int .i64 0] ∧ Φ = [slF (encSl I64) pb (wiP p m md N rows (othL N [set])).length cb (wiP p m md N rows (othL N [set]))] ∧ β = []):=by
 refine Ctr_of_j' (F:=F_space_Supported) rfl fun C=>?_
 have K:=CC.K
 have O:=fok_fo K
 have hq:=K.q
 have hN : N ≤ 256:=by have:=CC.n64;omega
 have hl : rows.length ≤ 256:=by have:=CC.len;omega
 have hM:=CC.mat
 refine j_len 1 rfl fun hn hb _=>?_
 subst hn
 refine j_len 2 rfl fun hn hb2 _=>?_
 subst hn
 have hb' : rows.length * 24 ≤ 140737488355328:=hb
 have hb2' : set.length * 8 ≤ 140737488355328:=hb2
 have c_space_open:=fun {pm ps : Option Addr} {nm cm n c : Nat}=>S_space_open_ok (pm:=pm) (nm:=nm) (cm:=cm) (ps:=ps) (n:=n) (c:=c) (rows:=rows) K hN hl hM CC.can
 refine j_nf [_,_] rfl (j_step rfl (x_box_agg rfl fun b1=>?_))
 refine j_step rfl (x_box_agg rfl fun b2=>?_)
 refine j_step rfl (x_alloc zo57 fun b3=>?_)
 refine j_run it 1 rfl (by simp) ?_
 refine j_nf [_,_,_] rfl (j_step rfl (x_bld_all 2 rfl rfl ld24 rfl ?_))
 refine j_step rfl (x_bld_all 1 rfl rfl ld57 rfl ?_)
 refine j_step rfl (x_call [0,1] rfl (c_space_open) rfl ?_)
 rintro _ _ _ ⟨b4,pg1,cg1,pe1,ce1,pl1,cl1,pp1,cp1,rfl,rfl,rfl⟩
 simp only [List.cons_append,List.nil_append]
 refine j_run it 3 rfl (by simp) ?_
 refine j_step rfl (x_alloc zo123 fun b5=>?_)
 refine j_step rfl (x_bst_all 0 rfl rfl rfl ld123 rfl rfl (by simp [Value.oneCell']) ?_)
 refine j_run it 1 rfl (by simp) ?_
 refine j_nf [_,_,_] rfl (j_run it 2 rfl (by simp) ?_)
 refine j_nf [_,_] rfl (j_ifn rfl rfl (fun h1=>by exfalso;omega) (fun h1=>?_))
 refine j_nf [_,_,_] rfl (j_run it 1 rfl (by simp) ?_)
 refine j_step rfl (x_len sl22 rfl ?_)
 refine j_run it 1 rfl (by simp) ?_
 refine j_nf [_,_,_] rfl ?_
 refine j_loopG (X:=Nat) [2,3,4,6,30,31] [0,1,2,3,4,5,6,7] (fun i=>[(32,.int .i64 (i : Int))]) (fun _=>_) (fun _=>[]) (fun i=>i ≤ set.length) (fun i=>set.length - i) 0 [] rfl rfl rfl (Nat.zero_le _) (by repeat (first | exact Fr.sub_nil _ | refine Fr.sub_cons rfl ?_)) rfl rfl ?_
 rintro i hi ih
 simp only [List.cons_append,List.nil_append] at hi ih ⊢
 by_cases h9 : i < set.length
 ·obtain ⟨x,at_x⟩ : ∃ x,set[i]? = some x:=⟨_,List.getElem?_eq_getElem h9⟩
  obtain ⟨⟨x0,x1⟩,x2⟩:=stP_iff.1 hst i h9 x at_x
  rcases Nat.eq_zero_or_pos i with hi0 | hi0
  ·subst hi0
   refine j_nf [_,_,_,_,_] rfl (j_run it 1 rfl (by simp) ?_)
   refine j_nf [_,_,_,_,_] rfl (j_if rfl rfl (fun h2=>?_) (fun h2=>by exfalso;omega))
   refine j_nf [_,_,_,_,_,_,_] rfl (j_run it 1 rfl (by simp) ?_)
   refine j_step rfl (x_idx 7 (0) rfl rfl rfl sl22 rfl (by omega) fun z1 hz1 b6 o1=>?_)
   obtain rfl : _ = z1:=Option.some.inj (at_x.symm.trans hz1)
   refine j_step rfl (x_ld_int 0 rfl rfl ld3 fun ⟨r1,r2⟩=>?_)
   refine j_run it 2 rfl (by simp) ?_
   refine j_nf [_,_,_,_,_,_,_] rfl (j_run it 3 rfl (by simp) ?_)
   refine j_split_dec (t:=39) rfl (fun h3=>by exfalso;omega) (fun h3=>?_)
   refine j_run it 1 rfl (by simp) ?_
   refine j_gstep rfl rfl (x_field rfl fd57_0 ?_)
   refine j_gstep rfl rfl (x_bld 2 rfl rfl ld3 rfl ?_)
   refine j_run it 3 rfl (by simp) ?_
   refine j_split_dec (t:=45) rfl (fun h4=>by exfalso;omega) (fun h4=>?_)
   refine j_run it 12 rfl (by simp) ?_
   refine j_nf [_,_,_,_,_,_] rfl ?_
   refine j_false rfl rfl ?_
   refine j_nf [_,_,_,_] rfl (j_run it 2 rfl ⟨trivial,⟨by omega,by omega⟩,trivial⟩ ?_)
   refine j_nfn 1 [.lp (pL 116),.blk 0,.c [1,1,1]] rfl ?_
   refine j_to [1,2,3,4,5,6,7,8] (by exact fra rfl) rfl rfl (ih 1 (by omega) (by omega))
  ·obtain ⟨k,rfl⟩ : ∃ k,i = k + 1:=⟨i - 1,by omega⟩
   obtain ⟨y,at_y⟩ : ∃ y,set[k]? = some y:=⟨_,List.getElem?_eq_getElem (by omega)⟩
   have hxy:=x2 y (by omega) at_y
   refine j_nf [_,_,_,_,_] rfl (j_run it 1 rfl (by simp) ?_)
   refine j_nf [_,_,_,_,_] rfl (j_if rfl rfl (fun h2=>?_) (fun h2=>by exfalso;omega))
   refine j_nf [_,_,_,_,_,_,_] rfl (j_run it 1 rfl (by simp) ?_)
   refine j_step rfl (x_idx 7 (k + 1) rfl rfl rfl sl22 rfl (by omega) fun z1 hz1 b6 o1=>?_)
   obtain rfl : _ = z1:=Option.some.inj (at_x.symm.trans hz1)
   refine j_step rfl (x_ld_int 0 rfl rfl ld3 fun ⟨r1,r2⟩=>?_)
   refine j_run it 2 rfl (by simp) ?_
   refine j_nf [_,_,_,_,_,_,_] rfl (j_run it 3 rfl (by simp) ?_)
   refine j_split_dec (t:=39) rfl (fun h3=>by exfalso;omega) (fun h3=>?_)
   refine j_run it 1 rfl (by simp) ?_
   refine j_gstep rfl rfl (x_field rfl fd57_0 ?_)
   refine j_gstep rfl rfl (x_bld 2 rfl rfl ld3 rfl ?_)
   refine j_run it 3 rfl (by simp) ?_
   refine j_split_dec (t:=45) rfl (fun h4=>by exfalso;omega) (fun h4=>?_)
   refine j_run it 3 rfl (by simp) ?_
   refine j_split_dec (t:=48) rfl (fun h5=>?_) (fun h5=>by exfalso;omega)
   refine j_run it 4 rfl ⟨⟨by omega,by omega⟩,trivial,trivial,trivial,trivial⟩ ?_
   refine j_gstep rfl rfl (x_idx 8 ((k + 1) - 1) rfl rfl rfl sl22 (by omega) (by omega) fun z1 hz2 b7 o2=>?_)
   obtain rfl : _ = z1:=Option.some.inj (at_y.symm.trans hz2)
   refine j_gstep rfl rfl (x_ld_int 0 rfl rfl ld3 fun ⟨r3,r4⟩=>?_)
   refine j_run it 3 rfl (by simp) ?_
   refine j_nf [_,_,_,_,_,_] rfl (j_if rfl rfl (fun h6=>by exfalso;omega) (fun h6=>?_))
   refine j_nf [_,_,_,_] rfl (j_run it 2 rfl ⟨trivial,⟨by omega,by omega⟩,trivial⟩ ?_)
   refine j_nfn 1 [.lp (pL 116),.blk 0,.c [1,1,1]] rfl ?_
   refine j_to [2,3,4,5,6,7,8,9] (by exact fra rfl) rfl rfl (ih (k + 2) (by omega) (by omega))
 ·clear ih
  have hle:=fun k=>othL_len k [set]
  have hos:=othL_succ
  refine j_nf [_,_,_,_,_] rfl (j_run it 1 rfl (by simp) ?_)
  refine j_nf [_,_,_,_,_] rfl (j_if rfl rfl (fun h2=>by exfalso;omega) (fun h2=>?_))
  refine j_nf [_,_] rfl (j_run it 1 rfl (by simp) ?_)
  refine j_nf [_,_,_] rfl (j_step rfl (x_field rfl fd57_0 ?_))
  refine j_step rfl (x_bld 2 rfl rfl ld3 rfl ?_)
  refine j_run it 1 rfl (by simp) ?_
  refine j_nf [_,_,_] rfl ?_
  refine j_row0 I64 3 ?_
  refine j_loopG (X:=Nat × Row) [2,3,4,6,61] [0,1,2,3,4,5,6,7,8] (fun x=>[(62,.int .i64 (x.1 : Int)),(12,.slice (ad x.2.bo) (othL x.1 [set]).length x.2.cap)]) (fun x=>(x.2.bo,3,x.2.cs)::_) (fun x=>[rowF I64 x.2 (othL x.1 [set]).length (othL x.1 [set])]) (fun x=>x.1 ≤ N) (fun x=>N - x.1) (0,⟨none,0,[]⟩) [0] rfl rfl rfl (Nat.zero_le _) (by repeat (first | exact Fr.sub_nil _ | refine Fr.sub_cons rfl ?_)) rfl rfl ?_
  rintro ⟨k,r⟩ hk ih
  simp only [List.cons_append,List.nil_append] at hk ih ⊢
  by_cases h9 : k < N
  ·have hk1:=hle k
   have ih':=fun r=>ih (k + 1,r)
   simp only [hos] at ih'
   have hB : othB [set] k = !decide ((k : Int) ∈ set):=by simp [othB]
   by_cases hm : (k : Int) ∈ set
   ·have hd : decide ((k : Int) ∈ set) = true:=decide_eq_true hm
    rw [hB,hd,Bool.not_true,if_neg (by simp),List.append_nil] at ih'
    refine j_nf [_,_,_,_,_] rfl (j_run it 1 rfl (by simp) ?_)
    refine j_nf [_,_,_,_,_] rfl (j_if rfl rfl (fun h3=>?_) (fun h3=>by exfalso;omega))
    refine j_nf [_,_,_,_,_,_,_] rfl (j_run it 2 rfl (by simp) ?_)
    refine j_nf [_,_,_,_,_,_,_] rfl (j_run it 2 rfl (by simp) ?_)
    refine j_step rfl (x_call [9] rfl (S_slices_Contains___int_int_ (by omega)) rfl ?_)
    rintro _ _ _ ⟨rfl,rfl,rfl⟩
    simp only [List.cons_append,List.nil_append]
    refine j_run it 1 rfl (by simp) ?_
    refine j_nf [_,_,_,_,_,_] rfl ?_
    refine j_false rfl rfl ?_
    refine j_nf [_,_,_,_] rfl (j_run it 2 rfl ⟨trivial,⟨by omega,by omega⟩,trivial⟩ ?_)
    refine j_nfn 1 [.lp (pL 500),.blk 2,.c [1,1,1,1,1]] rfl ?_
    refine j_to [0,1,2,3,4,5,6,7,8,9] (by exact fra rfl) rfl rfl (ih' r (by omega) (by omega))
   ·have hd : decide ((k : Int) ∈ set) = false:=decide_eq_false hm
    rw [hB,hd,Bool.not_false,if_pos rfl] at ih'
    simp only [List.length_append,List.length_singleton] at ih'
    refine j_nf [_,_,_,_,_] rfl (j_run it 1 rfl (by simp) ?_)
    refine j_nf [_,_,_,_,_] rfl (j_if rfl rfl (fun h3=>?_) (fun h3=>by exfalso;omega))
    refine j_nf [_,_,_,_,_,_,_] rfl (j_run it 2 rfl (by simp) ?_)
    refine j_nf [_,_,_,_,_,_,_] rfl (j_run it 2 rfl (by simp) ?_)
    refine j_step rfl (x_call [9] rfl (S_slices_Contains___int_int_ (by omega)) rfl ?_)
    rintro _ _ _ ⟨rfl,rfl,rfl⟩
    simp only [List.cons_append,List.nil_append]
    refine j_run it 1 rfl (by simp) ?_
    refine j_nf [_,_,_,_,_,_] rfl ?_
    refine j_true rfl rfl ?_
    refine j_nf [_,_,_,_,_,_] rfl (j_run it 2 rfl (by simp) ?_)
    refine j_step rfl (x_lit sl22 zo22e rfl rfl rfl rfl (by decide) (by decide) rfl fun b6=>?_)
    refine j_step rfl (x_appR (z:=(↑k : Int)) 1 0 0 rfl rfl rfl rfl rfl sl22 zo22e rfl (fun w A hG=>(rd_int (by first | (simp only [InR];omega) | (simp [InR];done)))) (by omega) _ by22e (by omega) fun r1=>?_)
    refine j_run it 1 rfl (by simp) ?_
    refine j_nf [_,_,_,_] rfl (j_run it 2 rfl ⟨trivial,⟨by omega,by omega⟩,trivial⟩ ?_)
    refine j_nfn 1 [.lp (pL 500),.blk 2,.c [1,1,1,1,1]] rfl ?_
    refine j_toM [true,false,true,true,true,true] [0,2,3,4,5,6,7,8,9,10] (by exact fra rfl) rfl rfl (ih' r1 (by omega) (by omega))
  ·obtain rfl : k = N:=by omega
   clear ih
   have hk1:=hle k
   have hot : ∀ x ∈ othL k [set],0 ≤ x ∧ x < (k : Int):=fun x hx=>(othL_mem.1 hx).1
   generalize othL k [set] = T at *
   refine j_pubR 0 0 rfl rfl (by show T.length * 8 ≤ 140737488355328;omega) ?_
   have c_matrix_Columns:=fun {pm ps pt : Option Addr} {nm cm n c ns cs' : Nat}=>S_matrix_Columns_ok (pm:=pm) (nm:=nm) (cm:=cm) (ps:=ps) (n:=n) (c:=c) (pt:=pt) (ns:=ns) (cs':=cs') (rows:=rows) (set:=T) K hN hl hM (by omega) hot
   have hq0 : 0 < p ^ m:=by have:=O.q2;omega
   have hM1 : Mat (p ^ m) T.length (rows.map fun r=>T.map fun j=>at0 r j.toNat):=fun r hr=>by
    obtain ⟨u,hu,rfl⟩:=List.mem_map.1 hr
    refine ⟨List.length_map _,fun x hx=>?_⟩
    obtain ⟨j,_,rfl⟩:=List.mem_map.1 hx
    exact wd_at hq0 (hM u hu) _
   have c_matrix_Transpose:=fun {pm ps : Option Addr} {nm cm n c : Nat}=>S_matrix_Transpose_ok (pm:=pm) (nm:=nm) (cm:=cm) (ps:=ps) (n:=n) (c:=c) (rows:=rows.map fun r=>T.map fun j=>at0 r j.toNat) (N:=T.length) K (by omega) (by rw [List.length_map];exact hl) hM1
   simp only [trL_col,List.length_map] at c_matrix_Transpose
   have hM2 : Mat (p ^ m) rows.length (T.map fun j=>colL rows j.toNat):=fun r hr=>by
    obtain ⟨j,_,rfl⟩:=List.mem_map.1 hr
    exact wd_col hq0 hM _
   have c_matrix_Kernel:=fun {pm ps : Option Addr} {nm cm n c : Nat}=>S_matrix_Kernel_ok (pm:=pm) (nm:=nm) (cm:=cm) (ps:=ps) (n:=n) (c:=c) (rows:=T.map fun j=>colL rows j.toNat) (N:=rows.length) K hl (by rw [List.length_map];omega) hM2
   have hM3 : Mat (p ^ m) rows.length (nuP p m md rows.length (T.map fun j=>colL rows j.toNat)):=(O.nu hM2).1
   have hl3 : (nuP p m md rows.length (T.map fun j=>colL rows j.toNat)).length ≤ 256:=by
    have:=nuP_len K hM2
    omega
   have hW : woL (liftI (fA p m)) (liftI (fM p (fpo m md))) (negI p m) (invI p m md) k rows (T.map fun j=>colL rows j.toNat) = (nuP p m md rows.length (T.map fun j=>colL rows j.toNat)).map fun x=>cbP p m md k x rows:=rfl
   have hM4:=O.wo_mat (n:=k) hM hM2
   have hlen4:=(cnP_len K hM4).1
   rw [show wiP p m md k rows T = (cnP p m md k (woL (liftI (fA p m)) (liftI (fM p (fpo m md))) (negI p m) (invI p m md) k rows (T.map fun j=>colL rows j.toNat))).1 from rfl,hlen4]
   have hM4' : Mat (p ^ m) k (woL (liftI (fA p m)) (liftI (fM p (fpo m md))) (negI p m) (invI p m md) k rows (T.map fun j=>colL rows j.toNat)):=hM4
   have hl4 : (woL (liftI (fA p m)) (liftI (fM p (fpo m md))) (negI p m) (invI p m md) k rows (T.map fun j=>colL rows j.toNat)).length ≤ 256:=by rw [hW,List.length_map];exact hl3
   have c_matrix_Canonical:=fun {pm ps : Option Addr} {nm cm n c : Nat}=>S_matrix_Canonical_ok (pm:=pm) (nm:=nm) (cm:=cm) (ps:=ps) (n:=n) (c:=c) K hN hl4 hM4'
   have c_matrix_Mul:=fun {pm ps p2 : Option Addr} {nm cm n c n2 c2 : Nat}=>S_matrix_Mul_ok (pm:=pm) (nm:=nm) (cm:=cm) (ps:=ps) (n:=n) (c:=c) (p2:=p2) (n2:=n2) (c2:=c2) (N:=k) K hN hl hM hl3 rfl hM3
   rw [hW] at *
   have hMl : ((nuP p m md rows.length (T.map fun j=>colL rows j.toNat)).map fun x=>cbP p m md k x rows).length = (nuP p m md rows.length (T.map fun j=>colL rows j.toNat)).length:=List.length_map _
   clear hW hlen4 hM4 hM4' hl4 hMl
   generalize nuP p m md rows.length (T.map fun j=>colL rows j.toNat) = U at *
   generalize (T.map fun j=>colL rows j.toNat) = H at *
   refine j_nf [_,_,_,_,_] rfl (j_run it 1 rfl (by simp) ?_)
   refine j_nf [_,_,_,_,_] rfl (j_if rfl rfl (fun h3=>by exfalso;omega) (fun h3=>?_))
   refine j_nf [_,_] rfl (j_step rfl (x_bld_all 3 rfl rfl ld24 rfl ?_))
   refine j_step rfl (x_bld_all 2 rfl rfl ld57 rfl ?_)
   refine j_run it 1 rfl (by simp) ?_
   refine j_step rfl (x_call [8,9,0] rfl (c_matrix_Columns) rfl ?_)
   rintro _ _ _ ⟨pb1,cb1,rfl,rfl,rfl⟩
   simp only [List.cons_append,List.nil_append]
   refine j_run it 3 rfl (by simp) ?_
   refine j_step rfl (x_alloc zo57 fun b6=>?_)
   refine j_step rfl (x_bst_all 0 rfl rfl rfl ld57 rfl rfl (by simp [Value.oneCell']) ?_)
   refine j_run it 1 rfl (by simp) ?_
   refine j_nf [_,_,_] rfl (j_run it 2 rfl (by simp) ?_)
   refine j_nf [_,_] rfl (j_ifn rfl rfl (fun h4=>by exfalso;omega) (fun h4=>?_))
   refine j_nf [_,_] rfl (j_step rfl (x_bld_all 4 rfl rfl ld24 rfl ?_))
   refine j_step rfl (x_bld_all 0 rfl rfl ld57 rfl ?_)
   refine j_step rfl (x_call [9,0] rfl (c_matrix_Transpose) rfl ?_)
   rintro _ _ _ ⟨pb2,cb2,rfl,rfl,rfl⟩
   simp only [List.cons_append,List.nil_append]
   simp only [decide_true]
   refine j_run it 3 rfl (by simp) ?_
   refine j_step rfl (x_bst_all 0 rfl rfl rfl ld57 rfl rfl (by simp [Value.oneCell']) ?_)
   refine j_nf [_,_] rfl (j_step rfl (x_field rfl fd57_1 ?_))
   refine j_step rfl (x_bld 3 rfl rfl ld25 rfl ?_)
   refine j_step rfl (x_len sl25 rfl ?_)
   refine j_step rfl (x_field rfl fd57_0 ?_)
   refine j_step rfl (x_bst1 0 rfl rfl rfl rfl ld3 rfl (Nat.le_of_ble_eq_true rfl) ?_)
   refine j_nf [_,_] rfl (j_step rfl (x_bld_all 4 rfl rfl ld24 rfl ?_))
   refine j_step rfl (x_bld_all 0 rfl rfl ld57 rfl ?_)
   refine j_step rfl (x_call [10,0] rfl (c_matrix_Kernel) rfl ?_)
   rintro _ _ _ ⟨pb3,cb3,rfl,rfl,rfl⟩
   simp only [List.cons_append,List.nil_append]
   refine j_run it 3 rfl (by simp) ?_
   refine j_step rfl (x_alloc zo57 fun b7=>?_)
   refine j_step rfl (x_bst_all 0 rfl rfl rfl ld57 rfl rfl (by simp [Value.oneCell']) ?_)
   refine j_run it 1 rfl (by simp) ?_
   refine j_nf [_,_,_] rfl (j_run it 2 rfl (by simp) ?_)
   refine j_nf [_,_] rfl (j_ifn rfl rfl (fun h5=>by exfalso;omega) (fun h5=>?_))
   refine j_nf [_,_] rfl (j_step rfl (x_bld_all 5 rfl rfl ld24 rfl ?_))
   refine j_step rfl (x_bld_all 0 rfl rfl ld57 rfl ?_)
   refine j_step rfl (x_bld_all 4 rfl rfl ld57 rfl ?_)
   refine j_step rfl (x_call [11,0,12] rfl (c_matrix_Mul) rfl ?_)
   rintro _ _ _ ⟨pb4,cb4,rfl,rfl,rfl⟩
   simp only [List.cons_append,List.nil_append]
   simp only [decide_true]
   refine j_run it 3 rfl (by simp) ?_
   refine j_step rfl (x_alloc zo57 fun b8=>?_)
   refine j_step rfl (x_bst_all 0 rfl rfl rfl ld57 rfl rfl (by simp [Value.oneCell']) ?_)
   refine j_run it 1 rfl (by simp) ?_
   refine j_nf [_,_,_] rfl (j_run it 2 rfl (by simp) ?_)
   refine j_nf [_,_] rfl (j_ifn rfl rfl (fun h6=>by exfalso;omega) (fun h6=>?_))
   refine j_nf [_,_] rfl (j_step rfl (x_bld_all 6 rfl rfl ld24 rfl ?_))
   refine j_step rfl (x_bld_all 0 rfl rfl ld57 rfl ?_)
   refine j_step rfl (x_call [12,0] rfl (c_matrix_Canonical) rfl ?_)
   rintro _ _ _ ⟨pb5,pp2,cb5,cp2,rfl,rfl,rfl⟩
   simp only [List.cons_append,List.nil_append]
   simp only [decide_true]
   refine j_run it 4 rfl (by simp) ?_
   refine j_step rfl (x_alloc zo57 fun b9=>?_)
   refine j_step rfl (x_bst_all 0 rfl rfl rfl ld57 rfl rfl (by simp [Value.oneCell']) ?_)
   refine j_run it 2 rfl (by simp) ?_
   refine j_nf [_,_] rfl (j_step rfl (x_bld_all 0 rfl rfl ld57 rfl ?_))
   refine j_run it 1 rfl (by simp) ?_
   refine j_step rfl (x_bst_all 5 rfl rfl rfl ld57 rfl rfl (by simp [Value.oneCell']) ?_)
   refine j_run it 1 rfl (by simp) ?_
   refine j_nf [_] rfl ?_
   refine j_givC [0] rfl (.agg 5 rfl rfl ld57 rfl (.tmp rfl .nil)) rfl ⟨_,_,rfl,rfl,rfl⟩
theorem st_ext : ∀ {l k : List Int},l.Pairwise (· < ·) → k.Pairwise (· < ·) → (∀ x,x ∈ l ↔ x ∈ k) → l = k
 | [],[],_,_,_=>rfl
 | [],y::k,_,_,h=>by have:=(h y).2 (.head _);cases this
 | x::l,[],_,_,h=>by have:=(h x).1 (.head _);cases this
 | x::l,y::k,h1,h2,h=>by
  obtain ⟨a1,a2⟩:=List.pairwise_cons.1 h1
  obtain ⟨b1,b2⟩:=List.pairwise_cons.1 h2
  have e : x = y:=by
   rcases List.mem_cons.1 ((h x).1 (.head _)) with e | hx
   ·exact e
   ·rcases List.mem_cons.1 ((h y).2 (.head _)) with e | hy
    ·exact e.symm
    ·have:=b1 x hx;have:=a1 y hy;omega
  subst e
  rw [st_ext a2 b2 fun z=>?_]
  constructor
  ·intro hz
   rcases List.mem_cons.1 ((h z).1 (.tail _ hz)) with e | hk
   ·have:=a1 z hz;omega
   ·exact hk
  ·intro hz
   rcases List.mem_cons.1 ((h z).2 (.tail _ hz)) with e | hk
   ·have:=b1 z hz;omega
   ·exact hk
theorem oth_oth {n : Nat} {hs : List Int} (h : stP n hs) : othL n [othL n [hs]] = hs:=by
 refine st_ext (othL_st n _).2 h.2 fun x=>?_
 rw [othL_mem]
 constructor
 ·rintro ⟨h0,h1⟩
  have h2:=h1 _ (.head _)
  rw [othL_mem] at h2
  refine Classical.byContradiction fun hx=>h2 ⟨h0,fun l hl=>?_⟩
  rw [List.mem_singleton.1 hl];exact hx
 ·intro hx
  refine ⟨h.1 x hx,fun l hl=>?_⟩
  rw [List.mem_singleton.1 hl,othL_mem]
  exact fun hh=>hh.2 hs (.head _) hx
def nzL (lost : List Int) (w : List Int) : Bool:=lost.any fun x=>decide (w.getD x.toNat 0 ≠ 0)
abbrev wtP (p m : Nat) (md : List Int) (n : Nat) (gen : List (List Int)) (lost hs : List Int) : Option (List Int):=(wiP p m md n gen hs).find? (nzL lost)
abbrev WtQ (n : Nat) (o : Option (List Int)) : Value → List Fact → List Blk → Prop:=fun v Φ β=>∃ (pa : Option Addr) (k ca : Nat),v = .slice pa k ca ∧ Φ = [slF I64 pa k ca (o.getD [])] ∧ β = [] ∧ (pa = none ↔ o = none) ∧ (o = none → k = 0 ∧ ca = 0)
theorem fok_fn {p m : Nat} {md : List Int} (K : Fok p m md) : FO (p ^ m) (liftI (fA p m)) (liftI (fM p (fpo m md))) (negI p m) (invI p m md):=fok_fo K
theorem hs_mat {p m n : Nat} {md : List Int} {gen : List (List Int)} (CC : Cok p m md n gen) (hs : List Int) : Mat (p ^ m) gen.length (hs.map fun j=>colL gen j.toNat):=fun r hr=>by
 have hq:=(fok_fo CC.K).q2
 obtain ⟨j,_,rfl⟩:=List.mem_map.1 hr
 exact wd_col (by omega) CC.mat _
theorem wi_len {p m n : Nat} {md : List Int} {gen : List (List Int)} (CC : Cok p m md n gen) (hs : List Int) : (wiP p m md n gen hs).length ≤ n:=by
 have h1:=(fok_fn CC.K).wo_mat (n:=n) CC.mat (hs_mat CC hs)
 obtain ⟨h2,h3⟩:=cnP_len CC.K h1
 show (cnP p m md n (woL (liftI (fA p m)) (liftI (fM p (fpo m md))) (negI p m) (invI p m md) n gen (hs.map fun j=>colL gen j.toNat))).1.length ≤ n
 omega
theorem wi_wd {p m n : Nat} {md : List Int} {gen : List (List Int)} (CC : Cok p m md n gen) (hs : List Int) : Mat (p ^ m) n (wiP p m md n gen hs):=by
 exact ((fok_fn CC.K).wi CC.mat (hs_mat CC hs)).1
theorem S_repair_witness {p m n c nm cm N nl cl nh ch : Nat} {pm ps pl ph : Option Addr} {md lost hs : List Int} {rows : List (List Int)} (CC : Cok p m md N rows) (hlo : stP N lost) (hst : stP N hs) :
  Ctr Tryz.prog 56 [.agg #[.int .i64 p,.int .i64 m,.slice pm nm cm,.int .i64 N,.slice ps n c],.slice pl nl cl,.slice ph nh ch] [] [slF I64 pm nm cm md,slF (encSl I64) ps n c rows,slF I64 pl nl cl lost,slF I64 ph nh ch hs] (WtQ N (wtP p m md N rows lost hs)):=by
 refine Ctr_of_j' (F:=F_repair_witness) rfl fun C=>?_
 have hN:=CC.n64
 have hn1:=CC.n1
 have hle:=othL_len N [hs]
 have c_repair_others:=fun {ps : Option Addr} {nn c : Nat}=>(S_repair_others (ps:=ps) (nn:=nn) (c:=c) (n:=N) (ls:=[hs]) (by omega)).pubR (by show (othL N [hs]).length * 8 ≤ 140737488355328;omega)
 have c_space_Supported:=fun {pm ps pt : Option Addr} {nm cm n c ns cs' : Nat}=>S_space_Supported_ok (pm:=pm) (nm:=nm) (cm:=cm) (ps:=ps) (n:=n) (c:=c) (pt:=pt) (ns:=ns) (cs':=cs') CC (othL_st N [hs])
 simp only [oth_oth hst] at c_space_Supported
 have hW:=wi_wd CC hs
 have hWl:=wi_len CC hs
 unfold wtP
 generalize wiP p m md N rows hs = W at *
 refine j_nf [_,_] rfl ?_
 refine j_step rfl (x_box_agg rfl fun b1=>?_)
 refine j_run it 1 rfl (by simp) ?_
 refine j_nf [_,_] rfl ?_
 (apply j_drawKW (x0:=none) it mx 0 17 [15] 1;(· rfl);(· rfl);(· rfl);(· decide))
 simp only [List.drop_zero]
 (apply lxk_eq;(· rfl);(· exact d_x fun _=>x_field rfl fd27_0 dk_eq))
 (apply lxk_eq;(· rfl);(· exact d_bld_agg 0 rfl rfl ld24 rfl rfl))
 (apply lxk_eq;(· rfl);(· exact d_x fun _=>x_field rfl fd27_1 dk_eq))
 (apply lxk_eq;(· rfl);(· exact d_bld 0 rfl rfl ld3 rfl))
 (apply lxk_eq;(· rfl);(· exact d_x fun _=>x_field rfl fd27_2 dk_eq))
 (apply lxk_eq;(· rfl);(· exact d_bld 0 rfl rfl ld25 rfl))
 (apply lxk_fa (val:=fun g=>Value.agg #[Value.int IntKind.i64 ↑N,Value.slice (g 1).1 (n) (g 1).2.1]) (f:=fun g=>[slF (encSl I64) (g 1).1 (n) (g 1).2.1 (rows)]);(· rfl);(· exact d_x fun _=>x_build (cs:=[Value.int IntKind.i64 ↑N,Value.slice ps n c]) st57 zo57 rfl rfl (fun _ _ _ hG=>⟨(fun | 1=>(ps,c,0,[]) | _=>default),rfl,fun g hg=>by (simp only [List.mem_cons,List.not_mem_nil,or_false] at hg;rcases hg with rfl;(· exact drop_own (hG _ (fact_mem (n:=1) rfl))))⟩));intro g1;dsimp only [List.map_cons,List.map_nil])
 (apply lxk_eq;(· rfl);(· exact d_x fun _=>x_field rfl fd27_1 dk_eq))
 (apply lxk_eq;(· rfl);(· exact d_bld 0 rfl rfl ld3 rfl))
 (apply lxk_run 1;(· rfl);(· simp))
 (apply lxk_sl;(· rfl);(· exact d_x fun _=>x_lit sl25 zo25e rfl rfl rfl rfl (by decide) (by decide) rfl fun b2=>dk_all (E:=(encSl (I64))) [[Value.slice ph nh ch]] [hs] (fun w A hG=>(allrd_cons (rd_of_slF (hG _ (fact_mem (n:=3) rfl))) allrd_nil)) rfl rfl rfl (by first | decide | exact Nat.le_of_ble_eq_true rfl));intro pa1 ca1)
 (apply lxk_sl;(· rfl);(· exact d_x fun _=>x_call [0] rfl (c_repair_others) rfl (by rintro _ _ _ ⟨pa2,ca2,rfl,rfl,rfl⟩;exact (dk_sl 0 rfl)));intro pa2 ca2)
 (apply lxk_fa (val:=(fun g=>Value.tuple #[Value.agg #[Value.int IntKind.i64 ↑N,Value.slice (g 0).fst W.length (g 1).snd.fst],Value.int IntKind.i64 0])) (f:=(fun g=>[slF (encSl I64) (g 0).fst W.length (g 1).snd.fst W]));(· rfl);(· exact d_x fun _=>x_call [3,2,0] rfl (c_space_Supported) rfl (by rintro _ _ _ ⟨pbg0,cbg1,rfl,rfl,rfl⟩;exact fun _ _ _ hG=>⟨(fun | 0=>(pbg0,0,0,[]) | 1=>(none,cbg1,0,[]) | _=>default),rfl,fun g hg=>drop_own (hG _ (List.mem_append_left _ hg))⟩));intro g2;dsimp only [List.map_cons,List.map_nil])
 (apply lxk_fa (val:=fun g=>Value.tuple #[Value.agg #[Value.int IntKind.i64 ↑N,Value.slice (g 0).1 (W.length) (g 0).2.1],Value.int IntKind.i64 0]) (f:=fun g=>[slF (encSl I64) (g 0).1 (W.length) (g 0).2.1 (W)]);(· rfl);(· exact d_x fun _=>x_pv it rfl (by trivial) (fun _ _ _ hG=>⟨(fun | 0=>((g2 0).fst,(g2 1).snd.fst,0,[]) | _=>default),rfl,fun g hg=>by (simp only [List.mem_cons,List.not_mem_nil,or_false] at hg;rcases hg with rfl;(· exact drop_own (hG _ (fact_mem (n:=0) rfl))))⟩));intro g3;dsimp only [List.map_cons,List.map_nil,List.cons_append,List.nil_append])
 (apply lxk_fa (val:=fun g=>Value.agg #[Value.int IntKind.i64 ↑N,Value.slice (g 0).1 (W.length) (g 0).2.1]) (f:=fun g=>[slF (encSl I64) (g 0).1 (W.length) (g 0).2.1 (W)]);(· rfl);(· exact d_x fun _=>x_pv it rfl (by trivial) (fun _ _ _ hG=>⟨(fun | 0=>((g3 0).fst,(g3 0).snd.fst,0,[]) | _=>default),rfl,fun g hg=>by (simp only [List.mem_cons,List.not_mem_nil,or_false] at hg;rcases hg with rfl;(· exact drop_own (hG _ (fact_mem (n:=0) rfl))))⟩));intro g4;dsimp only [List.map_cons,List.map_nil,List.cons_append,List.nil_append])
 (apply lxk_eq;(· rfl);(· exact d_x fun _=>x_pv it rfl (by trivial) dk_eq))
 (apply lxk_alloc;(· rfl);(· exact zo57);intro b2)
 refine lxk_endW rfl ?_
 (rotate_left;rfl;rotate_right)
 simp only [List.map_cons,List.map_nil,List.cons_append,List.nil_append]
 refine win_step it rfl rfl ⟨⟨_,_,_,_,rfl,rfl,rfl,rfl,rfl,rfl,(by first | trivial | (repeat' first | exact trivial | apply And.intro | omega))⟩,trivial⟩ (x_bst_all 0 rfl rfl rfl ld57 rfl rfl (by simp [Value.oneCell']) ?_)
 refine win_end it ⟨⟨_,_,_,_,rfl,rfl,rfl,rfl,rfl,rfl,(by first | trivial | (repeat' first | exact trivial | apply And.intro | omega))⟩,trivial⟩ ?_
 refine j_run it 1 rfl (by simp) ?_
 refine j_nf [_,_,_] rfl ?_
 refine j_step rfl (x_field rfl fd57_1 ?_)
 refine j_step rfl (x_bld 0 rfl rfl ld25 rfl ?_)
 refine j_step rfl (x_len sl25 rfl ?_)
 refine j_run it 1 rfl (by simp) ?_
 refine j_nf [_,_,_] rfl ?_
 refine j_loopG (X:=Nat) [1,28,29] [0,1,2,3,4,5,6,7,8,9] (fun i=>[(30,.int .i64 (i : Int))]) (fun _=>_) (fun _=>[]) (fun i=>i ≤ W.length ∧ W.find? (nzL lost) = (W.drop i).find? (nzL lost)) (fun i=>W.length - i) 0 [] rfl rfl rfl ⟨Nat.zero_le _,rfl⟩ (by repeat (first | exact Fr.sub_nil _ | refine Fr.sub_cons rfl ?_)) rfl rfl ?_
 rintro i ⟨hi,he⟩ ih
 simp only [List.cons_append,List.nil_append] at hi he ih ⊢
 by_cases h9 : i < W.length
 ·obtain ⟨w,at_w,ed⟩ : ∃ w,W[i]? = some w ∧ W.drop i = w::W.drop (i + 1):=⟨W[i],List.getElem?_eq_getElem h9,List.drop_eq_getElem_cons h9⟩
  have hw:=(hW w (List.mem_of_getElem? at_w)).1
  have hlw : ∀ x ∈ lost,0 ≤ x ∧ x < (w.length : Int):=fun x hx=>by rw [hw];exact hlo.1 x hx
  have c_repair_nonzero:=fun {pa pb : Option Addr} {na ca nb cb : Nat}=>S_repair_nonzero (pa:=pa) (pb:=pb) (na:=na) (ca:=ca) (nb:=nb) (cb:=cb) hlw
  rw [ed,List.find?_cons] at he
  cases hz : nzL lost w with
  | true =>
   rw [hz] at he
   rw [show (lost.any fun x=>decide (w.getD x.toNat 0 ≠ 0)) = true from hz] at c_repair_nonzero
   rw [he]
   refine j_nf [_,_,_,_,_] rfl ?_
   refine j_run it 1 rfl (by simp) ?_
   refine j_nf [_,_,_,_,_] rfl ?_
   refine j_if rfl rfl (fun h1=>?_) (fun h1=>by exfalso;omega)
   refine j_nf [_,_,_,_,_,_,_] rfl ?_
   refine j_step rfl (x_idx 0 (i) rfl rfl rfl sl25 rfl (by omega) fun z1 hz1 b3 o1=>?_)
   obtain rfl : _ = z1:=Option.some.inj (at_w.symm.trans hz1)
   refine j_step rfl (x_ld_sl 0 rfl rfl ld22 fun pa3 ca3=>?_)
   refine j_run it 1 rfl (by simp) ?_
   refine j_nf [_,_,_,_,_,_,_] rfl ?_
   refine j_run it 2 rfl (by simp) ?_
   refine j_step rfl (x_call [0,10] rfl (c_repair_nonzero) rfl ?_)
   rintro _ _ _ ⟨rfl,rfl,rfl⟩
   simp only [List.cons_append,List.nil_append]
   refine j_nf [_,_,_,_,_,_] rfl ?_
   refine j_true rfl rfl ?_
   refine j_nf [_,_,_,_,_,_,_] rfl ?_
   refine j_run it 2 rfl (by simp) ?_
   refine j_nf [_,_,_,_,_,_] rfl ?_
   refine j_slsome 0 rfl (by omega) fun b o hpa=>?_
   refine j_giv [0] rfl rfl rfl ⟨pa3,_,ca3,rfl,rfl,rfl,⟨fun h=>(by rw [hpa] at h;cases h),fun h=>(by cases h)⟩,fun h=>(by cases h)⟩
  | false =>
   rw [hz] at he
   rw [show (lost.any fun x=>decide (w.getD x.toNat 0 ≠ 0)) = false from hz] at c_repair_nonzero
   refine j_nf [_,_,_,_,_] rfl ?_
   refine j_run it 1 rfl (by simp) ?_
   refine j_nf [_,_,_,_,_] rfl ?_
   refine j_if rfl rfl (fun h1=>?_) (fun h1=>by exfalso;omega)
   refine j_nf [_,_,_,_,_,_,_] rfl ?_
   refine j_step rfl (x_idx 0 (i) rfl rfl rfl sl25 rfl (by omega) fun z1 hz1 b3 o1=>?_)
   obtain rfl : _ = z1:=Option.some.inj (at_w.symm.trans hz1)
   refine j_step rfl (x_ld_sl 0 rfl rfl ld22 fun pa3 ca3=>?_)
   refine j_run it 1 rfl (by simp) ?_
   refine j_nf [_,_,_,_,_,_,_] rfl ?_
   refine j_run it 2 rfl (by simp) ?_
   refine j_step rfl (x_call [0,10] rfl (c_repair_nonzero) rfl ?_)
   rintro _ _ _ ⟨rfl,rfl,rfl⟩
   simp only [List.cons_append,List.nil_append]
   refine j_nf [_,_,_,_,_,_] rfl ?_
   refine j_false rfl rfl ?_
   refine j_nf [_,_,_,_] rfl ?_
   refine j_run it 2 rfl ⟨trivial,⟨by omega,by omega⟩,trivial⟩ ?_
   refine j_nfn 1 [.lp (pL 116),.blk 0,.c [1,1,1]] rfl ?_
   refine j_to [2,3,4,5,6,7,8,9,10,11] (by exact fra rfl) rfl rfl (ih (i + 1) (by omega) ⟨by omega,he⟩)
 ·rw [List.drop_of_length_le (by omega)] at he
  rw [he]
  clear ih
  refine j_nf [_,_,_,_,_] rfl ?_
  refine j_run it 1 rfl (by simp) ?_
  refine j_nf [_,_,_,_,_] rfl ?_
  refine j_if rfl rfl (fun h1=>by exfalso;omega) (fun h1=>?_)
  refine j_nf [_,_] rfl ?_
  refine j_run it 1 rfl (by simp) ?_
  refine j_nf [_] rfl ?_
  refine j_add (slF I64 none 0 0 []) (fun w A _=>slF_nil I64 w A none 0) ?_
  refine j_giv [0] rfl rfl rfl ⟨none,0,0,rfl,rfl,rfl,⟨fun _=>rfl,fun _=>rfl⟩,fun _=>⟨rfl,rfl⟩⟩
noncomputable def pairE (P M : Int) (md : List Int) (N : Int) (rows : List (List Int)) (lost hs : List Int) : Int :=
 if ckE P M md N rows ≠ 0 then ckE P M md N rows else if ¬ (stP N lost ∧ stP N hs) then 5 else if (lost.any fun x=>decide (x ∈ hs)) = true then 10 else 0
theorem S_repair_sides {P M N e : Int} {n c nm cm nl cl nh ch : Nat} {pm ps pl ph : Option Addr} {md lost hs : List Int} {rows : List (List Int)} (hN : InR .i64 N) (h : pairE P M md N rows lost hs = e) :
  Ctr Tryz.prog 21 [.agg #[.int .i64 P,.int .i64 M,.slice pm nm cm,.int .i64 N,.slice ps n c],.slice pl nl cl,.slice ph nh ch] [] [slF I64 pm nm cm md,slF (encSl I64) ps n c rows,slF I64 pl nl cl lost,slF I64 ph nh ch hs] (Rv (.int .i64 e) []):=by
 refine Ctr_of_j' (F:=F_repair_sides) rfl fun C=>?_
 have hr:=ckE_rng P M md N rows
 have c_code_Check:=fun {pm ps : Option Addr} {nm cm n c : Nat}=>S_code_Check (P:=P) (M:=M) (N:=N) (md:=md) (rows:=rows) (pm:=pm) (nm:=nm) (cm:=cm) (ps:=ps) (n:=n) (c:=c) hN rfl
 rw [pairE] at h
 by_cases h0 : ckE P M md N rows = 0
 ·rw [if_neg (fun e=>e h0)] at h
  rw [h0] at c_code_Check
  by_cases h1 : stP N lost
  ·have d1 : decide (stP N lost) = true:=decide_eq_true h1
   have c_repair_set:=fun {ps : Option Addr} {nn c : Nat} {n : Int} {l : List Int} {res : Bool} (hr : decide (stP n l) = res)=>S_repair_set (ps:=ps) (nn:=nn) (c:=c) hr
   by_cases h2 : stP N hs
   ·have d2 : decide (stP N hs) = true:=decide_eq_true h2
    rw [if_neg (fun e=>e ⟨h1,h2⟩)] at h
    cases hm : (lost.any fun x=>decide (x ∈ hs)) with
    | true =>
     rw [hm,if_pos rfl] at h
     subst h
     have c_repair_meet:=fun {pa pb : Option Addr} {na ca nb cb : Nat}=>S_repair_meet (pa:=pa) (pb:=pb) (na:=na) (ca:=ca) (nb:=nb) (cb:=cb) (k:=lost) (l:=hs)
     rw [hm] at c_repair_meet
     refine j_nf [_,_] rfl (j_step rfl (x_box_agg rfl fun b1=>?_))
     refine j_run it 1 rfl (by simp) ?_
     refine j_nf [_,_,_] rfl (j_step rfl (x_bld_all 0 rfl rfl ld27 rfl ?_))
     refine j_step rfl (x_call [0,1] rfl (c_code_Check) rfl ?_)
     rintro _ _ _ ⟨rfl,rfl,rfl⟩
     simp only [List.cons_append,List.nil_append]
     refine j_run it 1 rfl (by simp) ?_
     refine j_nf [_,_,_] rfl (j_run it 2 rfl (by simp) ?_)
     refine j_nf [_,_] rfl (j_ifn rfl rfl (fun h3=>by exfalso;omega) (fun h3=>?_))
     refine j_nf [_,_,_] rfl (j_run it 1 rfl (by simp) ?_)
     refine j_step rfl (x_field rfl fd27_1 ?_)
     refine j_step rfl (x_bld 0 rfl rfl ld3 rfl ?_)
     refine j_step rfl (x_call [2] rfl (c_repair_set (by omega)) rfl ?_)
     rintro _ _ _ ⟨rfl,rfl,rfl⟩
     simp only [List.cons_append,List.nil_append]
     simp only [decide_true]
     refine j_run it 3 rfl (by simp) ?_
     refine j_gstep rfl rfl (x_field rfl fd27_1 ?_)
     refine j_gstep rfl rfl (x_bld 0 rfl rfl ld3 rfl ?_)
     refine j_gstep rfl rfl (x_call [3] rfl (c_repair_set (by omega)) rfl ?_)
     rintro _ _ _ ⟨rfl,rfl,rfl⟩
     simp only [List.cons_append,List.nil_append]
     refine j_run it 2 rfl (by simp) ?_
     refine j_nf [_,_] rfl ?_
     refine j_false rfl rfl ?_
     refine j_nf [_,_,_] rfl (j_run it 2 rfl (by simp) ?_)
     refine j_step rfl (x_call [2,3] rfl (c_repair_meet) rfl ?_)
     rintro _ _ _ ⟨rfl,rfl,rfl⟩
     simp only [List.cons_append,List.nil_append]
     refine j_nf [_,_] rfl ?_
     refine j_true rfl rfl ?_
     refine j_nf [_,_,_] rfl (j_run it 1 rfl (by simp) ?_)
     refine j_nf [_,_] rfl ?_
     refine j_giv [] rfl rfl rfl ⟨rfl,rfl,rfl⟩
    | false =>
     rw [hm,if_neg (by simp)] at h
     subst h
     have c_repair_meet:=fun {pa pb : Option Addr} {na ca nb cb : Nat}=>S_repair_meet (pa:=pa) (pb:=pb) (na:=na) (ca:=ca) (nb:=nb) (cb:=cb) (k:=lost) (l:=hs)
     rw [hm] at c_repair_meet
     refine j_nf [_,_] rfl (j_step rfl (x_box_agg rfl fun b1=>?_))
     refine j_run it 1 rfl (by simp) ?_
     refine j_nf [_,_,_] rfl (j_step rfl (x_bld_all 0 rfl rfl ld27 rfl ?_))
     refine j_step rfl (x_call [0,1] rfl (c_code_Check) rfl ?_)
     rintro _ _ _ ⟨rfl,rfl,rfl⟩
     simp only [List.cons_append,List.nil_append]
     refine j_run it 1 rfl (by simp) ?_
     refine j_nf [_,_,_] rfl (j_run it 2 rfl (by simp) ?_)
     refine j_nf [_,_] rfl (j_ifn rfl rfl (fun h3=>by exfalso;omega) (fun h3=>?_))
     refine j_nf [_,_,_] rfl (j_run it 1 rfl (by simp) ?_)
     refine j_step rfl (x_field rfl fd27_1 ?_)
     refine j_step rfl (x_bld 0 rfl rfl ld3 rfl ?_)
     refine j_step rfl (x_call [2] rfl (c_repair_set (by omega)) rfl ?_)
     rintro _ _ _ ⟨rfl,rfl,rfl⟩
     simp only [List.cons_append,List.nil_append]
     simp only [decide_true]
     refine j_run it 3 rfl (by simp) ?_
     refine j_gstep rfl rfl (x_field rfl fd27_1 ?_)
     refine j_gstep rfl rfl (x_bld 0 rfl rfl ld3 rfl ?_)
     refine j_gstep rfl rfl (x_call [3] rfl (c_repair_set (by omega)) rfl ?_)
     rintro _ _ _ ⟨rfl,rfl,rfl⟩
     simp only [List.cons_append,List.nil_append]
     refine j_run it 2 rfl (by simp) ?_
     refine j_nf [_,_] rfl ?_
     refine j_false rfl rfl ?_
     refine j_nf [_,_,_] rfl (j_run it 2 rfl (by simp) ?_)
     refine j_step rfl (x_call [2,3] rfl (c_repair_meet) rfl ?_)
     rintro _ _ _ ⟨rfl,rfl,rfl⟩
     simp only [List.cons_append,List.nil_append]
     refine j_nf [_,_] rfl ?_
     refine j_false rfl rfl ?_
     refine j_nf [_,_] rfl (j_run it 1 rfl (by simp) ?_)
     refine j_nf [_] rfl ?_
     refine j_giv [] rfl rfl rfl ⟨rfl,rfl,rfl⟩
   ·have d2 : decide (stP N hs) = false:=decide_eq_false h2
    rw [if_pos (fun e=>h2 e.2)] at h
    subst h
    refine j_nf [_,_] rfl (j_step rfl (x_box_agg rfl fun b1=>?_))
    refine j_run it 1 rfl (by simp) ?_
    refine j_nf [_,_,_] rfl (j_step rfl (x_bld_all 0 rfl rfl ld27 rfl ?_))
    refine j_step rfl (x_call [0,1] rfl (c_code_Check) rfl ?_)
    rintro _ _ _ ⟨rfl,rfl,rfl⟩
    simp only [List.cons_append,List.nil_append]
    refine j_run it 1 rfl (by simp) ?_
    refine j_nf [_,_,_] rfl (j_run it 2 rfl (by simp) ?_)
    refine j_nf [_,_] rfl (j_ifn rfl rfl (fun h3=>by exfalso;omega) (fun h3=>?_))
    refine j_nf [_,_,_] rfl (j_run it 1 rfl (by simp) ?_)
    refine j_step rfl (x_field rfl fd27_1 ?_)
    refine j_step rfl (x_bld 0 rfl rfl ld3 rfl ?_)
    refine j_step rfl (x_call [2] rfl (c_repair_set (by omega)) rfl ?_)
    rintro _ _ _ ⟨rfl,rfl,rfl⟩
    simp only [List.cons_append,List.nil_append]
    simp only [decide_true]
    refine j_run it 3 rfl (by simp) ?_
    refine j_gstep rfl rfl (x_field rfl fd27_1 ?_)
    refine j_gstep rfl rfl (x_bld 0 rfl rfl ld3 rfl ?_)
    refine j_gstep rfl rfl (x_call [3] rfl (c_repair_set (by omega)) rfl ?_)
    rintro _ _ _ ⟨rfl,rfl,rfl⟩
    simp only [List.cons_append,List.nil_append]
    refine j_run it 2 rfl (by simp) ?_
    refine j_nf [_,_] rfl ?_
    refine j_true rfl rfl ?_
    refine j_nf [_,_,_] rfl (j_run it 1 rfl (by simp) ?_)
    refine j_nf [_,_] rfl ?_
    refine j_giv [] rfl rfl rfl ⟨rfl,rfl,rfl⟩
  ·have d1 : decide (stP N lost) = false:=decide_eq_false h1
   rw [if_pos (fun e=>h1 e.1)] at h
   subst h
   refine j_nf [_,_] rfl (j_step rfl (x_box_agg rfl fun b1=>?_))
   refine j_run it 1 rfl (by simp) ?_
   refine j_nf [_,_,_] rfl (j_step rfl (x_bld_all 0 rfl rfl ld27 rfl ?_))
   refine j_step rfl (x_call [0,1] rfl (c_code_Check) rfl ?_)
   rintro _ _ _ ⟨rfl,rfl,rfl⟩
   simp only [List.cons_append,List.nil_append]
   refine j_run it 1 rfl (by simp) ?_
   refine j_nf [_,_,_] rfl (j_run it 2 rfl (by simp) ?_)
   refine j_nf [_,_] rfl (j_ifn rfl rfl (fun h2=>by exfalso;omega) (fun h2=>?_))
   refine j_nf [_,_,_] rfl (j_run it 1 rfl (by simp) ?_)
   refine j_step rfl (x_field rfl fd27_1 ?_)
   refine j_step rfl (x_bld 0 rfl rfl ld3 rfl ?_)
   refine j_step rfl (x_call [2] rfl (S_repair_set (by omega)) rfl ?_)
   rintro _ _ _ ⟨rfl,rfl,rfl⟩
   simp only [List.cons_append,List.nil_append]
   simp only [decide_true]
   refine j_run it 8 rfl (by simp) ?_
   refine j_nf [_,_] rfl ?_
   refine j_true rfl rfl ?_
   refine j_nf [_,_,_] rfl (j_run it 1 rfl (by simp) ?_)
   refine j_nf [_,_] rfl ?_
   refine j_giv [] rfl rfl rfl ⟨rfl,rfl,rfl⟩
 ·rw [if_pos h0] at h
  subst h
  refine j_nf [_,_] rfl (j_step rfl (x_box_agg rfl fun b1=>?_))
  refine j_run it 1 rfl (by simp) ?_
  refine j_nf [_,_,_] rfl (j_step rfl (x_bld_all 0 rfl rfl ld27 rfl ?_))
  refine j_step rfl (x_call [0,1] rfl (c_code_Check) rfl ?_)
  rintro _ _ _ ⟨rfl,rfl,rfl⟩
  simp only [List.cons_append,List.nil_append]
  refine j_run it 1 rfl (by simp) ?_
  refine j_nf [_,_,_] rfl (j_run it 2 rfl (by simp) ?_)
  refine j_nf [_,_] rfl (j_ifn rfl rfl (fun h1=>?_) (fun h1=>by exfalso;omega))
  refine j_nf [_,_,_] rfl (j_run it 2 rfl (by simp) ?_)
  refine j_nf [_,_] rfl ?_
  refine j_giv [] rfl rfl rfl ⟨rfl,rfl,rfl⟩
theorem pair_of {P M N : Int} {md lost hs : List Int} {rows : List (List Int)} (h : pairE P M md N rows lost hs = 0) : ∃ p m n : Nat,P = p ∧ M = m ∧ N = n ∧ Cok p m md n rows ∧ stP n lost ∧ stP n hs ∧ ∀ x ∈ lost,x ∉ hs:=by
 rw [pairE] at h
 by_cases h0 : ckE P M md N rows = 0
 ·obtain ⟨p,m,n,rfl,rfl,rfl,CC⟩:=ck_of h0
  rw [if_neg (fun e=>e h0)] at h
  by_cases h1 : stP n lost ∧ stP n hs
  ·rw [if_neg (fun e=>e h1)] at h
   refine ⟨p,m,n,rfl,rfl,rfl,CC,h1.1,h1.2,fun x hx hy=>?_⟩
   rw [if_pos (List.any_eq_true.2 ⟨x,hx,decide_eq_true hy⟩)] at h
   omega
  ·rw [if_pos h1] at h;omega
 ·rw [if_pos h0] at h;exact absurd h h0
theorem pairE_rng (P M : Int) (md : List Int) (N : Int) (rows : List (List Int)) (lost hs : List Int) : 0 ≤ pairE P M md N rows lost hs ∧ pairE P M md N rows lost hs ≤ 10:=by
 have:=ckE_rng P M md N rows
 rw [pairE]
 repeat' split
 all_goals omega
noncomputable def sufB (P M : Int) (md : List Int) (N : Int) (rows : List (List Int)) (lost hs : List Int) : Bool:=decide (pairE P M md N rows lost hs = 0) && (wtP P.toNat M.toNat md N.toNat rows lost hs).isNone
theorem S_repair_Suffices {P M N : Int} {n c nm cm nl cl nh ch : Nat} {pm ps pl ph : Option Addr} {md lost hs : List Int} {rows : List (List Int)} (hN : InR .i64 N) :
  Ctr Tryz.prog 27 [.agg #[.int .i64 P,.int .i64 M,.slice pm nm cm,.int .i64 N,.slice ps n c],.slice pl nl cl,.slice ph nh ch] [] [slF I64 pm nm cm md,slF (encSl I64) ps n c rows,slF I64 pl nl cl lost,slF I64 ph nh ch hs] (Rv (.tuple #[.bool (sufB P M md N rows lost hs),.int .i64 (pairE P M md N rows lost hs)]) []):=by
 refine Ctr_of_j' (F:=F_repair_Suffices) rfl fun C=>?_
 have hr:=pairE_rng P M md N rows lost hs
 have c_repair_sides:=fun {n c nm cm nl cl nh ch : Nat} {pm ps pl ph : Option Addr}=>S_repair_sides (P:=P) (M:=M) (N:=N) (md:=md) (rows:=rows) (lost:=lost) (hs:=hs) (pm:=pm) (nm:=nm) (cm:=cm) (ps:=ps) (n:=n) (c:=c) (pl:=pl) (nl:=nl) (cl:=cl) (ph:=ph) (nh:=nh) (ch:=ch) hN rfl
 rw [sufB]
 by_cases h0 : pairE P M md N rows lost hs = 0
 ·obtain ⟨p,m,N,rfl,rfl,rfl,CC,hlo,hhs,-⟩:=pair_of h0
  rw [h0] at c_repair_sides ⊢
  rw [decide_eq_true rfl,Bool.true_and,Int.toNat_natCast,Int.toNat_natCast,Int.toNat_natCast]
  have c_repair_witness:=fun {n c nm cm nl cl nh ch : Nat} {pm ps pl ph : Option Addr}=>S_repair_witness (pm:=pm) (nm:=nm) (cm:=cm) (ps:=ps) (n:=n) (c:=c) (pl:=pl) (nl:=nl) (cl:=cl) (ph:=ph) (nh:=nh) (ch:=ch) CC hlo hhs
  refine j_nf [_,_] rfl (j_step rfl (x_box_agg rfl fun b1=>?_))
  refine j_run it 2 rfl (by simp) ?_
  refine j_nf [_,_,_] rfl (j_step rfl (x_bld_all 0 rfl rfl ld27 rfl ?_))
  refine j_run it 2 rfl (by simp) ?_
  refine j_step rfl (x_call [0,1,2,3] rfl (c_repair_sides) rfl ?_)
  rintro _ _ _ ⟨rfl,rfl,rfl⟩
  simp only [List.cons_append,List.nil_append]
  refine j_run it 1 rfl (by simp) ?_
  refine j_nf [_,_,_] rfl (j_run it 2 rfl (by simp) ?_)
  refine j_nf [_,_] rfl (j_ifn rfl rfl (fun h1=>by exfalso;omega) (fun h1=>?_))
  refine j_nf [_,_] rfl (j_step rfl (x_bld_all 0 rfl rfl ld27 rfl ?_))
  refine j_run it 2 rfl (by simp) ?_
  refine j_step rfl (x_call [0,1,2,3] rfl c_repair_witness rfl ?_)
  rintro _ _ _ ⟨pa,k,ca,rfl,rfl,rfl,hn,hz⟩
  simp only [List.cons_append,List.nil_append]
  cases hw : wtP p m md N rows lost hs with
  | none =>
   obtain rfl:=hn.2 hw
   obtain ⟨rfl,rfl⟩:=hz hw
   refine j_step rfl (x_eqnilN sl22 rfl rfl ?_)
   refine j_run it 2 rfl (by simp) ?_
   refine j_nf [_] rfl ?_
   refine j_giv [] rfl rfl rfl ⟨rfl,rfl,rfl⟩
  | some w =>
   cases pa with
   | none=>exact absurd (hn.1 rfl) (by rw [hw];simp)
   | some a =>
    refine j_step rfl (x_eqnilS sl22 rfl rfl ?_)
    refine j_run it 2 rfl (by simp) ?_
    refine j_nf [_] rfl ?_
    refine j_giv [] rfl rfl rfl ⟨rfl,rfl,rfl⟩
 ·rw [decide_eq_false h0,Bool.false_and]
  refine j_nf [_,_] rfl (j_step rfl (x_box_agg rfl fun b1=>?_))
  refine j_run it 2 rfl (by simp) ?_
  refine j_nf [_,_,_] rfl (j_step rfl (x_bld_all 0 rfl rfl ld27 rfl ?_))
  refine j_run it 2 rfl (by simp) ?_
  refine j_step rfl (x_call [0,1,2,3] rfl (c_repair_sides) rfl ?_)
  rintro _ _ _ ⟨rfl,rfl,rfl⟩
  simp only [List.cons_append,List.nil_append]
  refine j_run it 1 rfl (by simp) ?_
  refine j_nf [_,_,_] rfl (j_run it 2 rfl (by simp) ?_)
  refine j_nf [_,_] rfl (j_ifn rfl rfl (fun h1=>?_) (fun h1=>by exfalso;omega))
  refine j_nf [_,_,_] rfl (j_run it 3 rfl (by simp) ?_)
  refine j_nf [_,_] rfl ?_
  refine j_giv [] rfl rfl rfl ⟨rfl,rfl,rfl⟩
end Go.Proofs.YtlecjbjgbcdilaaGreat
