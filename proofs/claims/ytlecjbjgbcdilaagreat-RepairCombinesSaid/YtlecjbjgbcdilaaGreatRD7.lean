/-
The document's tests of entries, shapes and sets; its copies. Multiples and sums of rows in the document. Elimination in the document. Canonical rows, null spaces, combinations and columns in the document. The document's tests of spaces and codes, of sets and pairs. Columns and ranks in the document, what is enough, and the least witness. What is enough by ranks and by witnesses; the walk of RepairSuffices. Words of messages in the document; the walk of RepairDetermines. Equations solved, in the program. Coefficients of repairs, in the program.
-/
import Derived.Test.YtlecjbjgbcdilaaGreatRD6
set_option linter.unusedVariables false
set_option linter.unusedSimpArgs false
namespace Go.Proofs.YtlecjbjgbcdilaaGreat
open Go Go.Fw
set_option maxRecDepth 100000
set_option linter.unusedVariables false
set_option linter.unusedSimpArgs false
set_option maxHeartbeats 8000000
theorem gd_at {α : Type} [Inhabited α] {l : List α} {i : Nat} {x : α} (h : l[i]? = some x) : l.getD i default = x:=by rw [List.getD_eq_getElem?_getD,h];rfl
theorem S_codewrightref09_Entries {p m nm cm n c : Nat} {pm ps : Option Addr} {md l : List Int} (K : Fok p m md) : Ctr Tryz.prog 48 [.agg #[.int .i64 p,.int .i64 m,.slice pm nm cm],.slice ps n c] [] [slF I64 ps n c l] (Rv (.int .i64 (entE l (p ^ m))) []):=by
 refine Ctr_of_j' (F:=F_codewrightref09_Entries) rfl fun C=>?_
 refine j_len 0 rfl fun hn hb _=>?_
 subst hn
 have hb' : l.length * 8 ≤ 140737488355328:=hb
 have ho:=K.ord
 refine j_nf [_,_] rfl ?_
 refine j_step rfl (x_box_agg rfl fun b1=>?_)
 refine j_run it 1 rfl (by simp) ?_
 refine j_nf [_,_,_] rfl ?_
 refine j_run it 1 rfl (by simp) ?_
 refine j_nf [_,_,_] rfl ?_
 refine j_loopG (X:=Nat) [1,2] [0] (fun i=>[(5,.int .i64 (i : Int))]) (fun _=>_) (fun _=>[]) (fun i=>i ≤ l.length ∧ ∀ x ∈ l.take i,0 ≤ x ∧ x < ((p ^ m : Nat) : Int)) (fun i=>l.length - i) 0 [] rfl rfl rfl ⟨Nat.zero_le _,fun x h=>by simp at h⟩ (by repeat (first | exact Fr.sub_nil _ | refine Fr.sub_cons rfl ?_)) rfl rfl ?_
 rintro i ⟨hi,hno⟩ ih
 simp only [List.cons_append,List.nil_append] at hi ih ⊢
 by_cases h9 : i < l.length
 ·obtain ⟨y,hy⟩ : ∃ y,l[i]? = some y:=⟨_,List.getElem?_eq_getElem h9⟩
  have ey:=gd_at hy
  by_cases h8 : 0 ≤ y ∧ y < ((p ^ m : Nat) : Int)
  ·have hd : decide (0 ≤ l.getD i default ∧ l.getD i default < ordI (p : Int) (m : Int)) = true:=by rw [ey,ho];exact decide_eq_true h8
   refine j_nf [_,_,_,_,_,_] rfl ?_
   refine j_run it 2 rfl (by simp) ?_
   refine j_step rfl (x_len sl22 rfl ?_)
   refine j_run it 1 rfl (by simp) ?_
   refine j_nf [_,_,_,_,_] rfl ?_
   refine j_if rfl rfl (fun h1=>?_) (fun h1=>by exfalso;omega)
   refine j_nf [_,_,_,_,_,_,_] rfl ?_
   (apply j_drawK it mx 7;(· rfl);(· rfl))
   (apply lxk_eq;(· rfl);(· exact d_bld_all 0 rfl rfl ld24 rfl))
   (apply lxk_run 2;(· rfl);(· simp))
   (apply lxk_pt;(· rfl);(· exact d_x fun _=>x_idx 0 (i) rfl rfl rfl sl22 rfl (by omega) fun z1 hz1 b2 o1=>(dk_ptD default hz1 0 rfl));intro b2 o1)
   (apply lxk_eq;(· rfl);(· exact d_x fun _=>x_ld_int 0 rfl rfl ld3 fun ⟨r1,r2⟩=>dk_eq))
   (apply lxk_eq;(· rfl);(· exact d_x fun _=>x_call [] rfl (S_codewrightref04_Is (by omega)) rfl (by rintro _ _ _ ⟨rfl,rfl,rfl⟩;exact dk_eq)))
   (apply lxk_run 1;(· rfl);(· simp))
   refine lxk_end rfl ?_
   simp only [List.map_cons,List.map_nil,List.cons_append,List.nil_append]
   refine j_nf [_,_,_,_,_,_] rfl ?_
   refine j_false rfl rfl ?_
   refine j_nf [_,_,_,_] rfl ?_
   refine j_run it 3 rfl ⟨trivial,⟨by omega,by omega⟩,trivial,trivial⟩ ?_
   refine j_nfn 1 [.lp [1,0,1,0,0],.blk 0,.c [1,1]] rfl ?_
   refine j_to [1] (by exact fra rfl) rfl rfl (ih (i + 1) (by omega) ⟨by omega,fun x hx=>by
    rw [List.take_add_one,hy] at hx
    rcases List.mem_append.1 hx with hx | hx
    ·exact hno x hx
    ·rw [Option.toList_some,List.mem_singleton] at hx
     rw [hx];exact h8⟩)
  ·have hd : decide (0 ≤ l.getD i default ∧ l.getD i default < ordI (p : Int) (m : Int)) = false:=by rw [ey,ho];exact decide_eq_false h8
   rw [entE,if_neg fun h=>h8 (h y (List.mem_of_getElem? hy))]
   refine j_nf [_,_,_,_,_,_] rfl ?_
   refine j_run it 2 rfl (by simp) ?_
   refine j_step rfl (x_len sl22 rfl ?_)
   refine j_run it 1 rfl (by simp) ?_
   refine j_nf [_,_,_,_,_] rfl ?_
   refine j_if rfl rfl (fun h1=>?_) (fun h1=>by exfalso;omega)
   refine j_nf [_,_,_,_,_,_,_] rfl ?_
   (apply j_drawK it mx 7;(· rfl);(· rfl))
   (apply lxk_eq;(· rfl);(· exact d_bld_all 0 rfl rfl ld24 rfl))
   (apply lxk_run 2;(· rfl);(· simp))
   (apply lxk_pt;(· rfl);(· exact d_x fun _=>x_idx 0 (i) rfl rfl rfl sl22 rfl (by omega) fun z1 hz1 b2 o1=>(dk_ptD default hz1 0 rfl));intro b2 o1)
   (apply lxk_eq;(· rfl);(· exact d_x fun _=>x_ld_int 0 rfl rfl ld3 fun ⟨r1,r2⟩=>dk_eq))
   (apply lxk_eq;(· rfl);(· exact d_x fun _=>x_call [] rfl (S_codewrightref04_Is (by omega)) rfl (by rintro _ _ _ ⟨rfl,rfl,rfl⟩;exact dk_eq)))
   (apply lxk_run 1;(· rfl);(· simp))
   refine lxk_end rfl ?_
   simp only [List.map_cons,List.map_nil,List.cons_append,List.nil_append]
   refine j_nf [_,_,_,_,_,_] rfl ?_
   refine j_true rfl rfl ?_
   refine j_nf [_,_,_,_,_,_,_] rfl ?_
   refine j_run it 1 rfl (by simp) ?_
   refine j_nf [_,_,_,_,_,_] rfl ?_
   refine j_giv [] rfl rfl rfl ⟨rfl,rfl,rfl⟩
 ·rw [entE,if_pos fun x hx=>hno x (by rwa [List.take_of_length_le (by omega)])]
  refine j_nf [_,_,_,_,_,_] rfl ?_
  refine j_run it 2 rfl (by simp) ?_
  refine j_step rfl (x_len sl22 rfl ?_)
  refine j_run it 1 rfl (by simp) ?_
  refine j_nf [_,_,_,_,_] rfl ?_
  refine j_if rfl rfl (fun h1=>by exfalso;omega) (fun h1=>?_)
  refine j_nf [_,_] rfl ?_
  refine j_run it 1 rfl (by simp) ?_
  refine j_nf [_] rfl ?_
  refine j_giv [] rfl rfl rfl ⟨rfl,rfl,rfl⟩
theorem tk_all {α : Type} {P : α → Prop} {l : List α} {i : Nat} {r : α} (hr : l[i]? = some r) (h : ∀ x ∈ l.take i,P x) (hp : P r) : ∀ x ∈ l.take (i + 1),P x:=fun x hx=>by
 rw [List.take_add_one,hr] at hx
 rcases List.mem_append.1 hx with hx | hx
 ·exact h x hx
 ·rw [Option.toList_some,List.mem_singleton] at hx
  rw [hx];exact hp
open Classical in
noncomputable def mkE (P M : Int) (md : List Int) (N : Int) (rows : List (List Int)) : Int:=if ¬ chkF P M md then 1 else mtE N rows (P.toNat ^ M.toNat)
theorem S_codewrightref09_Check {P M N e : Int} {nm cm n c : Nat} {pm ps : Option Addr} {md : List Int} {rows : List (List Int)} (hN : InR .i64 N) (he : mkE P M md N rows = e) :
  Ctr Tryz.prog 57 [.agg #[.int .i64 P,.int .i64 M,.slice pm nm cm],.agg #[.int .i64 N,.slice ps n c]] [] [slF I64 pm nm cm md,slF (encSl I64) ps n c rows] (Rv (.int .i64 e) []):=by
 refine Ctr_of_j' (F:=F_codewrightref09_Check) rfl fun C=>?_
 refine j_len 1 rfl fun hn hb _=>?_
 subst hn
 have hb' : rows.length * 24 ≤ 140737488355328:=hb
 obtain ⟨N0,N1⟩:=hN
 rw [mkE] at he
 by_cases hc : chkF P M md
 ·rw [if_neg (fun h=>h hc)] at he
  have c_codewrightref04_Check:=fun {pm : Option Addr} {nm cm : Nat}=>S_codewrightref04_Check (P:=P) (M:=M) (md:=md) (pm:=pm) (nm:=nm) (cm:=cm) (if_pos hc).symm
  obtain ⟨p,m,rfl,rfl,K⟩:=chk_ok hc
  rw [Int.toNat_natCast,Int.toNat_natCast] at he
  have hq:=K.q
  have c_codewrightref09_Entries:=fun {nm cm n c : Nat} {pm ps : Option Addr} {l : List Int}=>S_codewrightref09_Entries (nm:=nm) (cm:=cm) (pm:=pm) (ps:=ps) (n:=n) (c:=c) (l:=l) K
  subst he
  by_cases h1 : N < 0 ∨ 256 < N ∨ 256 < rows.length
  ·rw [mtE,if_pos h1]
   by_cases a1 : N < 0
   ·refine j_nf [_,_] rfl ?_
    refine j_step rfl (x_box_agg rfl fun b1=>?_)
    refine j_step rfl (x_box_agg rfl fun b2=>?_)
    refine j_run it 1 rfl (by simp) ?_
    refine j_nf [_,_] rfl ?_
    refine j_step rfl (x_bld_all 1 rfl rfl ld24 rfl ?_)
    refine j_step rfl (x_call [0] rfl (c_codewrightref04_Check) rfl ?_)
    rintro _ _ _ ⟨rfl,rfl,rfl⟩
    simp only [List.cons_append,List.nil_append]
    refine j_run it 1 rfl (by simp) ?_
    refine j_nf [_,_,_] rfl ?_
    refine j_run it 2 rfl (by simp) ?_
    refine j_nf [_,_] rfl ?_
    refine j_ifn rfl rfl (fun h2=>by exfalso;omega) (fun h2=>?_)
    refine j_nf [_,_,_] rfl ?_
    refine j_step rfl (x_field rfl fd57_0 ?_)
    refine j_step rfl (x_bld 0 rfl rfl ld3 rfl ?_)
    refine j_run it 2 rfl (by simp) ?_
    refine j_split_dec (t:=16) rfl (fun h3=>?_) (fun h3=>by exfalso;omega)
    refine j_run it 10 rfl (by simp) ?_
    refine j_nf [_,_] rfl ?_
    refine j_true rfl rfl ?_
    refine j_nf [_,_,_] rfl ?_
    refine j_run it 1 rfl (by simp) ?_
    refine j_nf [_,_] rfl ?_
    refine j_giv [] rfl rfl rfl ⟨rfl,rfl,rfl⟩
   ·by_cases a2 : 256 < N
    ·refine j_nf [_,_] rfl ?_
     refine j_step rfl (x_box_agg rfl fun b1=>?_)
     refine j_step rfl (x_box_agg rfl fun b2=>?_)
     refine j_run it 1 rfl (by simp) ?_
     refine j_nf [_,_] rfl ?_
     refine j_step rfl (x_bld_all 1 rfl rfl ld24 rfl ?_)
     refine j_step rfl (x_call [0] rfl (c_codewrightref04_Check) rfl ?_)
     rintro _ _ _ ⟨rfl,rfl,rfl⟩
     simp only [List.cons_append,List.nil_append]
     refine j_run it 1 rfl (by simp) ?_
     refine j_nf [_,_,_] rfl ?_
     refine j_run it 2 rfl (by simp) ?_
     refine j_nf [_,_] rfl ?_
     refine j_ifn rfl rfl (fun h2=>by exfalso;omega) (fun h2=>?_)
     refine j_nf [_,_,_] rfl ?_
     refine j_step rfl (x_field rfl fd57_0 ?_)
     refine j_step rfl (x_bld 0 rfl rfl ld3 rfl ?_)
     refine j_run it 2 rfl (by simp) ?_
     refine j_split_dec (t:=16) rfl (fun h3=>by exfalso;omega) (fun h3=>?_)
     refine j_gstep rfl rfl (x_field rfl fd57_0 ?_)
     refine j_gstep rfl rfl (x_bld 0 rfl rfl ld3 rfl ?_)
     refine j_run it 3 rfl (by simp) ?_
     refine j_split_dec (t:=21) rfl (fun h4=>?_) (fun h4=>by exfalso;omega)
     refine j_run it 5 rfl (by simp) ?_
     refine j_nf [_,_] rfl ?_
     refine j_true rfl rfl ?_
     refine j_nf [_,_,_] rfl ?_
     refine j_run it 1 rfl (by simp) ?_
     refine j_nf [_,_] rfl ?_
     refine j_giv [] rfl rfl rfl ⟨rfl,rfl,rfl⟩
    ·have a3 : 256 < rows.length:=by omega
     refine j_nf [_,_] rfl ?_
     refine j_step rfl (x_box_agg rfl fun b1=>?_)
     refine j_step rfl (x_box_agg rfl fun b2=>?_)
     refine j_run it 1 rfl (by simp) ?_
     refine j_nf [_,_] rfl ?_
     refine j_step rfl (x_bld_all 1 rfl rfl ld24 rfl ?_)
     refine j_step rfl (x_call [0] rfl (c_codewrightref04_Check) rfl ?_)
     rintro _ _ _ ⟨rfl,rfl,rfl⟩
     simp only [List.cons_append,List.nil_append]
     refine j_run it 1 rfl (by simp) ?_
     refine j_nf [_,_,_] rfl ?_
     refine j_run it 2 rfl (by simp) ?_
     refine j_nf [_,_] rfl ?_
     refine j_ifn rfl rfl (fun h2=>by exfalso;omega) (fun h2=>?_)
     refine j_nf [_,_,_] rfl ?_
     refine j_step rfl (x_field rfl fd57_0 ?_)
     refine j_step rfl (x_bld 0 rfl rfl ld3 rfl ?_)
     refine j_run it 2 rfl (by simp) ?_
     refine j_split_dec (t:=16) rfl (fun h3=>by exfalso;omega) (fun h3=>?_)
     refine j_gstep rfl rfl (x_field rfl fd57_0 ?_)
     refine j_gstep rfl rfl (x_bld 0 rfl rfl ld3 rfl ?_)
     refine j_run it 3 rfl (by simp) ?_
     refine j_split_dec (t:=21) rfl (fun h4=>by exfalso;omega) (fun h4=>?_)
     refine j_gstep rfl rfl (x_field rfl fd57_1 ?_)
     refine j_gstep rfl rfl (x_bld 0 rfl rfl ld25 rfl ?_)
     refine j_gstep rfl rfl (x_len sl25 rfl ?_)
     refine j_run it 2 rfl (by simp) ?_
     refine j_nf [_,_] rfl ?_
     refine j_if rfl rfl (fun h5=>?_) (fun h5=>by exfalso;omega)
     refine j_nf [_,_,_] rfl ?_
     refine j_run it 1 rfl (by simp) ?_
     refine j_nf [_,_] rfl ?_
     refine j_giv [] rfl rfl rfl ⟨rfl,rfl,rfl⟩
  ·rw [mtE,if_neg h1]
   have a1 : ¬ N < 0:=by omega
   have a2 : ¬ 256 < N:=by omega
   have a3 : ¬ 256 < rows.length:=by omega
   refine j_nf [_,_] rfl ?_
   refine j_step rfl (x_box_agg rfl fun b1=>?_)
   refine j_step rfl (x_box_agg rfl fun b2=>?_)
   refine j_run it 1 rfl (by simp) ?_
   refine j_nf [_,_] rfl ?_
   refine j_step rfl (x_bld_all 1 rfl rfl ld24 rfl ?_)
   refine j_step rfl (x_call [0] rfl (c_codewrightref04_Check) rfl ?_)
   rintro _ _ _ ⟨rfl,rfl,rfl⟩
   simp only [List.cons_append,List.nil_append]
   refine j_run it 1 rfl (by simp) ?_
   refine j_nf [_,_,_] rfl ?_
   refine j_run it 2 rfl (by simp) ?_
   refine j_nf [_,_] rfl ?_
   refine j_ifn rfl rfl (fun h2=>by exfalso;omega) (fun h2=>?_)
   refine j_nf [_,_,_] rfl ?_
   refine j_step rfl (x_field rfl fd57_0 ?_)
   refine j_step rfl (x_bld 0 rfl rfl ld3 rfl ?_)
   refine j_run it 2 rfl (by simp) ?_
   refine j_split_dec (t:=16) rfl (fun h3=>by exfalso;omega) (fun h3=>?_)
   refine j_gstep rfl rfl (x_field rfl fd57_0 ?_)
   refine j_gstep rfl rfl (x_bld 0 rfl rfl ld3 rfl ?_)
   refine j_run it 3 rfl (by simp) ?_
   refine j_split_dec (t:=21) rfl (fun h4=>by exfalso;omega) (fun h4=>?_)
   refine j_gstep rfl rfl (x_field rfl fd57_1 ?_)
   refine j_gstep rfl rfl (x_bld 0 rfl rfl ld25 rfl ?_)
   refine j_gstep rfl rfl (x_len sl25 rfl ?_)
   refine j_run it 2 rfl (by simp) ?_
   refine j_nf [_,_] rfl ?_
   refine j_if rfl rfl (fun h5=>by exfalso;omega) (fun h5=>?_)
   refine j_nf [_,_,_] rfl ?_
   refine j_run it 1 rfl (by simp) ?_
   refine j_nf [_,_,_] rfl ?_
   refine j_loopG (X:=Nat) [2,3,5] [0,1] (fun i=>[(6,.int .i64 (i : Int))]) (fun _=>_) (fun _=>[]) (fun i=>i ≤ rows.length ∧ ∀ r ∈ rows.take i,(r.length : Int) = N) (fun i=>rows.length - i) 0 [] rfl rfl rfl ⟨Nat.zero_le _,fun x h=>by simp at h⟩ (by repeat (first | exact Fr.sub_nil _ | refine Fr.sub_cons rfl ?_)) rfl rfl ?_
   rintro i ⟨hi,hno⟩ ih
   simp only [List.cons_append,List.nil_append] at hi ih ⊢
   by_cases h9 : i < rows.length
   ·obtain ⟨r,hr⟩ : ∃ r,rows[i]? = some r:=⟨_,List.getElem?_eq_getElem h9⟩
    have er:=gd_at hr
    by_cases h8 : (r.length : Int) = N
    ·have h7 : ((rows.getD i default).length : Int) = N:=by rw [er];exact h8
     refine j_nf [_,_,_,_,_,_] rfl ?_
     refine j_run it 1 rfl (by simp) ?_
     refine j_step rfl (x_field rfl fd57_1 ?_)
     refine j_step rfl (x_bld 0 rfl rfl ld25 rfl ?_)
     refine j_step rfl (x_len sl25 rfl ?_)
     refine j_run it 1 rfl (by simp) ?_
     refine j_nf [_,_,_,_,_] rfl ?_
     refine j_if rfl rfl (fun h6=>?_) (fun h6=>by exfalso;omega)
     refine j_nf [_,_,_,_,_,_,_] rfl ?_
     (apply j_drawK it mx 9;(· rfl);(· rfl))
     (apply lxk_eq;(· rfl);(· exact d_x fun _=>x_field rfl fd57_1 dk_eq))
     (apply lxk_eq;(· rfl);(· exact d_bld 0 rfl rfl ld25 rfl))
     (apply lxk_run 1;(· rfl);(· simp))
     (apply lxk_pt;(· rfl);(· exact d_x fun _=>x_idx 1 (i) rfl rfl rfl sl25 rfl (by omega) fun z1 hz1 b3 o1=>(dk_ptD default hz1 0 rfl));intro b3 o1)
     (apply lxk_sl;(· rfl);(· exact d_x fun _=>x_ld_sl 0 rfl rfl ld22 fun pa1 ca1=>(dk_sl 0 rfl));intro pa1 ca1)
     (apply lxk_eq;(· rfl);(· exact d_x fun _=>x_len sl22 rfl dk_eq))
     (apply lxk_eq;(· rfl);(· exact d_x fun _=>x_field rfl fd57_0 dk_eq))
     (apply lxk_eq;(· rfl);(· exact d_bld 0 rfl rfl ld3 rfl))
     (apply lxk_run 1;(· rfl);(· simp))
     refine lxk_end rfl ?_
     simp only [List.map_cons,List.map_nil,List.cons_append,List.nil_append]
     refine j_nf [_,_,_,_,_,_] rfl ?_
     refine j_ifn rfl rfl (fun h10=>by exfalso;omega) (fun h10=>?_)
     refine j_nf [_,_,_,_] rfl ?_
     refine j_run it 3 rfl ⟨trivial,⟨by omega,by omega⟩,trivial,trivial⟩ ?_
     refine j_nfn 1 [.lp (pL 500),.blk 0,.c [1,1,1,1,1]] rfl ?_
     refine j_to [2,3] (by exact fra rfl) rfl rfl (ih (i + 1) (by omega) ⟨by omega,tk_all hr hno h8⟩)
    ·have h7 : ((rows.getD i default).length : Int) ≠ N:=by rw [er];exact h8
     rw [if_pos ⟨r,List.mem_of_getElem? hr,h8⟩]
     refine j_nf [_,_,_,_,_,_] rfl ?_
     refine j_run it 1 rfl (by simp) ?_
     refine j_step rfl (x_field rfl fd57_1 ?_)
     refine j_step rfl (x_bld 0 rfl rfl ld25 rfl ?_)
     refine j_step rfl (x_len sl25 rfl ?_)
     refine j_run it 1 rfl (by simp) ?_
     refine j_nf [_,_,_,_,_] rfl ?_
     refine j_if rfl rfl (fun h6=>?_) (fun h6=>by exfalso;omega)
     refine j_nf [_,_,_,_,_,_,_] rfl ?_
     (apply j_drawK it mx 9;(· rfl);(· rfl))
     (apply lxk_eq;(· rfl);(· exact d_x fun _=>x_field rfl fd57_1 dk_eq))
     (apply lxk_eq;(· rfl);(· exact d_bld 0 rfl rfl ld25 rfl))
     (apply lxk_run 1;(· rfl);(· simp))
     (apply lxk_pt;(· rfl);(· exact d_x fun _=>x_idx 1 (i) rfl rfl rfl sl25 rfl (by omega) fun z1 hz1 b3 o1=>(dk_ptD default hz1 0 rfl));intro b3 o1)
     (apply lxk_sl;(· rfl);(· exact d_x fun _=>x_ld_sl 0 rfl rfl ld22 fun pa1 ca1=>(dk_sl 0 rfl));intro pa1 ca1)
     (apply lxk_eq;(· rfl);(· exact d_x fun _=>x_len sl22 rfl dk_eq))
     (apply lxk_eq;(· rfl);(· exact d_x fun _=>x_field rfl fd57_0 dk_eq))
     (apply lxk_eq;(· rfl);(· exact d_bld 0 rfl rfl ld3 rfl))
     (apply lxk_run 1;(· rfl);(· simp))
     refine lxk_end rfl ?_
     simp only [List.map_cons,List.map_nil,List.cons_append,List.nil_append]
     refine j_nf [_,_,_,_,_,_] rfl ?_
     refine j_ifn rfl rfl (fun h10=>?_) (fun h10=>by exfalso;omega)
     refine j_nf [_,_,_,_,_,_,_] rfl ?_
     refine j_run it 1 rfl (by simp) ?_
     refine j_nf [_,_,_,_,_,_] rfl ?_
     refine j_giv [] rfl rfl rfl ⟨rfl,rfl,rfl⟩
   ·have hlen : ∀ r ∈ rows,(r.length : Int) = N:=fun r hr=>hno r (by rwa [List.take_of_length_le (by omega)])
    rw [if_neg fun ⟨r,hr,h⟩=>h (hlen r hr)]
    clear ih hno hi
    refine j_nf [_,_,_,_,_,_] rfl ?_
    refine j_run it 1 rfl (by simp) ?_
    refine j_step rfl (x_field rfl fd57_1 ?_)
    refine j_step rfl (x_bld 0 rfl rfl ld25 rfl ?_)
    refine j_step rfl (x_len sl25 rfl ?_)
    refine j_run it 1 rfl (by simp) ?_
    refine j_nf [_,_,_,_,_] rfl ?_
    refine j_if rfl rfl (fun h6=>by exfalso;omega) (fun h6=>?_)
    refine j_nf [_,_,_] rfl ?_
    refine j_run it 1 rfl (by simp) ?_
    refine j_nf [_,_,_] rfl ?_
    refine j_loopG (X:=Nat) [2,3] [0,1] (fun i=>[(7,.int .i64 (i : Int)),(5,.int .i64 0)]) (fun _=>_) (fun _=>[]) (fun i=>i ≤ rows.length ∧ ∀ r ∈ rows.take i,∀ x ∈ r,0 ≤ x ∧ x < ((p ^ m : Nat) : Int)) (fun i=>rows.length - i) 0 [] rfl rfl rfl ⟨Nat.zero_le _,fun x h=>by simp at h⟩ (by repeat (first | exact Fr.sub_nil _ | refine Fr.sub_cons rfl ?_)) rfl rfl ?_
    rintro i ⟨hi,hno⟩ ih
    simp only [List.cons_append,List.nil_append] at hi ih ⊢
    by_cases h9 : i < rows.length
    ·obtain ⟨r,hr⟩ : ∃ r,rows[i]? = some r:=⟨_,List.getElem?_eq_getElem h9⟩
     have er:=gd_at hr
     by_cases h8 : ∀ x ∈ r,0 ≤ x ∧ x < ((p ^ m : Nat) : Int)
     ·have he : entE (rows.getD i default) (p ^ m) = 0:=by rw [er,entE,if_pos h8]
      refine j_nf [_,_,_,_,_,_] rfl ?_
      refine j_run it 1 rfl (by simp) ?_
      refine j_step rfl (x_field rfl fd57_1 ?_)
      refine j_step rfl (x_bld 0 rfl rfl ld25 rfl ?_)
      refine j_step rfl (x_len sl25 rfl ?_)
      refine j_run it 1 rfl (by simp) ?_
      refine j_nf [_,_,_,_,_] rfl ?_
      refine j_if rfl rfl (fun h7=>?_) (fun h7=>by exfalso;omega)
      refine j_nf [_,_,_,_,_,_,_] rfl ?_
      (apply j_drawK it mx 7;(· rfl);(· rfl))
      (apply lxk_eq;(· rfl);(· exact d_bld_all 1 rfl rfl ld24 rfl))
      (apply lxk_eq;(· rfl);(· exact d_x fun _=>x_field rfl fd57_1 dk_eq))
      (apply lxk_eq;(· rfl);(· exact d_bld 0 rfl rfl ld25 rfl))
      (apply lxk_run 1;(· rfl);(· simp))
      (apply lxk_pt;(· rfl);(· exact d_x fun _=>x_idx 1 (i) rfl rfl rfl sl25 rfl (by omega) fun z1 hz1 b3 o1=>(dk_ptD default hz1 0 rfl));intro b3 o1)
      (apply lxk_sl;(· rfl);(· exact d_x fun _=>x_ld_sl 0 rfl rfl ld22 fun pa1 ca1=>(dk_sl 0 rfl));intro pa1 ca1)
      (apply lxk_eq;(· rfl);(· exact d_x fun _=>x_call [0] rfl (c_codewrightref09_Entries) rfl (by rintro _ _ _ ⟨rfl,rfl,rfl⟩;exact dk_eq)))
      refine lxk_end rfl ?_
      simp only [List.map_cons,List.map_nil,List.cons_append,List.nil_append]
      refine j_run it 1 rfl (by simp) ?_
      refine j_nf [_,_,_,_,_,_,_] rfl ?_
      refine j_run it 2 rfl (by simp) ?_
      refine j_nf [_,_,_,_,_,_] rfl ?_
      refine j_ifn rfl rfl (fun h10=>by exfalso;omega) (fun h10=>?_)
      refine j_nf [_,_,_,_] rfl ?_
      refine j_run it 3 rfl ⟨trivial,⟨by omega,by omega⟩,trivial,trivial⟩ ?_
      refine j_nfn 1 [.lp (pL 1012),.blk 2,.c (pL 127)] rfl ?_
      refine j_to [2,3] (by exact fcc rfl (fii rfl (by omega) (fcc rfl (fcc rfl (fzz _))))) rfl rfl (ih (i + 1) (by omega) ⟨by omega,tk_all hr hno h8⟩)
     ·have he : entE (rows.getD i default) (p ^ m) = 2:=by rw [er,entE,if_neg h8]
      rw [if_neg fun h=>h8 (h r (List.mem_of_getElem? hr)),← he]
      refine j_nf [_,_,_,_,_,_] rfl ?_
      refine j_run it 1 rfl (by simp) ?_
      refine j_step rfl (x_field rfl fd57_1 ?_)
      refine j_step rfl (x_bld 0 rfl rfl ld25 rfl ?_)
      refine j_step rfl (x_len sl25 rfl ?_)
      refine j_run it 1 rfl (by simp) ?_
      refine j_nf [_,_,_,_,_] rfl ?_
      refine j_if rfl rfl (fun h7=>?_) (fun h7=>by exfalso;omega)
      refine j_nf [_,_,_,_,_,_,_] rfl ?_
      (apply j_drawK it mx 7;(· rfl);(· rfl))
      (apply lxk_eq;(· rfl);(· exact d_bld_all 1 rfl rfl ld24 rfl))
      (apply lxk_eq;(· rfl);(· exact d_x fun _=>x_field rfl fd57_1 dk_eq))
      (apply lxk_eq;(· rfl);(· exact d_bld 0 rfl rfl ld25 rfl))
      (apply lxk_run 1;(· rfl);(· simp))
      (apply lxk_pt;(· rfl);(· exact d_x fun _=>x_idx 1 (i) rfl rfl rfl sl25 rfl (by omega) fun z1 hz1 b3 o1=>(dk_ptD default hz1 0 rfl));intro b3 o1)
      (apply lxk_sl;(· rfl);(· exact d_x fun _=>x_ld_sl 0 rfl rfl ld22 fun pa1 ca1=>(dk_sl 0 rfl));intro pa1 ca1)
      (apply lxk_eq;(· rfl);(· exact d_x fun _=>x_call [0] rfl (c_codewrightref09_Entries) rfl (by rintro _ _ _ ⟨rfl,rfl,rfl⟩;exact dk_eq)))
      refine lxk_end rfl ?_
      simp only [List.map_cons,List.map_nil,List.cons_append,List.nil_append]
      refine j_run it 1 rfl (by simp) ?_
      refine j_nf [_,_,_,_,_,_,_] rfl ?_
      refine j_run it 2 rfl (by simp) ?_
      refine j_nf [_,_,_,_,_,_] rfl ?_
      refine j_ifn rfl rfl (fun h10=>?_) (fun h10=>by exfalso;omega)
      refine j_nf [_,_,_,_,_,_,_] rfl ?_
      refine j_run it 2 rfl (by simp) ?_
      refine j_nf [_,_,_,_,_,_] rfl ?_
      refine j_giv [] rfl rfl rfl ⟨rfl,rfl,rfl⟩
    ·rw [if_pos fun r hr=>hno r (by rwa [List.take_of_length_le (by omega)])]
     refine j_nf [_,_,_,_,_,_] rfl ?_
     refine j_run it 1 rfl (by simp) ?_
     refine j_step rfl (x_field rfl fd57_1 ?_)
     refine j_step rfl (x_bld 0 rfl rfl ld25 rfl ?_)
     refine j_step rfl (x_len sl25 rfl ?_)
     refine j_run it 1 rfl (by simp) ?_
     refine j_nf [_,_,_,_,_] rfl ?_
     refine j_if rfl rfl (fun h7=>by exfalso;omega) (fun h7=>?_)
     refine j_nf [_,_] rfl ?_
     refine j_run it 1 rfl (by simp) ?_
     refine j_nf [_] rfl ?_
     refine j_giv [] rfl rfl rfl ⟨rfl,rfl,rfl⟩
 ·rw [if_pos hc] at he
  subst he
  have c_codewrightref04_Check:=fun {pm : Option Addr} {nm cm : Nat}=>S_codewrightref04_Check (P:=P) (M:=M) (md:=md) (pm:=pm) (nm:=nm) (cm:=cm) (if_neg hc).symm
  refine j_nf [_,_] rfl ?_
  refine j_step rfl (x_box_agg rfl fun b1=>?_)
  refine j_step rfl (x_box_agg rfl fun b2=>?_)
  refine j_run it 1 rfl (by simp) ?_
  refine j_nf [_,_] rfl ?_
  refine j_step rfl (x_bld_all 1 rfl rfl ld24 rfl ?_)
  refine j_step rfl (x_call [0] rfl (c_codewrightref04_Check) rfl ?_)
  rintro _ _ _ ⟨rfl,rfl,rfl⟩
  simp only [List.cons_append,List.nil_append]
  refine j_run it 1 rfl (by simp) ?_
  refine j_nf [_,_,_] rfl ?_
  refine j_run it 2 rfl (by simp) ?_
  refine j_nf [_,_] rfl ?_
  refine j_ifn rfl rfl (fun h1=>?_) (fun h1=>by exfalso;omega)
  refine j_nf [_,_,_] rfl ?_
  refine j_run it 2 rfl (by simp) ?_
  refine j_nf [_,_] rfl ?_
  refine j_giv [] rfl rfl rfl ⟨rfl,rfl,rfl⟩
theorem S_codewrightref09_SameInts {pl pk : Option Addr} {nl cl nk ck : Nat} {l k : List Int} {res : Bool} (hr : decide (l = k) = res) : Ctr Tryz.prog 110 [.slice pl nl cl,.slice pk nk ck] [] [slF I64 pl nl cl l,slF I64 pk nk ck k] (Rv (.bool res) []):=by
 refine Ctr_of_j' (F:=F_codewrightref09_SameInts) rfl fun C=>?_
 subst hr
 refine j_len 0 rfl fun hn hb _=>?_
 refine j_len 1 rfl fun hn2 hb2 _=>?_
 subst hn
 subst hn2
 have hb' : l.length * 8 ≤ 140737488355328:=hb
 have hb2' : k.length * 8 ≤ 140737488355328:=hb2
 by_cases hl : l.length = k.length
 ·refine j_nf [_,_] rfl ?_
  refine j_run it 1 rfl (by simp) ?_
  refine j_nf [_,_,_] rfl ?_
  refine j_run it 1 rfl (by simp) ?_
  refine j_step rfl (x_len sl22 rfl ?_)
  refine j_run it 1 rfl (by simp) ?_
  refine j_step rfl (x_len sl22 rfl ?_)
  refine j_run it 1 rfl (by simp) ?_
  refine j_nf [_,_] rfl ?_
  refine j_ifn rfl rfl (fun h1=>by exfalso;omega) (fun h1=>?_)
  refine j_nf [_,_,_] rfl ?_
  refine j_run it 1 rfl (by simp) ?_
  refine j_nf [_,_,_] rfl ?_
  refine j_loopG (X:=Nat) [0,1] [0,1] (fun i=>[(5,.int .i64 (i : Int))]) (fun _=>[]) (fun _=>[]) (fun i=>i ≤ l.length ∧ ∀ j,j < i → l[j]? = k[j]?) (fun i=>l.length - i) 0 [] rfl rfl rfl ⟨Nat.zero_le _,fun j h=>by omega⟩ (by repeat (first | exact Fr.sub_nil _ | refine Fr.sub_cons rfl ?_)) rfl rfl ?_
  rintro i ⟨hi,hno⟩ ih
  simp only [List.cons_append,List.nil_append] at hi ih ⊢
  by_cases h9 : i < l.length
  ·obtain ⟨y,hy⟩ : ∃ y,l[i]? = some y:=⟨_,List.getElem?_eq_getElem h9⟩
   obtain ⟨z,hz⟩ : ∃ z,k[i]? = some z:=⟨_,List.getElem?_eq_getElem (by omega)⟩
   have ey:=gd_at hy
   have ez:=gd_at hz
   by_cases h8 : y = z
   ·subst h8
    refine j_nf [_,_,_,_,_,_] rfl ?_
    refine j_run it 2 rfl (by simp) ?_
    refine j_step rfl (x_len sl22 rfl ?_)
    refine j_run it 1 rfl (by simp) ?_
    refine j_nf [_,_,_,_,_] rfl ?_
    refine j_if rfl rfl (fun h2=>?_) (fun h2=>by exfalso;omega)
    refine j_nf [_,_,_,_,_,_,_] rfl ?_
    (apply j_drawK it mx 9;(· rfl);(· rfl))
    (apply lxk_run 2;(· rfl);(· simp))
    (apply lxk_pt;(· rfl);(· exact d_x fun _=>x_idx 0 (i) rfl rfl rfl sl22 rfl (by omega) fun z1 hz1 b1 o1=>(dk_ptD default hz1 0 rfl));intro b1 o1)
    (apply lxk_eq;(· rfl);(· exact d_x fun _=>x_ld_int 0 rfl rfl ld3 fun ⟨r1,r2⟩=>dk_eq))
    (apply lxk_run 2;(· rfl);(· simp))
    (apply lxk_pt;(· rfl);(· exact d_x fun _=>x_idx 1 (i) rfl rfl rfl sl22 rfl (by omega) fun z1 hz1 b2 o2=>(dk_ptD default hz1 0 rfl));intro b2 o2)
    (apply lxk_eq;(· rfl);(· exact d_x fun _=>x_ld_int 0 rfl rfl ld3 fun ⟨r1,r2⟩=>dk_eq))
    (apply lxk_run 1;(· rfl);(· simp))
    refine lxk_end rfl ?_
    simp only [List.map_cons,List.map_nil,List.cons_append,List.nil_append]
    refine j_nf [_,_,_,_,_,_] rfl ?_
    refine j_ifn rfl rfl (fun h3=>by exfalso;omega) (fun h3=>?_)
    refine j_nf [_,_,_,_] rfl ?_
    refine j_run it 3 rfl ⟨trivial,⟨by omega,by omega⟩,trivial,trivial⟩ ?_
    refine j_nfn 1 [.lp (pL 116),.blk 0,.c [1,1,1]] rfl ?_
    refine j_to [2,3] (by exact fra rfl) rfl rfl (ih (i + 1) (by omega) ⟨by omega,fun j hj=>by
     rcases Nat.lt_succ_iff_lt_or_eq.1 hj with h | rfl
     ·exact hno j h
     ·rw [hy,hz]⟩)
   ·rw [decide_eq_false (show l ≠ k from fun e=>by rw [e,hz] at hy;exact h8 (Option.some.inj hy).symm)]
    refine j_nf [_,_,_,_,_,_] rfl ?_
    refine j_run it 2 rfl (by simp) ?_
    refine j_step rfl (x_len sl22 rfl ?_)
    refine j_run it 1 rfl (by simp) ?_
    refine j_nf [_,_,_,_,_] rfl ?_
    refine j_if rfl rfl (fun h2=>?_) (fun h2=>by exfalso;omega)
    refine j_nf [_,_,_,_,_,_,_] rfl ?_
    (apply j_drawK it mx 9;(· rfl);(· rfl))
    (apply lxk_run 2;(· rfl);(· simp))
    (apply lxk_pt;(· rfl);(· exact d_x fun _=>x_idx 0 (i) rfl rfl rfl sl22 rfl (by omega) fun z1 hz1 b1 o1=>(dk_ptD default hz1 0 rfl));intro b1 o1)
    (apply lxk_eq;(· rfl);(· exact d_x fun _=>x_ld_int 0 rfl rfl ld3 fun ⟨r1,r2⟩=>dk_eq))
    (apply lxk_run 2;(· rfl);(· simp))
    (apply lxk_pt;(· rfl);(· exact d_x fun _=>x_idx 1 (i) rfl rfl rfl sl22 rfl (by omega) fun z1 hz1 b2 o2=>(dk_ptD default hz1 0 rfl));intro b2 o2)
    (apply lxk_eq;(· rfl);(· exact d_x fun _=>x_ld_int 0 rfl rfl ld3 fun ⟨r1,r2⟩=>dk_eq))
    (apply lxk_run 1;(· rfl);(· simp))
    refine lxk_end rfl ?_
    simp only [List.map_cons,List.map_nil,List.cons_append,List.nil_append]
    refine j_nf [_,_,_,_,_,_] rfl ?_
    refine j_ifn rfl rfl (fun h3=>?_) (fun h3=>by exfalso;omega)
    refine j_nf [_,_,_,_,_,_,_] rfl ?_
    refine j_run it 1 rfl (by simp) ?_
    refine j_nf [_,_,_,_,_,_] rfl ?_
    refine j_giv [] rfl rfl rfl ⟨rfl,rfl,rfl⟩
  ·rw [decide_eq_true (show l = k from List.ext_getElem? fun j=>by
    by_cases h : j < i
    ·exact hno j h
    ·rw [List.getElem?_eq_none (by omega),List.getElem?_eq_none (by omega)])]
   refine j_nf [_,_,_,_,_,_] rfl ?_
   refine j_run it 2 rfl (by simp) ?_
   refine j_step rfl (x_len sl22 rfl ?_)
   refine j_run it 1 rfl (by simp) ?_
   refine j_nf [_,_,_,_,_] rfl ?_
   refine j_if rfl rfl (fun h2=>by exfalso;omega) (fun h2=>?_)
   refine j_nf [_,_] rfl ?_
   refine j_run it 1 rfl (by simp) ?_
   refine j_nf [_] rfl ?_
   refine j_giv [] rfl rfl rfl ⟨rfl,rfl,rfl⟩
 ·rw [decide_eq_false (show l ≠ k from fun e=>hl (by rw [e]))]
  refine j_nf [_,_] rfl ?_
  refine j_run it 1 rfl (by simp) ?_
  refine j_nf [_,_,_] rfl ?_
  refine j_run it 1 rfl (by simp) ?_
  refine j_step rfl (x_len sl22 rfl ?_)
  refine j_run it 1 rfl (by simp) ?_
  refine j_step rfl (x_len sl22 rfl ?_)
  refine j_run it 1 rfl (by simp) ?_
  refine j_nf [_,_] rfl ?_
  refine j_ifn rfl rfl (fun h1=>?_) (fun h1=>by exfalso;omega)
  refine j_nf [_,_,_] rfl ?_
  refine j_run it 1 rfl (by simp) ?_
  refine j_nf [_,_] rfl ?_
  refine j_giv [] rfl rfl rfl ⟨rfl,rfl,rfl⟩
theorem S_codewrightref09_SameRows {pl pk : Option Addr} {nl cl nk ck : Nat} {l k : List (List Int)} {res : Bool} (hr : decide (l = k) = res) : Ctr Tryz.prog 71 [.slice pl nl cl,.slice pk nk ck] [] [slF (encSl I64) pl nl cl l,slF (encSl I64) pk nk ck k] (Rv (.bool res) []):=by
 refine Ctr_of_j' (F:=F_codewrightref09_SameRows) rfl fun C=>?_
 subst hr
 refine j_len 0 rfl fun hn hb _=>?_
 refine j_len 1 rfl fun hn2 hb2 _=>?_
 subst hn
 subst hn2
 have hb' : l.length * 24 ≤ 140737488355328:=hb
 have hb2' : k.length * 24 ≤ 140737488355328:=hb2
 by_cases hl : l.length = k.length
 ·refine j_nf [_,_] rfl ?_
  refine j_run it 1 rfl (by simp) ?_
  refine j_nf [_,_,_] rfl ?_
  refine j_run it 1 rfl (by simp) ?_
  refine j_step rfl (x_len sl25 rfl ?_)
  refine j_run it 1 rfl (by simp) ?_
  refine j_step rfl (x_len sl25 rfl ?_)
  refine j_run it 1 rfl (by simp) ?_
  refine j_nf [_,_] rfl ?_
  refine j_ifn rfl rfl (fun h1=>by exfalso;omega) (fun h1=>?_)
  refine j_nf [_,_,_] rfl ?_
  refine j_run it 1 rfl (by simp) ?_
  refine j_nf [_,_,_] rfl ?_
  refine j_loopG (X:=Nat) [0,1] [0,1] (fun i=>[(5,.int .i64 (i : Int))]) (fun _=>[]) (fun _=>[]) (fun i=>i ≤ l.length ∧ ∀ j,j < i → l[j]? = k[j]?) (fun i=>l.length - i) 0 [] rfl rfl rfl ⟨Nat.zero_le _,fun j h=>by omega⟩ (by repeat (first | exact Fr.sub_nil _ | refine Fr.sub_cons rfl ?_)) rfl rfl ?_
  rintro i ⟨hi,hno⟩ ih
  simp only [List.cons_append,List.nil_append] at hi ih ⊢
  by_cases h9 : i < l.length
  ·obtain ⟨y,hy⟩ : ∃ y,l[i]? = some y:=⟨_,List.getElem?_eq_getElem h9⟩
   obtain ⟨z,hz⟩ : ∃ z,k[i]? = some z:=⟨_,List.getElem?_eq_getElem (by omega)⟩
   have ey:=gd_at hy
   have ez:=gd_at hz
   by_cases h8 : y = z
   ·have hd : decide (l.getD i default = k.getD i default) = true:=by rw [ey,ez];exact decide_eq_true h8
    refine j_nf [_,_,_,_,_,_] rfl ?_
    refine j_run it 2 rfl (by simp) ?_
    refine j_step rfl (x_len sl25 rfl ?_)
    refine j_run it 1 rfl (by simp) ?_
    refine j_nf [_,_,_,_,_] rfl ?_
    refine j_if rfl rfl (fun h2=>?_) (fun h2=>by exfalso;omega)
    refine j_nf [_,_,_,_,_,_,_] rfl ?_
    (apply j_drawK it mx 10;(· rfl);(· rfl))
    (apply lxk_run 2;(· rfl);(· simp))
    (apply lxk_pt;(· rfl);(· exact d_x fun _=>x_idx 0 (i) rfl rfl rfl sl25 rfl (by omega) fun z1 hz1 b1 o1=>(dk_ptD default hz1 0 rfl));intro b1 o1)
    (apply lxk_sl;(· rfl);(· exact d_x fun _=>x_ld_sl 0 rfl rfl ld22 fun pa1 ca1=>(dk_sl 0 rfl));intro pa1 ca1)
    (apply lxk_run 2;(· rfl);(· simp))
    (apply lxk_pt;(· rfl);(· exact d_x fun _=>x_idx 1 (i) rfl rfl rfl sl25 rfl (by omega) fun z1 hz1 b2 o2=>(dk_ptD default hz1 0 rfl));intro b2 o2)
    (apply lxk_sl;(· rfl);(· exact d_x fun _=>x_ld_sl 0 rfl rfl ld22 fun pa2 ca2=>(dk_sl 0 rfl));intro pa2 ca2)
    (apply lxk_eq;(· rfl);(· exact d_x fun _=>x_call [2,0] rfl (S_codewrightref09_SameInts (by omega)) rfl (by rintro _ _ _ ⟨rfl,rfl,rfl⟩;exact dk_eq)))
    (apply lxk_run 1;(· rfl);(· simp))
    refine lxk_end rfl ?_
    simp only [List.map_cons,List.map_nil,List.cons_append,List.nil_append]
    refine j_nf [_,_,_,_,_,_] rfl ?_
    refine j_false rfl rfl ?_
    refine j_nf [_,_,_,_] rfl ?_
    refine j_run it 3 rfl ⟨trivial,⟨by omega,by omega⟩,trivial,trivial⟩ ?_
    refine j_nfn 1 [.lp (pL 116),.blk 0,.c [1,1,1]] rfl ?_
    refine j_to [4,5] (by exact fra rfl) rfl rfl (ih (i + 1) (by omega) ⟨by omega,fun j hj=>by
     rcases Nat.lt_succ_iff_lt_or_eq.1 hj with h | rfl
     ·exact hno j h
     ·rw [hy,hz,h8]⟩)
   ·have hd : decide (l.getD i default = k.getD i default) = false:=by rw [ey,ez];exact decide_eq_false h8
    rw [decide_eq_false (show l ≠ k from fun e=>by rw [e,hz] at hy;exact h8 (Option.some.inj hy).symm)]
    refine j_nf [_,_,_,_,_,_] rfl ?_
    refine j_run it 2 rfl (by simp) ?_
    refine j_step rfl (x_len sl25 rfl ?_)
    refine j_run it 1 rfl (by simp) ?_
    refine j_nf [_,_,_,_,_] rfl ?_
    refine j_if rfl rfl (fun h2=>?_) (fun h2=>by exfalso;omega)
    refine j_nf [_,_,_,_,_,_,_] rfl ?_
    (apply j_drawK it mx 10;(· rfl);(· rfl))
    (apply lxk_run 2;(· rfl);(· simp))
    (apply lxk_pt;(· rfl);(· exact d_x fun _=>x_idx 0 (i) rfl rfl rfl sl25 rfl (by omega) fun z1 hz1 b1 o1=>(dk_ptD default hz1 0 rfl));intro b1 o1)
    (apply lxk_sl;(· rfl);(· exact d_x fun _=>x_ld_sl 0 rfl rfl ld22 fun pa1 ca1=>(dk_sl 0 rfl));intro pa1 ca1)
    (apply lxk_run 2;(· rfl);(· simp))
    (apply lxk_pt;(· rfl);(· exact d_x fun _=>x_idx 1 (i) rfl rfl rfl sl25 rfl (by omega) fun z1 hz1 b2 o2=>(dk_ptD default hz1 0 rfl));intro b2 o2)
    (apply lxk_sl;(· rfl);(· exact d_x fun _=>x_ld_sl 0 rfl rfl ld22 fun pa2 ca2=>(dk_sl 0 rfl));intro pa2 ca2)
    (apply lxk_eq;(· rfl);(· exact d_x fun _=>x_call [2,0] rfl (S_codewrightref09_SameInts (by omega)) rfl (by rintro _ _ _ ⟨rfl,rfl,rfl⟩;exact dk_eq)))
    (apply lxk_run 1;(· rfl);(· simp))
    refine lxk_end rfl ?_
    simp only [List.map_cons,List.map_nil,List.cons_append,List.nil_append]
    refine j_nf [_,_,_,_,_,_] rfl ?_
    refine j_true rfl rfl ?_
    refine j_nf [_,_,_,_,_,_,_] rfl ?_
    refine j_run it 1 rfl (by simp) ?_
    refine j_nf [_,_,_,_,_,_] rfl ?_
    refine j_giv [] rfl rfl rfl ⟨rfl,rfl,rfl⟩
  ·rw [decide_eq_true (show l = k from List.ext_getElem? fun j=>by
    by_cases h : j < i
    ·exact hno j h
    ·rw [List.getElem?_eq_none (by omega),List.getElem?_eq_none (by omega)])]
   refine j_nf [_,_,_,_,_,_] rfl ?_
   refine j_run it 2 rfl (by simp) ?_
   refine j_step rfl (x_len sl25 rfl ?_)
   refine j_run it 1 rfl (by simp) ?_
   refine j_nf [_,_,_,_,_] rfl ?_
   refine j_if rfl rfl (fun h2=>by exfalso;omega) (fun h2=>?_)
   refine j_nf [_,_] rfl ?_
   refine j_run it 1 rfl (by simp) ?_
   refine j_nf [_] rfl ?_
   refine j_giv [] rfl rfl rfl ⟨rfl,rfl,rfl⟩
 ·rw [decide_eq_false (show l ≠ k from fun e=>hl (by rw [e]))]
  refine j_nf [_,_] rfl ?_
  refine j_run it 1 rfl (by simp) ?_
  refine j_nf [_,_,_] rfl ?_
  refine j_run it 1 rfl (by simp) ?_
  refine j_step rfl (x_len sl25 rfl ?_)
  refine j_run it 1 rfl (by simp) ?_
  refine j_step rfl (x_len sl25 rfl ?_)
  refine j_run it 1 rfl (by simp) ?_
  refine j_nf [_,_] rfl ?_
  refine j_ifn rfl rfl (fun h1=>?_) (fun h1=>by exfalso;omega)
  refine j_nf [_,_,_] rfl ?_
  refine j_run it 1 rfl (by simp) ?_
  refine j_nf [_,_] rfl ?_
  refine j_giv [] rfl rfl rfl ⟨rfl,rfl,rfl⟩
theorem S_codewrightref11_IsSubset {ps : Option Addr} {nn c : Nat} {n : Int} {l : List Int} {res : Bool} (hr : decide (stP n l) = res) : Ctr Tryz.prog 54 [.int .i64 n,.slice ps nn c] [] [slF I64 ps nn c l] (Rv (.bool res) []):=by
 refine Ctr_of_j' (F:=F_codewrightref11_IsSubset) rfl fun C=>?_
 subst hr
 refine j_len 0 rfl fun hn hb _=>?_
 subst hn
 have hb' : l.length * 8 ≤ 140737488355328:=hb
 refine j_nf [_,_] rfl ?_
 refine j_run it 1 rfl (by simp) ?_
 refine j_nf [_,_,_] rfl ?_
 refine j_run it 1 rfl (by simp) ?_
 refine j_nf [_,_,_] rfl ?_
 refine j_loopG (X:=Nat) [0,1] [0] (fun i=>[(5,.int .i64 (i : Int))]) (fun _=>[]) (fun _=>[]) (fun i=>i ≤ l.length ∧ ∀ j,j < i → stA n l j) (fun i=>l.length - i) 0 [] rfl rfl rfl ⟨Nat.zero_le _,fun j h=>by omega⟩ (by repeat (first | exact Fr.sub_nil _ | refine Fr.sub_cons rfl ?_)) rfl rfl ?_
 rintro i ⟨hi,hno⟩ ih
 simp only [List.cons_append,List.nil_append] at hi ih ⊢
 by_cases h9 : i < l.length
 ·obtain ⟨x,at_x⟩ : ∃ x,l[i]? = some x:=⟨_,List.getElem?_eq_getElem h9⟩
  have ex:=gd_at at_x
  have bad : ∀ P : Prop,¬ stA n l i → decide (stP n l) = false:=fun _ h=>decide_eq_false (stP_no h9 h)
  have good : stA n l i → ∀ j,j < i + 1 → stA n l j:=fun h j hj=>by
   rcases Nat.lt_succ_iff_lt_or_eq.1 hj with h1 | rfl
   ·exact hno j h1
   ·exact h
  by_cases a0 : x < 0
  ·rw [bad True fun h=>by have:=(h x at_x).1;omega]
   refine j_nf [_,_,_,_,_,_] rfl ?_
   refine j_run it 2 rfl (by simp) ?_
   refine j_step rfl (x_len sl22 rfl ?_)
   refine j_run it 1 rfl (by simp) ?_
   refine j_nf [_,_,_,_,_] rfl ?_
   refine j_if rfl rfl (fun h1=>?_) (fun h1=>by exfalso;omega)
   refine j_nf [_,_,_,_,_,_,_,_] rfl ?_
   refine j_run it 2 rfl (by simp) ?_
   refine j_step rfl (x_idx 0 (i) rfl rfl rfl sl22 rfl (by omega) fun z1 hz1 b1 o1=>?_)
   obtain rfl : _ = z1:=Option.some.inj (at_x.symm.trans hz1)
   refine j_step rfl (x_ld_int 0 rfl rfl ld3 fun ⟨r1,r2⟩=>?_)
   refine j_run it 2 rfl (by simp) ?_
   refine j_split_dec (t:=17) rfl (fun h2=>?_) (fun h2=>by exfalso;omega)
   refine j_run it 7 rfl (by simp) ?_
   refine j_nf [_,_,_,_,_,_,_] rfl ?_
   refine j_true rfl rfl ?_
   refine j_nf [_,_,_,_,_,_,_,_] rfl ?_
   refine j_run it 1 rfl (by simp) ?_
   refine j_nf [_,_,_,_,_,_,_] rfl ?_
   refine j_giv [] rfl rfl rfl ⟨rfl,rfl,rfl⟩
  ·by_cases a1 : n ≤ x
   ·rw [bad True fun h=>by have:=(h x at_x).1;omega]
    refine j_nf [_,_,_,_,_,_] rfl ?_
    refine j_run it 2 rfl (by simp) ?_
    refine j_step rfl (x_len sl22 rfl ?_)
    refine j_run it 1 rfl (by simp) ?_
    refine j_nf [_,_,_,_,_] rfl ?_
    refine j_if rfl rfl (fun h1=>?_) (fun h1=>by exfalso;omega)
    refine j_nf [_,_,_,_,_,_,_,_] rfl ?_
    refine j_run it 2 rfl (by simp) ?_
    refine j_step rfl (x_idx 0 (i) rfl rfl rfl sl22 rfl (by omega) fun z1 hz1 b1 o1=>?_)
    obtain rfl : _ = z1:=Option.some.inj (at_x.symm.trans hz1)
    refine j_step rfl (x_ld_int 0 rfl rfl ld3 fun ⟨r1,r2⟩=>?_)
    refine j_run it 2 rfl (by simp) ?_
    refine j_split_dec (t:=17) rfl (fun h2=>by exfalso;omega) (fun h2=>?_)
    refine j_run it 2 rfl (by simp) ?_
    refine j_gstep rfl rfl (x_idx 1 (i) rfl rfl rfl sl22 rfl (by omega) fun z1 hz2 b2 o2=>?_)
    obtain rfl : _ = z1:=Option.some.inj (at_x.symm.trans hz2)
    refine j_gstep rfl rfl (x_ld_int 0 rfl rfl ld3 fun ⟨r3,r4⟩=>?_)
    refine j_run it 3 rfl (by simp) ?_
    refine j_nf [_,_,_,_,_,_,_] rfl ?_
    refine j_if rfl rfl (fun h3=>?_) (fun h3=>by exfalso;omega)
    refine j_nf [_,_,_,_,_,_,_,_] rfl ?_
    refine j_run it 1 rfl (by simp) ?_
    refine j_nf [_,_,_,_,_,_,_] rfl ?_
    refine j_giv [] rfl rfl rfl ⟨rfl,rfl,rfl⟩
   ·rcases Nat.eq_zero_or_pos i with hi0 | hi0
    ·subst hi0
     refine j_nf [_,_,_,_,_,_] rfl ?_
     refine j_run it 2 rfl (by simp) ?_
     refine j_step rfl (x_len sl22 rfl ?_)
     refine j_run it 1 rfl (by simp) ?_
     refine j_nf [_,_,_,_,_] rfl ?_
     refine j_if rfl rfl (fun h1=>?_) (fun h1=>by exfalso;omega)
     refine j_nf [_,_,_,_,_,_,_,_] rfl ?_
     refine j_run it 2 rfl (by simp) ?_
     refine j_step rfl (x_idx 0 (0) rfl rfl rfl sl22 rfl (by omega) fun z1 hz1 b1 o1=>?_)
     obtain rfl : _ = z1:=Option.some.inj (at_x.symm.trans hz1)
     refine j_step rfl (x_ld_int 0 rfl rfl ld3 fun ⟨r1,r2⟩=>?_)
     refine j_run it 2 rfl (by simp) ?_
     refine j_split_dec (t:=17) rfl (fun h2=>by exfalso;omega) (fun h2=>?_)
     refine j_run it 2 rfl (by simp) ?_
     refine j_gstep rfl rfl (x_idx 1 (0) rfl rfl rfl sl22 rfl (by omega) fun z1 hz2 b2 o2=>?_)
     obtain rfl : _ = z1:=Option.some.inj (at_x.symm.trans hz2)
     refine j_gstep rfl rfl (x_ld_int 0 rfl rfl ld3 fun ⟨r3,r4⟩=>?_)
     refine j_run it 3 rfl (by simp) ?_
     refine j_nf [_,_,_,_,_,_,_] rfl ?_
     refine j_if rfl rfl (fun h3=>by exfalso;omega) (fun h3=>?_)
     refine j_nf [_,_,_,_,_,_,_] rfl ?_
     (apply j_drawK it mx 14;(· rfl);(· rfl))
     (apply lxk_run 1;(· rfl);(· simp))
     (apply lxk_eq;(· rfl);(· exact d_x fun _=>x_false it rfl (by trivial) (by omega) dk_eq))
     (apply lxk_run 10;(· rfl);(· simp))
     (apply lxk_run 2;(· rfl);(· simp))
     refine lxk_end rfl ?_
     simp only [List.map_cons,List.map_nil,List.cons_append,List.nil_append]
     refine j_nf [_,_,_,_,_,_] rfl ?_
     refine j_false rfl rfl ?_
     refine j_nf [_,_,_,_] rfl ?_
     refine j_run it 3 rfl ⟨trivial,⟨by omega,by omega⟩,trivial,trivial⟩ ?_
     refine j_nfn 1 [.lp [1,0,1,0,0],.blk 0,.c [1,1]] rfl ?_
     refine j_to [2] (by exact fra rfl) rfl rfl (ih 1 (by omega) ⟨by omega,good fun z hz=>by
      rw [at_x] at hz;obtain rfl:=Option.some.inj hz
      exact ⟨by omega,fun y h=>by omega⟩⟩)
    ·obtain ⟨k,rfl⟩ : ∃ k,i = k + 1:=⟨i - 1,by omega⟩
     obtain ⟨y,at_y⟩ : ∃ y,l[k]? = some y:=⟨_,List.getElem?_eq_getElem (by omega)⟩
     have ey:=gd_at at_y
     have ey' : l.getD (k + 1 - 1) default = y:=ey
     by_cases a2 : x ≤ y
     ·rw [bad True fun h=>by have:=(h x at_x).2 y (by omega) at_y;omega]
      refine j_nf [_,_,_,_,_,_] rfl ?_
      refine j_run it 2 rfl (by simp) ?_
      refine j_step rfl (x_len sl22 rfl ?_)
      refine j_run it 1 rfl (by simp) ?_
      refine j_nf [_,_,_,_,_] rfl ?_
      refine j_if rfl rfl (fun h1=>?_) (fun h1=>by exfalso;omega)
      refine j_nf [_,_,_,_,_,_,_,_] rfl ?_
      refine j_run it 2 rfl (by simp) ?_
      refine j_step rfl (x_idx 0 (k + 1) rfl rfl rfl sl22 rfl (by omega) fun z1 hz1 b1 o1=>?_)
      obtain rfl : _ = z1:=Option.some.inj (at_x.symm.trans hz1)
      refine j_step rfl (x_ld_int 0 rfl rfl ld3 fun ⟨r1,r2⟩=>?_)
      refine j_run it 2 rfl (by simp) ?_
      refine j_split_dec (t:=17) rfl (fun h2=>by exfalso;omega) (fun h2=>?_)
      refine j_run it 2 rfl (by simp) ?_
      refine j_gstep rfl rfl (x_idx 1 (k + 1) rfl rfl rfl sl22 rfl (by omega) fun z1 hz2 b2 o2=>?_)
      obtain rfl : _ = z1:=Option.some.inj (at_x.symm.trans hz2)
      refine j_gstep rfl rfl (x_ld_int 0 rfl rfl ld3 fun ⟨r3,r4⟩=>?_)
      refine j_run it 3 rfl (by simp) ?_
      refine j_nf [_,_,_,_,_,_,_] rfl ?_
      refine j_if rfl rfl (fun h3=>by exfalso;omega) (fun h3=>?_)
      refine j_nf [_,_,_,_,_,_,_] rfl ?_
      (apply j_drawK it mx 14;(· rfl);(· rfl))
      (apply lxk_run 1;(· rfl);(· simp))
      (apply lxk_eq;(· rfl);(· exact d_x fun _=>x_true it rfl (by trivial) (by omega) dk_eq))
      (apply lxk_run 3;(· rfl);(· simp))
      (apply lxk_pt;(· rfl);(· exact d_x fun _=>x_idx 2 (k + 1) rfl rfl rfl sl22 rfl (by omega) fun z1 hz3 b3 o3=>(dk_ptD default hz3 0 rfl));intro b3 o3)
      (apply lxk_eq;(· rfl);(· exact d_x fun _=>x_ld_int 0 rfl rfl ld3 fun ⟨r5,r6⟩=>dk_eq))
      (apply lxk_run 3;(· rfl);(· exact ⟨⟨by omega,by omega⟩,trivial,trivial,trivial⟩))
      (apply lxk_pt;(· rfl);(· exact d_x fun _=>x_idx 2 ((k + 1) - 1) rfl rfl rfl sl22 (by omega) (by omega) fun z1 hz3 b4 o4=>(dk_ptD default hz3 0 rfl));intro b4 o4)
      (apply lxk_eq;(· rfl);(· exact d_x fun _=>x_ld_int 0 rfl rfl ld3 fun ⟨r5,r6⟩=>dk_eq))
      (apply lxk_eq;(· rfl);(· exact d_x fun _=>x_true it rfl (by trivial) (by omega) dk_eq))
      (apply lxk_run 1;(· rfl);(· simp))
      refine lxk_end rfl ?_
      simp only [List.map_cons,List.map_nil,List.cons_append,List.nil_append]
      refine j_nf [_,_,_,_,_,_] rfl ?_
      refine j_true rfl rfl ?_
      refine j_nf [_,_,_,_,_,_,_] rfl ?_
      refine j_run it 1 rfl (by simp) ?_
      refine j_nf [_,_,_,_,_,_] rfl ?_
      refine j_giv [] rfl rfl rfl ⟨rfl,rfl,rfl⟩
     ·refine j_nf [_,_,_,_,_,_] rfl ?_
      refine j_run it 2 rfl (by simp) ?_
      refine j_step rfl (x_len sl22 rfl ?_)
      refine j_run it 1 rfl (by simp) ?_
      refine j_nf [_,_,_,_,_] rfl ?_
      refine j_if rfl rfl (fun h1=>?_) (fun h1=>by exfalso;omega)
      refine j_nf [_,_,_,_,_,_,_,_] rfl ?_
      refine j_run it 2 rfl (by simp) ?_
      refine j_step rfl (x_idx 0 (k + 1) rfl rfl rfl sl22 rfl (by omega) fun z1 hz1 b1 o1=>?_)
      obtain rfl : _ = z1:=Option.some.inj (at_x.symm.trans hz1)
      refine j_step rfl (x_ld_int 0 rfl rfl ld3 fun ⟨r1,r2⟩=>?_)
      refine j_run it 2 rfl (by simp) ?_
      refine j_split_dec (t:=17) rfl (fun h2=>by exfalso;omega) (fun h2=>?_)
      refine j_run it 2 rfl (by simp) ?_
      refine j_gstep rfl rfl (x_idx 1 (k + 1) rfl rfl rfl sl22 rfl (by omega) fun z1 hz2 b2 o2=>?_)
      obtain rfl : _ = z1:=Option.some.inj (at_x.symm.trans hz2)
      refine j_gstep rfl rfl (x_ld_int 0 rfl rfl ld3 fun ⟨r3,r4⟩=>?_)
      refine j_run it 3 rfl (by simp) ?_
      refine j_nf [_,_,_,_,_,_,_] rfl ?_
      refine j_if rfl rfl (fun h3=>by exfalso;omega) (fun h3=>?_)
      refine j_nf [_,_,_,_,_,_,_] rfl ?_
      (apply j_drawK it mx 14;(· rfl);(· rfl))
      (apply lxk_run 1;(· rfl);(· simp))
      (apply lxk_eq;(· rfl);(· exact d_x fun _=>x_true it rfl (by trivial) (by omega) dk_eq))
      (apply lxk_run 3;(· rfl);(· simp))
      (apply lxk_pt;(· rfl);(· exact d_x fun _=>x_idx 2 (k + 1) rfl rfl rfl sl22 rfl (by omega) fun z1 hz3 b3 o3=>(dk_ptD default hz3 0 rfl));intro b3 o3)
      (apply lxk_eq;(· rfl);(· exact d_x fun _=>x_ld_int 0 rfl rfl ld3 fun ⟨r5,r6⟩=>dk_eq))
      (apply lxk_run 3;(· rfl);(· exact ⟨⟨by omega,by omega⟩,trivial,trivial,trivial⟩))
      (apply lxk_pt;(· rfl);(· exact d_x fun _=>x_idx 2 ((k + 1) - 1) rfl rfl rfl sl22 (by omega) (by omega) fun z1 hz3 b4 o4=>(dk_ptD default hz3 0 rfl));intro b4 o4)
      (apply lxk_eq;(· rfl);(· exact d_x fun _=>x_ld_int 0 rfl rfl ld3 fun ⟨r5,r6⟩=>dk_eq))
      (apply lxk_eq;(· rfl);(· exact d_x fun _=>x_false it rfl (by trivial) (by omega) dk_eq))
      (apply lxk_run 1;(· rfl);(· simp))
      refine lxk_end rfl ?_
      simp only [List.map_cons,List.map_nil,List.cons_append,List.nil_append]
      refine j_nf [_,_,_,_,_,_] rfl ?_
      refine j_false rfl rfl ?_
      refine j_nf [_,_,_,_] rfl ?_
      refine j_run it 3 rfl ⟨trivial,⟨by omega,by omega⟩,trivial,trivial⟩ ?_
      refine j_nfn 1 [.lp [1,0,1,0,0],.blk 0,.c [1,1]] rfl ?_
      refine j_to [4] (by exact fra rfl) rfl rfl (ih (k + 2) (by omega) ⟨by omega,good fun z hz=>by
       rw [at_x] at hz;obtain rfl:=Option.some.inj hz
       exact ⟨by omega,fun z h hz=>by
        rw [show k + 1 - 1 = k by omega,at_y] at hz;obtain rfl:=Option.some.inj hz;omega⟩⟩)
 ·rw [decide_eq_true (stP_iff.2 fun j hj=>hno j (by omega))]
  refine j_nf [_,_,_,_,_,_] rfl ?_
  refine j_run it 2 rfl (by simp) ?_
  refine j_step rfl (x_len sl22 rfl ?_)
  refine j_run it 1 rfl (by simp) ?_
  refine j_nf [_,_,_,_,_] rfl ?_
  refine j_if rfl rfl (fun h1=>by exfalso;omega) (fun h1=>?_)
  refine j_nf [_,_] rfl ?_
  refine j_run it 1 rfl (by simp) ?_
  refine j_nf [_] rfl ?_
  refine j_giv [] rfl rfl rfl ⟨rfl,rfl,rfl⟩
theorem S_codewrightref09_Copy {ps : Option Addr} {n c : Nat} {rows : List (List Int)} (hL : ∀ r ∈ rows,r.length ≤ 1000000) : Ctr Tryz.prog 99 [.slice ps n c] [] [slF (encSl I64) ps n c rows]
  (fun v Φ β=>∃ r : Row,v = .slice (ad r.bo) rows.length r.cap ∧ Φ = [rowF (encSl I64) r rows.length rows] ∧ β = [(r.bo,22,r.cs)]):=by
 refine Ctr_of_j' (F:=F_codewrightref09_Copy) rfl fun C=>?_
 refine j_len 0 rfl fun hn hb _=>?_
 subst hn
 have hb' : rows.length * 24 ≤ 140737488355328:=hb
 refine j_nf [_,_] rfl (j_run it 1 rfl (by simp) ?_)
 refine j_nf [_,_] rfl (j_run it 1 rfl (by simp) ?_)
 refine j_nf [_,_,_] rfl (j_run it 1 rfl (by simp) ?_)
 refine j_nf [_,_,_] rfl ?_
 refine j_row0 (encSl I64) 22 ?_
 refine j_loopG (X:=Nat × Row) [0,2] [0,1] (fun x=>[(4,.int .i64 (x.1 : Int)),(3,.slice (ad x.2.bo) x.1 x.2.cap)]) (fun x=>[(x.2.bo,22,x.2.cs)]) (fun x=>[rowF (encSl I64) x.2 x.1 (rows.take x.1)]) (fun x=>x.1 ≤ rows.length) (fun x=>rows.length - x.1) (0,⟨none,0,[]⟩) [0] rfl rfl rfl (Nat.zero_le _) (by repeat (first | exact Fr.sub_nil _ | refine Fr.sub_cons rfl ?_)) rfl rfl ?_
 rintro ⟨k,r⟩ hk ih
 simp only [List.cons_append,List.nil_append] at hk ih ⊢
 by_cases h9 : k < rows.length
 ·obtain ⟨u,at_u⟩ : ∃ u,rows[k]? = some u:=⟨_,List.getElem?_eq_getElem h9⟩
  have hul:=hL u (List.mem_of_getElem? at_u)
  have ih':=fun r=>ih (k + 1,r) (by dsimp only;omega) (by dsimp only;omega)
  simp only [List.take_add_one,at_u,Option.toList_some] at ih'
  clear ih
  refine j_nf [_,_,_,_,_,_] rfl (j_run it 2 rfl (by simp) ?_)
  refine j_step rfl (x_len sl25 rfl ?_)
  refine j_run it 1 rfl (by simp) ?_
  refine j_nf [_,_,_,_,_] rfl (j_if rfl rfl (fun h1=>?_) (fun h1=>by exfalso;omega))
  refine j_nf [_,_,_,_,_,_] rfl (j_run it 1 rfl (by simp) ?_)
  refine j_step rfl (x_lit0 sl22 fun b1=>?_)
  refine j_run it 2 rfl (by simp) ?_
  refine j_step rfl (x_idx 2 (k) rfl rfl rfl sl25 rfl (by omega) fun z1 hz1 b2 o1=>?_)
  obtain rfl : _ = z1:=Option.some.inj (at_u.symm.trans hz1)
  refine j_step rfl (x_ld_sl 0 rfl rfl ld22 fun pa1 ca1=>?_)
  refine j_rowlit (E:=encInt IntKind.i64 8) (n:=0) (cs:=[]) [] [] 0 (fun w A hG=>allrd_nil) rfl rfl rfl rfl (by decide) ?_
  refine j_step rfl (x_appS 0 0 1 rfl rfl rfl rfl rfl sl22 zo22e rfl (by omega) _ by22e (by omega) fun r1=>?_)
  refine j_step rfl (x_lit sl25 zo25e rfl rfl rfl rfl (by decide) (by decide) rfl fun b3=>?_)
  refine j_pubR 1 0 rfl rfl (by show (0 + u.length) * 8 ≤ 140737488355328;omega) ?_
  refine j_step rfl (x_appR (z:=[]++u) 1 0 5 rfl rfl rfl rfl rfl sl25 zo25e rfl (fun w A hG=>(rd_of_slF (hG _ (fact_mem (n:=0) rfl)))) (by omega) _ by25e (by omega) fun r2=>?_)
  refine j_run it 1 rfl (by simp) ?_
  refine j_nf [_,_,_,_] rfl (j_run it 3 rfl ⟨trivial,⟨by omega,by omega⟩,trivial,trivial⟩ ?_)
  refine j_nfn 1 [.lp (pL 116),.blk 0,.c [1,1,1]] rfl ?_
  simp only [List.nil_append]
  refine j_toM [true,false] [0,7,8] (by exact fra rfl) rfl rfl (ih' r2)
 ·obtain rfl : k = rows.length:=by omega
  rw [List.take_length]
  refine j_nf [_,_,_,_,_,_] rfl (j_run it 2 rfl (by simp) ?_)
  refine j_step rfl (x_len sl25 rfl ?_)
  refine j_run it 1 rfl (by simp) ?_
  refine j_nf [_,_,_,_,_] rfl (j_if rfl rfl (fun h1=>by exfalso;omega) (fun h1=>?_))
  refine j_nf [_,_] rfl (j_run it 2 rfl (by simp) ?_)
  refine j_nf [_] rfl ?_
  refine j_givK 1 [0] [0] rfl (.tmp rfl .nil) rfl rfl rfl ⟨r,rfl,rfl,rfl⟩
theorem S_codewrightref09_scale {p m nm cm : Nat} {a : Int} {pm pu : Option Addr} {nu cu : Nat} {u md : List Int} (K : Fok p m md) (a0 : 0 ≤ a) (a1 : a < ((p ^ m : Nat) : Int)) (hu : ∀ x ∈ u,0 ≤ x ∧ x < ((p ^ m : Nat) : Int)) :
  Ctr Tryz.prog 100 [.agg #[.int .i64 p,.int .i64 m,.slice pm nm cm],.int .i64 a,.slice pu nu cu] [] [slF I64 pm nm cm md,slF I64 pu nu cu u] (RwI nu (sclL (liftI (fM p (fpo m md))) a u)):=by
 refine Ctr_of_j' (F:=F_codewrightref09_scale) rfl fun C=>?_
 refine j_len 1 rfl fun hn hb _=>?_
 subst hn
 have hb' : u.length * 8 ≤ 140737488355328:=hb
 have c_codewrightref04_Mul:=fun {nm cm : Nat} {pm : Option Addr} {x y : Int}=>S_codewrightref04_Mul (nm:=nm) (cm:=cm) (pm:=pm) (x:=x) (y:=y) K
 have hml:=fun x (h : x ∈ u)=>K.fi.ml a x a0 a1 (hu x h).1 (hu x h).2
 have hq:=K.q
 generalize liftI (fM p (fpo m md)) = M at *
 generalize p ^ m = q at *
 refine j_nf [_,_] rfl ?_
 refine j_step rfl (x_box_agg rfl fun b1=>?_)
 refine j_run it 1 rfl (by simp) ?_
 refine j_nf [_,_] rfl ?_
 refine j_run it 1 rfl (by simp) ?_
 refine j_step rfl (x_len sl22 rfl ?_)
 refine j_step rfl (x_make_nat (u.length) _ rfl rfl sl22 zo22e by22e (by omega) (by omega) (by omega) fun b2=>?_)
 refine j_run it 1 rfl (by simp) ?_
 refine j_nf [_,_,_] rfl ?_
 refine j_run it 1 rfl (by simp) ?_
 refine j_nf [_,_,_] rfl ?_
 rw [show natCells .i64 (List.replicate u.length 0) = intCells .i64 ((sclL M a u).take 0++List.replicate (u.length - 0) 0) by simp [natCells,intCells]]
 refine j_loopG (X:=Nat) [1,2,3,6,7] [0,1] (fun i=>[(8,.int .i64 (i : Int))]) (fun i=>(some b2,3,intCells .i64 ((sclL M a u).take i++List.replicate (u.length - i) 0))::_) (fun _=>[]) (fun i=>i ≤ u.length) (fun i=>u.length - i) 0 [] rfl rfl rfl (Nat.zero_le _) (by repeat (first | exact Fr.sub_nil _ | refine Fr.sub_cons rfl ?_)) rfl rfl ?_
 rintro i hi ih
 simp only [List.cons_append,List.nil_append] at hi ih ⊢
 by_cases h9 : i < u.length
 ·obtain ⟨x,at_x⟩ : ∃ x,u[i]? = some x:=⟨_,List.getElem?_eq_getElem h9⟩
  have ex : u.getD i default = x:=by rw [List.getD_eq_getElem?_getD,at_x];rfl
  have hx:=hu x (List.mem_of_getElem? at_x)
  have hm:=hml x (List.mem_of_getElem? at_x)
  obtain ⟨hx0,hx1⟩:=hx
  have ih':=ih (i + 1) (by omega) (by omega)
  have eT : (sclL M a u)[i]? = some (M a (u.getD i default)):=by rw [sclL,List.getElem?_map,at_x,ex];rfl
  rw [← take_set eT h9] at ih'
  have hln : ((sclL M a u).take i++List.replicate (u.length - i) 0).length = u.length:=by simp [sclL];omega
  generalize (sclL M a u).take i++List.replicate (u.length - i) 0 = L at *
  rw [← ex] at hm
  refine j_nf [_,_,_,_,_,_] rfl ?_
  refine j_run it 2 rfl (by simp) ?_
  refine j_step rfl (x_len sl22 rfl ?_)
  refine j_run it 1 rfl (by simp) ?_
  refine j_nf [_,_,_,_,_] rfl ?_
  refine j_if rfl rfl (fun h1=>?_) (fun h1=>by exfalso;omega)
  refine j_nf [_,_,_,_,_,_] rfl ?_
  (apply j_drawK it mx 9;(· rfl);(· rfl))
  (apply lxk_run 2;(· rfl);(· simp))
  (apply lxk_eq;(· rfl);(· exact d_bld_all 1 rfl rfl ld24 rfl))
  (apply lxk_run 3;(· rfl);(· simp))
  (apply lxk_pt;(· rfl);(· exact d_x fun _=>x_idx 1 (i) rfl rfl rfl sl22 rfl (by omega) fun z1 hz1 b3 o1=>(dk_ptD default hz1 0 rfl));intro b3 o1)
  (apply lxk_eq;(· rfl);(· exact d_x fun _=>x_ld_int 0 rfl rfl ld3 fun ⟨r1,r2⟩=>dk_eq))
  (apply lxk_eq;(· rfl);(· exact d_x fun _=>x_call [1] rfl (c_codewrightref04_Mul (by omega) (by omega) (by omega) (by omega)) rfl (by rintro _ _ _ ⟨rfl,rfl,rfl⟩;exact dk_eq)))
  refine lxk_end rfl ?_
  simp only [List.map_cons,List.map_nil,List.cons_append,List.nil_append]
  refine j_step rfl (x_idx_own (i) (i) rfl rfl sl22 rfl (by omega) (Nat.mul_one _) ?_)
  refine j_step rfl (x_bst_int 0 rfl rfl rfl ld3 (by first | omega | (simp;omega)) ?_)
  refine j_nf [_,_,_,_] rfl ?_
  refine j_run it 3 rfl ⟨trivial,⟨by omega,by omega⟩,trivial,trivial⟩ ?_
  refine j_nfn 1 [.lp (pL 116),.blk 0,.c [1,1,1]] rfl ?_
  refine j_to [1,2] (by exact fra rfl) rfl rfl (ih')
 ·obtain rfl : i = u.length:=by omega
  rw [Nat.sub_self,List.replicate_zero,List.append_nil,List.take_of_length_le (by simp [sclL])]
  refine j_nf [_,_,_,_,_,_] rfl ?_
  refine j_run it 2 rfl (by simp) ?_
  refine j_step rfl (x_len sl22 rfl ?_)
  refine j_run it 1 rfl (by simp) ?_
  refine j_nf [_,_,_,_,_] rfl ?_
  refine j_if rfl rfl (fun h1=>by exfalso;omega) (fun h1=>?_)
  refine j_nf [_,_] rfl ?_
  refine j_run it 2 rfl (by simp) ?_
  refine j_nf [_] rfl ?_
  have hall : ∀ z ∈ sclL M a u,InR .i64 z:=fun z hz=>by
   obtain ⟨y,hy,rfl⟩:=List.mem_map.1 hz
   have:=hml y hy
   simp only [InR];omega
  have hln : (sclL M a u).length = u.length:=by simp [sclL]
  generalize sclL M a u = L at *
  refine j_rowInt 0 rfl hln.symm hall (by omega) ?_
  refine j_givK 2 [0] [0] rfl (.tmp rfl .nil) rfl rfl rfl ⟨⟨some b2,u.length,intCells .i64 L⟩,rfl,rfl,rfl⟩
theorem S_codewrightref09_AddTo {p m nm cm n : Nat} {a : Int} {pm pu pv : Option Addr} {nu cu nv cv : Nat} {u v md : List Int} (K : Fok p m md) (a0 : 0 ≤ a) (a1 : a < ((p ^ m : Nat) : Int)) (hu : Wd (p ^ m) n u) (hv : Wd (p ^ m) n v) :
  Ctr Tryz.prog 60 [.agg #[.int .i64 p,.int .i64 m,.slice pm nm cm],.slice pv nv cv,.int .i64 a,.slice pu nu cu] [] [slF I64 pm nm cm md,slF I64 pv nv cv v,slF I64 pu nu cu u] (RwI n (axp (liftI (fA p m)) (liftI (fM p (fpo m md))) a u v)):=by
 refine Ctr_of_j' (F:=F_codewrightref09_AddTo) rfl fun C=>?_
 refine j_len 1 rfl fun hn hb _=>?_
 refine j_len 2 rfl fun hn2 hb2 _=>?_
 have hul:=hu.1
 have hvl:=hv.1
 have hb' : v.length * 8 ≤ 140737488355328:=hn ▸ hb
 rw [hvl] at hn hb'
 rw [hul] at hn2
 subst hn
 subst hn2
 have FF:=K.fi
 have c_codewrightref04_Mul:=fun {nm cm : Nat} {pm : Option Addr} {x y : Int}=>S_codewrightref04_Mul (nm:=nm) (cm:=cm) (pm:=pm) (x:=x) (y:=y) K
 have c_codewrightref04_Add:=fun {nm cm : Nat} {pm : Option Addr} {x y : Int}=>S_codewrightref04_Add (nm:=nm) (cm:=cm) (pm:=pm) (x:=x) (y:=y) K
 have hT:=FF.axw a0 a1 hu hv
 have hq:=K.q
 generalize liftI (fM p (fpo m md)) = M at *
 generalize liftI (fA p m) = A0 at *
 generalize p ^ m = q at *
 have hTa : ∀ (i : Nat) (x y : Int),u[i]? = some x → v[i]? = some y → (axp A0 M a u v)[i]? = some (A0 y (M a x)):=fun i x y h1 h2=>by rw [axp,List.getElem?_zipWith,h1,h2]
 generalize axp A0 M a u v = T at *
 have hTl:=hT.1
 refine j_nf [_,_] rfl ?_
 refine j_step rfl (x_box_agg rfl fun b1=>?_)
 refine j_run it 1 rfl (by simp) ?_
 refine j_nf [_,_] rfl ?_
 refine j_run it 1 rfl (by simp) ?_
 refine j_step rfl (x_len sl22 rfl ?_)
 refine j_step rfl (x_make_nat (nu) _ rfl rfl sl22 zo22e by22e (by omega) (by omega) (by omega) fun b2=>?_)
 refine j_run it 1 rfl (by simp) ?_
 refine j_nf [_,_,_] rfl ?_
 refine j_run it 1 rfl (by simp) ?_
 refine j_nf [_,_,_] rfl ?_
 rw [show natCells .i64 (List.replicate nu 0) = intCells .i64 (T.take 0++List.replicate (nu - 0) 0) by simp [natCells,intCells]]
 refine j_loopG (X:=Nat) [1,2,3,4,8,9] [0,1,2] (fun i=>[(10,.int .i64 (i : Int))]) (fun i=>(some b2,3,intCells .i64 (T.take i++List.replicate (nu - i) 0))::_) (fun _=>[]) (fun i=>i ≤ nu) (fun i=>nu - i) 0 [] rfl rfl rfl (Nat.zero_le _) (by repeat (first | exact Fr.sub_nil _ | refine Fr.sub_cons rfl ?_)) rfl rfl ?_
 rintro i hi ih
 simp only [List.cons_append,List.nil_append] at hi ih ⊢
 by_cases h9 : i < nu
 ·obtain ⟨x,at_x⟩ : ∃ x,u[i]? = some x:=⟨_,List.getElem?_eq_getElem (by omega)⟩
  obtain ⟨y,at_y⟩ : ∃ y,v[i]? = some y:=⟨_,List.getElem?_eq_getElem (by omega)⟩
  have ex : u.getD i default = x:=by rw [List.getD_eq_getElem?_getD,at_x];rfl
  have ey : v.getD i default = y:=by rw [List.getD_eq_getElem?_getD,at_y];rfl
  obtain ⟨x0,x1⟩:=hu.2 x (List.mem_of_getElem? at_x)
  obtain ⟨y0,y1⟩:=hv.2 y (List.mem_of_getElem? at_y)
  obtain ⟨m0,m1⟩:=FF.ml a x a0 a1 x0 x1
  have eT:=hTa i x y at_x at_y
  obtain ⟨t0,t1⟩:=hT.2 _ (List.mem_of_getElem? eT)
  have ih':=ih (i + 1) (by omega) (by omega)
  have hln : (T.take i++List.replicate (nu - i) 0).length = nu:=by rw [List.length_append,List.length_take,List.length_replicate];omega
  by_cases h0 : x = 0
  ·rw [h0,FF.m0 a0 a1,FF.a0 y y0 y1] at eT
   rw [← take_set eT h9] at ih'
   generalize T.take i++List.replicate (nu - i) 0 = L at *
   refine j_nf [_,_,_,_,_,_] rfl ?_
   refine j_run it 2 rfl (by simp) ?_
   refine j_step rfl (x_len sl22 rfl ?_)
   refine j_run it 1 rfl (by simp) ?_
   refine j_nf [_,_,_,_,_] rfl ?_
   refine j_if rfl rfl (fun h1=>?_) (fun h1=>by exfalso;omega)
   refine j_nf [_,_,_,_,_,_,_] rfl ?_
   refine j_run it 4 rfl (by simp) ?_
   refine j_step rfl (x_idx 1 (i) rfl rfl rfl sl22 rfl (by omega) fun z1 hz1 b3 o1=>?_)
   obtain rfl : _ = z1:=Option.some.inj (at_y.symm.trans hz1)
   refine j_step rfl (x_ld_int 0 rfl rfl ld3 fun ⟨r1,r2⟩=>?_)
   refine j_step rfl (x_idx_own (i) (i) rfl rfl sl22 rfl (by omega) (Nat.mul_one _) ?_)
   refine j_step rfl (x_bst_int 0 rfl rfl rfl ld3 (by first | omega | (simp;omega)) ?_)
   refine j_nf [_,_,_,_,_,_,_] rfl ?_
   refine j_run it 2 rfl (by simp) ?_
   refine j_step rfl (x_idx 3 (i) rfl rfl rfl sl22 rfl (by omega) fun z1 hz2 b4 o2=>?_)
   obtain rfl : _ = z1:=Option.some.inj (at_x.symm.trans hz2)
   refine j_step rfl (x_ld_int 0 rfl rfl ld3 fun ⟨r3,r4⟩=>?_)
   refine j_run it 1 rfl (by simp) ?_
   refine j_nf [_,_,_,_,_,_] rfl ?_
   refine j_ifn rfl rfl (fun h2=>by exfalso;omega) (fun h2=>?_)
   refine j_nf [_,_,_,_] rfl ?_
   refine j_run it 3 rfl ⟨trivial,⟨by omega,by omega⟩,trivial,trivial⟩ ?_
   refine j_nfn 1 [.lp (pL 116),.blk 0,.c [1,1,1]] rfl ?_
   refine j_to [2,3,4] (by exact fra rfl) rfl rfl (ih')
  ·rw [← ex,← ey] at eT t0 t1
   rw [← ex] at m0 m1
   rw [← take_set eT h9,← List.set_set (i:=i) (a:=y)] at ih'
   generalize T.take i++List.replicate (nu - i) 0 = L at *
   refine j_nf [_,_,_,_,_,_] rfl ?_
   refine j_run it 2 rfl (by simp) ?_
   refine j_step rfl (x_len sl22 rfl ?_)
   refine j_run it 1 rfl (by simp) ?_
   refine j_nf [_,_,_,_,_] rfl ?_
   refine j_if rfl rfl (fun h1=>?_) (fun h1=>by exfalso;omega)
   refine j_nf [_,_,_,_,_,_,_] rfl ?_
   refine j_run it 4 rfl (by simp) ?_
   refine j_step rfl (x_idx 1 (i) rfl rfl rfl sl22 rfl (by omega) fun z1 hz1 b3 o1=>?_)
   obtain rfl : _ = z1:=Option.some.inj (at_y.symm.trans hz1)
   refine j_step rfl (x_ld_int 0 rfl rfl ld3 fun ⟨r1,r2⟩=>?_)
   refine j_step rfl (x_idx_own (i) (i) rfl rfl sl22 rfl (by omega) (Nat.mul_one _) ?_)
   refine j_step rfl (x_bst_int 0 rfl rfl rfl ld3 (by first | omega | (simp;omega)) ?_)
   refine j_nf [_,_,_,_,_,_,_] rfl ?_
   refine j_run it 2 rfl (by simp) ?_
   refine j_step rfl (x_idx 3 (i) rfl rfl rfl sl22 rfl (by omega) fun z1 hz2 b4 o2=>?_)
   obtain rfl : _ = z1:=Option.some.inj (at_x.symm.trans hz2)
   refine j_step rfl (x_ld_int 0 rfl rfl ld3 fun ⟨r3,r4⟩=>?_)
   refine j_run it 1 rfl (by simp) ?_
   refine j_nf [_,_,_,_,_,_] rfl ?_
   refine j_ifn rfl rfl (fun h2=>?_) (fun h2=>by exfalso;omega)
   (apply j_drawK it mx 15;(· rfl);(· rfl))
   (apply lxk_run 2;(· rfl);(· simp))
   (apply lxk_eq;(· rfl);(· exact d_bld_all 1 rfl rfl ld24 rfl))
   (apply lxk_run 2;(· rfl);(· simp))
   (apply lxk_pt;(· rfl);(· exact d_x fun _=>x_idx 3 (i) rfl rfl rfl sl22 rfl (by omega) fun z1 hz3 b5 o3=>(dk_ptD default hz3 0 rfl));intro b5 o3)
   (apply lxk_eq;(· rfl);(· exact d_x fun _=>x_ld_int 0 rfl rfl ld3 fun ⟨r5,r6⟩=>dk_eq))
   (apply lxk_eq;(· rfl);(· exact d_bld_all 1 rfl rfl ld24 rfl))
   (apply lxk_run 3;(· rfl);(· simp))
   (apply lxk_pt;(· rfl);(· exact d_x fun _=>x_idx 4 (i) rfl rfl rfl sl22 rfl (by omega) fun z1 hz3 b6 o4=>(dk_ptD default hz3 0 rfl));intro b6 o4)
   (apply lxk_eq;(· rfl);(· exact d_x fun _=>x_ld_int 0 rfl rfl ld3 fun ⟨r5,r6⟩=>dk_eq))
   (apply lxk_eq;(· rfl);(· exact d_x fun _=>x_call [3] rfl (c_codewrightref04_Mul (by omega) (by omega) (by omega) (by omega)) rfl (by rintro _ _ _ ⟨rfl,rfl,rfl⟩;exact dk_eq)))
   (apply lxk_eq;(· rfl);(· exact d_x fun _=>x_call [] rfl (c_codewrightref04_Add (by omega) (by omega) (by omega) (by omega)) rfl (by rintro _ _ _ ⟨rfl,rfl,rfl⟩;exact dk_eq)))
   refine lxk_end rfl ?_
   simp only [List.map_cons,List.map_nil,List.cons_append,List.nil_append]
   refine j_step rfl (x_idx_own (i) (i) rfl rfl sl22 rfl (by omega) (Nat.mul_one _) ?_)
   refine j_step rfl (x_bst_int 0 rfl rfl rfl ld3 (by first | omega | (simp;omega)) ?_)
   refine j_nf [_,_,_,_] rfl ?_
   refine j_run it 3 rfl ⟨trivial,⟨by omega,by omega⟩,trivial,trivial⟩ ?_
   refine j_nfn 1 [.lp (pL 116),.blk 0,.c [1,1,1]] rfl ?_
   refine j_to [4,5,6] (by exact fra rfl) rfl rfl (ih')
 ·obtain rfl : i = nu:=by omega
  rw [Nat.sub_self,List.replicate_zero,List.append_nil,List.take_of_length_le (by omega)]
  refine j_nf [_,_,_,_,_,_] rfl ?_
  refine j_run it 2 rfl (by simp) ?_
  refine j_step rfl (x_len sl22 rfl ?_)
  refine j_run it 1 rfl (by simp) ?_
  refine j_nf [_,_,_,_,_] rfl ?_
  refine j_if rfl rfl (fun h1=>by exfalso;omega) (fun h1=>?_)
  refine j_nf [_,_] rfl ?_
  refine j_run it 2 rfl (by simp) ?_
  refine j_nf [_] rfl ?_
  refine j_rowInt 0 rfl hTl.symm (fun z hz=>by have:=hT.2 z hz;simp only [InR];omega) (by omega) ?_
  refine j_givK 2 [0] [0] rfl (.tmp rfl .nil) rfl rfl rfl ⟨⟨some b2,_,intCells .i64 T⟩,rfl,rfl,rfl⟩
abbrev ElR (n : Nat) (E : List (List Int) × List Nat) : Value → List Fact → List Blk → Prop:=fun v Φ β=>∃ (pb pp : Option Addr) (cb cp : Nat),v = .tuple #[.slice pb n cb,.slice pp E.2.length cp]
 ∧ Φ = [slF (encSl I64) pb n cb E.1,slF I64 pp E.2.length cp (toI E.2)] ∧ β = []
theorem S_codewrightref09_Eliminate {p m n N W nm cm c : Nat} {pm ps : Option Addr} {rows : List (List Int)} {md : List Int} (K : Fok p m md) (hn : n ≤ 1000000) (hNW : N ≤ W) (hW : W ≤ 1000000) (hl : rows.length = n) (hM : Mat (p ^ m) W rows) :
  Ctr Tryz.prog 59 [.agg #[.int .i64 p,.int .i64 m,.slice pm nm cm],.slice ps n c,.int .i64 N] [] [slF I64 pm nm cm md,slF (encSl I64) ps n c rows] (ElR n (elP p m md N 0 0 rows)):=by
 refine Ctr_of_j' (F:=F_codewrightref09_Eliminate) rfl fun C=>?_
 have O:=fok_fo K
 have hq:=K.q
 have q2:=O.q2
 subst hl
 generalize hEE : elP p m md N 0 0 rows = EE
 have c_codewrightref09_Copy:=fun {ps : Option Addr} {n c : Nat}=>S_codewrightref09_Copy (ps:=ps) (n:=n) (c:=c) (rows:=rows) fun r hr=>by rw [(hM r hr).1];exact hW
 have hb0 : rows.length * 24 ≤ 140737488355328:=by omega
 rcases Nat.eq_zero_or_pos rows.length with hn0 | hn0
 ·have hr0:=List.length_eq_zero_iff.1 hn0
  subst hr0
  rw [elP,elim_full _ _ _ _ (Nat.zero_le _)] at hEE
  subst hEE
  refine j_nf [_,_] rfl ?_
  refine j_step rfl (x_box_agg rfl fun b1=>?_)
  refine j_run it 2 rfl (by simp) ?_
  refine j_nf [_,_] rfl ?_
  refine j_run it 1 rfl (by simp) ?_
  refine j_step rfl (x_call [1] rfl (c_codewrightref09_Copy) rfl ?_)
  rintro _ _ _ ⟨r1,rfl,rfl,rfl⟩
  simp only [List.cons_append,List.nil_append]
  refine j_run it 1 rfl (by simp) ?_
  refine j_nf [_,_] rfl ?_
  refine j_run it 1 rfl (by simp) ?_
  refine j_nf [_,_] rfl ?_
  refine j_run it 1 rfl (by simp) ?_
  refine j_nf [_,_,_] rfl ?_
  refine j_run it 1 rfl (by simp) ?_
  refine j_nf [_,_,_] rfl ?_
  refine j_row0 I64 3 ?_
  refine j_loopG (X:=Unit) [2,3,6,7,8] [0,1,2,3] (fun _=>[(11,.int .i64 0),(10,.int .i64 0),(9,.slice none 0 0)]) (fun _=>_) (fun _=>[]) (fun _=>True) (fun _=>0) () [] rfl rfl rfl trivial (by repeat (first | exact Fr.sub_nil _ | refine Fr.sub_cons rfl ?_)) rfl rfl ?_
  rintro ⟨⟩ - ih
  simp only [List.cons_append,List.nil_append] at ih ⊢
  refine j_pubR 0 0 rfl rfl (by show 0 * 8 ≤ 140737488355328;omega) ?_
  refine j_pubR 0 2 rfl rfl (by show 0 * 24 ≤ 140737488355328;omega) ?_
  rcases Nat.eq_zero_or_pos N with hN0 | hN0
  ·subst hN0
   refine j_nf [_,_,_,_,_,_] rfl ?_
   refine j_run it 9 rfl (by simp) ?_
   refine j_nf [_,_,_,_,_] rfl ?_
   refine j_false rfl rfl ?_
   refine j_nf [_,_] rfl ?_
   refine j_run it 4 rfl (by simp) ?_
   refine j_nf [_] rfl ?_
   refine j_giv [0,1] rfl rfl rfl ⟨_,_,_,_,rfl,rfl,rfl⟩
  ·refine j_nf [_,_,_,_,_,_] rfl ?_
   refine j_run it 4 rfl (by simp) ?_
   refine j_split_dec (t:=19) rfl (fun h1=>?_) (fun h1=>by exfalso;omega)
   refine j_run it 2 rfl (by simp) ?_
   refine j_gstep rfl rfl (x_len sl25 rfl ?_)
   refine j_run it 2 rfl (by simp) ?_
   refine j_nf [_,_,_,_,_] rfl ?_
   refine j_if rfl rfl (fun h2=>by exfalso;omega) (fun h2=>?_)
   refine j_nf [_,_] rfl ?_
   refine j_run it 4 rfl (by simp) ?_
   refine j_nf [_] rfl ?_
   refine j_giv [0,1] rfl rfl rfl ⟨_,_,_,_,rfl,rfl,rfl⟩
 refine j_nf [_,_] rfl ?_
 refine j_step rfl (x_box_agg rfl fun b1=>?_)
 refine j_run it 2 rfl (by simp) ?_
 refine j_nf [_,_] rfl ?_
 refine j_run it 1 rfl (by simp) ?_
 refine j_step rfl (x_call [1] rfl (c_codewrightref09_Copy) rfl ?_)
 rintro _ _ _ ⟨r1,rfl,rfl,rfl⟩
 simp only [List.cons_append,List.nil_append]
 refine j_run it 1 rfl (by simp) ?_
 refine j_nf [_,_] rfl ?_
 refine j_run it 1 rfl (by simp) ?_
 refine j_nf [_,_] rfl ?_
 refine j_run it 1 rfl (by simp) ?_
 refine j_nf [_,_,_] rfl ?_
 refine j_run it 1 rfl (by simp) ?_
 refine j_nf [_,_,_] rfl ?_
 refine j_rowB 0 rfl hn0 fun bh caph csh hr=>?_
 subst hr
 dsimp only
 refine j_row0 I64 3 ?_
 refine j_loopG (X:=Nat × List Value × Row × List (List Int) × List Nat) [2,3,6,7,8] [2] (fun x=>[(11,.int .i64 (x.1 : Int)),(10,.int .i64 (x.2.2.2.2.length : Int)),(9,.slice (ad x.2.2.1.bo) x.2.2.2.2.length x.2.2.1.cap)])
  (fun x=>(x.2.2.1.bo,3,x.2.2.1.cs)::(some bh,22,x.2.1)::_)
  (fun x=>[rowF I64 x.2.2.1 x.2.2.2.2.length (toI x.2.2.2.2),rowF (encSl I64) ⟨some bh,caph,x.2.1⟩ rows.length x.2.2.2.1])
  (fun x=>x.1 ≤ N ∧ x.2.2.2.1.length = rows.length ∧ Mat (p ^ m) W x.2.2.2.1 ∧ x.2.2.2.2.length ≤ rows.length ∧ (elP p m md (N - x.1) x.1 x.2.2.2.2.length x.2.2.2.1).1 = EE.1 ∧ x.2.2.2.2++(elP p m md (N - x.1) x.1 x.2.2.2.2.length x.2.2.2.1).2 = EE.2) (fun x=>N - x.1)
  (0,csh,⟨none,0,[]⟩,rows,[]) [0,1] rfl rfl rfl ⟨Nat.zero_le _,rfl,hM,Nat.zero_le _,congrArg Prod.fst hEE,congrArg Prod.snd hEE⟩ (by repeat (first | exact Fr.sub_nil _ | refine Fr.sub_cons rfl ?_)) rfl rfl ?_
 clear hEE
 generalize hnn : rows.length = n at *
 rintro ⟨c,ch,rp,L,pv⟩ ⟨hcN,hL,hLM,hpv,hE1,hE2⟩ ih
 simp only [List.cons_append,List.nil_append] at hcN hL hLM hpv hE1 hE2 ih ⊢
 by_cases hcl : c < N
 ·by_cases hpl : pv.length < n
  ·have hrl : ∀ k,k < n → (row0 L k).length = W:=fun k hk=>(hLM.row (by omega)).1
   have hra : ∀ k,k < n → L[k]? = some (row0 L k):=fun k hk=>by rw [row0,List.getD_eq_getElem?_getD,List.getElem?_eq_getElem (by omega)];rfl
   have hre : ∀ k,k < n → (row0 L k)[c]? = some (en L k c):=fun k hk=>by
    rw [en,at0,List.getD_eq_getElem?_getD,List.getElem?_eq_getElem (by rw [hrl k hk];omega)];rfl
   have hen : ∀ k,k < n → 0 ≤ en L k c ∧ en L k c < ((p ^ m : Nat) : Int):=fun k hk=>wd_at (by omega) (hLM.row (by omega)) c
   refine j_nf [_,_,_,_,_,_] rfl ?_
   refine j_run it 4 rfl (by simp) ?_
   refine j_split_dec (t:=19) rfl (fun h1=>?_) (fun h1=>by exfalso;omega)
   refine j_run it 2 rfl (by simp) ?_
   refine j_gstep rfl rfl (x_len sl25 rfl ?_)
   refine j_run it 2 rfl (by simp) ?_
   refine j_nf [_,_,_,_,_] rfl ?_
   refine j_if rfl rfl (fun h2=>?_) (fun h2=>by exfalso;omega)
   refine j_nf [_,_,_,_,_,_,_] rfl ?_
   refine j_run it 2 rfl (by simp) ?_
   refine j_nf [_,_,_,_,_,_,_,_] rfl ?_
   refine j_loopG (X:=Nat) [2,3,6,7,8,9,10,11,16,17,18,19,20,21,22,23,24,27] [0,1,2] (fun k=>[(12,.int .i64 (k : Int))]) (fun _=>_) (fun _=>[]) (fun k=>pv.length ≤ k ∧ k ≤ n ∧ ∀ j,pv.length ≤ j → j < k → en L j c = 0) (fun k=>n - k) pv.length [] rfl rfl rfl ⟨Nat.le_refl _,hpv,fun j h1 h2=>by omega⟩ (by repeat (first | exact Fr.sub_nil _ | refine Fr.sub_cons rfl ?_)) rfl rfl ?_
   rintro k ⟨hk1,hk2,hk3⟩ ihk
   simp only [List.cons_append,List.nil_append] at hk1 hk2 hk3 ihk ⊢
   by_cases hkn : k < n
   ·have at_u:=hra k hkn
    have at_z:=hre k hkn
    have hru:=hrl k hkn
    by_cases hz0 : en L k c = 0
    ·rw [hz0] at at_z
     refine j_nf [_,_,_,_,_,_,_,_,_,_,_] rfl ?_
     refine j_run it 2 rfl (by simp) ?_
     refine j_step rfl (x_len sl25 rfl ?_)
     refine j_run it 2 rfl (by simp) ?_
     refine j_split_dec (t:=32) rfl (fun h3=>?_) (fun h3=>by exfalso;omega)
     refine j_run it 2 rfl (by simp) ?_
     refine j_gstep rfl rfl (x_idx_own (k) (k) rfl rfl sl25 rfl (by omega) (Nat.mul_one _) ?_)
     refine j_gstep rfl rfl (x_ldR_sl 1 1 (k) rfl rfl rfl ld22 rfl (by omega) fun z1 hz1 pa1 ca1=>?_)
     obtain rfl : _ = z1:=Option.some.inj (at_u.symm.trans hz1)
     refine j_run it 1 rfl (by simp) ?_
     refine j_gstep rfl rfl (x_idx 0 (c) rfl rfl rfl sl22 rfl (by omega) fun z1 hz2 b2 o1=>?_)
     obtain rfl : _ = z1:=Option.some.inj (at_z.symm.trans hz2)
     refine j_gstep rfl rfl (x_ld_int 0 rfl rfl ld3 fun ⟨r1,r2⟩=>?_)
     refine j_run it 2 rfl (by simp) ?_
     refine j_nf [_,_,_,_,_,_,_,_,_,_] rfl ?_
     refine j_if rfl rfl (fun h4=>?_) (fun h4=>by exfalso;omega)
     refine j_nf [_,_,_,_,_,_,_,_,_,_] rfl ?_
     refine j_run it 3 rfl ⟨trivial,⟨by omega,by omega⟩,trivial,trivial⟩ ?_
     refine j_nfn 2 [.lp (pL 64072),.blk 2,.c (pL 16019),.blk 1,.c (pL 2003),.lp (pL 500),.blk 0,.c [1,1,1,1,1]] rfl ?_
     refine j_to [2,3,4] (by exact fra rfl) rfl rfl (ihk (k + 1) (by omega) ⟨by omega,by omega,fun j h1 h2=>by
      rcases Nat.lt_succ_iff_lt_or_eq.1 h2 with h | rfl
      ·exact hk3 j h1 h
      ·exact hz0⟩)
    ·clear ihk
     have hrt:=hra pv.length hpl
     obtain ⟨e0,e1⟩:=hen k hkn
     obtain ⟨⟨v0,v1⟩,hiv⟩:=O.iv _ e0 e1 hz0
     have hSl : (swpL L pv.length k).length = n:=by rw [swpL,List.length_set,List.length_set,hL]
     have hSW : ∀ i,i < n → Wd (p ^ m) W (row0 (swpL L pv.length k) i):=fun i hi=>swp_wd hLM (by omega) (by omega) (by omega)
     have hSra : ∀ i,i < n → (swpL L pv.length k)[i]? = some (row0 (swpL L pv.length k) i):=fun i hi=>by rw [row0,List.getD_eq_getElem?_getD,List.getElem?_eq_getElem (by omega)];rfl
     have hSt : row0 (swpL L pv.length k) pv.length = row0 L k:=by
      rw [swp_row (by omega) (by omega)]
      split
      ·rename_i e;rw [← e]
      ·rw [if_pos rfl]
     have at_v:=hSra pv.length hpl
     rw [hSt,swpL] at at_v
     have hrk:=hrl k hkn
     have ek : (row0 L k).getD c default = en L k c:=gd_at at_z
     have key : ∀ ch' : List Value,J F_codewrightref09_Eliminate C [It.c (pL 128159),It.blk 1,It.c (pL 2003),It.lp (pL 500),It.blk 0,It.c [1,1,1,1,1]]
       [(2,.int .i64 N),(3,.pointer (some ⟨b1,0,none⟩)),(6,.slice none 0 0),(7,.slice none 0 0),(8,.slice (ad (some bh)) n caph),(9,.slice (ad rp.bo) pv.length rp.cap),(10,.int .i64 (pv.length : Int)),(11,.int .i64 (c : Int))]
       [(rp.bo,3,rp.cs),(some bh,22,ch'),(some b1,24,[.int .i64 p,.int .i64 m,.slice pm nm cm])]
       [rowF I64 rp pv.length (toI pv),rowF (encSl I64) ⟨some bh,caph,ch'⟩ n ((swpL L pv.length k).set pv.length (sclL (liftI (fM p (fpo m md))) (invI p m md (en L k c)) (row0 L k))),slF I64 pm nm cm md] (Gives C (ElR n EE)):=by
      intro ch'
      clear at_v at_u at_z hrt hrk ek
      have hprW : Wd (p ^ m) W (sclL (liftI (fM p (fpo m md))) (invI p m md (en L k c)) (row0 L k)):=O.scl_wd v0 v1 (hLM.row (by omega))
      have hpiv : pivL (liftI (fA p m)) (liftI (fM p (fpo m md))) (negI p m) (invI p m md) pv.length k c L = (List.range n).map fun i=>if i = pv.length then sclL (liftI (fM p (fpo m md))) (invI p m md (en L k c)) (row0 L k) else axp (liftI (fA p m)) (liftI (fM p (fpo m md))) (negI p m (en (swpL L pv.length k) i c)) (sclL (liftI (fM p (fpo m md))) (invI p m md (en L k c)) (row0 L k)) (row0 (swpL L pv.length k) i):=by rw [pivL,hL]
      have hpM:=O.piv_wd hLM (show pv.length < L.length by omega) (show k < L.length by omega) hz0
      have hf : findP L pv.length c = some k:=findP_of hk1 (by omega) hz0 fun j h1 h2=>hk3 j h1 h2
      rw [elP,show N - c = (N - (c + 1)) + 1 by omega,elimL,hf] at hE1 hE2
      have hE1' : (elP p m md (N - (c + 1)) (c + 1) (pv.length + 1) (pivL (liftI (fA p m)) (liftI (fM p (fpo m md))) (negI p m) (invI p m md) pv.length k c L)).1 = EE.1:=hE1
      have hE2' : pv++c::(elP p m md (N - (c + 1)) (c + 1) (pv.length + 1) (pivL (liftI (fA p m)) (liftI (fM p (fpo m md))) (negI p m) (invI p m md) pv.length k c L)).2 = EE.2:=hE2
      have hpM' : Mat (p ^ m) W (pivL (liftI (fA p m)) (liftI (fM p (fpo m md))) (negI p m) (invI p m md) pv.length k c L):=hpM
      have hplen : (pivL (liftI (fA p m)) (liftI (fM p (fpo m md))) (negI p m) (invI p m md) pv.length k c L).length = n:=by rw [pivL_len,hL]
      clear hE1 hE2 hpM
      generalize pivL (liftI (fA p m)) (liftI (fM p (fpo m md))) (negI p m) (invI p m md) pv.length k c L = PV at *
      generalize sclL (liftI (fM p (fpo m md))) (invI p m md (en L k c)) (row0 L k) = pr at *
      have hSen : ∀ i,i < n → 0 ≤ en (swpL L pv.length k) i c ∧ en (swpL L pv.length k) i c < ((p ^ m : Nat) : Int):=fun i hi=>wd_at (by omega) (hSW i hi) c
      have hSre : ∀ i,i < n → (row0 (swpL L pv.length k) i)[c]? = some (en (swpL L pv.length k) i c):=fun i hi=>by
       rw [en,at0,List.getD_eq_getElem?_getD,List.getElem?_eq_getElem (by rw [(hSW i hi).1];omega)];rfl
      clear hSt hre hen hra hrl hf hz0 e0 e1 hiv v0 v1 hk3 hLM
      generalize swpL L pv.length k = S at *
      let CL : Nat → List (List Int):=fun i=>(List.range n).map fun j=>if j = pv.length then pr else if j < i then axp (liftI (fA p m)) (liftI (fM p (fpo m md))) (negI p m (en S j c)) pr (row0 S j) else row0 S j
      have hCl : ∀ i,(CL i).length = n:=fun i=>by simp [CL]
      have hCa : ∀ i j,j < n → (CL i)[j]? = some (if j = pv.length then pr else if j < i then axp (liftI (fA p m)) (liftI (fM p (fpo m md))) (negI p m (en S j c)) pr (row0 S j) else row0 S j):=fun i j hj=>by
       show ((List.range n).map _)[j]? = _
       rw [List.getElem?_map,List.getElem?_range hj];rfl
      have hC0 : S.set pv.length pr = CL 0:=by
       refine List.ext_getElem? fun j=>?_
       by_cases hj : j < n
       ·rw [hCa 0 j hj,List.getElem?_set]
        by_cases e : pv.length = j
        ·rw [if_pos e,if_pos (by omega),if_pos e.symm]
        ·rw [if_neg e,if_neg (fun h=>e h.symm),if_neg (by omega),hSra j hj]
       ·rw [List.getElem?_eq_none (by rw [List.length_set];omega),List.getElem?_eq_none (by rw [hCl];omega)]
      have hCn : CL n = PV:=by
       rw [hpiv]
       refine List.map_congr_left fun j hj=>?_
       have:=List.mem_range.1 hj
       by_cases e : j = pv.length
       ·rw [if_pos e,if_pos e]
       ·rw [if_neg e,if_neg e,if_pos this]
      have hCt : ∀ i,(CL i)[pv.length]? = some pr:=fun i=>by rw [hCa i _ hpl,if_pos rfl]
      have hCi : ∀ i,i < n → i ≠ pv.length → (CL i)[i]? = some (row0 S i):=fun i hi e=>by rw [hCa i i hi,if_neg e,if_neg (Nat.lt_irrefl i)]
      have hCsame : ∀ i,i < n → (i = pv.length ∨ en S i c = 0) → CL (i + 1) = CL i:=fun i hi h=>by
       refine List.map_congr_left fun j hj=>?_
       have hjn:=List.mem_range.1 hj
       by_cases e : j = pv.length
       ·rw [if_pos e,if_pos e]
       ·rw [if_neg e,if_neg e]
        by_cases e2 : j < i
        ·rw [if_pos e2,if_pos (by omega)]
        ·rw [if_neg e2]
         by_cases e3 : j = i
         ·subst e3
          rcases h with h | h
          ·exact absurd h e
          ·have n0 : negI p m 0 = 0:=O.n0
           rw [if_pos (by omega),h,n0,axp_id O.fi hprW (hSW j hjn)]
         ·rw [if_neg (by omega)]
      have hCset : ∀ i,i < n → i ≠ pv.length → CL (i + 1) = (CL i).set i (axp (liftI (fA p m)) (liftI (fM p (fpo m md))) (negI p m (en S i c)) pr (row0 S i)):=fun i hi e=>by
       refine List.ext_getElem? fun j=>?_
       by_cases hj : j < n
       ·rw [hCa _ j hj,List.getElem?_set]
        by_cases e2 : i = j
        ·subst e2
         rw [if_neg e,if_pos (Nat.lt_succ_self i),if_pos rfl,if_pos (by rw [hCl];exact hi)]
        ·rw [if_neg e2,hCa i j hj]
         by_cases e3 : j = pv.length
         ·rw [if_pos e3,if_pos e3]
         ·rw [if_neg e3,if_neg e3]
          by_cases e4 : j < i
          ·rw [if_pos e4,if_pos (by omega)]
          ·rw [if_neg e4,if_neg (by omega)]
       ·rw [List.getElem?_eq_none (by rw [hCl];omega),List.getElem?_eq_none (by rw [List.length_set,hCl];omega)]
      clear_value CL
      rw [hC0]
      refine j_nf [_,_,_,_,_,_,_,_] rfl ?_
      refine j_run it 1 rfl (by simp) ?_
      refine j_nf [_,_,_,_,_,_,_,_] rfl ?_
      refine j_loopG (X:=Nat × List Value) [2,3,6,7,8,9,10,11] [0,1,2] (fun x=>[(13,.int .i64 (x.1 : Int))]) (fun x=>(rp.bo,3,rp.cs)::(some bh,22,x.2)::_) (fun x=>[rowF (encSl I64) ⟨some bh,caph,x.2⟩ n (CL x.1)]) (fun x=>x.1 ≤ n) (fun x=>n - x.1) (0,ch') [1] rfl rfl rfl (Nat.zero_le _) (by repeat (first | exact Fr.sub_nil _ | refine Fr.sub_cons rfl ?_)) rfl rfl ?_
      rintro ⟨i,ch2⟩ hi ihi
      simp only [List.cons_append,List.nil_append] at hi ihi ⊢
      by_cases hin : i < n
      ·by_cases hit : i = pv.length
       ·have ih':=fun ch=>ihi (i + 1,ch) (by dsimp only;omega) (by dsimp only;omega)
        simp only [hCsame i hin (.inl hit)] at ih'
        refine j_nf [_,_,_,_,_,_,_,_,_,_,_] rfl ?_
        refine j_run it 2 rfl (by simp) ?_
        refine j_step rfl (x_len sl25 rfl ?_)
        refine j_run it 1 rfl (by simp) ?_
        refine j_nf [_,_,_,_,_,_,_,_,_,_] rfl ?_
        refine j_if rfl rfl (fun h3=>?_) (fun h3=>by exfalso;omega)
        refine j_nf [_,_,_,_,_,_,_,_,_,_,_,_] rfl ?_
        refine j_run it 4 rfl (by simp) ?_
        refine j_split_ndec (t:=97) rfl (fun h4=>by exfalso;omega) (fun h4=>?_)
        refine j_run it 9 rfl (by simp) ?_
        refine j_nf [_,_,_,_,_,_,_,_,_,_,_] rfl ?_
        refine j_false rfl rfl ?_
        refine j_nf [_,_,_,_,_,_,_,_,_] rfl ?_
        refine j_run it 3 rfl ⟨trivial,⟨by omega,by omega⟩,trivial,trivial⟩ ?_
        refine j_nfn 1 [.lp (pL 2050548),.blk 4,.c (pL 256319),.blk 1,.c (pL 2003),.lp (pL 500),.blk 0,.c [1,1,1,1,1]] rfl ?_
        refine j_to [0,1,2,3] (by exact fra rfl) rfl rfl (ih' ch2)
       ·have at_w:=hCi i hin hit
        have at_x:=hSre i hin
        have hwl:=(hSW i hin).1
        by_cases hx0 : en S i c = 0
        ·have ih':=fun ch=>ihi (i + 1,ch) (by dsimp only;omega) (by dsimp only;omega)
         simp only [hCsame i hin (.inr hx0)] at ih'
         refine j_nf [_,_,_,_,_,_,_,_,_,_,_] rfl ?_
         refine j_run it 2 rfl (by simp) ?_
         refine j_step rfl (x_len sl25 rfl ?_)
         refine j_run it 1 rfl (by simp) ?_
         refine j_nf [_,_,_,_,_,_,_,_,_,_] rfl ?_
         refine j_if rfl rfl (fun h3=>?_) (fun h3=>by exfalso;omega)
         refine j_nf [_,_,_,_,_,_,_,_,_,_,_,_] rfl ?_
         refine j_run it 4 rfl (by simp) ?_
         refine j_split_ndec (t:=97) rfl (fun h4=>?_) (fun h4=>by exfalso;omega)
         refine j_run it 2 rfl (by simp) ?_
         refine j_gstep rfl rfl (x_idx_own (i) (i) rfl rfl sl25 rfl (by omega) (Nat.mul_one _) ?_)
         refine j_gstep rfl rfl (x_ldR_sl 1 0 (i) rfl rfl rfl ld22 rfl (by omega) fun z1 hz1 pa1 ca1=>?_)
         obtain rfl : _ = z1:=Option.some.inj (at_w.symm.trans hz1)
         refine j_run it 1 rfl (by simp) ?_
         refine j_gstep rfl rfl (x_idx 0 (c) rfl rfl rfl sl22 rfl (by omega) fun z1 hz2 b2 o1=>?_)
         obtain rfl : _ = z1:=Option.some.inj (at_x.symm.trans hz2)
         refine j_gstep rfl rfl (x_ld_int 0 rfl rfl ld3 fun ⟨r1,r2⟩=>?_)
         refine j_run it 2 rfl (by simp) ?_
         refine j_nf [_,_,_,_,_,_,_,_,_,_,_] rfl ?_
         refine j_ifn rfl rfl (fun h5=>by exfalso;omega) (fun h5=>?_)
         refine j_nf [_,_,_,_,_,_,_,_,_] rfl ?_
         refine j_run it 3 rfl ⟨trivial,⟨by omega,by omega⟩,trivial,trivial⟩ ?_
         refine j_nfn 1 [.lp (pL 2050548),.blk 4,.c (pL 256319),.blk 1,.c (pL 2003),.lp (pL 500),.blk 0,.c [1,1,1,1,1]] rfl ?_
         refine j_to [2,3,4,5] (by exact fra rfl) rfl rfl (ih' ch2)
        ·have ih':=fun ch=>ihi (i + 1,ch) (by dsimp only;omega) (by dsimp only;omega)
         simp only [hCset i hin hit] at ih'
         have at_p:=hCt i
         have ex : (row0 S i).getD c default = en S i c:=gd_at at_x
         obtain ⟨x0,x1⟩:=hSen i hin
         obtain ⟨⟨g0,g1⟩,-⟩:=O.ng _ x0 x1
         have hneg : 0 ≤ ((nP p m ((row0 S i).getD c default).toNat : Nat) : Int) ∧ ((nP p m ((row0 S i).getD c default).toNat : Nat) : Int) < ((p ^ m : Nat) : Int):=by rw [ex];exact ⟨g0,g1⟩
         have c_codewrightref04_Neg:=fun {nm cm : Nat} {pm : Option Addr} {x : Int}=>S_codewrightref04_Neg (nm:=nm) (cm:=cm) (pm:=pm) (x:=x) K
         have c_codewrightref09_AddTo:=fun {nm cm nu cu nv cv : Nat} {pm pu pv : Option Addr} {a : Int} (a0 : 0 ≤ a) (a1 : a < ((p ^ m : Nat) : Int))=>(S_codewrightref09_AddTo (nm:=nm) (cm:=cm) (pm:=pm) (pu:=pu) (nu:=nu) (cu:=cu) (pv:=pv) (nv:=nv) (cv:=cv) (a:=a) K a0 a1 hprW (hSW i hin)).pubR (by show W * 8 ≤ 140737488355328;omega)
         refine j_nf [_,_,_,_,_,_,_,_,_,_,_] rfl ?_
         refine j_run it 2 rfl (by simp) ?_
         refine j_step rfl (x_len sl25 rfl ?_)
         refine j_run it 1 rfl (by simp) ?_
         refine j_nf [_,_,_,_,_,_,_,_,_,_] rfl ?_
         refine j_if rfl rfl (fun h3=>?_) (fun h3=>by exfalso;omega)
         refine j_nf [_,_,_,_,_,_,_,_,_,_,_,_] rfl ?_
         refine j_run it 4 rfl (by simp) ?_
         refine j_split_ndec (t:=97) rfl (fun h4=>?_) (fun h4=>by exfalso;omega)
         refine j_run it 2 rfl (by simp) ?_
         refine j_gstep rfl rfl (x_idx_own (i) (i) rfl rfl sl25 rfl (by omega) (Nat.mul_one _) ?_)
         refine j_gstep rfl rfl (x_ldR_sl 1 0 (i) rfl rfl rfl ld22 rfl (by omega) fun z1 hz1 pa1 ca1=>?_)
         obtain rfl : _ = z1:=Option.some.inj (at_w.symm.trans hz1)
         refine j_run it 1 rfl (by simp) ?_
         refine j_gstep rfl rfl (x_idx 0 (c) rfl rfl rfl sl22 rfl (by omega) fun z1 hz2 b2 o1=>?_)
         obtain rfl : _ = z1:=Option.some.inj (at_x.symm.trans hz2)
         refine j_gstep rfl rfl (x_ld_int 0 rfl rfl ld3 fun ⟨r1,r2⟩=>?_)
         refine j_run it 2 rfl (by simp) ?_
         refine j_nf [_,_,_,_,_,_,_,_,_,_,_] rfl ?_
         refine j_ifn rfl rfl (fun h5=>?_) (fun h5=>by exfalso;omega)
         (apply j_drawK it mx 21;(· rfl);(· rfl))
         (apply lxk_run 2;(· rfl);(· simp))
         (apply lxk_eq;(· rfl);(· exact d_bld_all 2 rfl rfl ld24 rfl))
         (apply lxk_run 2;(· rfl);(· simp))
         (apply lxk_eq;(· rfl);(· exact d_x fun _=>x_idx_own (i) (i) rfl rfl sl25 rfl (by omega) (Nat.mul_one _) dk_eq))
         (apply lxk_sl;(· rfl);(· exact d_ldR_sl 1 2 (i) rfl rfl rfl ld22 rfl (by assumption));intro pa2 ca2)
         (apply lxk_eq;(· rfl);(· exact d_bld_all 2 rfl rfl ld24 rfl))
         (apply lxk_run 2;(· rfl);(· simp))
         (apply lxk_eq;(· rfl);(· exact d_x fun _=>x_idx_own (i) (i) rfl rfl sl25 rfl (by omega) (Nat.mul_one _) dk_eq))
         (apply lxk_sl;(· rfl);(· exact d_ldR_sl 1 2 (i) rfl rfl rfl ld22 rfl (by assumption));intro pa3 ca3)
         (apply lxk_run 1;(· rfl);(· simp))
         (apply lxk_pt;(· rfl);(· exact d_x fun _=>x_idx 0 (c) rfl rfl rfl sl22 rfl (by omega) fun z1 hz3 b3 o2=>(dk_ptD default hz3 0 rfl));intro b3 o2)
         (apply lxk_eq;(· rfl);(· exact d_x fun _=>x_ld_int 0 rfl rfl ld3 fun ⟨r3,r4⟩=>dk_eq))
         (apply lxk_eq;(· rfl);(· exact d_x fun _=>x_call [] rfl (c_codewrightref04_Neg (by omega) (by omega)) rfl (by rintro _ _ _ ⟨rfl,rfl,rfl⟩;exact dk_eq)))
         (apply lxk_run 2;(· rfl);(· simp))
         (apply lxk_eq;(· rfl);(· exact d_x fun _=>x_idx_own (pv.length) (pv.length) rfl rfl sl25 rfl (by omega) (Nat.mul_one _) dk_eq))
         (apply lxk_sl;(· rfl);(· exact d_ldR_sl 1 2 (pv.length) rfl rfl rfl ld22 rfl (by assumption));intro pa4 ca4)
         (apply lxk_sl;(· rfl);(· exact d_x fun _=>x_call [9,3,0] rfl (c_codewrightref09_AddTo (by omega) (by omega)) rfl (by rintro _ _ _ ⟨pa5,ca5,rfl,rfl,rfl⟩;exact (dk_sl 0 rfl)));intro pa5 ca5)
         refine lxk_end rfl ?_
         simp only [List.map_cons,List.map_nil,List.cons_append,List.nil_append]
         refine j_step rfl (x_idx_own (i) (i) rfl rfl sl25 rfl (by omega) (Nat.mul_one _) ?_)
         refine j_step rfl (x_stR (vs:=[Value.slice pa5 W ca5]) (z:=axp (liftI (fA p m)) (liftI (fM p (fpo m md))) (↑(nP p m ((row0 S i).getD c default).toNat)) pr (row0 S i)) 1 7 (i) rfl rfl rfl rfl rfl ld22 (Nat.mul_one _).symm (by omega) (fun w A hG=>(rd_of_slF (hG _ (fact_mem (n:=0) rfl)))) fun cs1=>?_)
         refine j_nf [_,_,_,_,_,_,_,_,_] rfl ?_
         refine j_run it 3 rfl ⟨trivial,⟨by omega,by omega⟩,trivial,trivial⟩ ?_
         refine j_nfn 1 [.lp (pL 2050548),.blk 4,.c (pL 256319),.blk 1,.c (pL 2003),.lp (pL 500),.blk 0,.c [1,1,1,1,1]] rfl ?_
         rw [ex]
         refine j_to [0,9,10,11] (by exact fra rfl) rfl rfl (ih' cs1)
      ·obtain rfl : i = n:=by omega
       rw [hCn]
       clear ihi hC0 hCn hCt hCi hCsame hCset hCa hCl
       refine j_nf [_,_,_,_,_,_,_,_,_,_,_] rfl ?_
       refine j_run it 2 rfl (by simp) ?_
       refine j_step rfl (x_len sl25 rfl ?_)
       refine j_run it 1 rfl (by simp) ?_
       refine j_nf [_,_,_,_,_,_,_,_,_,_] rfl ?_
       refine j_if rfl rfl (fun h3=>by exfalso;omega) (fun h3=>?_)
       refine j_nf [_,_,_,_,_,_,_] rfl ?_
       refine j_run it 2 rfl (by simp) ?_
       refine j_step rfl (x_lit sl22 zo22e rfl rfl rfl rfl (by decide) (by decide) rfl fun b2=>?_)
       refine j_step rfl (x_appR (z:=(↑c : Int)) 1 0 1 rfl rfl rfl rfl rfl sl22 zo22e rfl (fun w A hG=>(rd_int (by first | (simp only [InR];omega) | (simp [InR];done)))) (by omega) _ by22e (by omega) fun r1=>?_)
       refine j_run it 1 rfl (by simp) ?_
       refine j_nf [_,_,_,_,_,_] rfl ?_
       refine j_run it 3 rfl ⟨trivial,⟨by omega,by omega⟩,trivial,trivial⟩ ?_
       refine j_nf [_,_,_,_] rfl ?_
       refine j_run it 3 rfl ⟨trivial,⟨by omega,by omega⟩,trivial,trivial⟩ ?_
       refine j_nfn 1 [.lp (pL 500),.blk 0,.c [1,1,1,1,1]] rfl ?_
       have ih':=fun ch rp=>ih (c + 1,ch,rp,PV,pv++[c]) (by dsimp only;omega) ⟨by dsimp only;omega,hplen,hpM',by rw [List.length_append,List.length_singleton];omega,by rw [List.length_append,List.length_singleton];exact hE1',by rw [List.length_append,List.length_singleton,List.append_assoc];exact hE2'⟩
       have et : toI (pv++[c]) = toI pv++[(c : Int)]:=by simp [toI]
       simp only [et,List.length_append,List.length_singleton] at ih'
       refine j_toM [true,false,true,true] [0,1,4] (by exact fra rfl) rfl rfl (ih' ch2 r1)
     by_cases h1 : en L k c = 1
     ·have hV : invI p m md (en L k c) = 1:=by
       rw [h1] at hiv v0 v1 ⊢
       have v0' : 0 ≤ invI p m md 1:=v0
       have v1' : invI p m md 1 < ((p ^ m : Nat) : Int):=v1
       have h2 : liftI (fM p (fpo m md)) 1 (invI p m md 1) = 1:=hiv
       rw [O.fi.mc 1 _ (by omega) (by omega) v0' v1',O.fi.m1 _ v0' v1'] at h2
       exact h2
      have hs1 : (swpL L pv.length k).set pv.length (sclL (liftI (fM p (fpo m md))) (invI p m md (en L k c)) (row0 L k)) = (L.set pv.length (row0 L k)).set k (row0 L pv.length):=by
       rw [hV,scl_one O.fi (hLM.row (by omega))]
       obtain ⟨h2,h3⟩:=List.getElem?_eq_some_iff.1 at_v
       refine List.ext_getElem? fun j=>?_
       rw [List.getElem?_set]
       by_cases e : pv.length = j
       ·subst e
        rw [if_pos rfl,if_pos (by rw [hSl];exact hpl),at_v]
       ·rw [if_neg e];rfl
      rw [hs1] at key
      refine j_nf [_,_,_,_,_,_,_,_,_,_,_] rfl ?_
      refine j_run it 2 rfl (by simp) ?_
      refine j_step rfl (x_len sl25 rfl ?_)
      refine j_run it 2 rfl (by simp) ?_
      refine j_split_dec (t:=32) rfl (fun h3=>?_) (fun h3=>by exfalso;omega)
      refine j_run it 2 rfl (by simp) ?_
      refine j_gstep rfl rfl (x_idx_own (k) (k) rfl rfl sl25 rfl (by omega) (Nat.mul_one _) ?_)
      refine j_gstep rfl rfl (x_ldR_sl 1 1 (k) rfl rfl rfl ld22 rfl (by omega) fun z1 hz1 pa1 ca1=>?_)
      obtain rfl : _ = z1:=Option.some.inj (at_u.symm.trans hz1)
      refine j_run it 1 rfl (by simp) ?_
      refine j_gstep rfl rfl (x_idx 0 (c) rfl rfl rfl sl22 rfl (by omega) fun z1 hz2 b2 o1=>?_)
      obtain rfl : _ = z1:=Option.some.inj (at_z.symm.trans hz2)
      refine j_gstep rfl rfl (x_ld_int 0 rfl rfl ld3 fun ⟨r1,r2⟩=>?_)
      refine j_run it 2 rfl (by simp) ?_
      refine j_nf [_,_,_,_,_,_,_,_,_,_] rfl ?_
      refine j_if rfl rfl (fun h4=>by exfalso;omega) (fun h4=>?_)
      refine j_nf [_,_,_,_,_,_,_,_] rfl ?_
      refine j_run it 2 rfl (by simp) ?_
      refine j_step rfl (x_len sl25 rfl ?_)
      refine j_run it 1 rfl (by simp) ?_
      refine j_nf [_,_,_,_,_,_,_] rfl ?_
      refine j_if rfl rfl (fun h5=>by exfalso;omega) (fun h5=>?_)
      refine j_nf [_,_,_,_,_,_,_] rfl ?_
      (apply j_drawKW (x0:=none) it mx 0 13 [2,3] 1;(· rfl);(· rfl);(· rfl);(· decide))
      simp only [List.drop_zero]
      (apply lxk_run 6;(· rfl);(· simp))
      (apply lxk_eq;(· rfl);(· exact d_x fun _=>x_idx_own (k) (k) rfl rfl sl25 rfl (by omega) (Nat.mul_one _) dk_eq))
      (apply lxk_sl;(· rfl);(· exact d_ldR_sl 1 3 (k) rfl rfl rfl ld22 rfl (by assumption));intro pa2 ca2)
      (apply lxk_run 2;(· rfl);(· simp))
      (apply lxk_eq;(· rfl);(· exact d_x fun _=>x_idx_own (pv.length) (pv.length) rfl rfl sl25 rfl (by omega) (Nat.mul_one _) dk_eq))
      (apply lxk_sl;(· rfl);(· exact d_ldR_sl 1 3 (pv.length) rfl rfl rfl ld22 rfl (by assumption));intro pa3 ca3)
      (apply lxk_eq;(· rfl);(· exact d_x fun _=>x_idx_own (pv.length) (pv.length) rfl rfl sl25 rfl (by omega) (Nat.mul_one _) dk_eq))
      refine lxk_endW rfl ?_
      (rotate_left;rfl;rotate_right)
      simp only [List.map_cons,List.map_nil,List.cons_append,List.nil_append]
      refine win_step it rfl rfl ⟨⟨_,_,_,_,rfl,rfl,rfl,rfl,rfl,rfl,(by first | trivial | (repeat' first | exact trivial | apply And.intro | omega))⟩,⟨⟨_,_,_,_,rfl,rfl,rfl,rfl,rfl,rfl,(by first | trivial | (repeat' first | exact trivial | apply And.intro | omega))⟩,trivial⟩⟩ (x_stR (vs:=[Value.slice pa2 (row0 L k).length ca2]) (z:=row0 L k) 1 5 (pv.length) rfl rfl rfl rfl rfl ld22 (Nat.mul_one _).symm (by omega) (fun w A hG=>(rd_of_slF (hG _ (fact_mem (n:=1) rfl)))) fun cs1=>?_)
      refine win_end it ⟨⟨_,_,_,_,rfl,rfl,rfl,rfl,rfl,rfl,(by first | trivial | (repeat' first | exact trivial | apply And.intro | omega))⟩,⟨⟨_,_,_,_,rfl,rfl,rfl,rfl,rfl,rfl,(by first | trivial | (repeat' first | exact trivial | apply And.intro | omega))⟩,trivial⟩⟩ ?_
      refine j_step rfl (x_idx_own (k) (k) rfl rfl sl25 rfl (by omega) (Nat.mul_one _) ?_)
      refine j_step rfl (x_stR (vs:=[Value.slice pa3 (row0 L pv.length).length ca3]) (z:=row0 L pv.length) 1 0 (k) rfl rfl rfl rfl rfl ld22 (Nat.mul_one _).symm (by omega) (fun w A hG=>(rd_of_slF (hG _ (fact_mem (n:=1) rfl)))) fun cs2=>?_)
      refine j_nf [_,_,_,_,_,_,_,_] rfl ?_
      refine j_run it 2 rfl (by simp) ?_
      refine j_step rfl (x_idx_own (pv.length) (pv.length) rfl rfl sl25 rfl (by omega) (Nat.mul_one _) ?_)
      refine j_step rfl (x_ldR_sl 1 0 (pv.length) rfl rfl rfl ld22 rfl (by omega) fun z1 hz3 pa4 ca4=>?_)
      obtain rfl : _ = z1:=Option.some.inj (at_v.symm.trans hz3)
      refine j_run it 1 rfl (by simp) ?_
      refine j_step rfl (x_idx 0 (c) rfl rfl rfl sl22 rfl (by omega) fun z1 hz4 b3 o2=>?_)
      obtain rfl : _ = z1:=Option.some.inj (at_z.symm.trans hz4)
      refine j_step rfl (x_ld_int 0 rfl rfl ld3 fun ⟨r3,r4⟩=>?_)
      refine j_run it 1 rfl (by simp) ?_
      refine j_nf [_,_,_,_,_,_,_] rfl ?_
      refine j_ifn rfl rfl (fun h6=>by exfalso;omega) (fun h6=>?_)
      refine j_nfn 1 [.c (pL 128159),.blk 1,.c (pL 2003),.lp (pL 500),.blk 0,.c [1,1,1,1,1]] rfl ?_
      refine j_to [8,2,10] (by exact fra rfl) rfl rfl (key cs2)
     ·have c_codewrightref04_Inv:=fun {nm cm : Nat} {pm : Option Addr} {x : Int}=>S_codewrightref04_Inv (nm:=nm) (cm:=cm) (pm:=pm) (x:=x) K
      have c_codewrightref09_scale:=fun {nm cm cu : Nat} {pm pu : Option Addr} {a : Int} (a0 : 0 ≤ a) (a1 : a < ((p ^ m : Nat) : Int))=>(S_codewrightref09_scale (nm:=nm) (cm:=cm) (pm:=pm) (pu:=pu) (nu:=(row0 L k).length) (cu:=cu) (a:=a) (u:=row0 L k) K a0 a1 (hLM.row (by omega)).2).pubR (by show (row0 L k).length * 8 ≤ 140737488355328;omega)
      have hiv2 : 0 ≤ ((iF (p ^ m) (fM p (fpo m md)) ((row0 L k).getD c default).toNat : Nat) : Int) ∧ ((iF (p ^ m) (fM p (fpo m md)) ((row0 L k).getD c default).toNat : Nat) : Int) < ((p ^ m : Nat) : Int):=by rw [ek];exact ⟨v0,v1⟩
      rw [show (swpL L pv.length k).set pv.length (sclL (liftI (fM p (fpo m md))) (invI p m md (en L k c)) (row0 L k)) = ((L.set pv.length (row0 L k)).set k (row0 L pv.length)).set pv.length (sclL (liftI (fM p (fpo m md))) ((iF (p ^ m) (fM p (fpo m md)) (en L k c).toNat : Nat) : Int) (row0 L k)) from rfl] at key
      refine j_nf [_,_,_,_,_,_,_,_,_,_,_] rfl ?_
      refine j_run it 2 rfl (by simp) ?_
      refine j_step rfl (x_len sl25 rfl ?_)
      refine j_run it 2 rfl (by simp) ?_
      refine j_split_dec (t:=32) rfl (fun h3=>?_) (fun h3=>by exfalso;omega)
      refine j_run it 2 rfl (by simp) ?_
      refine j_gstep rfl rfl (x_idx_own (k) (k) rfl rfl sl25 rfl (by omega) (Nat.mul_one _) ?_)
      refine j_gstep rfl rfl (x_ldR_sl 1 1 (k) rfl rfl rfl ld22 rfl (by omega) fun z1 hz1 pa1 ca1=>?_)
      obtain rfl : _ = z1:=Option.some.inj (at_u.symm.trans hz1)
      refine j_run it 1 rfl (by simp) ?_
      refine j_gstep rfl rfl (x_idx 0 (c) rfl rfl rfl sl22 rfl (by omega) fun z1 hz2 b2 o1=>?_)
      obtain rfl : _ = z1:=Option.some.inj (at_z.symm.trans hz2)
      refine j_gstep rfl rfl (x_ld_int 0 rfl rfl ld3 fun ⟨r1,r2⟩=>?_)
      refine j_run it 2 rfl (by simp) ?_
      refine j_nf [_,_,_,_,_,_,_,_,_,_] rfl ?_
      refine j_if rfl rfl (fun h4=>by exfalso;omega) (fun h4=>?_)
      refine j_nf [_,_,_,_,_,_,_,_] rfl ?_
      refine j_run it 2 rfl (by simp) ?_
      refine j_step rfl (x_len sl25 rfl ?_)
      refine j_run it 1 rfl (by simp) ?_
      refine j_nf [_,_,_,_,_,_,_] rfl ?_
      refine j_if rfl rfl (fun h5=>by exfalso;omega) (fun h5=>?_)
      refine j_nf [_,_,_,_,_,_,_] rfl ?_
      (apply j_drawKW (x0:=none) it mx 0 13 [2,3] 1;(· rfl);(· rfl);(· rfl);(· decide))
      simp only [List.drop_zero]
      (apply lxk_run 6;(· rfl);(· simp))
      (apply lxk_eq;(· rfl);(· exact d_x fun _=>x_idx_own (k) (k) rfl rfl sl25 rfl (by omega) (Nat.mul_one _) dk_eq))
      (apply lxk_sl;(· rfl);(· exact d_ldR_sl 1 3 (k) rfl rfl rfl ld22 rfl (by assumption));intro pa2 ca2)
      (apply lxk_run 2;(· rfl);(· simp))
      (apply lxk_eq;(· rfl);(· exact d_x fun _=>x_idx_own (pv.length) (pv.length) rfl rfl sl25 rfl (by omega) (Nat.mul_one _) dk_eq))
      (apply lxk_sl;(· rfl);(· exact d_ldR_sl 1 3 (pv.length) rfl rfl rfl ld22 rfl (by assumption));intro pa3 ca3)
      (apply lxk_eq;(· rfl);(· exact d_x fun _=>x_idx_own (pv.length) (pv.length) rfl rfl sl25 rfl (by omega) (Nat.mul_one _) dk_eq))
      refine lxk_endW rfl ?_
      (rotate_left;rfl;rotate_right)
      simp only [List.map_cons,List.map_nil,List.cons_append,List.nil_append]
      refine win_step it rfl rfl ⟨⟨_,_,_,_,rfl,rfl,rfl,rfl,rfl,rfl,(by first | trivial | (repeat' first | exact trivial | apply And.intro | omega))⟩,⟨⟨_,_,_,_,rfl,rfl,rfl,rfl,rfl,rfl,(by first | trivial | (repeat' first | exact trivial | apply And.intro | omega))⟩,trivial⟩⟩ (x_stR (vs:=[Value.slice pa2 (row0 L k).length ca2]) (z:=row0 L k) 1 5 (pv.length) rfl rfl rfl rfl rfl ld22 (Nat.mul_one _).symm (by omega) (fun w A hG=>(rd_of_slF (hG _ (fact_mem (n:=1) rfl)))) fun cs1=>?_)
      refine win_end it ⟨⟨_,_,_,_,rfl,rfl,rfl,rfl,rfl,rfl,(by first | trivial | (repeat' first | exact trivial | apply And.intro | omega))⟩,⟨⟨_,_,_,_,rfl,rfl,rfl,rfl,rfl,rfl,(by first | trivial | (repeat' first | exact trivial | apply And.intro | omega))⟩,trivial⟩⟩ ?_
      refine j_step rfl (x_idx_own (k) (k) rfl rfl sl25 rfl (by omega) (Nat.mul_one _) ?_)
      refine j_step rfl (x_stR (vs:=[Value.slice pa3 (row0 L pv.length).length ca3]) (z:=row0 L pv.length) 1 0 (k) rfl rfl rfl rfl rfl ld22 (Nat.mul_one _).symm (by omega) (fun w A hG=>(rd_of_slF (hG _ (fact_mem (n:=1) rfl)))) fun cs2=>?_)
      refine j_nf [_,_,_,_,_,_,_,_] rfl ?_
      refine j_run it 2 rfl (by simp) ?_
      refine j_step rfl (x_idx_own (pv.length) (pv.length) rfl rfl sl25 rfl (by omega) (Nat.mul_one _) ?_)
      refine j_step rfl (x_ldR_sl 1 0 (pv.length) rfl rfl rfl ld22 rfl (by omega) fun z1 hz3 pa4 ca4=>?_)
      obtain rfl : _ = z1:=Option.some.inj (at_v.symm.trans hz3)
      refine j_run it 1 rfl (by simp) ?_
      refine j_step rfl (x_idx 0 (c) rfl rfl rfl sl22 rfl (by omega) fun z1 hz4 b3 o2=>?_)
      obtain rfl : _ = z1:=Option.some.inj (at_z.symm.trans hz4)
      refine j_step rfl (x_ld_int 0 rfl rfl ld3 fun ⟨r3,r4⟩=>?_)
      refine j_run it 1 rfl (by simp) ?_
      refine j_nf [_,_,_,_,_,_,_] rfl ?_
      refine j_ifn rfl rfl (fun h6=>?_) (fun h6=>by exfalso;omega)
      (apply j_drawK it mx 17;(· rfl);(· rfl))
      (apply lxk_run 2;(· rfl);(· simp))
      (apply lxk_eq;(· rfl);(· exact d_bld_all 2 rfl rfl ld24 rfl))
      (apply lxk_eq;(· rfl);(· exact d_bld_all 2 rfl rfl ld24 rfl))
      (apply lxk_run 2;(· rfl);(· simp))
      (apply lxk_eq;(· rfl);(· exact d_x fun _=>x_idx_own (pv.length) (pv.length) rfl rfl sl25 rfl (by omega) (Nat.mul_one _) dk_eq))
      (apply lxk_sl;(· rfl);(· exact d_ldR_sl 1 2 (pv.length) rfl rfl rfl ld22 rfl (by assumption));intro pa5 ca5)
      (apply lxk_run 1;(· rfl);(· simp))
      (apply lxk_pt;(· rfl);(· exact d_x fun _=>x_idx 0 (c) rfl rfl rfl sl22 rfl (by omega) fun z1 hz5 b4 o3=>(dk_ptD default hz5 0 rfl));intro b4 o3)
      (apply lxk_eq;(· rfl);(· exact d_x fun _=>x_ld_int 0 rfl rfl ld3 fun ⟨r5,r6⟩=>dk_eq))
      (apply lxk_eq;(· rfl);(· exact d_x fun _=>x_call [12] rfl (c_codewrightref04_Inv (by omega) (by omega)) rfl (by rintro _ _ _ ⟨rfl,rfl,rfl⟩;exact dk_eq)))
      (apply lxk_run 2;(· rfl);(· simp))
      (apply lxk_eq;(· rfl);(· exact d_x fun _=>x_idx_own (pv.length) (pv.length) rfl rfl sl25 rfl (by omega) (Nat.mul_one _) dk_eq))
      (apply lxk_sl;(· rfl);(· exact d_ldR_sl 1 2 (pv.length) rfl rfl rfl ld22 rfl (by assumption));intro pa6 ca6)
      (apply lxk_sl;(· rfl);(· exact d_x fun _=>x_call [13,0] rfl (c_codewrightref09_scale (by omega) (by omega)) rfl (by rintro _ _ _ ⟨pa7,ca7,rfl,rfl,rfl⟩;exact (dk_sl 0 rfl)));intro pa7 ca7)
      refine lxk_end rfl ?_
      simp only [List.map_cons,List.map_nil,List.cons_append,List.nil_append]
      refine j_step rfl (x_idx_own (pv.length) (pv.length) rfl rfl sl25 rfl (by omega) (Nat.mul_one _) ?_)
      refine j_step rfl (x_stR (vs:=[Value.slice pa7 (row0 L k).length ca7]) (z:=sclL (liftI (fM p (fpo m md))) (↑(iF (p ^ m) (fM p (fpo m md)) ((row0 L k).getD c default).toNat)) (row0 L k)) 1 6 (pv.length) rfl rfl rfl rfl rfl ld22 (Nat.mul_one _).symm (by omega) (fun w A hG=>(rd_of_slF (hG _ (fact_mem (n:=0) rfl)))) fun cs3=>?_)
      refine j_nfn 1 [.c (pL 128159),.blk 1,.c (pL 2003),.lp (pL 500),.blk 0,.c [1,1,1,1,1]] rfl ?_
      rw [ek]
      refine j_to [13,0,15] (by exact fra rfl) rfl rfl (key cs3)
   ·clear ihk
    obtain rfl : n = k:=by omega
    have hf : findP L pv.length c = none:=findP_no fun j h1 h2=>hk3 j h1 (by omega)
    rw [elP,show N - c = (N - (c + 1)) + 1 by omega,elimL,hf] at hE1 hE2
    refine j_nf [_,_,_,_,_,_,_,_,_,_,_] rfl ?_
    refine j_run it 2 rfl (by simp) ?_
    refine j_step rfl (x_len sl25 rfl ?_)
    refine j_run it 2 rfl (by simp) ?_
    refine j_split_dec (t:=32) rfl (fun h3=>by exfalso;omega) (fun h3=>?_)
    refine j_run it 9 rfl (by simp) ?_
    refine j_nf [_,_,_,_,_,_,_,_,_,_] rfl ?_
    refine j_false rfl rfl ?_
    refine j_nf [_,_,_,_,_,_,_,_] rfl ?_
    refine j_run it 2 rfl (by simp) ?_
    refine j_step rfl (x_len sl25 rfl ?_)
    refine j_run it 1 rfl (by simp) ?_
    refine j_nf [_,_,_,_,_,_,_] rfl ?_
    refine j_if rfl rfl (fun h4=>?_) (fun h4=>by exfalso;omega)
    refine j_nf [_,_,_,_] rfl ?_
    refine j_run it 3 rfl ⟨trivial,⟨by omega,by omega⟩,trivial,trivial⟩ ?_
    refine j_nfn 1 [.lp (pL 500),.blk 0,.c [1,1,1,1,1]] rfl ?_
    refine j_to [0,1,2] (by exact fra rfl) rfl rfl (ih (c + 1,ch,rp,L,pv) (by dsimp only;omega) ⟨by dsimp only;omega,hL,hLM,hpv,hE1,hE2⟩)
  ·rw [elP,elim_full _ _ _ _ (by omega)] at hE1 hE2
   rw [List.append_nil] at hE2
   obtain ⟨E1,E2⟩:=EE
   obtain rfl : L = E1:=hE1
   obtain rfl : pv = E2:=hE2
   clear ih
   refine j_pubR 0 0 rfl rfl (by show pv.length * 8 ≤ 140737488355328;omega) ?_
   refine j_pubR 0 2 rfl rfl (by show n * 24 ≤ 140737488355328;omega) ?_
   refine j_nf [_,_,_,_,_,_] rfl ?_
   refine j_run it 4 rfl (by simp) ?_
   refine j_split_dec (t:=19) rfl (fun h1=>?_) (fun h1=>by exfalso;omega)
   refine j_run it 2 rfl (by simp) ?_
   refine j_gstep rfl rfl (x_len sl25 rfl ?_)
   refine j_run it 2 rfl (by simp) ?_
   refine j_nf [_,_,_,_,_] rfl ?_
   refine j_if rfl rfl (fun h2=>by exfalso;omega) (fun h2=>?_)
   refine j_nf [_,_] rfl ?_
   refine j_run it 4 rfl (by simp) ?_
   refine j_nf [_] rfl ?_
   refine j_giv [0,1] rfl rfl rfl ⟨_,_,_,_,rfl,rfl,rfl⟩
 ·obtain rfl : c = N:=by omega
  rw [Nat.sub_self,elP,elimL] at hE1 hE2
  rw [List.append_nil] at hE2
  obtain ⟨E1,E2⟩:=EE
  obtain rfl : L = E1:=hE1
  obtain rfl : pv = E2:=hE2
  clear ih
  refine j_pubR 0 0 rfl rfl (by show pv.length * 8 ≤ 140737488355328;omega) ?_
  refine j_pubR 0 2 rfl rfl (by show n * 24 ≤ 140737488355328;omega) ?_
  refine j_nf [_,_,_,_,_,_] rfl ?_
  refine j_run it 4 rfl (by simp) ?_
  refine j_split_dec (t:=19) rfl (fun h1=>by exfalso;omega) (fun h1=>?_)
  refine j_run it 5 rfl (by simp) ?_
  refine j_nf [_,_,_,_,_] rfl ?_
  refine j_false rfl rfl ?_
  refine j_nf [_,_] rfl ?_
  refine j_run it 4 rfl (by simp) ?_
  refine j_nf [_] rfl ?_
  refine j_giv [0,1] rfl rfl rfl ⟨_,_,_,_,rfl,rfl,rfl⟩
theorem S_codewrightref09_Canon {p m n N nm cm c : Nat} {pm ps : Option Addr} {rows : List (List Int)} {md : List Int} (K : Fok p m md) (hn : n ≤ 1000000) (hN : N ≤ 1000000) (hl : rows.length = n) (hM : Mat (p ^ m) N rows) :
  Ctr Tryz.prog 55 [.agg #[.int .i64 p,.int .i64 m,.slice pm nm cm],.slice ps n c,.int .i64 N] [] [slF I64 pm nm cm md,slF (encSl I64) ps n c rows] (CnR (cnP p m md N rows)):=by
 refine Ctr_of_j' (F:=F_codewrightref09_Canon) rfl fun C=>?_
 have c_codewrightref09_Eliminate:=fun {nm cm c : Nat} {pm ps : Option Addr}=>S_codewrightref09_Eliminate (nm:=nm) (cm:=cm) (pm:=pm) (ps:=ps) (c:=c) K hn (Nat.le_refl N) hN hl hM
 have hEk : (elP p m md N 0 0 rows).2.length ≤ n:=by
  have:=elim_le (A:=liftI (fA p m)) (M:=liftI (fM p (fpo m md))) (N:=negI p m) (V:=invI p m md) N 0 0 rows (Nat.zero_le _)
  rw [Nat.zero_add,hl] at this;exact this
 show J _ _ _ _ _ _ (Gives C (CnR ((elP p m md N 0 0 rows).1.take (elP p m md N 0 0 rows).2.length,(elP p m md N 0 0 rows).2)))
 generalize elP p m md N 0 0 rows = E at *
 refine j_nf [_,_] rfl (j_step rfl (x_box_agg rfl fun b1=>?_))
 refine j_run it 2 rfl (by simp) ?_
 refine j_nf [_,_] rfl (j_step rfl (x_bld_all 0 rfl rfl ld24 rfl ?_))
 refine j_run it 2 rfl (by simp) ?_
 refine j_step rfl (x_call [0,1] rfl (c_codewrightref09_Eliminate) rfl ?_)
 rintro _ _ _ ⟨pb1,pp1,cb1,cp1,rfl,rfl,rfl⟩
 simp only [List.cons_append,List.nil_append]
 refine j_run it 5 rfl (by simp) ?_
 refine j_nf [_,_] rfl (j_run it 2 rfl (by simp) ?_)
 refine j_step rfl (x_len sl22 rfl ?_)
 refine j_step rfl (x_slice_h 0 (E.snd.length) rfl rfl rfl sl25 (by omega) (by omega) ?_)
 refine j_run it 3 rfl (by simp) ?_
 refine j_nf [_] rfl ?_
 refine j_giv [0,2] rfl rfl rfl ⟨_,_,_,_,rfl,rfl,rfl⟩
theorem S_codewrightref09_Turn {n c N W : Nat} {ps : Option Addr} {rows : List (List Int)} (hN : N ≤ 1000000) (hNW : N ≤ W) (hM : ∀ r ∈ rows,r.length = W) :
  Ctr Tryz.prog 29 [.slice ps n c,.int .i64 N] [] [slF (encSl I64) ps n c rows]
   (fun v Φ β=>∃ (pb : Option Addr) (cb : Nat),v = .slice pb N cb ∧ Φ = [slF (encSl I64) pb N cb (trL N rows)] ∧ β = []):=by
 refine Ctr_of_j' (F:=F_codewrightref09_Turn) rfl fun C=>?_
 refine j_len 0 rfl fun hn hb _=>?_
 subst hn
 have hb' : rows.length * 24 ≤ 140737488355328:=hb
 have htl : ∀ k,(trL k rows).length = k:=fun k=>by simp [trL]
 have hts : ∀ k,trL (k + 1) rows = trL k rows++[colL rows k]:=fun k=>by rw [trL,trL,List.range_succ,List.map_append];rfl
 refine j_nf [_,_] rfl (j_run it 1 rfl (by simp) ?_)
 refine j_nf [_,_] rfl (j_run it 1 rfl (by simp) ?_)
 refine j_nf [_,_,_] rfl (j_run it 1 rfl (by simp) ?_)
 refine j_nf [_,_,_] rfl ?_
 refine j_row0 (encSl I64) 22 ?_
 refine j_loopG (X:=Nat × Row) [0,1,4] [0,1] (fun x=>[(6,.int .i64 (x.1 : Int)),(5,.slice (ad x.2.bo) x.1 x.2.cap)]) (fun x=>[(x.2.bo,22,x.2.cs)]) (fun x=>[rowF (encSl I64) x.2 x.1 (trL x.1 rows)]) (fun x=>x.1 ≤ N) (fun x=>N - x.1) (0,⟨none,0,[]⟩) [0] rfl rfl rfl (Nat.zero_le _) (by repeat (first | exact Fr.sub_nil _ | refine Fr.sub_cons rfl ?_)) rfl rfl ?_
 rintro ⟨k,r⟩ hk ih
 simp only [List.cons_append,List.nil_append] at hk ih ⊢
 by_cases hkn : k < N
 ·have ih':=fun r=>ih (k + 1,r) (by dsimp only;omega) (by dsimp only;omega)
  simp only [hts] at ih'
  clear ih
  refine j_nf [_,_,_,_,_,_] rfl (j_run it 3 rfl (by simp) ?_)
  refine j_nf [_,_,_,_,_] rfl (j_if rfl rfl (fun h1=>?_) (fun h1=>by exfalso;omega))
  refine j_nf [_,_,_,_,_,_,_] rfl (j_run it 1 rfl (by simp) ?_)
  refine j_nf [_,_,_,_,_,_,_,_] rfl (j_run it 1 rfl (by simp) ?_)
  refine j_nf [_,_,_,_,_,_,_,_] rfl ?_
  refine j_row0 I64 3 ?_
  refine j_loopG (X:=Nat × Row) [0,1,4,5,6,9,10,11] [0,1,2,3] (fun x=>[(8,.int .i64 (x.1 : Int)),(7,.slice (ad x.2.bo) x.1 x.2.cap)]) (fun x=>(x.2.bo,3,x.2.cs)::_) (fun x=>[rowF I64 x.2 x.1 ((rows.take x.1).map fun r=>at0 r k)]) (fun x=>x.1 ≤ rows.length) (fun x=>rows.length - x.1) (0,⟨none,0,[]⟩) [0] rfl rfl rfl (Nat.zero_le _) (by repeat (first | exact Fr.sub_nil _ | refine Fr.sub_cons rfl ?_)) rfl rfl ?_
  rintro ⟨i,r2⟩ hi ihi
  simp only [List.cons_append,List.nil_append] at hi ihi ⊢
  by_cases hin : i < rows.length
  ·obtain ⟨u,at_u⟩ : ∃ u,rows[i]? = some u:=⟨_,List.getElem?_eq_getElem hin⟩
   have hul:=hM u (List.mem_of_getElem? at_u)
   have at_y : u[k]? = some (at0 u k):=by
    rw [at0,List.getD_eq_getElem?_getD,List.getElem?_eq_getElem (by omega)];rfl
   have ih2:=fun r=>ihi (i + 1,r) (by dsimp only;omega) (by dsimp only;omega)
   simp only [List.take_add_one,at_u,Option.toList_some,List.map_append,List.map_cons,List.map_nil] at ih2
   refine j_nf [_,_,_,_,_,_,_,_,_,_,_] rfl (j_run it 2 rfl (by simp) ?_)
   refine j_step rfl (x_len sl25 rfl ?_)
   refine j_run it 1 rfl (by simp) ?_
   refine j_nf [_,_,_,_,_,_,_,_,_,_] rfl (j_if rfl rfl (fun h2=>?_) (fun h2=>by exfalso;omega))
   refine j_nf [_,_,_,_,_,_,_,_,_,_,_] rfl (j_run it 3 rfl (by simp) ?_)
   refine j_step rfl (x_idx 4 (i) rfl rfl rfl sl25 rfl (by omega) fun z1 hz1 b1 o1=>?_)
   obtain rfl : _ = z1:=Option.some.inj (at_u.symm.trans hz1)
   refine j_step rfl (x_ld_sl 0 rfl rfl ld22 fun pa1 ca1=>?_)
   refine j_run it 1 rfl (by simp) ?_
   refine j_step rfl (x_idx 0 (k) rfl rfl rfl sl22 rfl (by omega) fun z1 hz2 b2 o2=>?_)
   obtain rfl : _ = z1:=Option.some.inj (at_y.symm.trans hz2)
   refine j_step rfl (x_ld_int 0 rfl rfl ld3 fun ⟨r1,r3⟩=>?_)
   refine j_step rfl (x_lit sl22 zo22e rfl rfl rfl rfl (by decide) (by decide) rfl fun b3=>?_)
   refine j_step rfl (x_appR (z:=(at0 u k : Int)) 1 0 3 rfl rfl rfl rfl rfl sl22 zo22e rfl (fun w A hG=>(rd_int (by first | (simp only [InR];omega) | (simp [InR];done)))) (by omega) _ by22e (by omega) fun r4=>?_)
   refine j_run it 1 rfl (by simp) ?_
   refine j_nf [_,_,_,_,_,_,_,_,_] rfl (j_run it 3 rfl ⟨trivial,⟨by omega,by omega⟩,trivial,trivial⟩ ?_)
   refine j_nfn 1 [.lp (pL 29844),.blk 2,.c (pL 3731),.blk 1,.c (pL 467),.lp (pL 116),.blk 0,.c [1,1,1]] rfl ?_
   refine j_toM [true,false,true] [0,5,6,7,8] (by exact fra rfl) rfl rfl (ih2 r4)
  ·obtain rfl : i = rows.length:=by omega
   rw [List.take_length]
   clear ihi
   refine j_nf [_,_,_,_,_,_,_,_,_,_,_] rfl (j_run it 2 rfl (by simp) ?_)
   refine j_step rfl (x_len sl25 rfl ?_)
   refine j_run it 1 rfl (by simp) ?_
   refine j_nf [_,_,_,_,_,_,_,_,_,_] rfl (j_if rfl rfl (fun h2=>by exfalso;omega) (fun h2=>?_))
   refine j_nf [_,_,_,_,_,_] rfl (j_run it 2 rfl (by simp) ?_)
   refine j_step rfl (x_lit sl25 zo25e rfl rfl rfl rfl (by decide) (by decide) rfl fun b1=>?_)
   refine j_pubR 1 0 rfl rfl (by show (rows.length) * 8 ≤ 140737488355328;omega) ?_
   refine j_step rfl (x_appR (z:=List.map (fun r=>at0 r k) rows) 1 0 3 rfl rfl rfl rfl rfl sl25 zo25e rfl (fun w A hG=>(rd_of_slF (hG _ (fact_mem (n:=0) rfl)))) (by omega) _ by25e (by omega) fun r1=>?_)
   refine j_run it 1 rfl (by simp) ?_
   refine j_nf [_,_,_,_] rfl (j_run it 3 rfl ⟨trivial,⟨by omega,by omega⟩,trivial,trivial⟩ ?_)
   refine j_nfn 1 [.lp (pL 116),.blk 0,.c [1,1,1]] rfl ?_
   refine j_toM [true,false] [0,5,6] (by exact fra rfl) rfl rfl (ih' r1)
 ·obtain rfl : k = N:=by omega
  refine j_pubR 0 0 rfl rfl (by show k * 24 ≤ 140737488355328;omega) ?_
  refine j_nf [_,_,_,_,_,_] rfl (j_run it 3 rfl (by simp) ?_)
  refine j_nf [_,_,_,_,_] rfl (j_if rfl rfl (fun h1=>by exfalso;omega) (fun h1=>?_))
  refine j_nf [_,_] rfl (j_run it 2 rfl (by simp) ?_)
  refine j_nf [_] rfl ?_
  refine j_giv [0] rfl rfl rfl ⟨_,_,rfl,rfl,rfl⟩
theorem S_codewrightref09_Combine {p m nm cm nx cx n c N : Nat} {pm px ps : Option Addr} {x md : List Int} {rows : List (List Int)} (K : Fok p m md) (hN : N ≤ 1000000) (hM : Mat (p ^ m) N rows) (hx : Wd (p ^ m) rows.length x) :
  Ctr Tryz.prog 32 [.agg #[.int .i64 p,.int .i64 m,.slice pm nm cm],.slice px nx cx,.slice ps n c,.int .i64 N] [] [slF I64 pm nm cm md,slF I64 px nx cx x,slF (encSl I64) ps n c rows]
   (fun v Φ β=>∃ (pb : Option Addr) (cb : Nat),v = .slice pb N cb ∧ Φ = [slF I64 pb N cb (cbP p m md N x rows)] ∧ β = []):=by
 refine Ctr_of_j' (F:=F_codewrightref09_Combine) rfl fun C=>?_
 have O:=fok_fo K
 have hq:=K.q
 refine j_len 1 rfl fun hn hb _=>?_
 subst hn
 refine j_len 2 rfl fun hn hb2 _=>?_
 subst hn
 have hb' : x.length * 8 ≤ 140737488355328:=hb
 have hb2' : rows.length * 24 ≤ 140737488355328:=hb2
 have hxl:=hx.1
 have c_codewrightref09_AddTo:=fun {nm cm nu cu nv cv : Nat} {pm pu pv : Option Addr} {a : Int} {u v : List Int} (a0 : 0 ≤ a) (a1 : a < ((p ^ m : Nat) : Int)) (hu : Wd (p ^ m) N u) (hv : Wd (p ^ m) N v)=>(S_codewrightref09_AddTo (nm:=nm) (cm:=cm) (pm:=pm) (pu:=pu) (nu:=nu) (cu:=cu) (pv:=pv) (nv:=nv) (cv:=cv) (a:=a) (u:=u) (v:=v) K a0 a1 hu hv).pubR (by show N * 8 ≤ 140737488355328;omega)
 refine j_nf [_,_] rfl ?_
 refine j_step rfl (x_box_agg rfl fun b1=>?_)
 refine j_run it 1 rfl (by simp) ?_
 refine j_nf [_,_] rfl ?_
 refine j_run it 1 rfl (by simp) ?_
 refine j_step rfl (x_make_nat (N) _ rfl rfl sl22 zo22e by22e (by omega) (by omega) (by omega) fun b2=>?_)
 refine j_run it 1 rfl (by simp) ?_
 refine j_nf [_,_,_] rfl ?_
 refine j_run it 1 rfl (by simp) ?_
 refine j_nf [_,_,_] rfl ?_
 have hz:=O.wz N
 rw [show natCells .i64 (List.replicate N 0) = intCells .i64 (zW N) by simp [natCells,intCells,zW]]
 refine j_pub_madei (kd:=.i64) (n:=N) 8 (zW N) 0 rfl hz.1.symm (fun y hy=>by have:=hz.2 y hy;simp only [InR];omega) (by omega) (by omega) ?_
 refine j_loopG (X:=Nat × Option Addr × Nat × List Int) [1,2,4,8] [0,1,2,3] (fun i=>[(10,.int .i64 (i.1 : Int)),(9,.slice i.2.1 N i.2.2.1)]) (fun _=>_) (fun i=>[slF I64 i.2.1 N i.2.2.1 i.2.2.2]) (fun i=>i.1 ≤ x.length ∧ Wd (p ^ m) N i.2.2.2 ∧ cmbF (liftI (fA p m)) (liftI (fM p (fpo m md))) (x.drop i.1) (rows.drop i.1) i.2.2.2 = cbP p m md N x rows) (fun i=>x.length - i.1) (0,some ⟨b2,0,none⟩,N,zW N) [0] rfl rfl rfl ⟨Nat.zero_le _,hz,rfl⟩ (by repeat (first | exact Fr.sub_nil _ | refine Fr.sub_cons rfl ?_)) rfl rfl ?_
 rintro ⟨i,pa,ca,u⟩ ⟨hi,hu,he⟩ ih
 simp only [List.cons_append,List.nil_append] at hi hu he ih ⊢
 by_cases h9 : i < x.length
 ·obtain ⟨a,at_a⟩ : ∃ a,x[i]? = some a:=⟨_,List.getElem?_eq_getElem h9⟩
  obtain ⟨v,at_v⟩ : ∃ v,rows[i]? = some v:=⟨_,List.getElem?_eq_getElem (by omega)⟩
  obtain ⟨a0,a1⟩:=hx.2 a (List.mem_of_getElem? at_a)
  have hv:=hM v (List.mem_of_getElem? at_v)
  have ea:=gd_at at_a
  have ev:=gd_at at_v
  rw [cmbF_drop at_a at_v] at he
  by_cases ha : a = 0
  ·rw [if_pos ha] at he
   refine j_nf [_,_,_,_,_,_] rfl ?_
   refine j_run it 2 rfl (by simp) ?_
   refine j_step rfl (x_len sl25 rfl ?_)
   refine j_run it 2 rfl (by simp) ?_
   refine j_split_dec (t:=17) rfl (fun h1=>?_) (fun h1=>by exfalso;omega)
   refine j_run it 2 rfl (by simp) ?_
   refine j_gstep rfl rfl (x_len sl22 rfl ?_)
   refine j_run it 2 rfl (by simp) ?_
   refine j_nf [_,_,_,_,_] rfl ?_
   refine j_if rfl rfl (fun h2=>?_) (fun h2=>by exfalso;omega)
   refine j_nf [_,_,_,_,_,_,_] rfl ?_
   refine j_run it 2 rfl (by simp) ?_
   refine j_step rfl (x_idx 3 (i) rfl rfl rfl sl22 rfl (by omega) fun z1 hz1 b3 o1=>?_)
   obtain rfl : _ = z1:=Option.some.inj (at_a.symm.trans hz1)
   refine j_step rfl (x_ld_int 0 rfl rfl ld3 fun ⟨r1,r2⟩=>?_)
   refine j_run it 1 rfl (by simp) ?_
   refine j_nf [_,_,_,_,_,_] rfl ?_
   refine j_ifn rfl rfl (fun h3=>by exfalso;omega) (fun h3=>?_)
   refine j_nf [_,_,_,_] rfl ?_
   refine j_run it 3 rfl ⟨trivial,⟨by omega,by omega⟩,trivial,trivial⟩ ?_
   refine j_nfn 1 [.lp (pL 116),.blk 0,.c [1,1,1]] rfl ?_
   refine j_to [1,2,3,4,5] (by exact fra rfl) rfl rfl (ih (i + 1,pa,ca,u) (by dsimp only;omega) ⟨by dsimp only;omega,hu,he⟩)
  ·rw [if_neg ha] at he
   rw [← ea,← ev] at he
   rw [← ev] at hv
   have hw:=O.fi.axw a0 a1 hv hu
   rw [← ea] at hw
   refine j_nf [_,_,_,_,_,_] rfl ?_
   refine j_run it 2 rfl (by simp) ?_
   refine j_step rfl (x_len sl25 rfl ?_)
   refine j_run it 2 rfl (by simp) ?_
   refine j_split_dec (t:=17) rfl (fun h1=>?_) (fun h1=>by exfalso;omega)
   refine j_run it 2 rfl (by simp) ?_
   refine j_gstep rfl rfl (x_len sl22 rfl ?_)
   refine j_run it 2 rfl (by simp) ?_
   refine j_nf [_,_,_,_,_] rfl ?_
   refine j_if rfl rfl (fun h2=>?_) (fun h2=>by exfalso;omega)
   refine j_nf [_,_,_,_,_,_,_] rfl ?_
   refine j_run it 2 rfl (by simp) ?_
   refine j_step rfl (x_idx 3 (i) rfl rfl rfl sl22 rfl (by omega) fun z1 hz1 b3 o1=>?_)
   obtain rfl : _ = z1:=Option.some.inj (at_a.symm.trans hz1)
   refine j_step rfl (x_ld_int 0 rfl rfl ld3 fun ⟨r1,r2⟩=>?_)
   refine j_run it 1 rfl (by simp) ?_
   refine j_nf [_,_,_,_,_,_] rfl ?_
   refine j_ifn rfl rfl (fun h3=>?_) (fun h3=>by exfalso;omega)
   (apply j_drawK it mx 11;(· rfl);(· rfl))
   (apply lxk_eq;(· rfl);(· exact d_bld_all 0 rfl rfl ld24 rfl))
   (apply lxk_run 3;(· rfl);(· simp))
   (apply lxk_pt;(· rfl);(· exact d_x fun _=>x_idx 4 (i) rfl rfl rfl sl22 rfl (by omega) fun z1 hz2 b4 o2=>(dk_ptD default hz2 0 rfl));intro b4 o2)
   (apply lxk_eq;(· rfl);(· exact d_x fun _=>x_ld_int 0 rfl rfl ld3 fun ⟨r3,r4⟩=>dk_eq))
   (apply lxk_run 2;(· rfl);(· simp))
   (apply lxk_pt;(· rfl);(· exact d_x fun _=>x_idx 5 (i) rfl rfl rfl sl25 rfl (by omega) fun z1 hz2 b5 o3=>(dk_ptD default hz2 0 rfl));intro b5 o3)
   (apply lxk_sl;(· rfl);(· exact d_x fun _=>x_ld_sl 0 rfl rfl ld22 fun pa1 ca1=>(dk_sl 0 rfl));intro pa1 ca1)
   (apply lxk_sl;(· rfl);(· exact d_x fun _=>x_call [6,4,0] rfl (c_codewrightref09_AddTo (by omega) (by omega) (by omega) (by omega)) rfl (by rintro _ _ _ ⟨pa2,ca2,rfl,rfl,rfl⟩;exact (dk_sl 0 rfl)));intro pa2 ca2)
   refine lxk_end rfl ?_
   simp only [List.map_cons,List.map_nil,List.cons_append,List.nil_append]
   refine j_run it 1 rfl (by simp) ?_
   refine j_nf [_,_,_,_] rfl ?_
   refine j_run it 3 rfl ⟨trivial,⟨by omega,by omega⟩,trivial,trivial⟩ ?_
   refine j_nfn 1 [.lp (pL 116),.blk 0,.c [1,1,1]] rfl ?_
   refine j_to [0,6,7,8,9] (by exact fra rfl) rfl rfl (ih (i + 1,pa2,ca2,axp (liftI (fA p m)) (liftI (fM p (fpo m md))) (x.getD i default) (rows.getD i default) u) (by dsimp only;omega) ⟨by dsimp only;omega,hw,he⟩)
 ·rw [cmbF_end (by omega)] at he
  subst he
  refine j_nf [_,_,_,_,_,_] rfl ?_
  refine j_run it 2 rfl (by simp) ?_
  refine j_step rfl (x_len sl25 rfl ?_)
  refine j_run it 2 rfl (by simp) ?_
  refine j_split_dec (t:=17) rfl (fun h1=>by exfalso;omega) (fun h1=>?_)
  refine j_run it 5 rfl (by simp) ?_
  refine j_nf [_,_,_,_,_] rfl ?_
  refine j_false rfl rfl ?_
  refine j_nf [_,_] rfl ?_
  refine j_run it 2 rfl (by simp) ?_
  refine j_nf [_] rfl ?_
  refine j_giv [0] rfl rfl rfl ⟨_,_,rfl,rfl,rfl⟩
open Classical in
noncomputable def sfE (P M : Int) (md : List Int) (N : Int) (rows : List (List Int)) : Int:=if ¬ chkF P M md then 1 else spE P.toNat M.toNat md N rows
theorem S_codewrightref10_Check {P M N e : Int} {nm cm n c : Nat} {pm ps : Option Addr} {md : List Int} {rows : List (List Int)} (hN : InR .i64 N) (he : sfE P M md N rows = e) :
  Ctr Tryz.prog 40 [.agg #[.int .i64 P,.int .i64 M,.slice pm nm cm],.agg #[.int .i64 N,.slice ps n c]] [] [slF I64 pm nm cm md,slF (encSl I64) ps n c rows] (Rv (.int .i64 e) []):=by
 refine Ctr_of_j' (F:=F_codewrightref10_Check) rfl fun C=>?_
 refine j_len 1 rfl fun hn hb _=>?_
 subst hn
 have hb' : rows.length * 24 ≤ 140737488355328:=hb
 have c_codewrightref09_Check:=fun {nm cm n c : Nat} {pm ps : Option Addr}=>S_codewrightref09_Check (P:=P) (M:=M) (N:=N) (md:=md) (rows:=rows) (nm:=nm) (cm:=cm) (n:=n) (c:=c) (pm:=pm) (ps:=ps) hN rfl
 rw [sfE] at he
 by_cases hc : chkF P M md
 ·rw [if_neg (fun h=>h hc)] at he
  have hk : mkE P M md N rows = mtE N rows (P.toNat ^ M.toNat):=by rw [mkE,if_neg (fun h=>h hc)]
  rw [hk] at c_codewrightref09_Check
  obtain ⟨p,m,rfl,rfl,K⟩:=chk_ok hc
  rw [Int.toNat_natCast,Int.toNat_natCast] at he c_codewrightref09_Check
  have hr:=mtE_rng N rows (p ^ m)
  rw [spE] at he
  by_cases h0 : mtE N rows (p ^ m) = 0
  ·rw [if_neg (by omega)] at he
   rw [h0] at c_codewrightref09_Check
   obtain ⟨k,rfl,hk,hl,hM⟩:=mtE_of h0
   rw [Int.toNat_natCast] at he
   have c_codewrightref09_Canon:=fun {nm cm c : Nat} {pm ps : Option Addr}=>S_codewrightref09_Canon (nm:=nm) (cm:=cm) (pm:=pm) (ps:=ps) (c:=c) (n:=rows.length) K (by omega) (show k ≤ 1000000 by omega) rfl hM
   by_cases hcn : (cnP p m md k rows).1 = rows
   ·rw [if_pos hcn] at he
    subst he
    have hd : decide ((cnP p m md k rows).1 = rows) = true:=decide_eq_true hcn
    refine j_nf [_,_] rfl (j_step rfl (x_box_agg rfl fun b1=>?_))
    refine j_step rfl (x_box_agg rfl fun b2=>?_)
    refine j_run it 1 rfl (by simp) ?_
    refine j_nf [_,_] rfl (j_step rfl (x_bld_all 1 rfl rfl ld24 rfl ?_))
    refine j_step rfl (x_bld_all 0 rfl rfl ld57 rfl ?_)
    refine j_step rfl (x_call [0,1] rfl (c_codewrightref09_Check) rfl ?_)
    rintro _ _ _ ⟨rfl,rfl,rfl⟩
    simp only [List.cons_append,List.nil_append]
    refine j_run it 1 rfl (by simp) ?_
    refine j_nf [_,_,_] rfl (j_run it 2 rfl (by simp) ?_)
    refine j_nf [_,_] rfl (j_ifn rfl rfl (fun h1=>by exfalso;omega) (fun h1=>?_))
    refine j_nf [_,_] rfl (j_step rfl (x_bld_all 1 rfl rfl ld24 rfl ?_))
    refine j_step rfl (x_field rfl fd57_1 ?_)
    refine j_step rfl (x_bld 0 rfl rfl ld25 rfl ?_)
    refine j_step rfl (x_field rfl fd57_0 ?_)
    refine j_step rfl (x_bld 0 rfl rfl ld3 rfl ?_)
    refine j_step rfl (x_call [0,1] rfl (c_codewrightref09_Canon) rfl ?_)
    rintro _ _ _ ⟨pb1,pp1,cb1,cp1,rfl,rfl,rfl⟩
    simp only [List.cons_append,List.nil_append]
    simp only [decide_true]
    refine j_run it 5 rfl (by simp) ?_
    refine j_nf [_,_,_] rfl (j_run it 1 rfl (by simp) ?_)
    refine j_step rfl (x_field rfl fd57_1 ?_)
    refine j_step rfl (x_bld 0 rfl rfl ld25 rfl ?_)
    refine j_step rfl (x_call [0,3] rfl (S_codewrightref09_SameRows (by omega)) rfl ?_)
    rintro _ _ _ ⟨rfl,rfl,rfl⟩
    simp only [List.cons_append,List.nil_append]
    refine j_run it 1 rfl (by simp) ?_
    refine j_nf [_,_] rfl ?_
    refine j_false rfl rfl ?_
    refine j_nf [_,_] rfl (j_run it 1 rfl (by simp) ?_)
    refine j_nf [_] rfl ?_
    refine j_giv [] rfl rfl rfl ⟨rfl,rfl,rfl⟩
   ·rw [if_neg hcn] at he
    subst he
    have hd : decide ((cnP p m md k rows).1 = rows) = false:=decide_eq_false hcn
    refine j_nf [_,_] rfl (j_step rfl (x_box_agg rfl fun b1=>?_))
    refine j_step rfl (x_box_agg rfl fun b2=>?_)
    refine j_run it 1 rfl (by simp) ?_
    refine j_nf [_,_] rfl (j_step rfl (x_bld_all 1 rfl rfl ld24 rfl ?_))
    refine j_step rfl (x_bld_all 0 rfl rfl ld57 rfl ?_)
    refine j_step rfl (x_call [0,1] rfl (c_codewrightref09_Check) rfl ?_)
    rintro _ _ _ ⟨rfl,rfl,rfl⟩
    simp only [List.cons_append,List.nil_append]
    refine j_run it 1 rfl (by simp) ?_
    refine j_nf [_,_,_] rfl (j_run it 2 rfl (by simp) ?_)
    refine j_nf [_,_] rfl (j_ifn rfl rfl (fun h1=>by exfalso;omega) (fun h1=>?_))
    refine j_nf [_,_] rfl (j_step rfl (x_bld_all 1 rfl rfl ld24 rfl ?_))
    refine j_step rfl (x_field rfl fd57_1 ?_)
    refine j_step rfl (x_bld 0 rfl rfl ld25 rfl ?_)
    refine j_step rfl (x_field rfl fd57_0 ?_)
    refine j_step rfl (x_bld 0 rfl rfl ld3 rfl ?_)
    refine j_step rfl (x_call [0,1] rfl (c_codewrightref09_Canon) rfl ?_)
    rintro _ _ _ ⟨pb1,pp1,cb1,cp1,rfl,rfl,rfl⟩
    simp only [List.cons_append,List.nil_append]
    simp only [decide_true]
    refine j_run it 5 rfl (by simp) ?_
    refine j_nf [_,_,_] rfl (j_run it 1 rfl (by simp) ?_)
    refine j_step rfl (x_field rfl fd57_1 ?_)
    refine j_step rfl (x_bld 0 rfl rfl ld25 rfl ?_)
    refine j_step rfl (x_call [0,3] rfl (S_codewrightref09_SameRows (by omega)) rfl ?_)
    rintro _ _ _ ⟨rfl,rfl,rfl⟩
    simp only [List.cons_append,List.nil_append]
    refine j_run it 1 rfl (by simp) ?_
    refine j_nf [_,_] rfl ?_
    refine j_true rfl rfl ?_
    refine j_nf [_,_,_] rfl (j_run it 1 rfl (by simp) ?_)
    refine j_nf [_,_] rfl ?_
    refine j_giv [] rfl rfl rfl ⟨rfl,rfl,rfl⟩
  ·rw [if_pos h0] at he
   subst he
   refine j_nf [_,_] rfl (j_step rfl (x_box_agg rfl fun b1=>?_))
   refine j_step rfl (x_box_agg rfl fun b2=>?_)
   refine j_run it 1 rfl (by simp) ?_
   refine j_nf [_,_] rfl (j_step rfl (x_bld_all 1 rfl rfl ld24 rfl ?_))
   refine j_step rfl (x_bld_all 0 rfl rfl ld57 rfl ?_)
   refine j_step rfl (x_call [0,1] rfl (c_codewrightref09_Check) rfl ?_)
   rintro _ _ _ ⟨rfl,rfl,rfl⟩
   simp only [List.cons_append,List.nil_append]
   refine j_run it 1 rfl (by simp) ?_
   refine j_nf [_,_,_] rfl (j_run it 2 rfl (by simp) ?_)
   refine j_nf [_,_] rfl (j_ifn rfl rfl (fun h1=>?_) (fun h1=>by exfalso;omega))
   refine j_nf [_,_,_] rfl (j_run it 2 rfl (by simp) ?_)
   refine j_nf [_,_] rfl ?_
   refine j_giv [] rfl rfl rfl ⟨rfl,rfl,rfl⟩
 ·rw [if_pos hc] at he
  subst he
  have hk : mkE P M md N rows = 1:=by rw [mkE,if_pos hc]
  rw [hk] at c_codewrightref09_Check
  refine j_nf [_,_] rfl (j_step rfl (x_box_agg rfl fun b1=>?_))
  refine j_step rfl (x_box_agg rfl fun b2=>?_)
  refine j_run it 1 rfl (by simp) ?_
  refine j_nf [_,_] rfl (j_step rfl (x_bld_all 1 rfl rfl ld24 rfl ?_))
  refine j_step rfl (x_bld_all 0 rfl rfl ld57 rfl ?_)
  refine j_step rfl (x_call [0,1] rfl (c_codewrightref09_Check) rfl ?_)
  rintro _ _ _ ⟨rfl,rfl,rfl⟩
  simp only [List.cons_append,List.nil_append]
  refine j_run it 1 rfl (by simp) ?_
  refine j_nf [_,_,_] rfl (j_run it 2 rfl (by simp) ?_)
  refine j_nf [_,_] rfl (j_ifn rfl rfl (fun h1=>?_) (fun h1=>by exfalso;omega))
  refine j_nf [_,_,_] rfl (j_run it 2 rfl (by simp) ?_)
  refine j_nf [_,_] rfl ?_
  refine j_giv [] rfl rfl rfl ⟨rfl,rfl,rfl⟩
theorem S_codewrightref12_Check {P M N e : Int} {pm ps : Option Addr} {nm cm n c : Nat} {md : List Int} {rows : List (List Int)} (hN : InR .i64 N) (h : ckE P M md N rows = e) :
  Ctr Tryz.prog 18 [.agg #[.int .i64 P,.int .i64 M,.slice pm nm cm,.int .i64 N,.slice ps n c]] [] [slF I64 pm nm cm md,slF (encSl I64) ps n c rows] (Rv (.int .i64 e) []):=by
 refine Ctr_of_j' (F:=F_codewrightref12_Check) rfl fun C=>?_
 rw [ckE] at h
 by_cases hc : chkF P M md
 ·rw [if_neg (fun h=>h hc)] at h
  have c_codewrightref04_Check:=fun {pm : Option Addr} {nm cm : Nat}=>S_codewrightref04_Check (P:=P) (M:=M) (md:=md) (pm:=pm) (nm:=nm) (cm:=cm) (if_pos hc).symm
  have hs : sfE P M md N rows = spE P.toNat M.toNat md N rows:=by rw [sfE,if_neg (fun h=>h hc)]
  by_cases h1 : N < 1
  ·rw [if_pos (.inl h1)] at h
   subst h
   refine j_nf [_,_] rfl (j_step rfl (x_box_agg rfl fun b1=>?_))
   refine j_run it 1 rfl (by simp) ?_
   refine j_nf [_,_] rfl (j_step rfl (x_field rfl fd27_0 ?_))
   refine j_step rfl (x_bld_agg 0 rfl rfl ld24 rfl rfl ?_)
   refine j_step rfl (x_call [0] rfl (c_codewrightref04_Check) rfl ?_)
   rintro _ _ _ ⟨rfl,rfl,rfl⟩
   simp only [List.cons_append,List.nil_append]
   refine j_run it 1 rfl (by simp) ?_
   refine j_nf [_,_,_] rfl (j_run it 2 rfl (by simp) ?_)
   refine j_nf [_,_] rfl (j_ifn rfl rfl (fun h2=>by exfalso;omega) (fun h2=>?_))
   refine j_nf [_,_,_] rfl (j_step rfl (x_field rfl fd27_1 ?_))
   refine j_step rfl (x_bld 0 rfl rfl ld3 rfl ?_)
   refine j_run it 2 rfl (by simp) ?_
   refine j_split_dec (t:=13) rfl (fun h3=>?_) (fun h3=>by exfalso;omega)
   refine j_run it 4 rfl (by simp) ?_
   refine j_nf [_,_] rfl ?_
   refine j_true rfl rfl ?_
   refine j_nf [_,_,_] rfl (j_run it 1 rfl (by simp) ?_)
   refine j_nf [_,_] rfl ?_
   refine j_giv [] rfl rfl rfl ⟨rfl,rfl,rfl⟩
  ·by_cases h2 : 64 < N
   ·rw [if_pos (.inr h2)] at h
    subst h
    refine j_nf [_,_] rfl (j_step rfl (x_box_agg rfl fun b1=>?_))
    refine j_run it 1 rfl (by simp) ?_
    refine j_nf [_,_] rfl (j_step rfl (x_field rfl fd27_0 ?_))
    refine j_step rfl (x_bld_agg 0 rfl rfl ld24 rfl rfl ?_)
    refine j_step rfl (x_call [0] rfl (c_codewrightref04_Check) rfl ?_)
    rintro _ _ _ ⟨rfl,rfl,rfl⟩
    simp only [List.cons_append,List.nil_append]
    refine j_run it 1 rfl (by simp) ?_
    refine j_nf [_,_,_] rfl (j_run it 2 rfl (by simp) ?_)
    refine j_nf [_,_] rfl (j_ifn rfl rfl (fun h3=>by exfalso;omega) (fun h3=>?_))
    refine j_nf [_,_,_] rfl (j_step rfl (x_field rfl fd27_1 ?_))
    refine j_step rfl (x_bld 0 rfl rfl ld3 rfl ?_)
    refine j_run it 2 rfl (by simp) ?_
    refine j_split_dec (t:=13) rfl (fun h4=>by exfalso;omega) (fun h4=>?_)
    refine j_gstep rfl rfl (x_field rfl fd27_1 ?_)
    refine j_gstep rfl rfl (x_bld 0 rfl rfl ld3 rfl ?_)
    refine j_run it 2 rfl (by simp) ?_
    refine j_nf [_,_] rfl (j_if rfl rfl (fun h5=>?_) (fun h5=>by exfalso;omega))
    refine j_nf [_,_,_] rfl (j_run it 1 rfl (by simp) ?_)
    refine j_nf [_,_] rfl ?_
    refine j_giv [] rfl rfl rfl ⟨rfl,rfl,rfl⟩
   ·rw [if_neg (by omega),← hs] at h
    have c_codewrightref10_Check:=fun {nm cm n c : Nat} {pm ps : Option Addr}=>S_codewrightref10_Check (nm:=nm) (cm:=cm) (n:=n) (c:=c) (pm:=pm) (ps:=ps) hN h
    refine j_nf [_,_] rfl (j_step rfl (x_box_agg rfl fun b1=>?_))
    refine j_run it 1 rfl (by simp) ?_
    refine j_nf [_,_] rfl (j_step rfl (x_field rfl fd27_0 ?_))
    refine j_step rfl (x_bld_agg 0 rfl rfl ld24 rfl rfl ?_)
    refine j_step rfl (x_call [0] rfl (c_codewrightref04_Check) rfl ?_)
    rintro _ _ _ ⟨rfl,rfl,rfl⟩
    simp only [List.cons_append,List.nil_append]
    refine j_run it 1 rfl (by simp) ?_
    refine j_nf [_,_,_] rfl (j_run it 2 rfl (by simp) ?_)
    refine j_nf [_,_] rfl (j_ifn rfl rfl (fun h3=>by exfalso;omega) (fun h3=>?_))
    refine j_nf [_,_,_] rfl (j_step rfl (x_field rfl fd27_1 ?_))
    refine j_step rfl (x_bld 0 rfl rfl ld3 rfl ?_)
    refine j_run it 2 rfl (by simp) ?_
    refine j_split_dec (t:=13) rfl (fun h4=>by exfalso;omega) (fun h4=>?_)
    refine j_gstep rfl rfl (x_field rfl fd27_1 ?_)
    refine j_gstep rfl rfl (x_bld 0 rfl rfl ld3 rfl ?_)
    refine j_run it 2 rfl (by simp) ?_
    refine j_nf [_,_] rfl (j_if rfl rfl (fun h5=>by exfalso;omega) (fun h5=>?_))
    refine j_nf [_,_] rfl (j_step rfl (x_field rfl fd27_0 ?_))
    refine j_step rfl (x_bld_agg 0 rfl rfl ld24 rfl rfl ?_)
    refine j_step rfl (x_field rfl fd27_1 ?_)
    refine j_step rfl (x_bld 0 rfl rfl ld3 rfl ?_)
    refine j_step rfl (x_field rfl fd27_2 ?_)
    refine j_step rfl (x_bld 0 rfl rfl ld25 rfl ?_)
    refine j_step rfl (x_build (cs:=[Value.int IntKind.i64 N,Value.slice ps n c]) st57 zo57 rfl rfl ?_)
    refine j_step rfl (x_call [0,1] rfl (c_codewrightref10_Check) rfl ?_)
    rintro _ _ _ ⟨rfl,rfl,rfl⟩
    simp only [List.cons_append,List.nil_append]
    simp only [decide_true]
    refine j_run it 1 rfl (by simp) ?_
    refine j_nf [_] rfl ?_
    refine j_giv [] rfl rfl rfl ⟨rfl,rfl,rfl⟩
 ·rw [if_pos hc] at h
  subst h
  have c_codewrightref04_Check:=fun {pm : Option Addr} {nm cm : Nat}=>S_codewrightref04_Check (P:=P) (M:=M) (md:=md) (pm:=pm) (nm:=nm) (cm:=cm) (if_neg hc).symm
  refine j_nf [_,_] rfl (j_step rfl (x_box_agg rfl fun b1=>?_))
  refine j_run it 1 rfl (by simp) ?_
  refine j_nf [_,_] rfl (j_step rfl (x_field rfl fd27_0 ?_))
  refine j_step rfl (x_bld_agg 0 rfl rfl ld24 rfl rfl ?_)
  refine j_step rfl (x_call [0] rfl (c_codewrightref04_Check) rfl ?_)
  rintro _ _ _ ⟨rfl,rfl,rfl⟩
  simp only [List.cons_append,List.nil_append]
  refine j_run it 1 rfl (by simp) ?_
  refine j_nf [_,_,_] rfl (j_run it 2 rfl (by simp) ?_)
  refine j_nf [_,_] rfl (j_ifn rfl rfl (fun h1=>?_) (fun h1=>by exfalso;omega))
  refine j_nf [_,_,_] rfl (j_run it 2 rfl (by simp) ?_)
  refine j_nf [_,_] rfl ?_
  refine j_giv [] rfl rfl rfl ⟨rfl,rfl,rfl⟩
theorem S_codewrightref53_In {ps : Option Addr} {n c : Nat} {x : Int} {l : List Int} {res : Bool} (hr : decide (x ∈ l) = res) : Ctr Tryz.prog 38 [.slice ps n c,.int .i64 x] [] [slF I64 ps n c l] (Rv (.bool res) []):=by
 refine Ctr_of_j' (F:=F_codewrightref53_In) rfl fun C=>?_
 subst hr
 refine j_len 0 rfl fun hn hb _=>?_
 subst hn
 have hb' : l.length * 8 ≤ 140737488355328:=hb
 refine j_nf [_,_] rfl (j_run it 1 rfl (by simp) ?_)
 refine j_nf [_,_,_] rfl (j_run it 1 rfl (by simp) ?_)
 refine j_nf [_,_,_] rfl ?_
 refine j_loopG (X:=Nat) [0,1] [0] (fun i=>[(5,.int .i64 (i : Int))]) (fun _=>[]) (fun _=>[]) (fun i=>i ≤ l.length ∧ ∀ y ∈ l.take i,x ≠ y) (fun i=>l.length - i) 0 [] rfl rfl rfl ⟨Nat.zero_le _,fun j h=>by simp at h⟩ (by repeat (first | exact Fr.sub_nil _ | refine Fr.sub_cons rfl ?_)) rfl rfl ?_
 rintro i ⟨hi,hno⟩ ih
 simp only [List.cons_append,List.nil_append] at hi ih ⊢
 by_cases h9 : i < l.length
 ·obtain ⟨y,at_y⟩ : ∃ y,l[i]? = some y:=⟨_,List.getElem?_eq_getElem h9⟩
  by_cases h8 : y = x
  ·subst h8
   rw [decide_eq_true (List.mem_of_getElem? at_y)]
   refine j_nf [_,_,_,_,_,_] rfl (j_run it 2 rfl (by simp) ?_)
   refine j_step rfl (x_len sl22 rfl ?_)
   refine j_run it 1 rfl (by simp) ?_
   refine j_nf [_,_,_,_,_] rfl (j_if rfl rfl (fun h1=>?_) (fun h1=>by exfalso;omega))
   refine j_nf [_,_,_,_,_,_,_] rfl (j_run it 2 rfl (by simp) ?_)
   refine j_step rfl (x_idx 0 (i) rfl rfl rfl sl22 rfl (by omega) fun z1 hz1 b1 o1=>?_)
   obtain rfl : _ = z1:=Option.some.inj (at_y.symm.trans hz1)
   refine j_step rfl (x_ld_int 0 rfl rfl ld3 fun ⟨r1,r2⟩=>?_)
   refine j_run it 2 rfl (by simp) ?_
   refine j_nf [_,_,_,_,_,_] rfl (j_if rfl rfl (fun h2=>?_) (fun h2=>by exfalso;omega))
   refine j_nf [_,_,_,_,_,_,_] rfl (j_run it 1 rfl (by simp) ?_)
   refine j_nf [_,_,_,_,_,_] rfl ?_
   refine j_giv [] rfl rfl rfl ⟨rfl,rfl,rfl⟩
  ·refine j_nf [_,_,_,_,_,_] rfl (j_run it 2 rfl (by simp) ?_)
   refine j_step rfl (x_len sl22 rfl ?_)
   refine j_run it 1 rfl (by simp) ?_
   refine j_nf [_,_,_,_,_] rfl (j_if rfl rfl (fun h1=>?_) (fun h1=>by exfalso;omega))
   refine j_nf [_,_,_,_,_,_,_] rfl (j_run it 2 rfl (by simp) ?_)
   refine j_step rfl (x_idx 0 (i) rfl rfl rfl sl22 rfl (by omega) fun z1 hz1 b1 o1=>?_)
   obtain rfl : _ = z1:=Option.some.inj (at_y.symm.trans hz1)
   refine j_step rfl (x_ld_int 0 rfl rfl ld3 fun ⟨r1,r2⟩=>?_)
   refine j_run it 2 rfl (by simp) ?_
   refine j_nf [_,_,_,_,_,_] rfl (j_if rfl rfl (fun h2=>by exfalso;omega) (fun h2=>?_))
   refine j_nf [_,_,_,_] rfl (j_run it 3 rfl ⟨trivial,⟨by omega,by omega⟩,trivial,trivial⟩ ?_)
   refine j_nfn 1 [.lp [1,0,1,0,0],.blk 0,.c [1,1]] rfl ?_
   refine j_to [1] (by exact fra rfl) rfl rfl (ih (i + 1) (by omega) ⟨by omega,tk_all at_y hno fun e=>h8 e.symm⟩)
 ·rw [decide_eq_false fun hm=>hno x (by rwa [List.take_of_length_le (by omega)]) rfl]
  refine j_nf [_,_,_,_,_,_] rfl (j_run it 2 rfl (by simp) ?_)
  refine j_step rfl (x_len sl22 rfl ?_)
  refine j_run it 1 rfl (by simp) ?_
  refine j_nf [_,_,_,_,_] rfl (j_if rfl rfl (fun h1=>by exfalso;omega) (fun h1=>?_))
  refine j_nf [_,_] rfl (j_run it 1 rfl (by simp) ?_)
  refine j_nf [_] rfl ?_
  refine j_giv [] rfl rfl rfl ⟨rfl,rfl,rfl⟩
theorem S_codewrightref53_Meet {pa pb : Option Addr} {na ca nb cb : Nat} {k l : List Int} {res : Bool} (hr : (k.any fun x=>decide (x ∈ l)) = res) : Ctr Tryz.prog 17 [.slice pa na ca,.slice pb nb cb] [] [slF I64 pa na ca k,slF I64 pb nb cb l] (Rv (.bool res) []):=by
 refine Ctr_of_j' (F:=F_codewrightref53_Meet) rfl fun C=>?_
 subst hr
 refine j_len 0 rfl fun hn hb _=>?_
 subst hn
 have hb' : k.length * 8 ≤ 140737488355328:=hb
 refine j_nf [_,_] rfl (j_run it 1 rfl (by simp) ?_)
 refine j_nf [_,_,_] rfl (j_run it 1 rfl (by simp) ?_)
 refine j_nf [_,_,_] rfl ?_
 refine j_loopG (X:=Nat) [0,1] [0,1] (fun i=>[(5,.int .i64 (i : Int))]) (fun _=>[]) (fun _=>[]) (fun i=>i ≤ k.length ∧ ∀ y ∈ k.take i,y ∉ l) (fun i=>k.length - i) 0 [] rfl rfl rfl ⟨Nat.zero_le _,fun j h=>by simp at h⟩ (by repeat (first | exact Fr.sub_nil _ | refine Fr.sub_cons rfl ?_)) rfl rfl ?_
 rintro i ⟨hi,hno⟩ ih
 simp only [List.cons_append,List.nil_append] at hi ih ⊢
 by_cases h9 : i < k.length
 ·obtain ⟨y,at_y⟩ : ∃ y,k[i]? = some y:=⟨_,List.getElem?_eq_getElem h9⟩
  by_cases h8 : y ∈ l
  ·have hd : decide (y ∈ l) = true:=decide_eq_true h8
   rw [List.any_eq_true.2 ⟨y,List.mem_of_getElem? at_y,hd⟩]
   refine j_nf [_,_,_,_,_,_] rfl (j_run it 2 rfl (by simp) ?_)
   refine j_step rfl (x_len sl22 rfl ?_)
   refine j_run it 1 rfl (by simp) ?_
   refine j_nf [_,_,_,_,_] rfl (j_if rfl rfl (fun h1=>?_) (fun h1=>by exfalso;omega))
   refine j_nf [_,_,_,_,_,_,_] rfl (j_run it 3 rfl (by simp) ?_)
   refine j_step rfl (x_idx 0 (i) rfl rfl rfl sl22 rfl (by omega) fun z1 hz1 b1 o1=>?_)
   obtain rfl : _ = z1:=Option.some.inj (at_y.symm.trans hz1)
   refine j_step rfl (x_ld_int 0 rfl rfl ld3 fun ⟨r1,r2⟩=>?_)
   refine j_step rfl (x_call [2] rfl (S_codewrightref53_In (by omega)) rfl ?_)
   rintro _ _ _ ⟨rfl,rfl,rfl⟩
   simp only [List.cons_append,List.nil_append]
   refine j_nf [_,_,_,_,_,_] rfl ?_
   refine j_true rfl rfl ?_
   refine j_nf [_,_,_,_,_,_,_] rfl (j_run it 1 rfl (by simp) ?_)
   refine j_nf [_,_,_,_,_,_] rfl ?_
   refine j_giv [] rfl rfl rfl ⟨rfl,rfl,rfl⟩
  ·have hd : decide (y ∈ l) = false:=decide_eq_false h8
   refine j_nf [_,_,_,_,_,_] rfl (j_run it 2 rfl (by simp) ?_)
   refine j_step rfl (x_len sl22 rfl ?_)
   refine j_run it 1 rfl (by simp) ?_
   refine j_nf [_,_,_,_,_] rfl (j_if rfl rfl (fun h1=>?_) (fun h1=>by exfalso;omega))
   refine j_nf [_,_,_,_,_,_,_] rfl (j_run it 3 rfl (by simp) ?_)
   refine j_step rfl (x_idx 0 (i) rfl rfl rfl sl22 rfl (by omega) fun z1 hz1 b1 o1=>?_)
   obtain rfl : _ = z1:=Option.some.inj (at_y.symm.trans hz1)
   refine j_step rfl (x_ld_int 0 rfl rfl ld3 fun ⟨r1,r2⟩=>?_)
   refine j_step rfl (x_call [2] rfl (S_codewrightref53_In (by omega)) rfl ?_)
   rintro _ _ _ ⟨rfl,rfl,rfl⟩
   simp only [List.cons_append,List.nil_append]
   refine j_nf [_,_,_,_,_,_] rfl ?_
   refine j_false rfl rfl ?_
   refine j_nf [_,_,_,_] rfl (j_run it 3 rfl ⟨trivial,⟨by omega,by omega⟩,trivial,trivial⟩ ?_)
   refine j_nfn 1 [.lp [1,0,1,0,0],.blk 0,.c [1,1]] rfl ?_
   refine j_to [1,2] (by exact fra rfl) rfl rfl (ih (i + 1) (by omega) ⟨by omega,tk_all at_y hno h8⟩)
 ·rw [show (k.any fun x=>decide (x ∈ l)) = false from List.any_eq_false.2 fun y hy=>by
   have:=hno y (by rwa [List.take_of_length_le (by omega)])
   simpa using this]
  refine j_nf [_,_,_,_,_,_] rfl (j_run it 2 rfl (by simp) ?_)
  refine j_step rfl (x_len sl22 rfl ?_)
  refine j_run it 1 rfl (by simp) ?_
  refine j_nf [_,_,_,_,_] rfl (j_if rfl rfl (fun h1=>by exfalso;omega) (fun h1=>?_))
  refine j_nf [_,_] rfl (j_run it 1 rfl (by simp) ?_)
  refine j_nf [_] rfl ?_
  refine j_giv [] rfl rfl rfl ⟨rfl,rfl,rfl⟩
noncomputable def setsE (P M : Int) (md : List Int) (N : Int) (rows : List (List Int)) (ls : List (List Int)) : Int:=if ckE P M md N rows ≠ 0 then ckE P M md N rows else if ∀ l ∈ ls,stP N l then 0 else 5
theorem S_codewrightref53_Sets {P M N e : Int} {pm ps pl : Option Addr} {nm cm n c nl cl : Nat} {md : List Int} {rows ls : List (List Int)} (hN : InR .i64 N) (h : setsE P M md N rows ls = e) :
  Ctr Tryz.prog 24 [.agg #[.int .i64 P,.int .i64 M,.slice pm nm cm,.int .i64 N,.slice ps n c],.slice pl nl cl] [] [slF I64 pm nm cm md,slF (encSl I64) ps n c rows,slF (encSl I64) pl nl cl ls] (Rv (.int .i64 e) []):=by
 refine Ctr_of_j' (F:=F_codewrightref53_Sets) rfl fun C=>?_
 refine j_len 2 rfl fun hn hb _=>?_
 subst hn
 have hb' : ls.length * 24 ≤ 140737488355328:=hb
 have hr:=ckE_rng P M md N rows
 have c_codewrightref12_Check:=fun {pm ps : Option Addr} {nm cm n c : Nat}=>S_codewrightref12_Check (pm:=pm) (ps:=ps) (nm:=nm) (cm:=cm) (n:=n) (c:=c) (P:=P) (M:=M) (N:=N) (md:=md) (rows:=rows) hN rfl
 rw [setsE] at h
 by_cases h0 : ckE P M md N rows = 0
 ·rw [if_neg (fun e=>e h0)] at h
  rw [h0] at c_codewrightref12_Check
  refine j_nf [_,_] rfl ?_
  refine j_step rfl (x_box_agg rfl fun b1=>?_)
  refine j_run it 1 rfl (by simp) ?_
  refine j_nf [_,_] rfl ?_
  refine j_step rfl (x_bld_all 0 rfl rfl ld27 rfl ?_)
  refine j_step rfl (x_call [0,1] rfl (c_codewrightref12_Check) rfl ?_)
  rintro _ _ _ ⟨rfl,rfl,rfl⟩
  simp only [List.cons_append,List.nil_append]
  refine j_run it 1 rfl (by simp) ?_
  refine j_nf [_,_,_] rfl ?_
  refine j_run it 1 rfl (by simp) ?_
  refine j_nf [_,_,_] rfl ?_
  refine j_loopG (X:=Nat × Int) [1,2,4] [0,1,2] (fun i=>[(6,.int .i64 (i.1 : Int)),(5,.int .i64 i.2)]) (fun _=>_) (fun _=>[]) (fun i=>i.1 ≤ ls.length ∧ (i.2 = 0 ∧ (∀ l ∈ ls.take i.1,stP N l) ∨ i.2 = 5 ∧ e = 5)) (fun i=>ls.length - i.1) (0,0) [] rfl rfl rfl ⟨Nat.zero_le _,.inl ⟨rfl,fun x h=>by simp at h⟩⟩ (by repeat (first | exact Fr.sub_nil _ | refine Fr.sub_cons rfl ?_)) rfl rfl ?_
  rintro ⟨i,e2⟩ ⟨hi,hno⟩ ih
  simp only [List.cons_append,List.nil_append] at hi hno ih ⊢
  rcases hno with ⟨rfl,hno⟩ | ⟨rfl,rfl⟩
  ·by_cases h9 : i < ls.length
   ·obtain ⟨l,hl⟩ : ∃ l,ls[i]? = some l:=⟨_,List.getElem?_eq_getElem h9⟩
    have el:=gd_at hl
    by_cases h8 : stP N l
    ·have hd : decide (stP N (ls.getD i default)) = true:=by rw [el];exact decide_eq_true h8
     refine j_nf [_,_,_,_,_,_] rfl ?_
     refine j_run it 2 rfl (by simp) ?_
     refine j_step rfl (x_len sl25 rfl ?_)
     refine j_run it 2 rfl (by simp) ?_
     refine j_split_dec (t:=13) rfl (fun h1=>?_) (fun h1=>by exfalso;omega)
     refine j_run it 3 rfl (by simp) ?_
     refine j_nf [_,_,_,_,_] rfl ?_
     refine j_if rfl rfl (fun h2=>?_) (fun h2=>by exfalso;omega)
     refine j_nf [_,_,_,_,_,_,_] rfl ?_
     (apply j_drawK it mx 8;(· rfl);(· rfl))
     (apply lxk_eq;(· rfl);(· exact d_x fun _=>x_field rfl fd27_1 dk_eq))
     (apply lxk_eq;(· rfl);(· exact d_bld 0 rfl rfl ld3 rfl))
     (apply lxk_run 2;(· rfl);(· simp))
     (apply lxk_pt;(· rfl);(· exact d_x fun _=>x_idx 2 (i) rfl rfl rfl sl25 rfl (by omega) fun z1 hz1 b2 o1=>(dk_ptD default hz1 0 rfl));intro b2 o1)
     (apply lxk_sl;(· rfl);(· exact d_x fun _=>x_ld_sl 0 rfl rfl ld22 fun pa1 ca1=>(dk_sl 0 rfl));intro pa1 ca1)
     (apply lxk_eq;(· rfl);(· exact d_x fun _=>x_call [0] rfl (S_codewrightref11_IsSubset (by omega)) rfl (by rintro _ _ _ ⟨rfl,rfl,rfl⟩;exact dk_eq)))
     (apply lxk_run 1;(· rfl);(· simp))
     refine lxk_end rfl ?_
     simp only [List.map_cons,List.map_nil,List.cons_append,List.nil_append]
     refine j_nf [_,_,_,_,_,_] rfl ?_
     refine j_false rfl rfl ?_
     refine j_nf [_,_,_,_] rfl ?_
     refine j_run it 3 rfl ⟨trivial,⟨by omega,by omega⟩,trivial,trivial⟩ ?_
     refine j_nfn 1 [.lp (pL 116),.blk 0,.c [1,1,1]] rfl ?_
     refine j_to [2,3,4] (by exact fra rfl) rfl rfl (ih (i + 1,0) (by dsimp only;omega) ⟨by dsimp only;omega,.inl ⟨rfl,tk_all hl hno h8⟩⟩)
    ·have hd : decide (stP N (ls.getD i default)) = false:=by rw [el];exact decide_eq_false h8
     rw [if_neg fun hh=>h8 (hh l (List.mem_of_getElem? hl))] at h
     refine j_nf [_,_,_,_,_,_] rfl ?_
     refine j_run it 2 rfl (by simp) ?_
     refine j_step rfl (x_len sl25 rfl ?_)
     refine j_run it 2 rfl (by simp) ?_
     refine j_split_dec (t:=13) rfl (fun h1=>?_) (fun h1=>by exfalso;omega)
     refine j_run it 3 rfl (by simp) ?_
     refine j_nf [_,_,_,_,_] rfl ?_
     refine j_if rfl rfl (fun h2=>?_) (fun h2=>by exfalso;omega)
     refine j_nf [_,_,_,_,_,_,_] rfl ?_
     (apply j_drawK it mx 8;(· rfl);(· rfl))
     (apply lxk_eq;(· rfl);(· exact d_x fun _=>x_field rfl fd27_1 dk_eq))
     (apply lxk_eq;(· rfl);(· exact d_bld 0 rfl rfl ld3 rfl))
     (apply lxk_run 2;(· rfl);(· simp))
     (apply lxk_pt;(· rfl);(· exact d_x fun _=>x_idx 2 (i) rfl rfl rfl sl25 rfl (by omega) fun z1 hz1 b2 o1=>(dk_ptD default hz1 0 rfl));intro b2 o1)
     (apply lxk_sl;(· rfl);(· exact d_x fun _=>x_ld_sl 0 rfl rfl ld22 fun pa1 ca1=>(dk_sl 0 rfl));intro pa1 ca1)
     (apply lxk_eq;(· rfl);(· exact d_x fun _=>x_call [0] rfl (S_codewrightref11_IsSubset (by omega)) rfl (by rintro _ _ _ ⟨rfl,rfl,rfl⟩;exact dk_eq)))
     (apply lxk_run 1;(· rfl);(· simp))
     refine lxk_end rfl ?_
     simp only [List.map_cons,List.map_nil,List.cons_append,List.nil_append]
     refine j_nf [_,_,_,_,_,_] rfl ?_
     refine j_true rfl rfl ?_
     refine j_nf [_,_,_,_,_,_] rfl ?_
     refine j_run it 1 rfl (by simp) ?_
     refine j_nf [_,_,_,_] rfl ?_
     refine j_run it 3 rfl ⟨trivial,⟨by omega,by omega⟩,trivial,trivial⟩ ?_
     refine j_nfn 1 [.lp (pL 116),.blk 0,.c [1,1,1]] rfl ?_
     refine j_to [2,3,4] (by exact fra rfl) rfl rfl (ih (i + 1,5) (by dsimp only;omega) ⟨by dsimp only;omega,.inr ⟨rfl,h.symm⟩⟩)
   ·rw [if_pos fun l hl=>hno l (by rwa [List.take_of_length_le (by omega)])] at h
    subst h
    refine j_nf [_,_,_,_,_,_] rfl ?_
    refine j_run it 2 rfl (by simp) ?_
    refine j_step rfl (x_len sl25 rfl ?_)
    refine j_run it 2 rfl (by simp) ?_
    refine j_split_dec (t:=13) rfl (fun h1=>by exfalso;omega) (fun h1=>?_)
    refine j_run it 3 rfl (by simp) ?_
    refine j_nf [_,_,_,_,_] rfl ?_
    refine j_false rfl rfl ?_
    refine j_nf [_,_] rfl ?_
    refine j_run it 2 rfl (by simp) ?_
    refine j_nf [_] rfl ?_
    refine j_giv [] rfl rfl rfl ⟨rfl,rfl,rfl⟩
  ·by_cases h9 : i < ls.length
   ·refine j_nf [_,_,_,_,_,_] rfl ?_
    refine j_run it 2 rfl (by simp) ?_
    refine j_step rfl (x_len sl25 rfl ?_)
    refine j_run it 2 rfl (by simp) ?_
    refine j_split_dec (t:=13) rfl (fun h1=>?_) (fun h1=>by exfalso;omega)
    refine j_run it 3 rfl (by simp) ?_
    refine j_nf [_,_,_,_,_] rfl ?_
    refine j_if rfl rfl (fun h2=>by exfalso;omega) (fun h2=>?_)
    refine j_nf [_,_] rfl ?_
    refine j_run it 2 rfl (by simp) ?_
    refine j_nf [_] rfl ?_
    refine j_giv [] rfl rfl rfl ⟨rfl,rfl,rfl⟩
   ·refine j_nf [_,_,_,_,_,_] rfl ?_
    refine j_run it 2 rfl (by simp) ?_
    refine j_step rfl (x_len sl25 rfl ?_)
    refine j_run it 2 rfl (by simp) ?_
    refine j_split_dec (t:=13) rfl (fun h1=>by exfalso;omega) (fun h1=>?_)
    refine j_run it 3 rfl (by simp) ?_
    refine j_nf [_,_,_,_,_] rfl ?_
    refine j_false rfl rfl ?_
    refine j_nf [_,_] rfl ?_
    refine j_run it 2 rfl (by simp) ?_
    refine j_nf [_] rfl ?_
    refine j_giv [] rfl rfl rfl ⟨rfl,rfl,rfl⟩
 ·rw [if_pos h0] at h
  subst h
  refine j_nf [_,_] rfl ?_
  refine j_step rfl (x_box_agg rfl fun b1=>?_)
  refine j_run it 1 rfl (by simp) ?_
  refine j_nf [_,_] rfl ?_
  refine j_step rfl (x_bld_all 0 rfl rfl ld27 rfl ?_)
  refine j_step rfl (x_call [0,1] rfl (c_codewrightref12_Check) rfl ?_)
  rintro _ _ _ ⟨rfl,rfl,rfl⟩
  simp only [List.cons_append,List.nil_append]
  refine j_run it 1 rfl (by simp) ?_
  refine j_nf [_,_,_] rfl ?_
  refine j_run it 1 rfl (by simp) ?_
  refine j_nf [_,_,_] rfl ?_
  refine j_loopG (X:=Unit) [1,2,4] [0,1,2] (fun i=>[(6,.int .i64 0),(5,.int .i64 (ckE P M md N rows))]) (fun _=>_) (fun _=>[]) (fun _=>True) (fun _=>0) () [] rfl rfl rfl trivial (by repeat (first | exact Fr.sub_nil _ | refine Fr.sub_cons rfl ?_)) rfl rfl ?_
  rintro ⟨⟩ - ih
  simp only [List.cons_append,List.nil_append] at ih ⊢
  by_cases h9 : 0 < ls.length
  ·refine j_nf [_,_,_,_,_,_] rfl ?_
   refine j_run it 2 rfl (by simp) ?_
   refine j_step rfl (x_len sl25 rfl ?_)
   refine j_run it 2 rfl (by simp) ?_
   refine j_split_dec (t:=13) rfl (fun h1=>?_) (fun h1=>by exfalso;omega)
   refine j_run it 3 rfl (by simp) ?_
   refine j_nf [_,_,_,_,_] rfl ?_
   refine j_if rfl rfl (fun h2=>by exfalso;omega) (fun h2=>?_)
   refine j_nf [_,_] rfl ?_
   refine j_run it 2 rfl (by simp) ?_
   refine j_nf [_] rfl ?_
   refine j_giv [] rfl rfl rfl ⟨rfl,rfl,rfl⟩
  ·refine j_nf [_,_,_,_,_,_] rfl ?_
   refine j_run it 2 rfl (by simp) ?_
   refine j_step rfl (x_len sl25 rfl ?_)
   refine j_run it 2 rfl (by simp) ?_
   refine j_split_dec (t:=13) rfl (fun h1=>by exfalso;omega) (fun h1=>?_)
   refine j_run it 3 rfl (by simp) ?_
   refine j_nf [_,_,_,_,_] rfl ?_
   refine j_false rfl rfl ?_
   refine j_nf [_,_] rfl ?_
   refine j_run it 2 rfl (by simp) ?_
   refine j_nf [_] rfl ?_
   refine j_giv [] rfl rfl rfl ⟨rfl,rfl,rfl⟩
theorem S_codewrightref53_Pair {P M N e : Int} {n c nm cm nl cl nh ch : Nat} {pm ps pl ph : Option Addr} {md lost hs : List Int} {rows : List (List Int)} (hN : InR .i64 N) (h : pairE P M md N rows lost hs = e) :
  Ctr Tryz.prog 7 [.agg #[.int .i64 P,.int .i64 M,.slice pm nm cm,.int .i64 N,.slice ps n c],.slice pl nl cl,.slice ph nh ch] [] [slF I64 pm nm cm md,slF (encSl I64) ps n c rows,slF I64 pl nl cl lost,slF I64 ph nh ch hs] (Rv (.int .i64 e) []):=by
 refine Ctr_of_j' (F:=F_codewrightref53_Pair) rfl fun C=>?_
 have hr:=ckE_rng P M md N rows
 have c_codewrightref53_Sets:=fun {pm ps pl : Option Addr} {nm cm n c nl cl : Nat}=>S_codewrightref53_Sets (pm:=pm) (ps:=ps) (nm:=nm) (cm:=cm) (n:=n) (c:=c) (pl:=pl) (nl:=nl) (cl:=cl) (P:=P) (M:=M) (N:=N) (md:=md) (rows:=rows) (ls:=[lost,hs]) hN rfl
 have hse : setsE P M md N rows [lost,hs] = if ckE P M md N rows ≠ 0 then ckE P M md N rows else if stP N lost ∧ stP N hs then 0 else 5:=by
  rw [setsE]
  congr 1
  by_cases h2 : stP N lost ∧ stP N hs
  ·rw [if_pos h2,if_pos fun l hl=>?_]
   rcases List.mem_cons.1 hl with rfl | hl
   ·exact h2.1
   ·rw [List.mem_singleton.1 hl];exact h2.2
  ·rw [if_neg h2,if_neg fun h=>h2 ⟨h _ (.head _),h _ (.tail _ (.head _))⟩]
 rw [pairE] at h
 by_cases h0 : ckE P M md N rows = 0
 ·rw [if_neg (fun e=>e h0)] at h hse
  by_cases h1 : stP N lost ∧ stP N hs
  ·rw [if_neg (fun e=>e h1)] at h
   rw [if_pos h1] at hse
   rw [hse] at c_codewrightref53_Sets
   cases hm : (lost.any fun x=>decide (x ∈ hs)) with
   | true =>
    rw [hm,if_pos rfl] at h
    subst h
    refine j_nf [_,_] rfl (j_step rfl (x_box_agg rfl fun b1=>?_))
    refine j_run it 1 rfl (by simp) ?_
    refine j_nf [_,_] rfl (j_step rfl (x_bld_all 0 rfl rfl ld27 rfl ?_))
    refine j_run it 2 rfl (by simp) ?_
    refine j_step rfl (x_lit sl25 zo25e rfl rfl rfl rfl (by decide) (by decide) rfl fun b2=>?_)
    refine j_pub_all (E:=(encSl (I64))) (n:=2) [[Value.slice pl nl cl],[Value.slice ph nh ch]] [lost,hs] 0 (fun w A hG=>(allrd_cons (rd_of_slF (hG _ (fact_mem (n:=2) rfl))) (allrd_cons (rd_of_slF (hG _ (fact_mem (n:=3) rfl))) allrd_nil))) rfl rfl rfl rfl (by first | decide | exact Nat.le_of_ble_eq_true rfl) (by first | decide | exact Nat.le_of_ble_eq_true rfl) ?_
    refine j_step rfl (x_call [1,2,0] rfl (c_codewrightref53_Sets) rfl ?_)
    rintro _ _ _ ⟨rfl,rfl,rfl⟩
    simp only [List.cons_append,List.nil_append]
    refine j_run it 1 rfl (by simp) ?_
    refine j_nf [_,_,_] rfl (j_run it 5 rfl (by simp) ?_)
    refine j_split_dec (t:=15) rfl (fun h2=>?_) (fun h2=>by exfalso;omega)
    refine j_gstep rfl rfl (x_call [3,4] rfl (S_codewrightref53_Meet (by omega)) rfl ?_)
    rintro _ _ _ ⟨rfl,rfl,rfl⟩
    simp only [List.cons_append,List.nil_append]
    simp only [decide_true]
    refine j_run it 1 rfl (by simp) ?_
    refine j_nf [_,_] rfl ?_
    refine j_true rfl rfl ?_
    refine j_nf [_,_] rfl (j_run it 1 rfl (by simp) ?_)
    refine j_nf [_,_] rfl (j_run it 2 rfl (by simp) ?_)
    refine j_nf [_] rfl ?_
    refine j_giv [] rfl rfl rfl ⟨rfl,rfl,rfl⟩
   | false =>
    rw [hm,if_neg (by simp)] at h
    subst h
    refine j_nf [_,_] rfl (j_step rfl (x_box_agg rfl fun b1=>?_))
    refine j_run it 1 rfl (by simp) ?_
    refine j_nf [_,_] rfl (j_step rfl (x_bld_all 0 rfl rfl ld27 rfl ?_))
    refine j_run it 2 rfl (by simp) ?_
    refine j_step rfl (x_lit sl25 zo25e rfl rfl rfl rfl (by decide) (by decide) rfl fun b2=>?_)
    refine j_pub_all (E:=(encSl (I64))) (n:=2) [[Value.slice pl nl cl],[Value.slice ph nh ch]] [lost,hs] 0 (fun w A hG=>(allrd_cons (rd_of_slF (hG _ (fact_mem (n:=2) rfl))) (allrd_cons (rd_of_slF (hG _ (fact_mem (n:=3) rfl))) allrd_nil))) rfl rfl rfl rfl (by first | decide | exact Nat.le_of_ble_eq_true rfl) (by first | decide | exact Nat.le_of_ble_eq_true rfl) ?_
    refine j_step rfl (x_call [1,2,0] rfl (c_codewrightref53_Sets) rfl ?_)
    rintro _ _ _ ⟨rfl,rfl,rfl⟩
    simp only [List.cons_append,List.nil_append]
    refine j_run it 1 rfl (by simp) ?_
    refine j_nf [_,_,_] rfl (j_run it 5 rfl (by simp) ?_)
    refine j_split_dec (t:=15) rfl (fun h2=>?_) (fun h2=>by exfalso;omega)
    refine j_gstep rfl rfl (x_call [3,4] rfl (S_codewrightref53_Meet (by omega)) rfl ?_)
    rintro _ _ _ ⟨rfl,rfl,rfl⟩
    simp only [List.cons_append,List.nil_append]
    simp only [decide_true]
    refine j_run it 1 rfl (by simp) ?_
    refine j_nf [_,_] rfl ?_
    refine j_false rfl rfl ?_
    refine j_nf [_,_] rfl (j_run it 2 rfl (by simp) ?_)
    refine j_nf [_] rfl ?_
    refine j_giv [] rfl rfl rfl ⟨rfl,rfl,rfl⟩
  ·rw [if_pos h1] at h
   rw [if_neg h1] at hse
   rw [hse] at c_codewrightref53_Sets
   subst h
   refine j_nf [_,_] rfl (j_step rfl (x_box_agg rfl fun b1=>?_))
   refine j_run it 1 rfl (by simp) ?_
   refine j_nf [_,_] rfl (j_step rfl (x_bld_all 0 rfl rfl ld27 rfl ?_))
   refine j_run it 2 rfl (by simp) ?_
   refine j_step rfl (x_lit sl25 zo25e rfl rfl rfl rfl (by decide) (by decide) rfl fun b2=>?_)
   refine j_pub_all (E:=(encSl (I64))) (n:=2) [[Value.slice pl nl cl],[Value.slice ph nh ch]] [lost,hs] 0 (fun w A hG=>(allrd_cons (rd_of_slF (hG _ (fact_mem (n:=2) rfl))) (allrd_cons (rd_of_slF (hG _ (fact_mem (n:=3) rfl))) allrd_nil))) rfl rfl rfl rfl (by first | decide | exact Nat.le_of_ble_eq_true rfl) (by first | decide | exact Nat.le_of_ble_eq_true rfl) ?_
   refine j_step rfl (x_call [1,2,0] rfl (c_codewrightref53_Sets) rfl ?_)
   rintro _ _ _ ⟨rfl,rfl,rfl⟩
   simp only [List.cons_append,List.nil_append]
   refine j_run it 1 rfl (by simp) ?_
   refine j_nf [_,_,_] rfl (j_run it 7 rfl (by simp) ?_)
   refine j_nf [_,_] rfl ?_
   refine j_false rfl rfl ?_
   refine j_nf [_,_] rfl (j_run it 2 rfl (by simp) ?_)
   refine j_nf [_] rfl ?_
   refine j_giv [] rfl rfl rfl ⟨rfl,rfl,rfl⟩
 ·rw [if_pos h0] at h hse
  rw [hse] at c_codewrightref53_Sets
  subst h
  refine j_nf [_,_] rfl (j_step rfl (x_box_agg rfl fun b1=>?_))
  refine j_run it 1 rfl (by simp) ?_
  refine j_nf [_,_] rfl (j_step rfl (x_bld_all 0 rfl rfl ld27 rfl ?_))
  refine j_run it 2 rfl (by simp) ?_
  refine j_step rfl (x_lit sl25 zo25e rfl rfl rfl rfl (by decide) (by decide) rfl fun b2=>?_)
  refine j_pub_all (E:=(encSl (I64))) (n:=2) [[Value.slice pl nl cl],[Value.slice ph nh ch]] [lost,hs] 0 (fun w A hG=>(allrd_cons (rd_of_slF (hG _ (fact_mem (n:=2) rfl))) (allrd_cons (rd_of_slF (hG _ (fact_mem (n:=3) rfl))) allrd_nil))) rfl rfl rfl rfl (by first | decide | exact Nat.le_of_ble_eq_true rfl) (by first | decide | exact Nat.le_of_ble_eq_true rfl) ?_
  refine j_step rfl (x_call [1,2,0] rfl (c_codewrightref53_Sets) rfl ?_)
  rintro _ _ _ ⟨rfl,rfl,rfl⟩
  simp only [List.cons_append,List.nil_append]
  refine j_run it 1 rfl (by simp) ?_
  refine j_nf [_,_,_] rfl (j_run it 3 rfl (by simp) ?_)
  refine j_split_dec (t:=15) rfl (fun h1=>by exfalso;omega) (fun h1=>?_)
  refine j_run it 4 rfl (by simp) ?_
  refine j_nf [_,_] rfl ?_
  refine j_false rfl rfl ?_
  refine j_nf [_,_] rfl (j_run it 2 rfl (by simp) ?_)
  refine j_nf [_] rfl ?_
  refine j_giv [] rfl rfl rfl ⟨rfl,rfl,rfl⟩
abbrev coL (gen : List (List Int)) (hs : List Int) : List (List Int):=hs.map fun j=>colL gen j.toNat
theorem st_len {n : Nat} {l : List Int} (h : stP n l) : l.length ≤ n:=by
 have h1 : (l.map Int.toNat).Nodup:=by
  rw [List.Nodup,List.pairwise_map]
  refine h.2.imp_of_mem fun {a b} ha hb hab e=>?_
  have:=(h.1 a ha).1;have:=(h.1 b hb).1
  omega
 have h2:=nodup_len h1 (l':=List.range n) fun x hx=>by
  obtain ⟨y,hy,rfl⟩:=List.mem_map.1 hx
  have:=h.1 y hy
  exact List.mem_range.2 (by omega)
 rwa [List.length_map,List.length_range] at h2
theorem S_codewrightref53_columns {p m N nm cm n c nh ch : Nat} {pm ps ph : Option Addr} {md hs : List Int} {rows : List (List Int)} (CC : Cok p m md N rows) (hhl : hs.length ≤ 1000000) (hhs : ∀ x ∈ hs,0 ≤ x ∧ x < (N : Int)) :
  Ctr Tryz.prog 25 [.agg #[.int .i64 p,.int .i64 m,.slice pm nm cm,.int .i64 N,.slice ps n c],.slice ph nh ch] [] [slF (encSl I64) ps n c rows,slF I64 ph nh ch hs]
   (fun v Φ β=>∃ (b cap : Nat) (cs : List Value),v = .slice (some ⟨b,0,none⟩) hs.length cap ∧ Φ = [rowF (encSl I64) ⟨some b,cap,cs⟩ hs.length (coL rows hs)] ∧ β = [(some b,22,cs)]):=by
 refine Ctr_of_j' (F:=F_codewrightref53_columns) rfl fun C=>?_
 have hN:=CC.n64
 refine j_len 1 rfl fun hn hb _=>?_
 subst hn
 have hb' : hs.length * 8 ≤ 140737488355328:=hb
 have c_codewrightref09_Turn:=fun {n c : Nat} {ps : Option Addr}=>S_codewrightref09_Turn (n:=n) (c:=c) (ps:=ps) (N:=N) (W:=N) (rows:=rows) (by omega) (Nat.le_refl N) fun r hr=>(CC.mat r hr).1
 refine j_nf [_,_] rfl (j_step rfl (x_box_agg rfl fun b1=>?_))
 refine j_run it 1 rfl (by simp) ?_
 refine j_nf [_,_] rfl (j_step rfl (x_field rfl fd27_2 ?_))
 refine j_step rfl (x_bld 0 rfl rfl ld25 rfl ?_)
 refine j_step rfl (x_field rfl fd27_1 ?_)
 refine j_step rfl (x_bld 0 rfl rfl ld3 rfl ?_)
 refine j_step rfl (x_call [0] rfl (c_codewrightref09_Turn) rfl ?_)
 rintro _ _ _ ⟨pb1,cb1,rfl,rfl,rfl⟩
 simp only [List.cons_append,List.nil_append]
 refine j_run it 1 rfl (by simp) ?_
 refine j_nf [_,_] rfl (j_step rfl (x_lit0 sl25 fun b2=>?_))
 refine j_run it 1 rfl (by simp) ?_
 refine j_nf [_,_,_] rfl (j_run it 1 rfl (by simp) ?_)
 refine j_nf [_,_,_] rfl ?_
 refine j_rowlit (E:=encSl I64) (n:=0) (cs:=[]) [] [] 0 (fun w A hG=>allrd_nil) rfl rfl rfl rfl (by decide) ?_
 refine j_loopG (X:=Nat × Nat × Nat × List Value) [1,4,5] [0,1,2,3] (fun x=>[(7,.int .i64 (x.1 : Int)),(6,.slice (some ⟨x.2.1,0,none⟩) x.1 x.2.2.1)]) (fun x=>(some x.2.1,22,x.2.2.2)::_) (fun x=>[rowF (encSl I64) ⟨some x.2.1,x.2.2.1,x.2.2.2⟩ x.1 (coL rows (hs.take x.1))]) (fun x=>x.1 ≤ hs.length) (fun x=>hs.length - x.1) (0,b2,0,[]) [0] rfl rfl rfl (Nat.zero_le _) (by repeat (first | exact Fr.sub_nil _ | refine Fr.sub_cons rfl ?_)) rfl rfl ?_
 rintro ⟨k,b,cap,cs⟩ hk ih
 simp only [List.cons_append,List.nil_append] at hk ih ⊢
 by_cases hkn : k < hs.length
 ·obtain ⟨x,at_x⟩ : ∃ x,hs[k]? = some x:=⟨_,List.getElem?_eq_getElem hkn⟩
  obtain ⟨x0,x1⟩:=hhs x (List.mem_of_getElem? at_x)
  have ih':=fun b cap cs=>ih (k + 1,b,cap,cs) (by dsimp only;omega) (by dsimp only;omega)
  simp only [List.take_add_one,at_x,Option.toList_some,List.map_append,List.map_cons,List.map_nil] at ih'
  obtain ⟨x,rfl⟩:=Int.eq_ofNat_of_zero_le x0
  simp only [Int.toNat_natCast] at ih'
  have at_u : (trL N rows)[x]? = some (colL rows x):=by rw [trL,List.getElem?_map,List.getElem?_range (by omega)];rfl
  refine j_nf [_,_,_,_,_,_] rfl (j_run it 2 rfl (by simp) ?_)
  refine j_step rfl (x_len sl22 rfl ?_)
  refine j_run it 1 rfl (by simp) ?_
  refine j_nf [_,_,_,_,_] rfl (j_if rfl rfl (fun h1=>?_) (fun h1=>by exfalso;omega))
  refine j_nf [_,_,_,_,_,_] rfl (j_run it 4 rfl (by simp) ?_)
  refine j_step rfl (x_idx 4 (k) rfl rfl rfl sl22 rfl (by omega) fun z1 hz1 b3 o1=>?_)
  obtain rfl : _ = z1:=Option.some.inj (at_x.symm.trans hz1)
  refine j_step rfl (x_ld_int 0 rfl rfl ld3 fun ⟨r1,r2⟩=>?_)
  refine j_step rfl (x_idx 3 (x) rfl rfl rfl sl25 rfl (by omega) fun z1 hz2 b4 o2=>?_)
  obtain rfl : _ = z1:=Option.some.inj (at_u.symm.trans hz2)
  refine j_step rfl (x_ld_sl 0 rfl rfl ld22 fun pa1 ca1=>?_)
  refine j_step rfl (x_lit sl25 zo25e rfl rfl rfl rfl (by decide) (by decide) rfl fun b5=>?_)
  refine j_step rfl (x_appR (z:=colL rows x) 1 0 3 rfl rfl rfl rfl rfl sl25 zo25e rfl (fun w A hG=>(rd_of_slF (hG _ (fact_mem (n:=0) rfl)))) (by omega) _ by25e (by omega) fun r3=>?_)
  refine j_run it 1 rfl (by simp) ?_
  refine j_nf [_,_,_,_] rfl (j_run it 3 rfl ⟨trivial,⟨by omega,by omega⟩,trivial,trivial⟩ ?_)
  refine j_nfn 1 [.lp (pL 244),.blk 0,.c [1,1,1,1]] rfl ?_
  refine j_rowB 0 rfl (by omega) fun b9 cap9 cs9 hr=>?_
  subst hr
  dsimp only
  refine j_toM [true,false,true] [0,5,6,7,8] (by exact fra rfl) rfl rfl (ih' b9 cap9 cs9)
 ·obtain rfl : k = hs.length:=by omega
  rw [List.take_length]
  clear ih
  refine j_nf [_,_,_,_,_,_] rfl (j_run it 2 rfl (by simp) ?_)
  refine j_step rfl (x_len sl22 rfl ?_)
  refine j_run it 1 rfl (by simp) ?_
  refine j_nf [_,_,_,_,_] rfl (j_if rfl rfl (fun h1=>by exfalso;omega) (fun h1=>?_))
  refine j_nf [_,_] rfl (j_run it 2 rfl (by simp) ?_)
  refine j_nf [_] rfl ?_
  refine j_givK 2 [0] [0] rfl (.tmp rfl .nil) rfl rfl rfl ⟨b,cap,cs,rfl,rfl,rfl⟩
theorem S_codewrightref53_rank {p m N nm cm n c nh ch : Nat} {pm ps ph : Option Addr} {md : List Int} {rows hh : List (List Int)} (CC : Cok p m md N rows) (hl : hh.length ≤ 1000000) (hM : Mat (p ^ m) rows.length hh) :
  Ctr Tryz.prog 26 [.agg #[.int .i64 p,.int .i64 m,.slice pm nm cm,.int .i64 N,.slice ps n c],.slice ph nh ch] [] [slF (encSl I64) ph nh ch hh,slF I64 pm nm cm md,slF (encSl I64) ps n c rows]
   (Rv (.int .i64 ((cnP p m md rows.length hh).2.length : Nat)) []):=by
 refine Ctr_of_j' (F:=F_codewrightref53_rank) rfl fun C=>?_
 have hlr:=CC.len
 refine j_len 0 rfl fun hn hb _=>?_
 subst hn
 refine j_len 2 rfl fun hn hb _=>?_
 subst hn
 have c_codewrightref09_Canon:=fun {nm cm c : Nat} {pm ps : Option Addr}=>S_codewrightref09_Canon (nm:=nm) (cm:=cm) (pm:=pm) (ps:=ps) (c:=c) (n:=hh.length) CC.K hl (show rows.length ≤ 1000000 by omega) rfl hM
 refine j_nf [_,_] rfl (j_step rfl (x_box_agg rfl fun b1=>?_))
 refine j_run it 1 rfl (by simp) ?_
 refine j_nf [_,_] rfl (j_step rfl (x_field rfl fd27_0 ?_))
 refine j_step rfl (x_bld_agg 0 rfl rfl ld24 rfl rfl ?_)
 refine j_run it 1 rfl (by simp) ?_
 refine j_step rfl (x_field rfl fd27_2 ?_)
 refine j_step rfl (x_bld 0 rfl rfl ld25 rfl ?_)
 refine j_step rfl (x_len sl25 rfl ?_)
 refine j_step rfl (x_call [1,0] rfl (c_codewrightref09_Canon) rfl ?_)
 rintro _ _ _ ⟨pb1,pp1,cb1,cp1,rfl,rfl,rfl⟩
 simp only [List.cons_append,List.nil_append]
 refine j_run it 5 rfl (by simp) ?_
 refine j_nf [_,_] rfl (j_run it 1 rfl (by simp) ?_)
 refine j_step rfl (x_len sl22 rfl ?_)
 refine j_run it 1 rfl (by simp) ?_
 refine j_nf [_] rfl ?_
 refine j_giv [] rfl rfl rfl ⟨rfl,rfl,rfl⟩
theorem S_codewrightref53_columnsP {p m N nm cm n c nh ch : Nat} {pm ps ph : Option Addr} {md hs : List Int} {rows : List (List Int)} (CC : Cok p m md N rows) (hhl : hs.length ≤ 1000000) (hhs : ∀ x ∈ hs,0 ≤ x ∧ x < (N : Int)) :
  Ctr Tryz.prog 25 [.agg #[.int .i64 p,.int .i64 m,.slice pm nm cm,.int .i64 N,.slice ps n c],.slice ph nh ch] [] [slF (encSl I64) ps n c rows,slF I64 ph nh ch hs]
   (fun v Φ β=>∃ (pa : Option Addr) (ca : Nat),v = .slice pa hs.length ca ∧ Φ = [slF (encSl I64) pa hs.length ca (coL rows hs)] ∧ β = []) :=
 Ctr.pubR (e:=22) (by show hs.length * 24 ≤ 140737488355328;omega) ((S_codewrightref53_columns (pm:=pm) (nm:=nm) (cm:=cm) CC hhl hhs).mono fun C w v Φ β ⟨b,cap,cs,h1,h2,h3⟩ hO hf=>⟨Φ,β,⟨⟨some b,cap,cs⟩,h1,h2,h3⟩,hO,hf⟩)
abbrev enB (p m : Nat) (md : List Int) (rows : List (List Int)) (lost hs : List Int) : Bool:=decide ((((cnP p m md rows.length (coL rows hs)).2.length : Nat) : Int) = (((cnP p m md rows.length (coL rows hs++coL rows lost)).2.length : Nat) : Int))
theorem S_codewrightref53_Enough {p m N n c nm cm nl cl nh ch : Nat} {pm ps pl ph : Option Addr} {md lost hs : List Int} {rows : List (List Int)} (CC : Cok p m md N rows) (hlo : stP N lost) (hst : stP N hs) :
  Ctr Tryz.prog 8 [.agg #[.int .i64 p,.int .i64 m,.slice pm nm cm,.int .i64 N,.slice ps n c],.slice pl nl cl,.slice ph nh ch] [] [slF I64 pm nm cm md,slF (encSl I64) ps n c rows,slF I64 pl nl cl lost,slF I64 ph nh ch hs] (Rv (.bool (enB p m md rows lost hs)) []):=by
 refine Ctr_of_j' (F:=F_codewrightref53_Enough) rfl fun C=>?_
 have hN:=CC.n64
 have hl1:=st_len hlo
 have hl2:=st_len hst
 have hm1:=hs_mat CC hs
 have hm2:=hs_mat CC lost
 have hm3 : Mat (p ^ m) rows.length (coL rows hs++coL rows lost):=fun r hr=>(List.mem_append.1 hr).elim (hm1 r) (hm2 r)
 have hc1 : (coL rows hs).length = hs.length:=List.length_map _
 have hc2 : (coL rows lost).length = lost.length:=List.length_map _
 refine j_nf [_,_] rfl ?_
 refine j_step rfl (x_box_agg rfl fun b1=>?_)
 refine j_run it 1 rfl (by simp) ?_
 refine j_nf [_,_] rfl ?_
 refine j_step rfl (x_bld_all 0 rfl rfl ld27 rfl ?_)
 refine j_run it 1 rfl (by simp) ?_
 refine j_step rfl (x_call [1,3] rfl (S_codewrightref53_columns (pm:=pm) (nm:=nm) (cm:=cm) CC (by omega) hst.1) rfl ?_)
 rintro _ _ _ ⟨b,cap,cs,rfl,rfl,rfl⟩
 simp only [List.cons_append,List.nil_append]
 have c_codewrightref53_columns:=fun {n c nm cm nh ch : Nat} {pm ps ph : Option Addr}=>S_codewrightref53_columnsP (n:=n) (c:=c) (nm:=nm) (cm:=cm) (nh:=nh) (ch:=ch) (pm:=pm) (ps:=ps) (ph:=ph) CC (show lost.length ≤ 1000000 by omega) hlo.1
 have rk1:=fun {n c nm cm : Nat} {pm ps : Option Addr}=>(S_codewrightref53_rank (n:=n) (c:=c) (nm:=nm) (cm:=cm) (nh:=hs.length) (ch:=cap) (pm:=pm) (ps:=ps) (ph:=some ⟨b,0,none⟩) CC (by rw [hc1];omega) hm1).lend (e:=22) (r:=⟨some b,cap,cs⟩) (by show hs.length * 24 ≤ 140737488355328;omega)
 have rk2:=fun {n c nm cm nh ch : Nat} {pm ps ph : Option Addr}=>S_codewrightref53_rank (n:=n) (c:=c) (nm:=nm) (cm:=cm) (nh:=nh) (ch:=ch) (pm:=pm) (ps:=ps) (ph:=ph) CC (hh:=coL rows hs++coL rows lost) (by rw [List.length_append,hc1,hc2];omega) hm3
 refine j_run it 1 rfl (by simp) ?_
 refine j_nf [_,_] rfl ?_
 (apply j_drawKB it mx 1 9;(· rfl);(· rfl);(· rfl))
 (apply lxk_eq;(· rfl);(· exact d_bld_all 0 rfl rfl ld27 rfl))
 (apply lxk_run 1;(· rfl);(· simp))
 (apply lxk_sh (bl:=fun _=>[(some b,22,cs)]) (val:=fun _=>.int .i64 ((cnP p m md rows.length (coL rows hs)).2.length : Nat)) (f:=fun _=>[]);(· rfl);(· exact jg_call [0,1,2] rfl rk1 rfl (by rintro _ _ _ ⟨rfl,rfl,rfl⟩;exact ⟨default,rfl,rfl,rfl,fun g hg=>by cases hg⟩));intro x9)
 simp only [List.map_nil,List.nil_append]
 (apply lxk_eq;(· rfl);(· exact d_bld_all 0 rfl rfl ld27 rfl))
 (apply lxk_run 1;(· rfl);(· simp))
 (apply lxk_eq;(· rfl);(· exact d_bld_all 0 rfl rfl ld27 rfl))
 (apply lxk_run 1;(· rfl);(· simp))
 (apply lxk_sl;(· rfl);(· exact d_x fun _=>x_call [2,3] rfl (c_codewrightref53_columns) rfl (by rintro _ _ _ ⟨pa1,ca1,rfl,rfl,rfl⟩;exact (dk_sl 0 rfl)));intro pa1 ca1)
 (apply lxk_sg;(· rfl);(· exact jg_appN (b:=b + 1) (cs:=cs) (l:=coL rows hs) (l2:=coL rows lost) 0 (fun w A hG=>⟨rfl,hG _ (fact_mem (n:=1) rfl)⟩) rfl rfl rfl sl25 zo25e rfl (by omega) _ by25e (by omega));intro x8)
 refine lxk_end rfl ?_
 dsimp only
 generalize (x8 0).1 = pa9
 generalize (x8 0).2.1 = b9
 generalize (x8 0).2.2.1 = cap9
 generalize (x8 0).2.2.2 = cs9
 simp only [List.map_cons,List.map_nil,List.cons_append,List.nil_append,List.drop_succ_cons,List.drop_zero,List.append_nil]
 refine j_pubZ 0 0 rfl rfl (by show (hs.length + lost.length) * 24 ≤ 140737488355328;omega) ?_
 simp only [List.take_zero,List.nil_append]
 refine j_step rfl (x_call [0,4,5] rfl rk2 rfl ?_)
 rintro _ _ _ ⟨rfl,rfl,rfl⟩
 simp only [List.nil_append]
 refine j_run it 2 rfl (by simp) ?_
 refine j_nf [_] rfl ?_
 refine j_giv [] rfl rfl rfl ⟨rfl,rfl,rfl⟩
 rfl
theorem wt_none {p m n : Nat} {md : List Int} {gen : List (List Int)} {lost hs : List Int} : wtP p m md n gen lost hs = none ↔ ∀ j ∈ lost,∀ r ∈ wiP p m md n gen hs,at0 r j.toNat = 0:=by
 rw [wtP,List.find?_eq_none]
 constructor
 ·intro h j hj r hr
  have h1:=h r hr
  refine Classical.byContradiction fun h2=>h1 ?_
  exact List.any_eq_true.2 ⟨j,hj,decide_eq_true h2⟩
 ·intro h r hr h1
  obtain ⟨j,hj,h2⟩:=List.any_eq_true.1 h1
  exact of_decide_eq_true h2 (h j hj r hr)
theorem en_wt {p m n : Nat} {md : List Int} {gen : List (List Int)} {lost hs : List Int} (CC : Cok p m md n gen) (hlo : stP n lost) : enB p m md gen lost hs = (wtP p m md n gen lost hs).isNone:=by
 have O:=fok_fn CC.K
 have h:=O.enough_iff (n:=n) (lost:=lost.map Int.toNat) CC.mat (hs_mat CC hs) fun j hj=>by
  obtain ⟨x,hx,rfl⟩:=List.mem_map.1 hj
  have:=hlo.1 x hx
  omega
 have e : (lost.map Int.toNat).map (colL gen) = coL gen lost:=by rw [List.map_map];rfl
 rw [e] at h
 rw [Bool.eq_iff_iff,Option.isNone_iff_eq_none,wt_none,decide_eq_true_iff]
 refine Iff.trans ⟨fun h=>Int.ofNat.inj h,fun h=>congrArg _ h⟩ (h.trans ⟨fun h j hj=>h _ (List.mem_map.2 ⟨j,hj,rfl⟩),fun h j hj=>?_⟩)
 obtain ⟨x,hx,rfl⟩:=List.mem_map.1 hj
 exact h x hx
theorem fok2 : Fok 2 1 []:=by
 have h : chkF ((2 : Nat) : Int) ((1 : Nat) : Int) []:=⟨⟨by decide,by decide,by decide,by decide⟩,⟨by decide,fun d h1 h2=>by
  have : d < 2:=h2
  omega⟩,fun _=>rfl,fun h=>absurd rfl h⟩
 obtain ⟨p,m,h1,h2,K⟩:=chk_ok h
 obtain rfl : 2 = p:=Int.ofNat.inj h1
 obtain rfl : 1 = m:=Int.ofNat.inj h2
 exact K
theorem mat2 : Mat (2 ^ 1) 2 [[1,1]]:=fun r hr=>by
 rw [List.mem_singleton.1 hr]
 refine ⟨rfl,fun x hx=>?_⟩
 have : x = 1:=by simpa using hx
 subst this;decide
theorem cok2 : Cok 2 1 [] 2 [[1,1]]:=by
 have O:=fok_fn fok2
 refine ⟨fok2,by decide,by decide,mat2,?_⟩
 obtain ⟨⟨v0,v1⟩,hiv⟩:=O.iv 1 (by decide) (by decide) (by decide)
 have hV : invI 2 1 [] 1 = 1:=by
  rw [O.fi.mc 1 _ (by decide) (by decide) v0 v1,O.fi.m1 _ v0 v1] at hiv
  exact hiv
 have hf : findP [[1,1]] 0 0 = some 0:=by decide
 have hp : pivL (liftI (fA 2 1)) (liftI (fM 2 (fpo 1 []))) (negI 2 1) (invI 2 1 []) 0 0 0 [[1,1]] = [sclL (liftI (fM 2 (fpo 1 []))) (invI 2 1 [] 1) [1,1]]:=rfl
 rw [hV,scl_one O.fi (mat2 _ (.head _))] at hp
 have he : elimL (liftI (fA 2 1)) (liftI (fM 2 (fpo 1 []))) (negI 2 1) (invI 2 1 []) 2 0 0 [[1,1]] = ([[1,1]],[0]):=by
  rw [elimL,hf]
  show ((elimL _ _ _ _ 1 1 1 (pivL (liftI (fA 2 1)) (liftI (fM 2 (fpo 1 []))) (negI 2 1) (invI 2 1 []) 0 0 0 [[1,1]])).1,0::(elimL _ _ _ _ 1 1 1 (pivL (liftI (fA 2 1)) (liftI (fM 2 (fpo 1 []))) (negI 2 1) (invI 2 1 []) 0 0 0 [[1,1]])).2) = _
  rw [hp,elim_full _ _ _ _ (Nat.le_refl 1)]
 rw [cnP,cnE,he];rfl
theorem st2 (x : Int) (h : 0 ≤ x ∧ x < 2) : stP ((2 : Nat) : Int) [x]:=⟨fun y hy=>by rw [List.mem_singleton.1 hy];exact h,List.pairwise_singleton _ _⟩
theorem pair2 : pairE 2 1 [] 2 [[1,1]] [0] [1] = 0:=by
 have h : ckE 2 1 [] 2 [[1,1]] = 0:=cok2.ck
 rw [pairE,h,if_neg (by decide),if_neg (fun h=>h ⟨st2 0 (by decide),st2 1 (by decide)⟩)]
 rfl
theorem suf2 : sufB 2 1 [] 2 [[1,1]] [0] [1] = true:=by
 rw [sufB,pair2]
 have hw : wtP 2 1 [] 2 [[1,1]] [0] [1] = none:=wt_none.2 fun j hj=>by
  rw [List.mem_singleton.1 hj]
  exact (((fok_fn fok2).wi cok2.mat (hs_mat cok2 [1])).2 0 (by decide)).2 fun x _ hs=>hs _ (.head _)
 show (decide (0 = 0) && (wtP 2 1 [] 2 [[1,1]] [0] [1]).isNone) = true
 rw [hw];rfl
theorem S_codewrightlaw53_alive : Ctr Tryz.prog 9 [] [] [] (Rv (.bool true) []):=by
 refine Ctr_of_j' (F:=F_codewrightlaw53_alive) rfl fun C=>?_
 have c_repair_Suffices:=fun {n c nm cm nl cl nh ch : Nat} {pm ps pl ph : Option Addr}=>S_repair_Suffices (P:=2) (M:=1) (N:=2) (md:=[]) (rows:=[[1,1]]) (lost:=[0]) (hs:=[1]) (n:=n) (c:=c) (nm:=nm) (cm:=cm) (nl:=nl) (cl:=cl) (nh:=nh) (ch:=ch) (pm:=pm) (ps:=ps) (pl:=pl) (ph:=ph) (by simp only [InR];omega)
 rw [suf2,pair2] at c_repair_Suffices
 refine j_nf [_,_] rfl (j_run it 1 rfl (by simp) ?_)
 refine j_nf [_,_] rfl (j_step rfl (x_build (cs:=[Value.int IntKind.i64 2,Value.int IntKind.i64 1,Value.slice none 0 0]) st24 zo24 rfl rfl ?_))
 refine j_step rfl (x_lit sl22 zo22e rfl rfl rfl rfl (by decide) (by decide) rfl fun b1=>?_)
 refine j_step rfl (x_lit sl25 zo25e rfl rfl rfl rfl (by decide) (by decide) rfl fun b2=>?_)
 refine j_step rfl (x_build (cs:=[Value.int IntKind.i64 2,Value.int IntKind.i64 1,Value.slice none 0 0,Value.int IntKind.i64 2,Value.slice (some { block:=b2,off:=0 }) 1 1]) st27 zo27 rfl rfl ?_)
 refine j_step rfl (x_lit sl22 zo22e rfl rfl rfl rfl (by decide) (by decide) rfl fun b3=>?_)
 refine j_step rfl (x_lit sl22 zo22e rfl rfl rfl rfl (by decide) (by decide) rfl fun b4=>?_)
 refine j_pub_madei (kd:=.i64) (n:=2) 8 [1,1] 3 rfl rfl (by simp [InR]) (by decide) (by decide) ?_
 simp only [List.eraseIdx_cons_zero,List.eraseIdx_cons_succ]
 refine j_pub_madei (kd:=.i64) (n:=1) 8 [1] 0 rfl rfl (by simp [InR]) (by decide) (by decide) ?_
 simp only [List.eraseIdx_cons_zero]
 refine j_pub_madei (kd:=.i64) (n:=1) 8 [0] 0 rfl rfl (by simp [InR]) (by decide) (by decide) ?_
 simp only [List.eraseIdx_cons_zero]
 refine j_add (slF I64 none 0 0 []) (fun w A _=>slF_nil I64 w A none 0) ?_
 refine j_pub_all (E:=(encSl (encInt IntKind.i64 8))) (n:=1) [[Value.slice (some { block:=b1,off:=0 }) 2 2]] [[1,1]] 0 (fun w A hG=>(allrd_cons (rd_of_slF (hG _ (fact_mem (n:=3) rfl))) allrd_nil)) rfl rfl rfl rfl (by first | decide | exact Nat.le_of_ble_eq_true rfl) (by first | decide | exact Nat.le_of_ble_eq_true rfl) ?_
 refine j_step rfl (x_call [1,0,2,3] rfl (c_repair_Suffices) rfl ?_)
 rintro _ _ _ ⟨rfl,rfl,rfl⟩
 simp only [List.cons_append,List.nil_append]
 refine j_run it 5 rfl (by simp) ?_
 refine j_nf [_,_] rfl (j_run it 6 rfl (by simp) ?_)
 refine j_nf [_] rfl ?_
 refine j_giv [] rfl rfl rfl ⟨rfl,rfl,rfl⟩
def liE (l : List Int) (n q : Nat) : Int:=if l.length ≠ n then 4 else entE l q
theorem liE_iff {l : List Int} {n q : Nat} : liE l n q = 0 ↔ Wd q n l:=by
 rw [liE]
 by_cases h : l.length = n
 ·rw [if_neg (fun e=>e h),entE]
  by_cases h2 : ∀ x ∈ l,0 ≤ x ∧ x < (q : Int)
  ·rw [if_pos h2];exact ⟨fun _=>⟨h,h2⟩,fun _=>rfl⟩
  ·rw [if_neg h2];exact ⟨fun e=>by omega,fun e=>absurd e.2 h2⟩
 ·rw [if_pos h];exact ⟨fun e=>by omega,fun e=>absurd e.1 h⟩
theorem S_codewrightref12_List {p m nm cm n c k : Nat} {pm ps : Option Addr} {md l : List Int} {e : Int} (K : Fok p m md) (he : liE l k (p ^ m) = e) : Ctr Tryz.prog 31 [.agg #[.int .i64 p,.int .i64 m,.slice pm nm cm],.slice ps n c,.int .i64 k] [] [slF I64 pm nm cm md,slF I64 ps n c l] (Rv (.int .i64 e) []):=by
 refine Ctr_of_j' (F:=F_codewrightref12_List) rfl fun C=>?_
 refine j_len 1 rfl fun hn hb _=>?_
 subst hn
 have c_codewrightref09_Entries:=fun {nm cm n c : Nat} {pm ps : Option Addr} {l : List Int}=>S_codewrightref09_Entries (nm:=nm) (cm:=cm) (pm:=pm) (ps:=ps) (n:=n) (c:=c) (l:=l) K
 subst he
 rw [liE]
 by_cases h : l.length = k
 ·rw [if_neg (fun e=>e h)]
  refine j_nf [_,_] rfl (j_step rfl (x_box_agg rfl fun b1=>?_))
  refine j_run it 1 rfl (by simp) ?_
  refine j_nf [_,_,_] rfl (j_run it 1 rfl (by simp) ?_)
  refine j_step rfl (x_len sl22 rfl ?_)
  refine j_run it 2 rfl (by simp) ?_
  refine j_nf [_,_] rfl (j_ifn rfl rfl (fun h1=>by exfalso;omega) (fun h1=>?_))
  refine j_nf [_,_] rfl (j_step rfl (x_bld_all 0 rfl rfl ld24 rfl ?_))
  refine j_run it 1 rfl (by simp) ?_
  refine j_step rfl (x_call [1] rfl (c_codewrightref09_Entries) rfl ?_)
  rintro _ _ _ ⟨rfl,rfl,rfl⟩
  simp only [List.cons_append,List.nil_append]
  refine j_run it 1 rfl (by simp) ?_
  refine j_nf [_] rfl ?_
  refine j_giv [] rfl rfl rfl ⟨rfl,rfl,rfl⟩
 ·rw [if_pos h]
  refine j_nf [_,_] rfl (j_step rfl (x_box_agg rfl fun b1=>?_))
  refine j_run it 1 rfl (by simp) ?_
  refine j_nf [_,_,_] rfl (j_run it 1 rfl (by simp) ?_)
  refine j_step rfl (x_len sl22 rfl ?_)
  refine j_run it 2 rfl (by simp) ?_
  refine j_nf [_,_] rfl (j_ifn rfl rfl (fun h1=>?_) (fun h1=>by exfalso;omega))
  refine j_nf [_,_,_] rfl (j_run it 1 rfl (by simp) ?_)
  refine j_nf [_,_] rfl ?_
  refine j_giv [] rfl rfl rfl ⟨rfl,rfl,rfl⟩
theorem S_codewrightref12_Encode_ok {p m N nm cm n c nx cx : Nat} {pm ps px : Option Addr} {md msg : List Int} {rows : List (List Int)} (CC : Cok p m md N rows) (hx : Wd (p ^ m) rows.length msg) :
  Ctr Tryz.prog 12 [.agg #[.int .i64 p,.int .i64 m,.slice pm nm cm,.int .i64 N,.slice ps n c],.slice px nx cx] [] [slF I64 pm nm cm md,slF (encSl I64) ps n c rows,slF I64 px nx cx msg]
   (fun v Φ β=>∃ (pb : Option Addr) (cb : Nat),v = .tuple #[.slice pb N cb,.int .i64 0] ∧ Φ = [slF I64 pb N cb (cbP p m md N msg rows)] ∧ β = []):=by
 refine Ctr_of_j' (F:=F_codewrightref12_Encode) rfl fun C=>?_
 have hN:=CC.n64
 have hlr:=CC.len
 refine j_len 1 rfl fun hn hb _=>?_
 subst hn
 have c_codewrightref12_Check:=fun {pm ps : Option Addr} {nm cm n c : Nat}=>S_codewrightref12_Check (pm:=pm) (ps:=ps) (nm:=nm) (cm:=cm) (n:=n) (c:=c) (show InR .i64 (N : Int) by simp only [InR];omega) CC.ck
 have c_codewrightref12_List:=fun {nm cm n c : Nat} {pm ps : Option Addr}=>S_codewrightref12_List (nm:=nm) (cm:=cm) (pm:=pm) (ps:=ps) (n:=n) (c:=c) CC.K (liE_iff.2 hx)
 have c_codewrightref09_Combine:=fun {nm cm nx cx n c : Nat} {pm px ps : Option Addr}=>S_codewrightref09_Combine (nm:=nm) (cm:=cm) (nx:=nx) (cx:=cx) (n:=n) (c:=c) (pm:=pm) (px:=px) (ps:=ps) CC.K (show N ≤ 1000000 by omega) CC.mat hx
 refine j_nf [_,_] rfl (j_step rfl (x_box_agg rfl fun b1=>?_))
 refine j_run it 2 rfl (by simp) ?_
 refine j_nf [_,_] rfl (j_step rfl (x_bld_all 0 rfl rfl ld27 rfl ?_))
 refine j_step rfl (x_call [0,1] rfl (c_codewrightref12_Check) rfl ?_)
 rintro _ _ _ ⟨rfl,rfl,rfl⟩
 simp only [List.cons_append,List.nil_append]
 refine j_run it 1 rfl (by simp) ?_
 refine j_nf [_,_,_] rfl (j_run it 2 rfl (by simp) ?_)
 refine j_nf [_,_] rfl (j_if rfl rfl (fun h1=>?_) (fun h1=>by exfalso;omega))
 refine j_nf [_,_] rfl (j_step rfl (x_field rfl fd27_0 ?_))
 refine j_step rfl (x_bld_agg 0 rfl rfl ld24 rfl rfl ?_)
 refine j_run it 1 rfl (by simp) ?_
 refine j_step rfl (x_field rfl fd27_2 ?_)
 refine j_step rfl (x_bld 0 rfl rfl ld25 rfl ?_)
 refine j_step rfl (x_len sl25 rfl ?_)
 refine j_step rfl (x_call [0,2] rfl (c_codewrightref12_List) rfl ?_)
 rintro _ _ _ ⟨rfl,rfl,rfl⟩
 simp only [List.cons_append,List.nil_append]
 simp only [decide_true]
 refine j_run it 1 rfl (by simp) ?_
 refine j_nf [_,_,_] rfl (j_run it 2 rfl (by simp) ?_)
 refine j_nf [_,_] rfl (j_ifn rfl rfl (fun h2=>by exfalso;omega) (fun h2=>?_))
 refine j_nf [_,_] rfl (j_step rfl (x_field rfl fd27_0 ?_))
 refine j_step rfl (x_bld_agg 0 rfl rfl ld24 rfl rfl ?_)
 refine j_run it 1 rfl (by simp) ?_
 refine j_step rfl (x_field rfl fd27_2 ?_)
 refine j_step rfl (x_bld 0 rfl rfl ld25 rfl ?_)
 refine j_step rfl (x_field rfl fd27_1 ?_)
 refine j_step rfl (x_bld 0 rfl rfl ld3 rfl ?_)
 refine j_step rfl (x_call [0,2,1] rfl (c_codewrightref09_Combine) rfl ?_)
 rintro _ _ _ ⟨pb1,cb1,rfl,rfl,rfl⟩
 simp only [List.cons_append,List.nil_append]
 simp only [decide_true]
 refine j_run it 2 rfl (by simp) ?_
 refine j_nf [_] rfl ?_
 refine j_giv [0] rfl rfl rfl ⟨_,_,rfl,rfl,rfl⟩
theorem S_codewrightref12_Encode_bad {p m N nm cm n c nx cx : Nat} {pm ps px : Option Addr} {md msg : List Int} {rows : List (List Int)} {e : Int} (CC : Cok p m md N rows) (he : liE msg rows.length (p ^ m) = e) (h0 : e ≠ 0) :
  Ctr Tryz.prog 12 [.agg #[.int .i64 p,.int .i64 m,.slice pm nm cm,.int .i64 N,.slice ps n c],.slice px nx cx] [] [slF I64 pm nm cm md,slF (encSl I64) ps n c rows,slF I64 px nx cx msg]
   (Rv (.tuple #[.slice none 0 0,.int .i64 e]) []):=by
 refine Ctr_of_j' (F:=F_codewrightref12_Encode) rfl fun C=>?_
 have hN:=CC.n64
 have hlr:=CC.len
 refine j_len 1 rfl fun hn hb _=>?_
 subst hn
 have c_codewrightref12_Check:=fun {pm ps : Option Addr} {nm cm n c : Nat}=>S_codewrightref12_Check (pm:=pm) (ps:=ps) (nm:=nm) (cm:=cm) (n:=n) (c:=c) (show InR .i64 (N : Int) by simp only [InR];omega) CC.ck
 have c_codewrightref12_List:=fun {nm cm n c : Nat} {pm ps : Option Addr}=>S_codewrightref12_List (nm:=nm) (cm:=cm) (pm:=pm) (ps:=ps) (n:=n) (c:=c) CC.K he
 refine j_nf [_,_] rfl (j_step rfl (x_box_agg rfl fun b1=>?_))
 refine j_run it 2 rfl (by simp) ?_
 refine j_nf [_,_] rfl (j_step rfl (x_bld_all 0 rfl rfl ld27 rfl ?_))
 refine j_step rfl (x_call [0,1] rfl (c_codewrightref12_Check) rfl ?_)
 rintro _ _ _ ⟨rfl,rfl,rfl⟩
 simp only [List.cons_append,List.nil_append]
 refine j_run it 1 rfl (by simp) ?_
 refine j_nf [_,_,_] rfl (j_run it 2 rfl (by simp) ?_)
 refine j_nf [_,_] rfl (j_if rfl rfl (fun h1=>?_) (fun h1=>by exfalso;omega))
 refine j_nf [_,_] rfl (j_step rfl (x_field rfl fd27_0 ?_))
 refine j_step rfl (x_bld_agg 0 rfl rfl ld24 rfl rfl ?_)
 refine j_run it 1 rfl (by simp) ?_
 refine j_step rfl (x_field rfl fd27_2 ?_)
 refine j_step rfl (x_bld 0 rfl rfl ld25 rfl ?_)
 refine j_step rfl (x_len sl25 rfl ?_)
 refine j_step rfl (x_call [0,2] rfl (c_codewrightref12_List) rfl ?_)
 rintro _ _ _ ⟨rfl,rfl,rfl⟩
 simp only [List.cons_append,List.nil_append]
 simp only [decide_true]
 refine j_run it 1 rfl (by simp) ?_
 refine j_nf [_,_,_] rfl (j_run it 2 rfl (by simp) ?_)
 refine j_nf [_,_] rfl (j_ifn rfl rfl (fun h2=>?_) (fun h2=>by exfalso;omega))
 refine j_nf [_,_,_] rfl (j_run it 3 rfl (by simp) ?_)
 refine j_nf [_,_] rfl ?_
 refine j_giv [] rfl rfl rfl ⟨rfl,rfl,rfl⟩
abbrev SoQ (N : Nat) (E : List (List Int) × List Nat) : Value → List Fact → List Blk → Prop:=fun v Φ β=>∃ (pb : Option Addr) (cb : Nat),v = .tuple #[.slice pb (if slB N E then slX N E else []).length cb,.int .i64 (if slB N E then 0 else 11)] ∧ Φ = [slF I64 pb (if slB N E then slX N E else []).length cb (if slB N E then slX N E else [])] ∧ β = []
theorem S_matrix_Solve {p m n c nm cm N nb cb : Nat} {pm ps pb : Option Addr} {md b : List Int} {rows : List (List Int)} (K : Fok p m md) (hN : N ≤ 256) (hl : rows.length ≤ 256) (hM : Mat (p ^ m) N rows) (hb : Wd (p ^ m) rows.length b) :
  Ctr Tryz.prog 23 [.agg #[.int .i64 p,.int .i64 m,.slice pm nm cm],.agg #[.int .i64 N,.slice ps n c],.slice pb nb cb] [] [slF I64 pm nm cm md,slF (encSl I64) ps n c rows,slF I64 pb nb cb b]
   (SoQ N (elP p m md N 0 0 (auL rows b))):=by
 refine Ctr_of_j' (F:=F_matrix_Solve) rfl fun C=>?_
 have O:=fok_fo K
 have hq:=K.q
 refine j_len 1 rfl fun hn hbs _=>?_
 subst hn
 refine j_len 2 rfl fun hn hbb _=>?_
 have hbl:=hb.1
 rw [hbl] at hn
 subst hn
 have hbs' : rows.length * 24 ≤ 140737488355328:=hbs
 have c_matrix_open:=fun {pm ps : Option Addr} {nm cm n c : Nat}=>S_matrix_open_ok (pm:=pm) (nm:=nm) (cm:=cm) (ps:=ps) (n:=n) (c:=c) (Ms:=[((N : Int),rows)]) K (fun z hz=>by rw [List.mem_singleton.1 hz];simp only [InR];omega) (op_one (mtE_ok hN hl hM))
 have c_matrix_entries:=fun {b0 ng cg ne ce nl cl n c : Nat} {pg pe pl ps : Option Addr}=>S_matrix_entries (b:=b0) (p:=p) (m:=m) (q:=p ^ m) (ng:=ng) (cg:=cg) (ne:=ne) (ce:=ce) (nl:=nl) (cl:=cl) (n:=n) (c:=c) (pg:=pg) (pe:=pe) (pl:=pl) (ps:=ps) (l:=b) hq
 rw [entE,if_pos hb.2] at c_matrix_entries
 have c_matrix_clone:=fun {ps : Option Addr} {c : Nat}=>S_matrix_clone (ps:=ps) (m:=rows.length) (c:=c) (rows:=rows) (by omega)
 refine j_nf [_,_] rfl ?_
 refine j_step rfl (x_box_agg rfl fun b1=>?_)
 refine j_step rfl (x_box_agg rfl fun b2=>?_)
 refine j_run it 2 rfl (by simp) ?_
 refine j_nf [_,_] rfl ?_
 refine j_step rfl (x_bld_all 1 rfl rfl ld24 rfl ?_)
 refine j_step rfl (x_bld_all 0 rfl rfl ld57 rfl ?_)
 refine j_step rfl (x_lit sl109 zo109e rfl rfl rfl rfl (by decide) (by decide) rfl fun b3=>?_)
 refine j_pub_all (E:=MatE) (n:=1) [[Value.int IntKind.i64 ↑N,Value.slice ps rows.length c]] [((↑N : Int),rows)] 0 (fun w A hG=>(allrd_cons (rd_pair (v1:=[Value.int IntKind.i64 ↑N]) (rd_int (by first | (simp only [InR];omega) | (simp [InR];done) | assumption)) (rd_of_slF (hG _ (fact_mem (n:=1) rfl)))) allrd_nil)) rfl rfl rfl rfl (by first | decide | exact Nat.le_of_ble_eq_true rfl) (by first | decide | exact Nat.le_of_ble_eq_true rfl) ?_
 refine j_step rfl (x_call [1,0] rfl (c_matrix_open) rfl ?_)
 rintro _ _ _ ⟨b4,pg1,cg1,pe1,ce1,pl1,cl1,rfl,rfl,rfl⟩
 simp only [List.cons_append,List.nil_append]
 refine j_run it 5 rfl (by simp) ?_
 refine j_nf [_,_,_] rfl ?_
 refine j_run it 2 rfl (by simp) ?_
 refine j_nf [_,_] rfl ?_
 refine j_ifn rfl rfl (fun h1=>by exfalso;omega) (fun h1=>?_)
 refine j_nf [_,_,_] rfl ?_
 refine j_run it 1 rfl (by simp) ?_
 refine j_step rfl (x_len sl22 rfl ?_)
 refine j_step rfl (x_field rfl fd57_1 ?_)
 refine j_step rfl (x_bld 0 rfl rfl ld25 rfl ?_)
 refine j_step rfl (x_len sl25 rfl ?_)
 refine j_run it 1 rfl (by simp) ?_
 refine j_nf [_,_] rfl ?_
 refine j_ifn rfl rfl (fun h2=>by exfalso;omega) (fun h2=>?_)
 refine j_nf [_,_,_] rfl ?_
 refine j_run it 2 rfl (by simp) ?_
 refine j_step rfl (x_call [0,7] rfl (c_matrix_entries) rfl ?_)
 rintro _ _ _ ⟨rfl,rfl,rfl⟩
 simp only [List.cons_append,List.nil_append]
 simp only [decide_true]
 refine j_run it 1 rfl (by simp) ?_
 refine j_nf [_,_,_] rfl ?_
 refine j_run it 2 rfl (by simp) ?_
 refine j_nf [_,_] rfl ?_
 refine j_ifn rfl rfl (fun h3=>by exfalso;omega) (fun h3=>?_)
 refine j_nf [_,_] rfl ?_
 refine j_step rfl (x_field rfl fd57_1 ?_)
 refine j_step rfl (x_bld 0 rfl rfl ld25 rfl ?_)
 refine j_step rfl (x_call [6] rfl (c_matrix_clone) rfl ?_)
 rintro _ _ _ ⟨r1,hd1,cs1,rfl,rfl,rfl⟩
 simp only [List.cons_append,List.nil_append]
 simp only [decide_true]
 refine j_run it 1 rfl (by simp) ?_
 refine j_nf [_,_,_] rfl ?_
 refine j_run it 1 rfl (by simp) ?_
 refine j_step rfl (x_len sl25 rfl ?_)
 refine j_run it 1 rfl (by simp) ?_
 refine j_nf [_,_,_] rfl ?_
 obtain ⟨ro,rcap,rcs⟩:=r1
 dsimp only
 refine j_perm (List.Perm.cons _ List.perm_append_comm) ?_
 simp only [List.eraseIdx_cons_zero,List.cons_append,List.nil_append]
 refine j_selT 3 [1,2,0] rfl rfl ?_
 simp only [List.cons_append,List.nil_append,List.drop_succ_cons,List.drop_zero]
 have hau : (auL rows b).length = rows.length:=auL_len hbl
 let ls : Nat → Nat → List Int:=fun i k=>if k < i then row0 (auL rows b) k else row0 rows k
 refine j_matCongr (ls 0) 1 rfl (fun g hg=>(if_neg (Nat.not_lt_zero g)).symm) ?_
 refine j_loopG (X:=Nat × List Value × (Nat → Hd) × (Nat → List Value)) [2,4,6,7,8,11,46] [3,5,6,8,9,10] (fun x=>[(47,.int .i64 (x.1 : Int))]) (fun x=>(some b2,57,[.int .i64 N,.slice ps rows.length c])::(some b1,24,[.int .i64 p,.int .i64 m,.slice pm nm cm])::(ro,22,x.2.1)::famB 3 x.2.2.1 x.2.2.2 rows.length [])
  (fun x=>[rowF hdE ⟨ro,rcap,x.2.1⟩ rows.length (hdl x.2.2.1 rows.length),matF I64 x.2.2.1 x.2.2.2 (ls x.1) rows.length []]) (fun x=>x.1 ≤ rows.length) (fun x=>rows.length - x.1) (0,rcs,hd1,cs1) [1,0] rfl rfl rfl (Nat.zero_le _) (by repeat (first | exact Fr.sub_nil _ | refine Fr.sub_cons rfl ?_)) rfl rfl ?_
 rintro ⟨i,hc,hd,cs⟩ hi ih
 simp only [List.cons_append,List.nil_append] at hi ih ⊢
 by_cases h9 : i < rows.length
 ·obtain ⟨x,at_x⟩ : ∃ x,b[i]? = some x:=⟨_,List.getElem?_eq_getElem (by omega)⟩
  have ex:=gd_at at_x
  obtain ⟨x0,x1⟩:=hb.2 x (List.mem_of_getElem? at_x)
  have hli : ls i i = row0 rows i:=if_neg (Nat.lt_irrefl i)
  refine j_hdlen 1 rfl fun hlen=>?_
  have hdi : (hd i).2.1 = N:=by rw [hlen i h9 rfl,hli];exact (hM.row h9).1
  refine j_rowB 0 rfl (by omega) fun b9 cap9 cs9 h9'=>?_
  obtain ⟨rfl,rfl,rfl⟩:=Row.mk.inj h9'
  refine j_focusL 3 (i) 1 (N) rfl rfl (by first | assumption | omega) (by first | rfl | assumption | (simp [memB_cons,memB];done) | (simp [memB_cons,memB];omega)) (by first | assumption | omega) fun r1 hr1=>?_
  simp only [List.take_succ_cons,List.take_zero,List.cons_append,List.nil_append]
  refine j_nf [_,_,_,_,_] rfl ?_
  refine j_run it 1 rfl (by simp) ?_
  refine j_nf [_,_,_,_,_] rfl ?_
  refine j_if rfl rfl (fun h4=>?_) (fun h4=>by exfalso;omega)
  refine j_nf [_,_,_,_,_,_,_] rfl ?_
  refine j_run it 2 rfl (by simp) ?_
  refine j_nf [_,_,_,_,_,_] rfl ?_
  (apply j_drawKB it mx 1 12;(· rfl);(· rfl);(· rfl))
  (apply lxk_run 4;(· rfl);(· simp))
  (apply lxk_eq;(· rfl);(· exact d_x fun _=>x_idx_own (i) (i) rfl rfl sl25 rfl (by omega) (Nat.mul_one _) dk_eq))
  (apply lxk_eq;(· rfl);(· exact d_ldR_hd 2 2 (i) rfl rfl rfl ld22 rfl (by assumption)))
  dsimp only
  (apply lxk_run 2;(· rfl);(· simp))
  (apply lxk_pt;(· rfl);(· exact d_x fun _=>x_idx 9 (i) rfl rfl rfl sl22 rfl (by omega) fun z1 hz1 b5 o1=>(dk_ptD default hz1 0 rfl));intro b5 o1)
  (apply lxk_eq;(· rfl);(· exact d_x fun _=>x_ld_int 0 rfl rfl ld3 fun ⟨r2,r3⟩=>dk_eq)) --ok
  (apply lxk_sl;(· rfl);(· exact d_x fun _=>x_lit sl22 zo22e rfl rfl rfl rfl (by decide) (by decide) rfl fun b8=>dk_all (E:=I64) [[.int .i64 (b.getD i default)]] [b.getD i default] (fun w A hG=>allrd_cons ⟨rfl,by simp only [InR];omega⟩ allrd_nil) rfl rfl rfl (by decide));intro pa8 ca8)
  (apply lxk_sg;(· rfl);(· exact jg_appS (r:=r1) 2 0 rfl rfl rfl rfl sl22 zo22e rfl (by decide) (by omega) _ by22e (by omega));intro x8)
  refine lxk_end rfl ?_
  dsimp only
  generalize (x8 0).2.1 = b8
  generalize (x8 0).2.2.1 = cap8
  generalize (x8 0).2.2.2 = cs8
  simp only [List.map_cons,List.map_nil,List.cons_append,List.nil_append,List.drop_succ_cons,List.drop_zero,List.append_nil]
  refine j_step rfl (x_idx_own (i) (i) rfl rfl sl25 rfl (by omega) (Nat.mul_one _) ?_)
  refine j_step rfl (x_stR (vs:=[Value.slice (some { block:=b8,off:=0 }) (N + 1) cap8]) (z:=(some b8,N + 1,cap8)) 3 5 (i) rfl rfl rfl rfl rfl ld22 (Nat.mul_one _).symm (by omega) (fun w A hG=>(rd_hd (some _) _ _)) fun cs2=>?_)
  refine j_nf [_,_,_,_] rfl ?_
  refine j_run it 2 rfl ⟨trivial,⟨by omega,by omega⟩,trivial⟩ ?_
  refine j_nfn 1 [.lp (pL 2036),.blk 0,.c (pL 255)] rfl ?_
  simp only [setB,List.set_cons_succ,List.set_cons_zero]
  rw [hdl_set,ex]
  refine j_unfocusL 3 i 0 1 5 rfl rfl rfl rfl h9 rfl ?_
  simp only [List.eraseIdx_cons_zero,List.eraseIdx_cons_succ,List.take_succ_cons,List.take_zero,List.cons_append,List.nil_append]
  refine j_matCongr (ls (i + 1)) 0 rfl (fun g hg=>by
   show upd (ls i) i _ g = if _ then _ else _
   by_cases e : g = i
   ·subst e
    rw [upd_self,if_pos (Nat.lt_succ_self g),hli]
    have h1 : rows[g]? = some (row0 rows g):=by rw [row0,List.getD_eq_getElem?_getD,List.getElem?_eq_getElem h9];rfl
    conv=>rhs;rw [row0,List.getD_eq_getElem?_getD,auL_at h1 at_x]
    rfl
   ·rw [upd_ne e]
    show (if _ then _ else _) = _
    by_cases h : g < i
    ·rw [if_pos h,if_pos (by omega)]
    ·rw [if_neg h,if_neg (by omega)]) ?_
  refine j_to [2,0,10,11,12,13,14,15] (by exact fra rfl) rfl rfl (ih (i + 1,cs2,upd hd i (some b8,N + 1,cap8),upd cs i cs8) (by dsimp only;omega) (by dsimp only;omega))
 ·have hi0 : i = rows.length:=by omega
  subst hi0
  clear ih
  have hM2:=auL_mat hM hb.2
  refine j_matCongr (row0 (auL rows b)) 1 rfl (fun g hg=>if_pos hg) ?_
  clear_value ls
  have c_matrix_eliminate:=fun {b ng cg ce cl : Nat} {pg pe pl : Option Addr} {rh : Row} {hd : Nat → Hd} {cs : Nat → List Value}=>S_matrix_eliminateW (b:=b) (ng:=ng) (cg:=cg) (ce:=ce) (cl:=cl) (pg:=pg) (pe:=pe) (pl:=pl) (rh:=rh) (hd:=hd) (cs:=cs) K (n:=rows.length) (by omega) (Nat.le_succ N) (by omega) hau hM2
  have hEl : (elP p m md N 0 0 (auL rows b)).1.length = rows.length:=by rw [elP,elimL_len,hau]
  have hEk : (elP p m md N 0 0 (auL rows b)).2.length ≤ rows.length:=by
   have:=elim_le (A:=liftI (fA p m)) (M:=liftI (fM p (fpo m md))) (N:=negI p m) (V:=invI p m md) N 0 0 (auL rows b) (Nat.zero_le _)
   rw [Nat.zero_add,hau] at this;exact this
  have hEM : Mat (p ^ m) (N + 1) (elP p m md N 0 0 (auL rows b)).1:=((fok_fo K).elim (m:=N) hM2).1
  have hEe : Ech (elP p m md N 0 0 (auL rows b)).1 N (elP p m md N 0 0 (auL rows b)).2:=((fok_fo K).elim (m:=N) hM2).2.1
  generalize elP p m md N 0 0 (auL rows b) = E at *
  refine j_nf [_,_,_,_,_] rfl ?_
  refine j_run it 1 rfl (by simp) ?_
  refine j_nf [_,_,_,_,_] rfl ?_
  refine j_if rfl rfl (fun h4=>by exfalso;omega) (fun h4=>?_)
  refine j_nf [_,_] rfl ?_
  refine j_run it 2 rfl (by simp) ?_
  refine j_step rfl (x_field rfl fd57_0 ?_)
  refine j_step rfl (x_bld 0 rfl rfl ld3 rfl ?_)
  refine j_step rfl (x_callA 2 [3,4,5,1,0] rfl rfl (c_matrix_eliminate (rh:=⟨ro,rcap,hc⟩)) rfl ?_)
  rintro _ _ _ ⟨r1,ch'1,hd'1,cs'1,d1,rfl,rfl,rfl⟩
  simp only [List.cons_append,List.nil_append]
  refine j_run it 5 rfl (by simp) ?_
  refine j_nf [_,_,_] rfl ?_
  refine j_run it 2 rfl (by simp) ?_
  refine j_step rfl (x_len sl22 rfl ?_) --ok
  simp only [List.take_succ_cons,List.take_zero,List.cons_append,List.nil_append]
  refine j_hdlen 2 rfl fun hlen=>?_
  refine j_pubFamL 4 3 1 2 rfl rfl rfl rfl (fun i hi=>by rw [hlen i hi rfl,(hEM.row (by omega)).1];show (N + 1) * 8 ≤ _;omega) ?_
  simp only [List.take_succ_cons,List.take_zero]
  rw [show (List.range rows.length).map (row0 E.1) = E.1 from by
   refine List.ext_getElem (by rw [List.length_map,List.length_range,hEl]) fun i h1 h2=>?_
   rw [List.getElem_map,List.getElem_range,row0,List.getD_eq_getElem?_getD,List.getElem?_eq_getElem h2];rfl]
  refine j_pubR 3 0 rfl rfl (by show rows.length * 24 ≤ 140737488355328;omega) ?_
  simp only [List.eraseIdx_cons_zero,List.eraseIdx_cons_succ]
  refine j_pubR 2 2 rfl rfl (by show E.2.length * 8 ≤ 140737488355328;omega) ?_
  simp only [List.eraseIdx_cons_zero,List.eraseIdx_cons_succ]
  refine j_len 1 rfl fun _ _ hcap=>?_
  refine j_step rfl (x_slice_l 1 (E.snd.length) rfl rfl rfl sl25 (by omega) (by omega) fun pa1=>?_)
  refine j_step rfl (x_len sl25 rfl ?_)
  refine j_run it 1 rfl (by simp) ?_
  refine j_nf [_,_,_] rfl ?_
  have hDl : (E.1.drop E.2.length).length = rows.length - E.2.length:=by rw [List.length_drop,hEl]
  have hDM : ∀ r ∈ E.1.drop E.2.length,Wd (p ^ m) (N + 1) r:=fun r hr=>hEM r (List.mem_of_mem_drop hr)
  have hsl : slB N E = (E.1.drop E.2.length).all fun r=>decide (at0 r N = 0):=rfl
  generalize E.1.drop E.2.length = D at *
  refine j_loopG (X:=Nat) [4,11,13,75,76] [0,1,2,3,4,5,6,7,8,9,10,11,12,13,14,15] (fun i=>[(77,.int .i64 (i : Int))]) (fun _=>_) (fun _=>[]) (fun i=>i ≤ D.length ∧ ∀ r ∈ D.take i,at0 r N = 0) (fun i=>D.length - i) 0 [] rfl rfl rfl ⟨Nat.zero_le _,fun x h=>by simp at h⟩ (by repeat (first | exact Fr.sub_nil _ | refine Fr.sub_cons rfl ?_)) rfl rfl ?_
  rintro i ⟨hi,hno⟩ ih
  simp only [List.cons_append,List.nil_append] at hi ih ⊢
  by_cases h9 : i < D.length
  ·obtain ⟨r,at_r⟩ : ∃ r,D[i]? = some r:=⟨_,List.getElem?_eq_getElem h9⟩
   have hrl:=(hDM r (List.mem_of_getElem? at_r)).1
   have at_y : r[N]? = some (at0 r N):=by
    rw [at0,List.getD_eq_getElem?_getD,List.getElem?_eq_getElem (by omega)];rfl
   by_cases h8 : at0 r N = 0
   ·refine j_nf [_,_,_,_,_] rfl ?_
    refine j_run it 1 rfl (by simp) ?_
    refine j_nf [_,_,_,_,_] rfl ?_
    refine j_if rfl rfl (fun h5=>?_) (fun h5=>by exfalso;omega)
    refine j_nf [_,_,_,_,_,_,_] rfl ?_
    refine j_step rfl (x_idx 0 (i) rfl rfl rfl sl25 rfl (by omega) fun z1 hz1 b5 o1=>?_)
    obtain rfl : _ = z1:=Option.some.inj (at_r.symm.trans hz1)
    refine j_step rfl (x_ld_sl 0 rfl rfl ld22 fun pa2 ca1=>?_)
    refine j_run it 1 rfl (by simp) ?_
    refine j_nf [_,_,_,_,_,_,_] rfl ?_
    refine j_run it 1 rfl (by simp) ?_
    refine j_step rfl (x_field rfl fd57_0 ?_)
    refine j_step rfl (x_bld 0 rfl rfl ld3 rfl ?_)
    refine j_step rfl (x_idx 0 (N) rfl rfl rfl sl22 rfl (by omega) fun z1 hz2 b6 o2=>?_)
    obtain rfl : _ = z1:=Option.some.inj (at_y.symm.trans hz2)
    refine j_step rfl (x_ld_int 0 rfl rfl ld3 fun ⟨r2,r3⟩=>?_)
    refine j_run it 1 rfl (by simp) ?_
    refine j_nf [_,_,_,_,_,_] rfl ?_
    refine j_ifn rfl rfl (fun h6=>by exfalso;omega) (fun h6=>?_)
    refine j_nf [_,_,_,_] rfl ?_
    refine j_run it 2 rfl ⟨trivial,⟨by omega,by omega⟩,trivial⟩ ?_
    refine j_nfn 1 [.lp (pL 8180),.blk 2,.c (pL 1023)] rfl ?_
    refine j_to [3,4,5,6,7,8,9,10,11,12,13,14,15,16,17,18] (by exact fra rfl) rfl rfl (ih (i + 1) (by omega) ⟨by omega,tk_all at_r hno h8⟩)
   ·have hs : slB N E = false:=by
     rw [hsl,List.all_eq_false]
     exact ⟨r,List.mem_of_getElem? at_r,by rw [decide_eq_false h8];exact Bool.false_ne_true⟩
    rw [show SoQ N E = fun v Φ β=>∃ (pb : Option Addr) (cb : Nat),v = .tuple #[.slice pb 0 cb,.int .i64 11] ∧ Φ = [slF I64 pb 0 cb []] ∧ β = [] from by funext v Φ β;show (∃ _ _,_) = _;rw [hs];rfl]
    clear ih
    refine j_nf [_,_,_,_,_] rfl ?_
    refine j_run it 1 rfl (by simp) ?_
    refine j_nf [_,_,_,_,_] rfl ?_
    refine j_if rfl rfl (fun h5=>?_) (fun h5=>by exfalso;omega)
    refine j_nf [_,_,_,_,_,_,_] rfl ?_
    refine j_step rfl (x_idx 0 (i) rfl rfl rfl sl25 rfl (by omega) fun z1 hz1 b5 o1=>?_)
    obtain rfl : _ = z1:=Option.some.inj (at_r.symm.trans hz1)
    refine j_step rfl (x_ld_sl 0 rfl rfl ld22 fun pa2 ca1=>?_)
    refine j_run it 1 rfl (by simp) ?_
    refine j_nf [_,_,_,_,_,_,_] rfl ?_
    refine j_run it 1 rfl (by simp) ?_
    refine j_step rfl (x_field rfl fd57_0 ?_)
    refine j_step rfl (x_bld 0 rfl rfl ld3 rfl ?_)
    refine j_step rfl (x_idx 0 (N) rfl rfl rfl sl22 rfl (by omega) fun z1 hz2 b6 o2=>?_)
    obtain rfl : _ = z1:=Option.some.inj (at_y.symm.trans hz2)
    refine j_step rfl (x_ld_int 0 rfl rfl ld3 fun ⟨r2,r3⟩=>?_)
    refine j_run it 1 rfl (by simp) ?_
    refine j_nf [_,_,_,_,_,_] rfl ?_
    refine j_ifn rfl rfl (fun h6=>?_) (fun h6=>by exfalso;omega)
    refine j_nf [_,_,_,_,_,_,_] rfl ?_
    refine j_run it 2 rfl (by simp) ?_
    refine j_nf [_,_,_,_,_,_] rfl ?_
    refine j_add (slF I64 none 0 0 []) (fun w A _=>slF_nil I64 w A none 0) ?_
    refine j_giv [0] rfl rfl rfl ⟨_,_,rfl,rfl,rfl⟩
  ·have hs : slB N E = true:=by
    rw [hsl,List.all_eq_true]
    exact fun r hr=>decide_eq_true (hno r (by rwa [List.take_of_length_le (by omega)]))
   rw [show SoQ N E = fun v Φ β=>∃ (pb : Option Addr) (cb : Nat),v = .tuple #[.slice pb (slX N E).length cb,.int .i64 0] ∧ Φ = [slF I64 pb (slX N E).length cb (slX N E)] ∧ β = [] from by funext v Φ β;show (∃ _ _,_) = _;rw [hs];rfl]
   clear ih
   refine j_nf [_,_,_,_,_] rfl ?_
   refine j_run it 1 rfl (by simp) ?_
   refine j_nf [_,_,_,_,_] rfl ?_
   refine j_if rfl rfl (fun h5=>by exfalso;omega) (fun h5=>?_)
   refine j_nf [_,_] rfl ?_
   refine j_step rfl (x_field rfl fd57_0 ?_)
   refine j_step rfl (x_bld 0 rfl rfl ld3 rfl ?_)
   refine j_step rfl (x_make_nat (N) _ rfl rfl sl22 zo22e by22e (by omega) (by omega) (by omega) fun b5=>?_)
   refine j_run it 1 rfl (by simp) ?_
   refine j_nf [_,_,_] rfl ?_
   refine j_run it 1 rfl (by simp) ?_
   refine j_step rfl (x_len sl22 rfl ?_)
   refine j_run it 1 rfl (by simp) ?_
   refine j_nf [_,_,_] rfl ?_
   rw [show natCells .i64 (List.replicate N 0) = intCells .i64 (slK N E 0) by rw [slK_zero];simp [natCells,intCells,zW]]
   refine j_loopG (X:=Nat) [4,11,17,91,92] [0,1,2,3,4,5,6,7,8,9,10,11,12,13,14,15] (fun i=>[(93,.int .i64 (i : Int))]) (fun i=>(some b5,3,intCells .i64 (slK N E i))::_) (fun _=>[]) (fun i=>i ≤ E.2.length) (fun i=>E.2.length - i) 0 [] rfl rfl rfl (Nat.zero_le _) (by repeat (first | exact Fr.sub_nil _ | refine Fr.sub_cons rfl ?_)) rfl rfl ?_
   rintro i hi ih
   simp only [List.cons_append,List.nil_append] at hi ih ⊢
   by_cases h9 : i < E.2.length
   ·obtain ⟨a,hpa⟩ : ∃ a,E.2[i]? = some a:=⟨_,List.getElem?_eq_getElem h9⟩
    have at_p : (toI E.2)[i]? = some (a : Int):=by rw [toI,List.getElem?_map,hpa];rfl
    have haN:=hEe.lt a (List.mem_of_getElem? hpa)
    have hr : E.1[i]? = some (row0 E.1 i):=by rw [row0,List.getD_eq_getElem?_getD,List.getElem?_eq_getElem (by omega)];rfl
    have er:=gd_at hr
    have hrl : (E.1.getD i default).length = N + 1:=by rw [er];exact (hEM.row (by omega)).1
    have ih':=ih (i + 1) (by omega) (by omega)
    rw [← slK_set hEe hpa,en,← er,show at0 (E.1.getD i default) N = (E.1.getD i default).getD N default from rfl] at ih'
    have hln:=slK_len (n:=N) (k:=i) (E:=E)
    generalize slK N E i = L at *
    refine j_nf [_,_,_,_,_] rfl ?_
    refine j_run it 1 rfl (by simp) ?_
    refine j_nf [_,_,_,_,_] rfl ?_
    refine j_if rfl rfl (fun h6=>?_) (fun h6=>by exfalso;omega)
    refine j_nf [_,_,_,_,_,_,_] rfl ?_
    refine j_run it 1 rfl (by simp) ?_
    refine j_rowB 4 rfl (by omega) fun b6 cap1 cs2 hr1=>?_
    subst hr1
    dsimp only
    refine j_step rfl (x_idx 1 (i) rfl rfl rfl sl22 rfl (by omega) fun z1 hz1 b7 o1=>?_)
    obtain rfl : _ = z1:=Option.some.inj (at_p.symm.trans hz1)
    refine j_step rfl (x_ld_int 0 rfl rfl ld3 fun ⟨r1,r2⟩=>?_)
    refine j_run it 2 rfl (by simp) ?_
    refine j_nf [_,_,_,_,_,_] rfl ?_
    (apply j_drawK it mx 10;(· rfl);(· rfl))
    (apply lxk_run 4;(· rfl);(· simp))
    (apply lxk_pt;(· rfl);(· exact d_x fun _=>x_idx 3 (i) rfl rfl rfl sl25 rfl (by omega) fun z1 hz2 b8 o2=>(dk_ptD default hz2 0 rfl));intro b8 o2)
    (apply lxk_sl;(· rfl);(· exact d_x fun _=>x_ld_sl 0 rfl rfl ld22 fun pa2 ca1=>(dk_sl 0 rfl));intro pa2 ca1)
    (apply lxk_eq;(· rfl);(· exact d_x fun _=>x_field rfl fd57_0 dk_eq))
    (apply lxk_eq;(· rfl);(· exact d_bld 1 rfl rfl ld3 rfl))
    (apply lxk_pt;(· rfl);(· exact d_x fun _=>x_idx 0 (N) rfl rfl rfl sl22 rfl (by omega) fun z1 hz2 b9 o3=>(dk_ptD default hz2 0 rfl));intro b9 o3)
    (apply lxk_eq;(· rfl);(· exact d_x fun _=>x_ld_int 0 rfl rfl ld3 fun ⟨r3,r4⟩=>dk_eq))
    refine lxk_end rfl ?_
    simp only [List.map_cons,List.map_nil,List.cons_append,List.nil_append]
    refine j_step rfl (x_idx_own (a) (a) rfl rfl sl22 rfl (by omega) (Nat.mul_one _) ?_)
    refine j_step rfl (x_bst_int 0 rfl rfl rfl ld3 (by first | omega | (simp;omega)) ?_)
    refine j_nf [_,_,_,_] rfl ?_
    refine j_run it 2 rfl ⟨trivial,⟨by omega,by omega⟩,trivial⟩ ?_
    refine j_nfn 1 [.lp (pL 32756),.blk 4,.c (pL 4095)] rfl ?_
    refine j_to [4,5,6,7,8,9,10,11,12,13,14,15,16,17,18,19] (by exact fra rfl) rfl rfl (ih')
   ·obtain rfl : i = E.2.length:=by omega
    rw [slK_end]
    clear ih
    have hX:=(fok_fo K).slX_wd hEM hEe
    have hXl:=hX.1
    generalize slX N E = X at *
    refine j_nf [_,_,_,_,_] rfl ?_
    refine j_run it 1 rfl (by simp) ?_
    refine j_nf [_,_,_,_,_] rfl ?_
    refine j_if rfl rfl (fun h6=>by exfalso;omega) (fun h6=>?_)
    refine j_nf [_,_] rfl ?_
    refine j_run it 3 rfl (by simp) ?_
    refine j_nf [_] rfl ?_
    refine j_rowInt 0 rfl hXl.symm (fun y hy=>by have:=hX.2 y hy;simp only [InR];omega) (by omega) ?_
    refine j_pubR 0 0 rfl rfl (by show N * 8 ≤ 140737488355328;omega) ?_
    simp only [List.eraseIdx_cons_zero,List.eraseIdx_cons_succ]
    rw [← hXl]
    refine j_giv [0] rfl rfl rfl ⟨_,_,rfl,rfl,rfl⟩
theorem so_true {N : Nat} {E : List (List Int) × List Nat} (hs : slB N E = true) : SoQ N E = fun v Φ β=>∃ (pb : Option Addr) (cb : Nat),v = .tuple #[.slice pb (slX N E).length cb,.int .i64 0] ∧ Φ = [slF I64 pb (slX N E).length cb (slX N E)] ∧ β = []:=by
 funext v Φ β;show (∃ _ _,_) = _;rw [hs];rfl
theorem so_false {N : Nat} {E : List (List Int) × List Nat} (hs : slB N E = false) : SoQ N E = fun v Φ β=>∃ (pb : Option Addr) (cb : Nat),v = .tuple #[.slice pb 0 cb,.int .i64 11] ∧ Φ = [slF I64 pb 0 cb []] ∧ β = []:=by
 funext v Φ β;show (∃ _ _,_) = _;rw [hs];rfl
abbrev hpL (rows : List (List Int)) (hs : List Int) : List (List Int):=rows.map fun r=>hs.map fun j=>at0 r j.toNat
def eqP (p m : Nat) (md : List Int) (rows : List (List Int)) (hs : List Int) (l : Nat) : List (List Int) × List Nat:=elP p m md hs.length 0 0 (auL (hpL rows hs) (colL rows l))
def coP (p m : Nat) (md : List Int) (rows : List (List Int)) (lost hs : List Int) : List (List Int):=lost.map fun l=>slX hs.length (eqP p m md rows hs l.toNat)
def coB (p m : Nat) (md : List Int) (rows : List (List Int)) (lost hs : List Int) : Bool:=lost.all fun l=>slB hs.length (eqP p m md rows hs l.toNat)
abbrev CoQ (e : Int) (R : List (List Int)) : Value → List Fact → List Blk → Prop:=fun v Φ β=>∃ (pb : Option Addr) (cb : Nat),v = .tuple #[.slice pb R.length cb,.int .i64 e] ∧ Φ = [slF (encSl I64) pb R.length cb R] ∧ β = []
theorem hp_mat {q N : Nat} {rows : List (List Int)} (hq : 0 < q) (hM : Mat q N rows) (hs : List Int) : Mat q hs.length (hpL rows hs):=fun s hr=>by
 obtain ⟨r,h,rfl⟩:=List.mem_map.1 hr
 refine ⟨List.length_map _,fun x hx=>?_⟩
 obtain ⟨j,_,rfl⟩:=List.mem_map.1 hx
 exact wd_at hq (hM r h) _
theorem S_repair_Combine_err {P M N e : Int} {n c nm cm nl cl nh ch : Nat} {pm ps pl ph : Option Addr} {md lost hs : List Int} {rows : List (List Int)} (hN : InR .i64 N) (he : pairE P M md N rows lost hs = e) (h0 : e ≠ 0) :
  Ctr Tryz.prog 6 [.agg #[.int .i64 P,.int .i64 M,.slice pm nm cm,.int .i64 N,.slice ps n c],.slice pl nl cl,.slice ph nh ch] [] [slF I64 pm nm cm md,slF (encSl I64) ps n c rows,slF I64 pl nl cl lost,slF I64 ph nh ch hs] (CoQ e []):=by
 refine Ctr_of_j' (F:=F_repair_Combine) rfl fun C=>?_
 have hr:=pairE_rng P M md N rows lost hs
 have c_repair_sides:=fun {n c nm cm nl cl nh ch : Nat} {pm ps pl ph : Option Addr}=>S_repair_sides (pm:=pm) (nm:=nm) (cm:=cm) (ps:=ps) (n:=n) (c:=c) (pl:=pl) (nl:=nl) (cl:=cl) (ph:=ph) (nh:=nh) (ch:=ch) hN he
 refine j_nf [_,_] rfl (j_step rfl (x_box_agg rfl fun b1=>?_))
 refine j_run it 2 rfl (by simp) ?_
 refine j_nf [_,_,_] rfl (j_step rfl (x_bld_all 0 rfl rfl ld27 rfl ?_))
 refine j_run it 2 rfl (by simp) ?_
 refine j_step rfl (x_call [0,1,2,3] rfl (c_repair_sides) rfl ?_)
 rintro _ _ _ ⟨rfl,rfl,rfl⟩
 simp only [List.cons_append,List.nil_append]
 refine j_run it 1 rfl (by simp) ?_
 refine j_nf [_,_,_] rfl (j_run it 2 rfl (by simp) ?_)
 refine j_nf [_,_] rfl (j_ifn rfl rfl (fun h1=>?_) (fun h1=>by exfalso;omega))
 refine j_nf [_,_,_] rfl (j_run it 3 rfl (by simp) ?_)
 refine j_nf [_,_] rfl ?_
 refine j_add (slF (encSl I64) none 0 0 []) (fun w A _=>slF_nil (encSl I64) w A none 0) ?_
 refine j_giv [0] rfl rfl rfl ⟨_,_,rfl,rfl,rfl⟩
theorem S_repair_Combine {p m N n c nm cm nl cl nh ch : Nat} {pm ps pl ph : Option Addr} {md lost hs : List Int} {rows : List (List Int)} {B : Bool} (CC : Cok p m md N rows) (he : pairE p m md N rows lost hs = 0) (hlo : stP N lost) (hst : stP N hs) (hB : coB p m md rows lost hs = B) :
  Ctr Tryz.prog 6 [.agg #[.int .i64 p,.int .i64 m,.slice pm nm cm,.int .i64 N,.slice ps n c],.slice pl nl cl,.slice ph nh ch] [] [slF I64 pm nm cm md,slF (encSl I64) ps n c rows,slF I64 pl nl cl lost,slF I64 ph nh ch hs] (CoQ (if B then 0 else 11) (if B then coP p m md rows lost hs else [])):=by
 refine Ctr_of_j' (F:=F_repair_Combine) rfl fun C=>?_
 have hN:=CC.n64
 have hn1:=CC.n1
 have hlr:=CC.len
 have hl1:=st_len hlo
 have hl2:=st_len hst
 have hq:=CC.K.q
 have q2:=(fok_fo CC.K).q2
 have hHM:=hp_mat (by omega) CC.mat hs
 have c_repair_sides:=fun {n c nm cm nl cl nh ch : Nat} {pm ps pl ph : Option Addr}=>S_repair_sides (pm:=pm) (nm:=nm) (cm:=cm) (ps:=ps) (n:=n) (c:=c) (pl:=pl) (nl:=nl) (cl:=cl) (ph:=ph) (nh:=nh) (ch:=ch) (by simp only [InR];omega) he
 have c_matrix_Columns:=fun {pm ps pt : Option Addr} {nm cm n c ns cs' : Nat}=>S_matrix_Columns_ok (pm:=pm) (ps:=ps) (pt:=pt) (nm:=nm) (cm:=cm) (n:=n) (c:=c) (ns:=ns) (cs':=cs') (set:=hs) CC.K (show N ≤ 256 by omega) (show rows.length ≤ 256 by omega) CC.mat (by omega) hst.1
 refine j_len 1 rfl fun hn hb1 _=>?_
 subst hn
 refine j_len 2 rfl fun hn hb2 _=>?_
 subst hn
 refine j_len 3 rfl fun hn hb3 _=>?_
 subst hn
 have hb1' : rows.length * 24 ≤ 140737488355328:=hb1
 have hb2' : lost.length * 8 ≤ 140737488355328:=hb2
 refine j_nf [_,_] rfl (j_step rfl (x_box_agg rfl fun b1=>?_))
 refine j_run it 2 rfl (by simp) ?_
 refine j_nf [_,_,_] rfl (j_step rfl (x_bld_all 0 rfl rfl ld27 rfl ?_))
 refine j_run it 2 rfl (by simp) ?_
 refine j_step rfl (x_call [0,1,2,3] rfl (c_repair_sides) rfl ?_)
 rintro _ _ _ ⟨rfl,rfl,rfl⟩
 simp only [List.cons_append,List.nil_append]
 refine j_run it 1 rfl (by simp) ?_
 refine j_nf [_,_,_] rfl (j_run it 2 rfl (by simp) ?_)
 refine j_nf [_,_] rfl (j_ifn rfl rfl (fun h1=>by exfalso;omega) (fun h1=>?_))
 refine j_nf [_,_] rfl (j_step rfl (x_field rfl fd27_0 ?_))
 refine j_step rfl (x_bld_agg 0 rfl rfl ld24 rfl rfl ?_)
 refine j_step rfl (x_field rfl fd27_1 ?_)
 refine j_step rfl (x_bld 0 rfl rfl ld3 rfl ?_)
 refine j_step rfl (x_field rfl fd27_2 ?_)
 refine j_step rfl (x_bld 0 rfl rfl ld25 rfl ?_)
 refine j_step rfl (x_build (cs:=[Value.int IntKind.i64 ↑N,Value.slice ps rows.length c]) st57 zo57 rfl rfl ?_)
 refine j_run it 1 rfl (by simp) ?_
 refine j_step rfl (x_call [0,1,3] rfl (c_matrix_Columns) rfl ?_)
 rintro _ _ _ ⟨pb1,cb1,rfl,rfl,rfl⟩
 simp only [List.cons_append,List.nil_append]
 simp only [decide_true]
 refine j_run it 3 rfl (by simp) ?_
 refine j_step rfl (x_alloc zo57 fun b2=>?_)
 refine j_step rfl (x_bst_all 0 rfl rfl rfl ld57 rfl rfl (by simp [Value.oneCell']) ?_)
 refine j_run it 1 rfl (by simp) ?_
 refine j_nf [_,_] rfl (j_run it 1 rfl (by simp) ?_)
 refine j_nf [_,_,_] rfl (j_run it 1 rfl (by simp) ?_)
 refine j_step rfl (x_len sl22 rfl ?_)
 refine j_run it 1 rfl (by simp) ?_
 refine j_nf [_,_,_] rfl ?_
 simp only [setB]
 have hRl : (coP p m md rows lost hs).length = lost.length:=List.length_map _
 refine j_row0 (encSl I64) 22 ?_
 refine j_loopG (X:=Nat × Row) [3,9,38,39] [0,1,2,3,4,5] (fun x=>[(40,.int .i64 (x.1 : Int)),(11,.slice (ad x.2.bo) x.1 x.2.cap)]) (fun x=>(x.2.bo,22,x.2.cs)::_) (fun x=>[rowF (encSl I64) x.2 x.1 ((coP p m md rows lost hs).take x.1)]) (fun x=>x.1 ≤ lost.length ∧ ∀ l ∈ lost.take x.1,slB hs.length (eqP p m md rows hs l.toNat) = true) (fun x=>lost.length - x.1) (0,⟨none,0,[]⟩) [0] rfl rfl rfl ⟨Nat.zero_le _,fun x h=>by simp at h⟩ (by repeat (first | exact Fr.sub_nil _ | refine Fr.sub_cons rfl ?_)) rfl rfl ?_
 rintro ⟨i,r⟩ ⟨hi,hno⟩ ih
 simp only [List.cons_append,List.nil_append] at hi hno ih ⊢
 by_cases h9 : i < lost.length
 ·obtain ⟨l,at_l⟩ : ∃ l,lost[i]? = some l:=⟨_,List.getElem?_eq_getElem h9⟩
  obtain ⟨l0,l1⟩:=hlo.1 l (List.mem_of_getElem? at_l)
  obtain ⟨l,rfl⟩:=Int.eq_ofNat_of_zero_le l0
  have hcW:=wd_col (show 0 < p ^ m by omega) CC.mat l
  have hTl : (colL rows l).length = rows.length:=List.length_map _
  have hTa : ∀ (k : Nat) (x : List Int),rows[k]? = some x → (colL rows l)[k]? = some (at0 x l):=fun k x h=>by rw [colL,List.getElem?_map,h];rfl
  have hTr : ∀ z ∈ colL rows l,InR .i64 z:=fun z hz=>by
   have:=hcW.2 z hz
   simp only [InR];omega
  have c_matrix_Solve:=fun {pm ps pb : Option Addr} {nm cm n c nb cb : Nat}=>S_matrix_Solve (pm:=pm) (ps:=ps) (pb:=pb) (nm:=nm) (cm:=cm) (n:=n) (c:=c) (nb:=nb) (cb:=cb) CC.K (show hs.length ≤ 256 by omega) (show (hpL rows hs).length ≤ 256 by rw [List.length_map];omega) hHM (b:=colL rows l) (by rw [List.length_map];exact hcW)
  rw [show elP p m md hs.length 0 0 (auL (hpL rows hs) (colL rows l)) = eqP p m md rows hs l from rfl] at c_matrix_Solve
  refine j_nf [_,_,_,_,_] rfl (j_run it 1 rfl (by simp) ?_)
  refine j_nf [_,_,_,_,_] rfl (j_if rfl rfl (fun h2=>?_) (fun h2=>by exfalso;omega))
  refine j_nf [_,_,_,_,_,_,_] rfl (j_step rfl (x_idx 5 (i) rfl rfl rfl sl22 rfl (by omega) fun z1 hz1 b3 o1=>?_))
  obtain rfl : _ = z1:=Option.some.inj (at_l.symm.trans hz1)
  refine j_step rfl (x_ld_int 0 rfl rfl ld3 fun ⟨r1,r2⟩=>?_)
  refine j_run it 1 rfl (by simp) ?_
  refine j_nf [_,_,_,_,_,_,_] rfl (j_step rfl (x_field rfl fd27_2 ?_))
  refine j_step rfl (x_bld 2 rfl rfl ld25 rfl ?_)
  refine j_step rfl (x_len sl25 rfl ?_)
  refine j_step rfl (x_make_nat (rows.length) _ rfl rfl sl22 zo22e by22e (by omega) (by omega) (by omega) fun b4=>?_)
  refine j_run it 1 rfl (by simp) ?_
  refine j_nf [_,_,_,_,_,_,_,_] rfl (j_step rfl (x_field rfl fd27_2 ?_))
  refine j_step rfl (x_bld 3 rfl rfl ld25 rfl ?_)
  refine j_step rfl (x_len sl25 rfl ?_)
  refine j_run it 1 rfl (by simp) ?_
  refine j_nf [_,_,_,_,_,_,_,_] rfl ?_
  rw [show natCells .i64 (List.replicate rows.length 0) = intCells .i64 ((colL rows l).take 0++List.replicate (rows.length - 0) 0) by simp [natCells,intCells]]
  refine j_loopG (X:=Nat) [3,9,11,13,14,38,39,40,41,42,43,44,45,46,47,48,49,50] [0,1,2,3,4,5,6,7] (fun k=>[(51,.int .i64 (k : Int))]) (fun k=>(some b4,3,intCells .i64 ((colL rows l).take k++List.replicate (rows.length - k) 0))::_) (fun _=>[]) (fun k=>k ≤ rows.length) (fun k=>rows.length - k) 0 [] rfl rfl rfl (Nat.zero_le _) (by repeat (first | exact Fr.sub_nil _ | refine Fr.sub_cons rfl ?_)) rfl rfl ?_
  rintro k hk ihk
  simp only [List.cons_append,List.nil_append] at hk ihk ⊢
  by_cases h8 : k < rows.length
  ·obtain ⟨x,at_x⟩ : ∃ x,rows[k]? = some x:=⟨_,List.getElem?_eq_getElem h8⟩
   have hxl:=(CC.mat x (List.mem_of_getElem? at_x)).1
   have hT:=hTa k x at_x
   have at_y : x[l]? = some (at0 x l):=by
    rw [at0,List.getD_eq_getElem?_getD,List.getElem?_eq_getElem (by omega)];rfl
   have ih':=ihk (k + 1) (by omega) (by omega)
   rw [← take_set hT h8] at ih'
   have hln : ((colL rows l).take k++List.replicate (rows.length - k) 0).length = rows.length:=by rw [List.length_append,List.length_take,List.length_replicate];omega
   generalize (colL rows l).take k++List.replicate (rows.length - k) 0 = L at *
   refine j_nf [_,_,_,_,_,_,_,_,_,_] rfl (j_run it 1 rfl (by simp) ?_)
   refine j_nf [_,_,_,_,_,_,_,_,_,_] rfl (j_if rfl rfl (fun h3=>?_) (fun h3=>by exfalso;omega))
   refine j_nf [_,_,_,_,_,_,_,_,_,_,_,_] rfl (j_run it 1 rfl (by simp) ?_)
   refine j_step rfl (x_idx 5 (k) rfl rfl rfl sl25 rfl (by omega) fun z1 hz2 b5 o2=>?_)
   obtain rfl : _ = z1:=Option.some.inj (at_x.symm.trans hz2)
   refine j_step rfl (x_ld_sl 0 rfl rfl ld22 fun pa1 ca1=>?_)
   refine j_run it 2 rfl (by simp) ?_
   refine j_nf [_,_,_,_,_,_,_,_,_,_,_] rfl (j_run it 4 rfl (by simp) ?_)
   refine j_step rfl (x_idx 0 (l) rfl rfl rfl sl22 rfl (by omega) fun z1 hz3 b6 o3=>?_)
   obtain rfl : _ = z1:=Option.some.inj (at_y.symm.trans hz3)
   refine j_step rfl (x_ld_int 0 rfl rfl ld3 fun ⟨r3,r4⟩=>?_)
   refine j_step rfl (x_idx_own (k) (k) rfl rfl sl22 rfl (by omega) (Nat.mul_one _) ?_)
   refine j_step rfl (x_bst_int 0 rfl rfl rfl ld3 (by first | omega | (simp;omega)) ?_)
   refine j_nf [_,_,_,_,_,_,_,_,_] rfl (j_run it 2 rfl ⟨trivial,⟨by omega,by omega⟩,trivial⟩ ?_)
   refine j_nfn 1 [.lp (pL 512820),.blk 2,.c (pL 64103),.blk 1,.c (pL 4007),.lp (pL 500),.blk 0,.c [1,1,1,1,1]] rfl ?_
   refine j_to [3,4,5,6,7,8,9,10] (by exact fra rfl) rfl rfl (ih')
  ·obtain rfl : k = rows.length:=by omega
   rw [Nat.sub_self,List.replicate_zero,List.append_nil,List.take_of_length_le (by omega)]
   clear ihk
   refine j_nf [_,_,_,_,_,_,_,_,_,_] rfl (j_run it 1 rfl (by simp) ?_)
   refine j_nf [_,_,_,_,_,_,_,_,_,_] rfl ?_
   refine j_pub_madei (kd:=.i64) (n:=rows.length) 8 (colL rows l) 0 rfl hTl.symm hTr (by omega) (by omega) ?_
   simp only [List.eraseIdx_cons_zero,List.eraseIdx_cons_succ]
   have hcx : (coP p m md rows lost hs)[i]? = some (slX hs.length (eqP p m md rows hs l)):=by rw [coP,List.getElem?_map,at_l];rfl
   by_cases hs1 : slB hs.length (eqP p m md rows hs l) = true
   ·rw [so_true hs1] at c_matrix_Solve
    have ih':=fun r=>ih (i + 1,r) (by dsimp only;omega) ⟨by dsimp only;omega,tk_all at_l hno hs1⟩
    simp only [List.take_add_one,hcx,Option.toList_some] at ih'
    clear ih
    generalize slX hs.length (eqP p m md rows hs l) = X at *
    refine j_if rfl rfl (fun h3=>by exfalso;omega) (fun h3=>?_)
    refine j_nf [_,_,_,_,_,_,_] rfl (j_step rfl (x_field rfl fd27_0 ?_))
    refine j_step rfl (x_bld_agg 2 rfl rfl ld24 rfl rfl ?_)
    refine j_step rfl (x_bld_all 1 rfl rfl ld57 rfl ?_)
    refine j_run it 1 rfl (by simp) ?_
    refine j_step rfl (x_call [5,4,0] rfl (c_matrix_Solve) rfl ?_)
    rintro _ _ _ ⟨pb2,cb2,rfl,rfl,rfl⟩
    simp only [List.cons_append,List.nil_append]
    refine j_run it 5 rfl (by simp) ?_
    refine j_nf [_,_,_,_,_,_,_,_] rfl (j_run it 2 rfl (by simp) ?_)
    refine j_nf [_,_,_,_,_,_,_] rfl (j_ifn rfl rfl (fun h4=>by exfalso;omega) (fun h4=>?_))
    refine j_nf [_,_,_,_,_,_] rfl (j_run it 2 rfl (by simp) ?_)
    refine j_step rfl (x_lit sl25 zo25e rfl rfl rfl rfl (by decide) (by decide) rfl fun b5=>?_)
    refine j_step rfl (x_appR (z:=X) 1 0 3 rfl rfl rfl rfl rfl sl25 zo25e rfl (fun w A hG=>(rd_of_slF (hG _ (fact_mem (n:=0) rfl)))) (by omega) _ by25e (by omega) fun r3=>?_)
    refine j_run it 1 rfl (by simp) ?_
    refine j_nf [_,_,_,_] rfl (j_run it 2 rfl ⟨trivial,⟨by omega,by omega⟩,trivial⟩ ?_)
    refine j_nfn 1 [.lp (pL 500),.blk 0,.c [1,1,1,1,1]] rfl ?_
    refine j_toM [true,false,true,true] [0,5,6,7,8,9,10] (by exact fra rfl) rfl rfl (ih' r3)
   ·rw [so_false (Bool.eq_false_iff.2 hs1)] at c_matrix_Solve
    obtain rfl : B = false:=by
     rw [← hB,coB,List.all_eq_false]
     exact ⟨_,List.mem_of_getElem? at_l,hs1⟩
    clear ih
    refine j_if rfl rfl (fun h3=>by exfalso;omega) (fun h3=>?_)
    refine j_nf [_,_,_,_,_,_,_] rfl (j_step rfl (x_field rfl fd27_0 ?_))
    refine j_step rfl (x_bld_agg 2 rfl rfl ld24 rfl rfl ?_)
    refine j_step rfl (x_bld_all 1 rfl rfl ld57 rfl ?_)
    refine j_run it 1 rfl (by simp) ?_
    refine j_step rfl (x_call [5,4,0] rfl (c_matrix_Solve) rfl ?_)
    rintro _ _ _ ⟨pb2,cb2,rfl,rfl,rfl⟩
    simp only [List.cons_append,List.nil_append]
    refine j_run it 5 rfl (by simp) ?_
    refine j_nf [_,_,_,_,_,_,_,_] rfl (j_run it 2 rfl (by simp) ?_)
    refine j_nf [_,_,_,_,_,_,_] rfl (j_ifn rfl rfl (fun h4=>?_) (fun h4=>by exfalso;omega))
    refine j_nf [_,_,_,_,_,_,_,_] rfl (j_run it 3 rfl (by simp) ?_)
    refine j_nf [_,_,_,_,_,_,_] rfl ?_
    refine j_add (slF (encSl I64) none 0 0 []) (fun w A _=>slF_nil (encSl I64) w A none 0) ?_
    refine j_giv [0] rfl rfl rfl ⟨_,_,rfl,rfl,rfl⟩
 ·obtain rfl : i = lost.length:=by omega
  obtain rfl : B = true:=by
   rw [← hB,coB,List.all_eq_true]
   exact fun l hl=>hno l (by rwa [List.take_length])
  rw [List.take_of_length_le (by omega)]
  clear ih
  simp only [if_pos]
  generalize coP p m md rows lost hs = R at *
  refine j_pubR 0 0 rfl rfl (by show lost.length * 24 ≤ 140737488355328;omega) ?_
  simp only [List.eraseIdx_cons_zero,List.eraseIdx_cons_succ]
  rw [← hRl]
  refine j_nf [_,_,_,_,_] rfl (j_run it 1 rfl (by simp) ?_)
  refine j_nf [_,_,_,_,_] rfl (j_if rfl rfl (fun h2=>by exfalso;omega) (fun h2=>?_))
  refine j_nf [_,_] rfl (j_run it 3 rfl (by simp) ?_)
  refine j_nf [_] rfl ?_
  refine j_giv [0] rfl rfl rfl ⟨_,_,rfl,rfl,rfl⟩
end Go.Proofs.YtlecjbjgbcdilaaGreat
