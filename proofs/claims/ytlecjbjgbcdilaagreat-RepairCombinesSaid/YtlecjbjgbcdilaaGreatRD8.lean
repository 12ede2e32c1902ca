/-
Equations solved, in the document. Lists compared, entries picked and coefficients of repairs, in the document. Coefficients and what is enough; words rebuilt. The walk of RepairCombines.
-/
import Derived.Test.YtlecjbjgbcdilaaGreatRD7
set_option linter.unusedVariables false
set_option linter.unusedSimpArgs false
namespace Go.Proofs.YtlecjbjgbcdilaaGreat
open Go Go.Fw
set_option maxRecDepth 100000
set_option linter.unusedVariables false
set_option linter.unusedSimpArgs false
set_option maxHeartbeats 8000000
section
variable {P : Program} {F : Fun P} {C : Cx} {S : List It} {R : Value → World → Prop} {β : List Blk} {Γ : List Fact} {it : List (TypeId × IntKind)} {L : List Oper} {pt : List (List Nat)} {p : List Nat} {σ κ : Fr} {fs : List (Nat × Fact)} {al : List Blk} {i : Nat}
theorem lxk_endWB {k m : Nat} {A : List Nat} {x0 : List Blk} (hk : i = k) (h : WIN F C p A m k S σ (al++(x0++β)) (fs.map (·.2)++Γ) R) : LxK it F C p (.win A m::S) L pt β Γ R k i [] κ σ fs al (some x0):=⟨by simpa using hk,by subst hk;exact h⟩
end
theorem S_codewrightref09_Vector {p m nm cm n c k : Nat} {pm ps : Option Addr} {md l : List Int} (K : Fok p m md) (hl : Wd (p ^ m) k l) : Ctr Tryz.prog 58 [.agg #[.int .i64 p,.int .i64 m,.slice pm nm cm],.slice ps n c,.int .i64 k] [] [slF I64 ps n c l] (Rv (.int .i64 0) []):=by
 refine Ctr_of_j' (F:=F_codewrightref09_Vector) rfl fun C=>?_
 refine j_len 0 rfl fun hn hb _=>?_
 subst hn
 have hll:=hl.1
 have c_codewrightref09_Entries:=fun {nm cm n c : Nat} {pm ps : Option Addr}=>S_codewrightref09_Entries (nm:=nm) (cm:=cm) (pm:=pm) (ps:=ps) (n:=n) (c:=c) (l:=l) K
 rw [entE,if_pos hl.2] at c_codewrightref09_Entries
 refine j_nf [_,_] rfl (j_step rfl (x_box_agg rfl fun b1=>?_))
 refine j_run it 1 rfl (by simp) ?_
 refine j_nf [_,_,_] rfl (j_run it 1 rfl (by simp) ?_)
 refine j_step rfl (x_len sl22 rfl ?_)
 refine j_run it 2 rfl (by simp) ?_
 refine j_nf [_,_] rfl (j_ifn rfl rfl (fun h1=>by exfalso;omega) (fun h1=>?_))
 refine j_nf [_,_] rfl (j_step rfl (x_bld_all 0 rfl rfl ld24 rfl ?_))
 refine j_run it 1 rfl (by simp) ?_
 refine j_step rfl (x_call [0] rfl (c_codewrightref09_Entries) rfl ?_)
 rintro _ _ _ ⟨rfl,rfl,rfl⟩
 simp only [List.cons_append,List.nil_append]
 refine j_run it 1 rfl (by simp) ?_
 refine j_nf [_] rfl ?_
 refine j_giv [] rfl rfl rfl ⟨rfl,rfl,rfl⟩
theorem S_codewrightref09_Solve {p m n c nm cm N nb cb : Nat} {pm ps pb : Option Addr} {md b : List Int} {rows : List (List Int)} (K : Fok p m md) (hN : N ≤ 256) (hl : rows.length ≤ 256) (hM : Mat (p ^ m) N rows) (hb : Wd (p ^ m) rows.length b) :
  Ctr Tryz.prog 30 [.agg #[.int .i64 p,.int .i64 m,.slice pm nm cm],.agg #[.int .i64 N,.slice ps n c],.slice pb nb cb] [] [slF I64 pm nm cm md,slF (encSl I64) ps n c rows,slF I64 pb nb cb b]
   (SoQ N (elP p m md N 0 0 (auL rows b))):=by
 refine Ctr_of_j' (F:=F_codewrightref09_Solve) rfl fun C=>?_
 have O:=fok_fo K
 have hq:=K.q
 refine j_len 1 rfl fun hn hbs _=>?_
 subst hn
 refine j_len 2 rfl fun hn hbb _=>?_
 have hbl:=hb.1
 rw [hbl] at hn
 subst hn
 have hbs' : rows.length * 24 ≤ 140737488355328:=hbs
 have hau : (auL rows b).length = rows.length:=auL_len hbl
 have hmk : mkE p m md N rows = 0:=by rw [mkE,if_neg (fun h=>h (fok_chk K)),Int.toNat_natCast,Int.toNat_natCast];exact mtE_ok hN hl hM
 have c_codewrightref09_Check:=fun {nm cm n c : Nat} {pm ps : Option Addr}=>S_codewrightref09_Check (nm:=nm) (cm:=cm) (n:=n) (c:=c) (pm:=pm) (ps:=ps) (show InR .i64 (N : Int) by simp only [InR];omega) hmk
 have c_codewrightref09_Vector:=fun {nm cm n c : Nat} {pm ps : Option Addr}=>S_codewrightref09_Vector (nm:=nm) (cm:=cm) (n:=n) (c:=c) (pm:=pm) (ps:=ps) K hb
 refine j_nf [_,_] rfl ?_
 refine j_step rfl (x_box_agg rfl fun b1=>?_)
 refine j_step rfl (x_box_agg rfl fun b2=>?_)
 refine j_run it 2 rfl (by simp) ?_
 refine j_nf [_,_] rfl ?_
 refine j_step rfl (x_bld_all 1 rfl rfl ld24 rfl ?_)
 refine j_step rfl (x_bld_all 0 rfl rfl ld57 rfl ?_)
 refine j_step rfl (x_call [0,1] rfl (c_codewrightref09_Check) rfl ?_)
 rintro _ _ _ ⟨rfl,rfl,rfl⟩
 simp only [List.cons_append,List.nil_append]
 refine j_run it 1 rfl (by simp) ?_
 refine j_nf [_,_,_] rfl ?_
 refine j_run it 2 rfl (by simp) ?_
 refine j_nf [_,_] rfl ?_
 refine j_if rfl rfl (fun h1=>?_) (fun h1=>by exfalso;omega)
 refine j_nf [_,_] rfl ?_
 refine j_step rfl (x_bld_all 1 rfl rfl ld24 rfl ?_)
 refine j_run it 1 rfl (by simp) ?_
 refine j_step rfl (x_field rfl fd57_1 ?_)
 refine j_step rfl (x_bld 0 rfl rfl ld25 rfl ?_)
 refine j_step rfl (x_len sl25 rfl ?_)
 refine j_step rfl (x_call [2] rfl (c_codewrightref09_Vector) rfl ?_)
 rintro _ _ _ ⟨rfl,rfl,rfl⟩
 simp only [List.cons_append,List.nil_append]
 simp only [decide_true]
 refine j_run it 1 rfl (by simp) ?_
 refine j_nf [_,_,_] rfl ?_
 refine j_run it 2 rfl (by simp) ?_
 refine j_nf [_,_] rfl ?_
 refine j_ifn rfl rfl (fun h2=>by exfalso;omega) (fun h2=>?_)
 refine j_nf [_,_] rfl ?_
 refine j_run it 1 rfl (by simp) ?_
 refine j_nf [_,_,_] rfl ?_
 refine j_run it 1 rfl (by simp) ?_
 refine j_nf [_,_,_] rfl ?_
 refine j_row0 (encSl I64) 22 ?_
 refine j_loopG (X:=Nat × Row) [2,3,4,6,7] [0,1,2,3] (fun x=>[(10,.int .i64 (x.1 : Int)),(9,.slice (ad x.2.bo) x.1 x.2.cap)]) (fun x=>(x.2.bo,22,x.2.cs)::_) (fun x=>[rowF (encSl I64) x.2 x.1 ((auL rows b).take x.1)]) (fun x=>x.1 ≤ rows.length) (fun x=>rows.length - x.1) (0,⟨none,0,[]⟩) [0] rfl rfl rfl (Nat.zero_le _) (by repeat (first | exact Fr.sub_nil _ | refine Fr.sub_cons rfl ?_)) rfl rfl ?_
 rintro ⟨i,r⟩ hi ih
 simp only [List.cons_append,List.nil_append] at hi ih ⊢
 by_cases h9 : i < rows.length
 ·obtain ⟨x,at_x⟩ : ∃ x,b[i]? = some x:=⟨_,List.getElem?_eq_getElem (by omega)⟩
  obtain ⟨u,at_u⟩ : ∃ u,rows[i]? = some u:=⟨_,List.getElem?_eq_getElem h9⟩
  have ex:=gd_at at_x
  have eu:=gd_at at_u
  have hul:=(hM u (List.mem_of_getElem? at_u)).1
  rw [← eu] at hul
  obtain ⟨x0,x1⟩:=hb.2 x (List.mem_of_getElem? at_x)
  have ih':=fun r=>ih (i + 1,r) (by dsimp only;omega) (by dsimp only;omega)
  simp only [List.take_add_one,auL_at at_u at_x,Option.toList_some] at ih'
  clear ih
  refine j_nf [_,_,_,_,_,_] rfl ?_
  refine j_run it 2 rfl (by simp) ?_
  refine j_step rfl (x_len sl22 rfl ?_)
  refine j_run it 1 rfl (by simp) ?_
  refine j_nf [_,_,_,_,_] rfl ?_
  refine j_if rfl rfl (fun h3=>?_) (fun h3=>by exfalso;omega)
  refine j_nf [_,_,_,_,_,_] rfl ?_
  (apply j_drawKW (x0:=some []) it mx 0 14 [0] 1;(· rfl);(· rfl);(· rfl);(· decide))
  simp only [List.drop_zero]
  (apply lxk_run 1;(· rfl);(· simp))
  (apply lxk_lit0 (encInt IntKind.i64 8);(· rfl);(· exact sl22);intro pa1)
  (apply lxk_eq;(· rfl);(· exact d_x fun _=>x_field rfl fd57_1 dk_eq))
  (apply lxk_eq;(· rfl);(· exact d_bld 1 rfl rfl ld25 rfl))
  (apply lxk_run 1;(· rfl);(· simp))
  (apply lxk_pt;(· rfl);(· exact d_x fun _=>x_idx 3 (i) rfl rfl rfl sl25 rfl (by omega) fun z1 hz1 b3 o1=>(dk_ptD default hz1 0 rfl));intro b3 o1)
  (apply lxk_sl;(· rfl);(· exact d_x fun _=>x_ld_sl 0 rfl rfl ld22 fun pa2 ca1=>(dk_sl 0 rfl));intro pa2 ca1)
  (apply lxk_appL (keep:=[]) 2 0;(· rfl);(· rfl);(· rfl);(· rfl);(· rfl);(· exact sl22);(· exact zo22e);(· rfl);(· (first | omega | (simp only [List.length_cons,List.length_nil];omega)));(· exact by22e);(· (first | omega | (simp only [List.length_cons,List.length_nil];omega)));intro pa3 cap1 b4 cs1)
  (apply lxk_run 2;(· rfl);(· simp))
  (apply lxk_pt;(· rfl);(· exact d_x fun _=>x_idx 4 (i) rfl rfl rfl sl22 rfl (by omega) fun z1 hz1 b5 o2=>(dk_ptD default hz1 0 rfl));intro b5 o2)
  (apply lxk_eq;(· rfl);(· exact d_x fun _=>x_ld_int 0 rfl rfl ld3 fun ⟨r1,r2⟩=>dk_eq)) --ok
  (apply lxk_sl;(· rfl);(· exact d_x fun _=>x_lit sl22 zo22e rfl rfl rfl rfl (by decide) (by decide) rfl fun b8=>dk_all (E:=I64) [[.int .i64 (b.getD i default)]] [b.getD i default] (fun w A hG=>allrd_cons ⟨rfl,by simp only [InR];omega⟩ allrd_nil) rfl rfl rfl (by decide));intro pa8 ca8)
  (apply lxk_appZi 2 0;(· rfl);(· rfl);(· rfl);(· rfl);(· rfl);(· exact sl22);(· exact zo22e);(· rfl);(· (first | omega | (simp only [List.length_cons,List.length_nil];omega)));(· exact by22e);(· (first | omega | (simp only [List.length_cons,List.length_nil];omega)));intro pa4 cap2 b6 cs2) --ok
  refine lxk_endWB rfl ?_
  all_goals try rfl
  simp only [List.map_cons,List.map_nil,List.cons_append,List.nil_append,List.append_nil]
  refine win_step it rfl rfl ⟨⟨_,_,_,_,rfl,rfl,rfl,rfl,rfl,rfl,(by first | trivial | (repeat' first | exact trivial | apply And.intro | omega))⟩,trivial⟩ (x_lit sl25 zo25e rfl rfl rfl rfl (by decide) (by decide) rfl fun b7=>?_)
  refine win_end it ⟨⟨_,_,_,_,rfl,rfl,rfl,rfl,rfl,rfl,(by first | trivial | (repeat' first | exact trivial | apply And.intro | omega))⟩,trivial⟩ ?_ --ok
  refine j_pubZ 1 0 rfl rfl (by show (0 + (rows.getD i default).length + 1) * 8 ≤ 140737488355328;omega) ?_
  simp only [List.take_succ_cons,List.take_zero,List.cons_append,List.nil_append]
  rw [← eu,← ex] at ih'
  refine j_step rfl (x_appR (z:=rows.getD i default++[b.getD i default]) 1 0 8 rfl rfl rfl rfl rfl sl25 zo25e rfl (fun w A hG=>(rd_of_slF (hG _ (fact_mem (n:=0) rfl)))) (by omega) _ by25e (by omega) fun r1=>?_)
  refine j_run it 1 rfl (by simp) ?_
  refine j_nf [_,_,_,_] rfl ?_
  refine j_run it 3 rfl ⟨trivial,⟨by omega,by omega⟩,trivial,trivial⟩ ?_
  refine j_nfn 1 [.lp (pL 1012),.blk 0,.c (pL 127)] rfl ?_
  refine j_toM [true,false,true,true] [0,10,11,12,13] (by exact fra rfl) rfl rfl (ih' r1)
 ·obtain rfl : i = rows.length:=by omega
  clear ih
  rw [List.take_of_length_le (by omega)]
  refine j_pubR 0 0 rfl rfl (by show rows.length * 24 ≤ 140737488355328;omega) ?_
  simp only [List.eraseIdx_cons_zero,List.eraseIdx_cons_succ]
  have hM2:=auL_mat hM hb.2
  have c_codewrightref09_Eliminate:=fun {nm cm c : Nat} {pm ps : Option Addr}=>S_codewrightref09_Eliminate (nm:=nm) (cm:=cm) (c:=c) (pm:=pm) (ps:=ps) K (n:=rows.length) (by omega) (Nat.le_succ N) (by omega) hau hM2
  have hEl : (elP p m md N 0 0 (auL rows b)).1.length = rows.length:=by rw [elP,elimL_len,hau]
  have hEM : Mat (p ^ m) (N + 1) (elP p m md N 0 0 (auL rows b)).1:=((fok_fo K).elim (m:=N) hM2).1
  have hEe : Ech (elP p m md N 0 0 (auL rows b)).1 N (elP p m md N 0 0 (auL rows b)).2:=((fok_fo K).elim (m:=N) hM2).2.1
  have hEk:=hEe.le
  rw [hEl] at hEk
  generalize elP p m md N 0 0 (auL rows b) = E at *
  refine j_nf [_,_,_,_,_,_] rfl ?_
  refine j_run it 2 rfl (by simp) ?_
  refine j_step rfl (x_len sl22 rfl ?_)
  refine j_run it 1 rfl (by simp) ?_
  refine j_nf [_,_,_,_,_] rfl ?_
  refine j_if rfl rfl (fun h3=>by exfalso;omega) (fun h3=>?_)
  refine j_nf [_,_] rfl ?_
  refine j_step rfl (x_bld_all 1 rfl rfl ld24 rfl ?_)
  refine j_run it 1 rfl (by simp) ?_
  refine j_step rfl (x_field rfl fd57_0 ?_)
  refine j_step rfl (x_bld 0 rfl rfl ld3 rfl ?_)
  refine j_step rfl (x_call [3,0] rfl (c_codewrightref09_Eliminate) rfl ?_)
  rintro _ _ _ ⟨pb1,pp1,cb1,cp1,rfl,rfl,rfl⟩
  simp only [List.cons_append,List.nil_append]
  refine j_run it 5 rfl (by simp) ?_
  refine j_nf [_,_,_] rfl ?_
  refine j_run it 1 rfl (by simp) ?_
  refine j_step rfl (x_len sl22 rfl ?_)
  refine j_run it 1 rfl (by simp) ?_
  refine j_nf [_,_,_] rfl ?_
  refine j_loopG (X:=Nat) [4,11,12] [0,1,2,3,4,5,6,7] (fun i=>[(13,.int .i64 (i : Int))]) (fun _=>_) (fun _=>[]) (fun i=>E.2.length ≤ i ∧ i ≤ rows.length ∧ ∀ j,E.2.length ≤ j → j < i → en E.1 j N = 0) (fun i=>rows.length - i) E.2.length [] rfl rfl rfl ⟨Nat.le_refl _,hEk,fun j h1 h2=>by omega⟩ (by repeat (first | exact Fr.sub_nil _ | refine Fr.sub_cons rfl ?_)) rfl rfl ?_
  rintro i ⟨hi1,hi2,hno⟩ ih
  simp only [List.cons_append,List.nil_append] at hi1 hi2 ih ⊢
  by_cases h9 : i < rows.length
  ·have hr : E.1[i]? = some (row0 E.1 i):=by rw [row0,List.getD_eq_getElem?_getD,List.getElem?_eq_getElem (by omega)];rfl
   have er:=gd_at hr
   have hrl : (E.1.getD i default).length = N + 1:=by rw [er];exact (hEM.row (by omega)).1
   have een : en E.1 i N = (E.1.getD i default).getD N default:=by rw [er];rfl
   by_cases h8 : en E.1 i N = 0
   ·have h7 : (E.1.getD i default).getD N default = 0:=by rw [← een];exact h8
    refine j_nf [_,_,_,_,_,_] rfl ?_
    refine j_run it 2 rfl (by simp) ?_
    refine j_step rfl (x_len sl25 rfl ?_)
    refine j_run it 1 rfl (by simp) ?_
    refine j_nf [_,_,_,_,_] rfl ?_
    refine j_if rfl rfl (fun h4=>?_) (fun h4=>by exfalso;omega)
    refine j_nf [_,_,_,_,_,_,_] rfl ?_
    (apply j_drawK it mx 9;(· rfl);(· rfl))
    (apply lxk_run 2;(· rfl);(· simp))
    (apply lxk_pt;(· rfl);(· exact d_x fun _=>x_idx 0 (i) rfl rfl rfl sl25 rfl (by omega) fun z1 hz1 b3 o1=>(dk_ptD default hz1 0 rfl));intro b3 o1)
    (apply lxk_sl;(· rfl);(· exact d_x fun _=>x_ld_sl 0 rfl rfl ld22 fun pa1 ca1=>(dk_sl 0 rfl));intro pa1 ca1)
    (apply lxk_eq;(· rfl);(· exact d_x fun _=>x_field rfl fd57_0 dk_eq))
    (apply lxk_eq;(· rfl);(· exact d_bld 0 rfl rfl ld3 rfl))
    (apply lxk_pt;(· rfl);(· exact d_x fun _=>x_idx 0 (N) rfl rfl rfl sl22 rfl (by omega) fun z1 hz1 b4 o2=>(dk_ptD default hz1 0 rfl));intro b4 o2)
    (apply lxk_eq;(· rfl);(· exact d_x fun _=>x_ld_int 0 rfl rfl ld3 fun ⟨r1,r2⟩=>dk_eq))
    (apply lxk_run 1;(· rfl);(· simp))
    refine lxk_end rfl ?_
    simp only [List.map_cons,List.map_nil,List.cons_append,List.nil_append]
    refine j_nf [_,_,_,_,_,_] rfl ?_
    refine j_ifn rfl rfl (fun h5=>by exfalso;omega) (fun h5=>?_)
    refine j_nf [_,_,_,_] rfl ?_
    refine j_run it 3 rfl ⟨trivial,⟨by omega,by omega⟩,trivial,trivial⟩ ?_
    refine j_nfn 1 [.lp (pL 4084),.blk 2,.c (pL 511)] rfl ?_
    refine j_to [3,4,5,6,7,8,9,10] (by exact fra rfl) rfl rfl (ih (i + 1) (by omega) ⟨by omega,by omega,fun j h1 h2=>by
     rcases Nat.lt_succ_iff_lt_or_eq.1 h2 with h | rfl
     ·exact hno j h1 h
     ·exact h8⟩)
   ·have h7 : (E.1.getD i default).getD N default ≠ 0:=by rw [← een];exact h8
    rw [so_false (Bool.eq_false_iff.2 fun e=>h8 (slB_iff.1 e i hi1 (by omega)))]
    clear ih
    refine j_nf [_,_,_,_,_,_] rfl ?_
    refine j_run it 2 rfl (by simp) ?_
    refine j_step rfl (x_len sl25 rfl ?_)
    refine j_run it 1 rfl (by simp) ?_
    refine j_nf [_,_,_,_,_] rfl ?_
    refine j_if rfl rfl (fun h4=>?_) (fun h4=>by exfalso;omega)
    refine j_nf [_,_,_,_,_,_,_] rfl ?_
    (apply j_drawK it mx 9;(· rfl);(· rfl))
    (apply lxk_run 2;(· rfl);(· simp))
    (apply lxk_pt;(· rfl);(· exact d_x fun _=>x_idx 0 (i) rfl rfl rfl sl25 rfl (by omega) fun z1 hz1 b3 o1=>(dk_ptD default hz1 0 rfl));intro b3 o1)
    (apply lxk_sl;(· rfl);(· exact d_x fun _=>x_ld_sl 0 rfl rfl ld22 fun pa1 ca1=>(dk_sl 0 rfl));intro pa1 ca1)
    (apply lxk_eq;(· rfl);(· exact d_x fun _=>x_field rfl fd57_0 dk_eq))
    (apply lxk_eq;(· rfl);(· exact d_bld 0 rfl rfl ld3 rfl))
    (apply lxk_pt;(· rfl);(· exact d_x fun _=>x_idx 0 (N) rfl rfl rfl sl22 rfl (by omega) fun z1 hz1 b4 o2=>(dk_ptD default hz1 0 rfl));intro b4 o2)
    (apply lxk_eq;(· rfl);(· exact d_x fun _=>x_ld_int 0 rfl rfl ld3 fun ⟨r1,r2⟩=>dk_eq))
    (apply lxk_run 1;(· rfl);(· simp))
    refine lxk_end rfl ?_
    simp only [List.map_cons,List.map_nil,List.cons_append,List.nil_append]
    refine j_nf [_,_,_,_,_,_] rfl ?_
    refine j_ifn rfl rfl (fun h5=>?_) (fun h5=>by exfalso;omega)
    refine j_nf [_,_,_,_,_,_,_] rfl ?_
    refine j_run it 2 rfl (by simp) ?_
    refine j_nf [_,_,_,_,_,_] rfl ?_
    refine j_add (slF I64 none 0 0 []) (fun w A _=>slF_nil I64 w A none 0) ?_
    refine j_giv [0] rfl rfl rfl ⟨_,_,rfl,rfl,rfl⟩
  ·rw [so_true (slB_iff.2 fun j h1 h2=>hno j h1 (by omega))]
   clear ih
   refine j_nf [_,_,_,_,_,_] rfl ?_
   refine j_run it 2 rfl (by simp) ?_
   refine j_step rfl (x_len sl25 rfl ?_)
   refine j_run it 1 rfl (by simp) ?_
   refine j_nf [_,_,_,_,_] rfl ?_
   refine j_if rfl rfl (fun h4=>by exfalso;omega) (fun h4=>?_)
   refine j_nf [_,_] rfl ?_
   refine j_step rfl (x_field rfl fd57_0 ?_)
   refine j_step rfl (x_bld 0 rfl rfl ld3 rfl ?_)
   refine j_step rfl (x_make_nat (N) _ rfl rfl sl22 zo22e by22e (by omega) (by omega) (by omega) fun b3=>?_)
   refine j_run it 1 rfl (by simp) ?_
   refine j_nf [_,_,_] rfl ?_
   refine j_run it 1 rfl (by simp) ?_
   refine j_nf [_,_,_] rfl ?_
   rw [show natCells .i64 (List.replicate N 0) = intCells .i64 (slK N E 0) by rw [slK_zero];simp [natCells,intCells,zW]]
   refine j_loopG (X:=Nat) [4,11,12,14] [0,1,2,3,4,5,6,7] (fun i=>[(15,.int .i64 (i : Int))]) (fun i=>(some b3,3,intCells .i64 (slK N E i))::_) (fun _=>[]) (fun i=>i ≤ E.2.length) (fun i=>E.2.length - i) 0 [] rfl rfl rfl (Nat.zero_le _) (by repeat (first | exact Fr.sub_nil _ | refine Fr.sub_cons rfl ?_)) rfl rfl ?_
   rintro i hi ih
   simp only [List.cons_append,List.nil_append] at hi ih ⊢
   by_cases h9 : i < E.2.length
   ·obtain ⟨a,hpa⟩ : ∃ a,E.2[i]? = some a:=⟨_,List.getElem?_eq_getElem h9⟩
    have at_p : (toI E.2)[i]? = some (a : Int):=by rw [toI,List.getElem?_map,hpa];rfl
    have ep:=gd_at at_p
    have haN:=hEe.lt a (List.mem_of_getElem? hpa)
    have hr : E.1[i]? = some (row0 E.1 i):=by rw [row0,List.getD_eq_getElem?_getD,List.getElem?_eq_getElem (by omega)];rfl
    have er:=gd_at hr
    have hrl : (E.1.getD i default).length = N + 1:=by rw [er];exact (hEM.row (by omega)).1
    have hpl : (toI E.2).length = E.2.length:=List.length_map _
    have ih':=ih (i + 1) (by omega) (by omega)
    rw [← slK_set hEe hpa,en,← er,show at0 (E.1.getD i default) N = (E.1.getD i default).getD N default from rfl] at ih'
    have hln:=slK_len (n:=N) (k:=i) (E:=E)
    generalize slK N E i = L at *
    refine j_nf [_,_,_,_,_,_] rfl ?_
    refine j_run it 2 rfl (by simp) ?_
    refine j_step rfl (x_len sl22 rfl ?_)
    refine j_run it 1 rfl (by simp) ?_
    refine j_nf [_,_,_,_,_] rfl ?_
    refine j_if rfl rfl (fun h5=>?_) (fun h5=>by exfalso;omega)
    refine j_nf [_,_,_,_,_,_] rfl ?_
    (apply j_drawK it mx 13;(· rfl);(· rfl))
    (apply lxk_run 3;(· rfl);(· simp))
    (apply lxk_pt;(· rfl);(· exact d_x fun _=>x_idx 1 (i) rfl rfl rfl sl22 rfl (by omega) fun z1 hz1 b4 o1=>(dk_ptD default hz1 0 rfl));intro b4 o1)
    (apply lxk_eq;(· rfl);(· exact d_x fun _=>x_ld_int 0 rfl rfl ld3 fun ⟨r1,r2⟩=>dk_eq))
    (apply lxk_run 2;(· rfl);(· simp))
    (apply lxk_pt;(· rfl);(· exact d_x fun _=>x_idx 0 (i) rfl rfl rfl sl25 rfl (by omega) fun z1 hz1 b5 o2=>(dk_ptD default hz1 0 rfl));intro b5 o2)
    (apply lxk_sl;(· rfl);(· exact d_x fun _=>x_ld_sl 0 rfl rfl ld22 fun pa1 ca1=>(dk_sl 0 rfl));intro pa1 ca1)
    (apply lxk_eq;(· rfl);(· exact d_x fun _=>x_field rfl fd57_0 dk_eq))
    (apply lxk_eq;(· rfl);(· exact d_bld 1 rfl rfl ld3 rfl))
    (apply lxk_pt;(· rfl);(· exact d_x fun _=>x_idx 0 (N) rfl rfl rfl sl22 rfl (by omega) fun z1 hz1 b6 o3=>(dk_ptD default hz1 0 rfl));intro b6 o3)
    (apply lxk_eq;(· rfl);(· exact d_x fun _=>x_ld_int 0 rfl rfl ld3 fun ⟨r1,r2⟩=>dk_eq))
    refine lxk_end rfl ?_
    simp only [List.map_cons,List.map_nil,List.cons_append,List.nil_append]
    refine j_step rfl (x_idx_own (((toI E.snd).getD i default : Int).toNat) (((toI E.snd).getD i default : Int).toNat) rfl rfl sl22 (by omega) (by omega) (Nat.mul_one _) ?_)
    refine j_step rfl (x_bst_int 0 rfl rfl rfl ld3 (by first | omega | (simp;omega)) ?_)
    refine j_nf [_,_,_,_] rfl ?_
    refine j_run it 3 rfl ⟨trivial,⟨by omega,by omega⟩,trivial,trivial⟩ ?_
    refine j_nfn 1 [.lp (pL 16372),.blk 4,.c (pL 2047)] rfl ?_
    simp only [setB]
    rw [show ((toI E.2).getD i default).toNat = a by rw [ep,Int.toNat_natCast]]
    refine j_to [4,5,6,7,8,9,10,11] (by exact fra rfl) rfl rfl (ih')
   ·obtain rfl : i = E.2.length:=by omega
    rw [slK_end]
    clear ih
    have hX:=(fok_fo K).slX_wd hEM hEe
    have hXl:=hX.1
    generalize slX N E = X at *
    refine j_nf [_,_,_,_,_,_] rfl ?_
    refine j_run it 2 rfl (by simp) ?_
    refine j_step rfl (x_len sl22 rfl ?_)
    refine j_run it 1 rfl (by simp) ?_
    refine j_nf [_,_,_,_,_] rfl ?_
    refine j_if rfl rfl (fun h5=>by exfalso;omega) (fun h5=>?_)
    refine j_nf [_,_] rfl ?_
    refine j_run it 3 rfl (by simp) ?_
    refine j_nf [_] rfl ?_
    refine j_rowInt 0 rfl hXl.symm (fun y hy=>by have:=hX.2 y hy;simp only [InR];omega) (by omega) ?_
    refine j_pubR 0 0 rfl rfl (by show N * 8 ≤ 140737488355328;omega) ?_
    simp only [List.eraseIdx_cons_zero,List.eraseIdx_cons_succ]
    rw [← hXl]
    refine j_giv [0] rfl rfl rfl ⟨_,_,rfl,rfl,rfl⟩
open Go Go.Fw
set_option maxRecDepth 100000
set_option linter.unusedVariables false
set_option linter.unusedSimpArgs false
set_option maxHeartbeats 8000000
theorem S_codewrightref11_Compare {pl pk : Option Addr} {nl cl nk ck : Nat} {l k : List Int} :
  Ctr Tryz.prog 28 [.slice pl nl cl,.slice pk nk ck] [] [slF I64 pl nl cl l,slF I64 pk nk ck k] (fun v Φ β=>∃ e : Int,v = .int .i64 e ∧ Φ = [] ∧ β = [] ∧ (e = 0 ↔ l = k)):=by
 refine Ctr_of_j' (F:=F_codewrightref11_Compare) rfl fun C=>?_
 refine j_len 0 rfl fun hn hb _=>?_
 refine j_len 1 rfl fun hn2 hb2 _=>?_
 subst hn
 subst hn2
 have hb' : l.length * 8 ≤ 140737488355328:=hb
 have hb2' : k.length * 8 ≤ 140737488355328:=hb2
 refine j_nf [_,_] rfl ?_
 refine j_run it 1 rfl (by simp) ?_
 refine j_nf [_,_,_] rfl ?_
 refine j_run it 1 rfl (by simp) ?_
 refine j_nf [_,_,_] rfl ?_
 refine j_loopG (X:=Nat) [0,1] [0,1] (fun i=>[(5,.int .i64 (i : Int))]) (fun _=>[]) (fun _=>[]) (fun i=>i ≤ l.length ∧ i ≤ k.length ∧ ∀ j,j < i → l[j]? = k[j]?) (fun i=>l.length - i) 0 [] rfl rfl rfl ⟨Nat.zero_le _,Nat.zero_le _,fun j h=>by omega⟩ (by repeat (first | exact Fr.sub_nil _ | refine Fr.sub_cons rfl ?_)) rfl rfl ?_
 rintro i ⟨hi,hi2,hno⟩ ih
 simp only [List.cons_append,List.nil_append] at hi hi2 ih ⊢
 by_cases h9 : i < l.length
 ·by_cases h8 : i < k.length
  ·obtain ⟨y,hy⟩ : ∃ y,l[i]? = some y:=⟨_,List.getElem?_eq_getElem h9⟩
   obtain ⟨z,hz⟩ : ∃ z,k[i]? = some z:=⟨_,List.getElem?_eq_getElem h8⟩
   have ey:=gd_at hy
   have ez:=gd_at hz
   have hne : y ≠ z → l ≠ k:=fun h e=>by rw [e,hz] at hy;exact h (Option.some.inj hy).symm
   by_cases h7 : y < z
   ·refine j_nf [_,_,_,_,_,_] rfl ?_
    refine j_run it 2 rfl (by simp) ?_
    refine j_step rfl (x_len sl22 rfl ?_)
    refine j_run it 2 rfl (by simp) ?_
    refine j_split_dec (t:=10) rfl (fun h1=>?_) (fun h1=>by exfalso;omega)
    refine j_run it 2 rfl (by simp) ?_
    refine j_gstep rfl rfl (x_len sl22 rfl ?_)
    refine j_run it 2 rfl (by simp) ?_
    refine j_nf [_,_,_,_,_] rfl ?_
    refine j_if rfl rfl (fun h2=>?_) (fun h2=>by exfalso;omega)
    refine j_nf [_,_,_,_,_,_,_,_] rfl ?_
    (apply j_drawK it mx 9;(· rfl);(· rfl))
    (apply lxk_run 2;(· rfl);(· simp))
    (apply lxk_pt;(· rfl);(· exact d_x fun _=>x_idx 0 (i) rfl rfl rfl sl22 rfl (by omega) fun z1 hz1 b1 o1=>(dk_ptD default hz1 0 rfl));intro b1 o1)
    (apply lxk_eq;(· rfl);(· exact d_x fun _=>x_ld_int 0 rfl rfl ld3 fun ⟨r1,r2⟩=>dk_eq))
    (apply lxk_run 2;(· rfl);(· simp))
    (apply lxk_pt;(· rfl);(· exact d_x fun _=>x_idx 1 (i) rfl rfl rfl sl22 rfl (by omega) fun z1 hz1 b2 o2=>(dk_ptD default hz1 0 rfl));intro b2 o2)
    (apply lxk_eq;(· rfl);(· exact d_x fun _=>x_ld_int 0 rfl rfl ld3 fun ⟨r1,r2⟩=>dk_eq))
    (apply lxk_run 1;(· rfl);(· simp))
    refine lxk_end rfl ?_
    simp only [List.map_cons,List.map_nil,List.cons_append,List.nil_append]
    refine j_nf [_,_,_,_,_,_,_] rfl ?_
    refine j_if rfl rfl (fun h3=>?_) (fun h3=>by exfalso;omega)
    refine j_nf [_,_,_,_,_,_,_,_] rfl ?_
    refine j_run it 1 rfl (by simp) ?_
    refine j_nf [_,_,_,_,_,_,_] rfl ?_
    refine j_giv [] rfl rfl rfl ⟨_,rfl,rfl,rfl,⟨fun h=>by omega,fun h=>absurd h (hne (by omega))⟩⟩
   ·by_cases h6 : z < y
    ·refine j_nf [_,_,_,_,_,_] rfl ?_
     refine j_run it 2 rfl (by simp) ?_
     refine j_step rfl (x_len sl22 rfl ?_)
     refine j_run it 2 rfl (by simp) ?_
     refine j_split_dec (t:=10) rfl (fun h1=>?_) (fun h1=>by exfalso;omega)
     refine j_run it 2 rfl (by simp) ?_
     refine j_gstep rfl rfl (x_len sl22 rfl ?_)
     refine j_run it 2 rfl (by simp) ?_
     refine j_nf [_,_,_,_,_] rfl ?_
     refine j_if rfl rfl (fun h2=>?_) (fun h2=>by exfalso;omega)
     refine j_nf [_,_,_,_,_,_,_,_] rfl ?_
     (apply j_drawK it mx 9;(· rfl);(· rfl))
     (apply lxk_run 2;(· rfl);(· simp))
     (apply lxk_pt;(· rfl);(· exact d_x fun _=>x_idx 0 (i) rfl rfl rfl sl22 rfl (by omega) fun z1 hz1 b1 o1=>(dk_ptD default hz1 0 rfl));intro b1 o1)
     (apply lxk_eq;(· rfl);(· exact d_x fun _=>x_ld_int 0 rfl rfl ld3 fun ⟨r1,r2⟩=>dk_eq))
     (apply lxk_run 2;(· rfl);(· simp))
     (apply lxk_pt;(· rfl);(· exact d_x fun _=>x_idx 1 (i) rfl rfl rfl sl22 rfl (by omega) fun z1 hz1 b2 o2=>(dk_ptD default hz1 0 rfl));intro b2 o2)
     (apply lxk_eq;(· rfl);(· exact d_x fun _=>x_ld_int 0 rfl rfl ld3 fun ⟨r1,r2⟩=>dk_eq))
     (apply lxk_run 1;(· rfl);(· simp))
     refine lxk_end rfl ?_
     simp only [List.map_cons,List.map_nil,List.cons_append,List.nil_append]
     refine j_nf [_,_,_,_,_,_,_] rfl ?_
     refine j_if rfl rfl (fun h3=>by exfalso;omega) (fun h3=>?_)
     refine j_nf [_,_,_,_,_,_,_] rfl ?_
     (apply j_drawK it mx 9;(· rfl);(· rfl))
     (apply lxk_run 2;(· rfl);(· simp))
     (apply lxk_pt;(· rfl);(· exact d_x fun _=>x_idx 2 (i) rfl rfl rfl sl22 rfl (by omega) fun z1 hz1 b3 o3=>(dk_ptD default hz1 0 rfl));intro b3 o3)
     (apply lxk_eq;(· rfl);(· exact d_x fun _=>x_ld_int 0 rfl rfl ld3 fun ⟨r1,r2⟩=>dk_eq))
     (apply lxk_run 2;(· rfl);(· simp))
     (apply lxk_pt;(· rfl);(· exact d_x fun _=>x_idx 3 (i) rfl rfl rfl sl22 rfl (by omega) fun z1 hz1 b4 o4=>(dk_ptD default hz1 0 rfl));intro b4 o4)
     (apply lxk_eq;(· rfl);(· exact d_x fun _=>x_ld_int 0 rfl rfl ld3 fun ⟨r1,r2⟩=>dk_eq))
     (apply lxk_run 1;(· rfl);(· simp))
     refine lxk_end rfl ?_
     simp only [List.map_cons,List.map_nil,List.cons_append,List.nil_append]
     refine j_nf [_,_,_,_,_,_] rfl ?_
     refine j_if rfl rfl (fun h4=>?_) (fun h4=>by exfalso;omega)
     refine j_nf [_,_,_,_,_,_,_] rfl ?_
     refine j_run it 1 rfl (by simp) ?_
     refine j_nf [_,_,_,_,_,_] rfl ?_
     refine j_giv [] rfl rfl rfl ⟨_,rfl,rfl,rfl,⟨fun h=>by omega,fun h=>absurd h (hne (by omega))⟩⟩
    ·obtain rfl : y = z:=by omega
     refine j_nf [_,_,_,_,_,_] rfl ?_
     refine j_run it 2 rfl (by simp) ?_
     refine j_step rfl (x_len sl22 rfl ?_)
     refine j_run it 2 rfl (by simp) ?_
     refine j_split_dec (t:=10) rfl (fun h1=>?_) (fun h1=>by exfalso;omega)
     refine j_run it 2 rfl (by simp) ?_
     refine j_gstep rfl rfl (x_len sl22 rfl ?_)
     refine j_run it 2 rfl (by simp) ?_
     refine j_nf [_,_,_,_,_] rfl ?_
     refine j_if rfl rfl (fun h2=>?_) (fun h2=>by exfalso;omega)
     refine j_nf [_,_,_,_,_,_,_,_] rfl ?_
     (apply j_drawK it mx 9;(· rfl);(· rfl))
     (apply lxk_run 2;(· rfl);(· simp))
     (apply lxk_pt;(· rfl);(· exact d_x fun _=>x_idx 0 (i) rfl rfl rfl sl22 rfl (by omega) fun z1 hz1 b1 o1=>(dk_ptD default hz1 0 rfl));intro b1 o1)
     (apply lxk_eq;(· rfl);(· exact d_x fun _=>x_ld_int 0 rfl rfl ld3 fun ⟨r1,r2⟩=>dk_eq))
     (apply lxk_run 2;(· rfl);(· simp))
     (apply lxk_pt;(· rfl);(· exact d_x fun _=>x_idx 1 (i) rfl rfl rfl sl22 rfl (by omega) fun z1 hz1 b2 o2=>(dk_ptD default hz1 0 rfl));intro b2 o2)
     (apply lxk_eq;(· rfl);(· exact d_x fun _=>x_ld_int 0 rfl rfl ld3 fun ⟨r1,r2⟩=>dk_eq))
     (apply lxk_run 1;(· rfl);(· simp))
     refine lxk_end rfl ?_
     simp only [List.map_cons,List.map_nil,List.cons_append,List.nil_append]
     refine j_nf [_,_,_,_,_,_,_] rfl ?_
     refine j_if rfl rfl (fun h3=>by exfalso;omega) (fun h3=>?_)
     refine j_nf [_,_,_,_,_,_,_] rfl ?_
     (apply j_drawK it mx 9;(· rfl);(· rfl))
     (apply lxk_run 2;(· rfl);(· simp))
     (apply lxk_pt;(· rfl);(· exact d_x fun _=>x_idx 2 (i) rfl rfl rfl sl22 rfl (by omega) fun z1 hz1 b3 o3=>(dk_ptD default hz1 0 rfl));intro b3 o3)
     (apply lxk_eq;(· rfl);(· exact d_x fun _=>x_ld_int 0 rfl rfl ld3 fun ⟨r1,r2⟩=>dk_eq))
     (apply lxk_run 2;(· rfl);(· simp))
     (apply lxk_pt;(· rfl);(· exact d_x fun _=>x_idx 3 (i) rfl rfl rfl sl22 rfl (by omega) fun z1 hz1 b4 o4=>(dk_ptD default hz1 0 rfl));intro b4 o4)
     (apply lxk_eq;(· rfl);(· exact d_x fun _=>x_ld_int 0 rfl rfl ld3 fun ⟨r1,r2⟩=>dk_eq))
     (apply lxk_run 1;(· rfl);(· simp))
     refine lxk_end rfl ?_
     simp only [List.map_cons,List.map_nil,List.cons_append,List.nil_append]
     refine j_nf [_,_,_,_,_,_] rfl ?_
     refine j_if rfl rfl (fun h4=>by exfalso;omega) (fun h4=>?_)
     refine j_nf [_,_,_,_] rfl ?_
     refine j_run it 3 rfl ⟨trivial,⟨by omega,by omega⟩,trivial,trivial⟩ ?_
     refine j_nfn 1 [.lp [1,0,1,0,0],.blk 0,.c [1,1]] rfl ?_
     refine j_to [4,5] (by exact fra rfl) rfl rfl (ih (i + 1) (by omega) ⟨by omega,by omega,fun j hj=>by
      rcases Nat.lt_succ_iff_lt_or_eq.1 hj with h | rfl
      ·exact hno j h
      ·rw [hy,hz]⟩)
  ·clear ih
   refine j_nf [_,_,_,_,_,_] rfl ?_
   refine j_run it 2 rfl (by simp) ?_
   refine j_step rfl (x_len sl22 rfl ?_)
   refine j_run it 2 rfl (by simp) ?_
   refine j_split_dec (t:=10) rfl (fun h1=>?_) (fun h1=>by exfalso;omega)
   refine j_run it 2 rfl (by simp) ?_
   refine j_gstep rfl rfl (x_len sl22 rfl ?_)
   refine j_run it 2 rfl (by simp) ?_
   refine j_nf [_,_,_,_,_] rfl ?_
   refine j_if rfl rfl (fun h2=>by exfalso;omega) (fun h2=>?_)
   refine j_nf [_,_,_] rfl ?_
   refine j_run it 1 rfl (by simp) ?_
   refine j_step rfl (x_len sl22 rfl ?_)
   refine j_run it 1 rfl (by simp) ?_
   refine j_step rfl (x_len sl22 rfl ?_)
   refine j_run it 1 rfl (by simp) ?_
   refine j_nf [_,_] rfl ?_
   refine j_if rfl rfl (fun h3=>by exfalso;omega) (fun h3=>?_)
   refine j_nf [_,_,_] rfl ?_
   refine j_run it 1 rfl (by simp) ?_
   refine j_step rfl (x_len sl22 rfl ?_)
   refine j_run it 1 rfl (by simp) ?_
   refine j_step rfl (x_len sl22 rfl ?_)
   refine j_run it 1 rfl (by simp) ?_
   refine j_nf [_,_] rfl ?_
   refine j_if rfl rfl (fun h4=>?_) (fun h4=>by exfalso;omega)
   refine j_nf [_,_,_] rfl ?_
   refine j_run it 1 rfl (by simp) ?_
   refine j_nf [_,_] rfl ?_
   refine j_giv [] rfl rfl rfl ⟨_,rfl,rfl,rfl,⟨fun h=>by omega,fun h=>by rw [h] at h9;exact absurd h9 h8⟩⟩
 ·clear ih
  by_cases h8 : i < k.length
  ·refine j_nf [_,_,_,_,_,_] rfl ?_
   refine j_run it 2 rfl (by simp) ?_
   refine j_step rfl (x_len sl22 rfl ?_)
   refine j_run it 2 rfl (by simp) ?_
   refine j_split_dec (t:=10) rfl (fun h1=>by exfalso;omega) (fun h1=>?_)
   refine j_run it 5 rfl (by simp) ?_
   refine j_nf [_,_,_,_,_] rfl ?_
   refine j_false rfl rfl ?_
   refine j_nf [_,_,_] rfl ?_
   refine j_run it 1 rfl (by simp) ?_
   refine j_step rfl (x_len sl22 rfl ?_)
   refine j_run it 1 rfl (by simp) ?_
   refine j_step rfl (x_len sl22 rfl ?_)
   refine j_run it 1 rfl (by simp) ?_
   refine j_nf [_,_] rfl ?_
   refine j_if rfl rfl (fun h2=>?_) (fun h2=>by exfalso;omega)
   refine j_nf [_,_,_] rfl ?_
   refine j_run it 1 rfl (by simp) ?_
   refine j_nf [_,_] rfl ?_
   refine j_giv [] rfl rfl rfl ⟨_,rfl,rfl,rfl,⟨fun h=>by omega,fun h=>by rw [h] at h9;exact absurd h8 h9⟩⟩
  ·refine j_nf [_,_,_,_,_,_] rfl ?_
   refine j_run it 2 rfl (by simp) ?_
   refine j_step rfl (x_len sl22 rfl ?_)
   refine j_run it 2 rfl (by simp) ?_
   refine j_split_dec (t:=10) rfl (fun h1=>by exfalso;omega) (fun h1=>?_)
   refine j_run it 5 rfl (by simp) ?_
   refine j_nf [_,_,_,_,_] rfl ?_
   refine j_false rfl rfl ?_
   refine j_nf [_,_,_] rfl ?_
   refine j_run it 1 rfl (by simp) ?_
   refine j_step rfl (x_len sl22 rfl ?_)
   refine j_run it 1 rfl (by simp) ?_
   refine j_step rfl (x_len sl22 rfl ?_)
   refine j_run it 1 rfl (by simp) ?_
   refine j_nf [_,_] rfl ?_
   refine j_if rfl rfl (fun h2=>by exfalso;omega) (fun h2=>?_)
   refine j_nf [_,_,_] rfl ?_
   refine j_run it 1 rfl (by simp) ?_
   refine j_step rfl (x_len sl22 rfl ?_)
   refine j_run it 1 rfl (by simp) ?_
   refine j_step rfl (x_len sl22 rfl ?_)
   refine j_run it 1 rfl (by simp) ?_
   refine j_nf [_,_] rfl ?_
   refine j_if rfl rfl (fun h3=>by exfalso;omega) (fun h3=>?_)
   refine j_nf [_,_] rfl ?_
   refine j_run it 1 rfl (by simp) ?_
   refine j_nf [_] rfl ?_
   refine j_giv [] rfl rfl rfl ⟨_,rfl,rfl,rfl,⟨fun _=>List.ext_getElem? fun j=>?_,fun _=>rfl⟩⟩
   by_cases h : j < i
   ·exact hno j h
   ·rw [List.getElem?_eq_none (by omega),List.getElem?_eq_none (by omega)]
theorem S_codewrightref11_CompareS {pl pk : Option Addr} {nl cl nk ck : Nat} {l : List Int} {z : Int} (hz : z = 0) :
  Ctr Tryz.prog 28 [.slice pl nl cl,.slice pk nk ck] [] [slF I64 pl nl cl l,slF I64 pk nk ck l] (Rv (.int .i64 z) []) :=
 (S_codewrightref11_Compare (l:=l) (k:=l)).mono fun C w v Φ β' ⟨e,h1,h2,h3,h4⟩ hO hG=>⟨Φ,β',⟨by rw [h1,h4.2 rfl,hz],h2,h3⟩,hO,hG⟩
theorem S_codewrightref11_SameLists {pl pk : Option Addr} {nl cl nk ck : Nat} {l : List (List Int)} : Ctr Tryz.prog 10 [.slice pl nl cl,.slice pk nk ck] [] [slF (encSl I64) pl nl cl l,slF (encSl I64) pk nk ck l] (Rv (.bool true) []):=by
 refine Ctr_of_j' (F:=F_codewrightref11_SameLists) rfl fun C=>?_
 obtain ⟨z,hz⟩ : ∃ z : Int,z = 0:=⟨0,rfl⟩
 have c_codewrightref11_Compare:=fun {pl pk : Option Addr} {nl cl nk ck : Nat} {l : List Int}=>S_codewrightref11_CompareS (pl:=pl) (pk:=pk) (nl:=nl) (cl:=cl) (nk:=nk) (ck:=ck) (l:=l) hz
 refine j_len 0 rfl fun hn hb _=>?_
 refine j_len 1 rfl fun hn2 hb2 _=>?_
 subst hn
 subst hn2
 have hb' : l.length * 24 ≤ 140737488355328:=hb
 refine j_nf [_,_] rfl ?_
 refine j_run it 1 rfl (by simp) ?_
 refine j_nf [_,_,_] rfl ?_
 refine j_run it 1 rfl (by simp) ?_
 refine j_step rfl (x_len sl25 rfl ?_)
 refine j_run it 1 rfl (by simp) ?_
 refine j_step rfl (x_len sl25 rfl ?_)
 refine j_run it 1 rfl (by simp) ?_
 refine j_nf [_,_] rfl ?_
 refine j_ifn rfl rfl (fun h1=>by exfalso;omega) (fun h1=>?_)
 refine j_nf [_,_,_] rfl ?_
 refine j_run it 1 rfl (by simp) ?_
 refine j_nf [_,_,_] rfl ?_
 refine j_loopG (X:=Nat) [0,1] [0,1] (fun i=>[(5,.int .i64 (i : Int))]) (fun _=>[]) (fun _=>[]) (fun i=>i ≤ l.length) (fun i=>l.length - i) 0 [] rfl rfl rfl (Nat.zero_le _) (by repeat (first | exact Fr.sub_nil _ | refine Fr.sub_cons rfl ?_)) rfl rfl ?_
 rintro i hi ih
 simp only [List.cons_append,List.nil_append] at hi ih ⊢
 by_cases h9 : i < l.length
 ·refine j_nf [_,_,_,_,_,_] rfl ?_
  refine j_run it 2 rfl (by simp) ?_
  refine j_step rfl (x_len sl25 rfl ?_)
  refine j_run it 1 rfl (by simp) ?_
  refine j_nf [_,_,_,_,_] rfl ?_
  refine j_if rfl rfl (fun h2=>?_) (fun h2=>by exfalso;omega)
  refine j_nf [_,_,_,_,_,_,_] rfl ?_
  (apply j_drawK it mx 10;(· rfl);(· rfl))
  (apply lxk_run 2;(· rfl);(· simp))
  (apply lxk_pt;(· rfl);(· exact d_x fun _=>x_idx 0 (i) rfl rfl rfl sl25 rfl (by omega) fun z1 hz1 b1 o1=>(dk_ptD default hz1 0 rfl));intro b1 o1)
  (apply lxk_sl;(· rfl);(· exact d_x fun _=>x_ld_sl 0 rfl rfl ld22 fun pa1 ca1=>(dk_sl 0 rfl));intro pa1 ca1)
  (apply lxk_run 2;(· rfl);(· simp))
  (apply lxk_pt;(· rfl);(· exact d_x fun _=>x_idx 1 (i) rfl rfl rfl sl25 rfl (by omega) fun z1 hz1 b2 o2=>(dk_ptD default hz1 0 rfl));intro b2 o2)
  (apply lxk_sl;(· rfl);(· exact d_x fun _=>x_ld_sl 0 rfl rfl ld22 fun pa2 ca2=>(dk_sl 0 rfl));intro pa2 ca2)
  (apply lxk_eq;(· rfl);(· exact d_x fun _=>x_call [2,0] rfl (c_codewrightref11_Compare) rfl (by rintro _ _ _ ⟨rfl,rfl,rfl⟩;exact dk_eq)))
  (apply lxk_run 1;(· rfl);(· simp))
  refine lxk_end rfl ?_
  simp only [List.map_cons,List.map_nil,List.cons_append,List.nil_append]
  refine j_nf [_,_,_,_,_,_] rfl ?_
  refine j_ifn rfl rfl (fun h3=>by exfalso;omega) (fun h3=>?_)
  refine j_nf [_,_,_,_] rfl ?_
  refine j_run it 3 rfl ⟨trivial,⟨by omega,by omega⟩,trivial,trivial⟩ ?_
  refine j_nfn 1 [.lp (pL 116),.blk 0,.c [1,1,1]] rfl ?_
  refine j_to [4,5] (by exact fra rfl) rfl rfl (ih (i + 1) (by omega) (by omega))
 ·clear ih
  refine j_nf [_,_,_,_,_,_] rfl ?_
  refine j_run it 2 rfl (by simp) ?_
  refine j_step rfl (x_len sl25 rfl ?_)
  refine j_run it 1 rfl (by simp) ?_
  refine j_nf [_,_,_,_,_] rfl ?_
  refine j_if rfl rfl (fun h2=>by exfalso;omega) (fun h2=>?_)
  refine j_nf [_,_] rfl ?_
  refine j_run it 1 rfl (by simp) ?_
  refine j_nf [_] rfl ?_
  refine j_giv [] rfl rfl rfl ⟨rfl,rfl,rfl⟩
abbrev piL (w hs : List Int) : List Int:=hs.map fun j=>at0 w j.toNat
theorem S_codewrightref09_Pick {q N nw cw nh ch : Nat} {pw ph : Option Addr} {w hs : List Int} (hq : q ≤ 256) (h0 : 0 < q) (hw : Wd q N w) (hN : N ≤ 1000000) (hl : hs.length ≤ 1000000) (hst : ∀ x ∈ hs,0 ≤ x ∧ x < (N : Int)) :
  Ctr Tryz.prog 14 [.slice pw nw cw,.slice ph nh ch] [] [slF I64 pw nw cw w,slF I64 ph nh ch hs] (fun v Φ β=>∃ (pb : Option Addr) (cb : Nat),v = .slice pb hs.length cb ∧ Φ = [slF I64 pb hs.length cb (piL w hs)] ∧ β = []):=by
 refine Ctr_of_j' (F:=F_codewrightref09_Pick) rfl fun C=>?_
 refine j_len 0 rfl fun hn hb _=>?_
 subst hn
 refine j_len 1 rfl fun hn hb2 _=>?_
 subst hn
 have hwl:=hw.1
 have hTl : (piL w hs).length = hs.length:=List.length_map _
 have hTr : ∀ z ∈ piL w hs,InR .i64 z:=fun z hz=>by
  obtain ⟨j,_,rfl⟩:=List.mem_map.1 hz
  have:=wd_at h0 hw j.toNat
  simp only [InR];omega
 refine j_nf [_,_] rfl (j_run it 1 rfl (by simp) ?_)
 refine j_nf [_,_] rfl (j_run it 1 rfl (by simp) ?_)
 refine j_step rfl (x_len sl22 rfl ?_)
 refine j_step rfl (x_make_nat (hs.length) _ rfl rfl sl22 zo22e by22e (by omega) (by omega) (by omega) fun b1=>?_)
 refine j_run it 1 rfl (by simp) ?_
 refine j_nf [_,_,_] rfl (j_run it 1 rfl (by simp) ?_)
 refine j_nf [_,_,_] rfl ?_
 rw [show natCells .i64 (List.replicate hs.length 0) = intCells .i64 ((piL w hs).take 0++List.replicate (hs.length - 0) 0) by simp [natCells,intCells]]
 refine j_loopG (X:=Nat) [0,1,4,5] [0,1] (fun k=>[(6,.int .i64 (k : Int))]) (fun k=>(some b1,3,intCells .i64 ((piL w hs).take k++List.replicate (hs.length - k) 0))::_) (fun _=>[]) (fun k=>k ≤ hs.length) (fun k=>hs.length - k) 0 [] rfl rfl rfl (Nat.zero_le _) (by repeat (first | exact Fr.sub_nil _ | refine Fr.sub_cons rfl ?_)) rfl rfl ?_
 rintro k hk ihk
 simp only [List.cons_append,List.nil_append] at hk ihk ⊢
 by_cases h8 : k < hs.length
 ·obtain ⟨x,at_x⟩ : ∃ x,hs[k]? = some x:=⟨_,List.getElem?_eq_getElem h8⟩
  obtain ⟨x0,x1⟩:=hst x (List.mem_of_getElem? at_x)
  have hT : (piL w hs)[k]? = some (at0 w x.toNat):=by rw [piL,List.getElem?_map,at_x];rfl
  obtain ⟨x,rfl⟩:=Int.eq_ofNat_of_zero_le x0
  rw [Int.toNat_natCast] at hT
  have at_y : w[x]? = some (at0 w x):=by
   rw [at0,List.getD_eq_getElem?_getD,List.getElem?_eq_getElem (by omega)];rfl
  have ih':=ihk (k + 1) (by omega) (by omega)
  rw [← take_set hT h8] at ih'
  have hln : ((piL w hs).take k++List.replicate (hs.length - k) 0).length = hs.length:=by rw [List.length_append,List.length_take,List.length_replicate];omega
  generalize (piL w hs).take k++List.replicate (hs.length - k) 0 = L at *
  refine j_nf [_,_,_,_,_,_] rfl (j_run it 2 rfl (by simp) ?_)
  refine j_step rfl (x_len sl22 rfl ?_)
  refine j_run it 1 rfl (by simp) ?_
  refine j_nf [_,_,_,_,_] rfl (j_if rfl rfl (fun h1=>?_) (fun h1=>by exfalso;omega))
  refine j_nf [_,_,_,_,_,_] rfl (j_run it 5 rfl (by simp) ?_)
  refine j_step rfl (x_idx 1 (k) rfl rfl rfl sl22 rfl (by omega) fun z1 hz1 b2 o1=>?_)
  obtain rfl : _ = z1:=Option.some.inj (at_x.symm.trans hz1)
  refine j_step rfl (x_ld_int 0 rfl rfl ld3 fun ⟨r1,r2⟩=>?_)
  refine j_step rfl (x_idx 1 (x) rfl rfl rfl sl22 rfl (by omega) fun z1 hz2 b3 o2=>?_)
  obtain rfl : _ = z1:=Option.some.inj (at_y.symm.trans hz2)
  refine j_step rfl (x_ld_int 0 rfl rfl ld3 fun ⟨r3,r4⟩=>?_)
  refine j_step rfl (x_idx_own (k) (k) rfl rfl sl22 rfl (by omega) (Nat.mul_one _) ?_)
  refine j_step rfl (x_bst_int 0 rfl rfl rfl ld3 (by first | omega | (simp;omega)) ?_)
  refine j_nf [_,_,_,_] rfl (j_run it 3 rfl ⟨trivial,⟨by omega,by omega⟩,trivial,trivial⟩ ?_)
  refine j_nfn 1 [.lp (pL 116),.blk 0,.c [1,1,1]] rfl ?_
  refine j_to [2,3] (by exact fra rfl) rfl rfl (ih')
 ·obtain rfl : k = hs.length:=by omega
  rw [Nat.sub_self,List.replicate_zero,List.append_nil,List.take_of_length_le (by omega)]
  clear ihk
  refine j_nf [_,_,_,_,_,_] rfl (j_run it 2 rfl (by simp) ?_)
  refine j_step rfl (x_len sl22 rfl ?_)
  refine j_run it 1 rfl (by simp) ?_
  refine j_nf [_,_,_,_,_] rfl (j_if rfl rfl (fun h1=>by exfalso;omega) (fun h1=>?_))
  refine j_nf [_,_] rfl (j_run it 2 rfl (by simp) ?_)
  refine j_nf [_] rfl ?_
  refine j_rowInt 0 rfl hTl.symm hTr (by omega) ?_
  refine j_pubR 0 0 rfl rfl (by show hs.length * 8 ≤ 140737488355328;omega) ?_
  simp only [List.eraseIdx_cons_zero,List.eraseIdx_cons_succ]
  refine j_giv [0] rfl rfl rfl ⟨_,_,rfl,rfl,rfl⟩
theorem tr_hp {rows : List (List Int)} {hs : List Int} : trL rows.length (coL rows hs) = hpL rows hs:=by
 refine List.ext_getElem (by rw [trL,List.length_map,List.length_range,List.length_map]) fun k h1 h2=>?_
 rw [List.length_map] at h2
 simp only [trL,List.getElem_map,List.getElem_range,List.map_map]
 refine List.map_congr_left fun j _=>?_
 show at0 (colL rows j.toNat) k = at0 rows[k] j.toNat
 rw [at0,List.getD_eq_getElem?_getD,colL,List.getElem?_map,List.getElem?_eq_getElem h2];rfl
theorem S_codewrightref53_Coefficients {p m N n c nm cm nl cl nh ch : Nat} {pm ps pl ph : Option Addr} {md lost hs : List Int} {rows : List (List Int)} (CC : Cok p m md N rows) (hlo : stP N lost) (hst : stP N hs) (hB : coB p m md rows lost hs = true) :
  Ctr Tryz.prog 11 [.agg #[.int .i64 p,.int .i64 m,.slice pm nm cm,.int .i64 N,.slice ps n c],.slice pl nl cl,.slice ph nh ch] [] [slF I64 pm nm cm md,slF (encSl I64) ps n c rows,slF I64 pl nl cl lost,slF I64 ph nh ch hs]
   (fun v Φ β=>∃ (pb : Option Addr) (cb : Nat),v = .slice pb lost.length cb ∧ Φ = [slF (encSl I64) pb lost.length cb (coP p m md rows lost hs)] ∧ β = []):=by
 refine Ctr_of_j' (F:=F_codewrightref53_Coefficients) rfl fun C=>?_
 have hN:=CC.n64
 have hlr:=CC.len
 have hl1:=st_len hlo
 have hl2:=st_len hst
 have hq:=CC.K.q
 have q2:=(fok_fo CC.K).q2
 have hHM:=hp_mat (by omega) CC.mat hs
 have hlo1:=hlo.1
 have hst1:=hst.1
 refine j_len 1 rfl fun hn hb1 _=>?_
 subst hn
 refine j_len 2 rfl fun hn hb2 _=>?_
 subst hn
 refine j_len 3 rfl fun hn hb3 _=>?_
 subst hn
 have hb2' : lost.length * 8 ≤ 140737488355328:=hb2
 have hhc : (coL rows hs).length = hs.length:=List.length_map _
 have hlc : (coL rows lost).length = lost.length:=List.length_map _
 have c_codewrightref53_columns:=fun {n c nm cm nh ch : Nat} {pm ps ph : Option Addr} {l : List Int} (h1 : l.length ≤ 1000000) (h2 : ∀ x ∈ l,0 ≤ x ∧ x < (N : Int))=>S_codewrightref53_columnsP (n:=n) (c:=c) (nm:=nm) (cm:=cm) (nh:=nh) (ch:=ch) (pm:=pm) (ps:=ps) (ph:=ph) (hs:=l) CC h1 h2
 have c_codewrightref09_Turn:=fun {n c : Nat} {ps : Option Addr}=>S_codewrightref09_Turn (n:=n) (c:=c) (ps:=ps) (N:=rows.length) (W:=rows.length) (rows:=coL rows hs) (by omega) (Nat.le_refl _) fun r hr=>by
  obtain ⟨j,_,rfl⟩:=List.mem_map.1 hr
  exact List.length_map _
 rw [tr_hp] at c_codewrightref09_Turn
 refine j_nf [_,_] rfl ?_
 refine j_step rfl (x_box_agg rfl fun b1=>?_)
 refine j_run it 1 rfl (by simp) ?_
 refine j_nf [_,_] rfl ?_
 (apply j_drawK it mx 7;(· rfl);(· rfl))
 (apply lxk_eq;(· rfl);(· exact d_bld_all 0 rfl rfl ld27 rfl))
 (apply lxk_run 1;(· rfl);(· simp))
 (apply lxk_sl;(· rfl);(· exact d_x fun _=>x_call [1,3] rfl (c_codewrightref53_columns (by omega) (by omega)) rfl (by rintro _ _ _ ⟨pa1,ca1,rfl,rfl,rfl⟩;exact (dk_sl 0 rfl)));intro pa1 ca1)
 (apply lxk_eq;(· rfl);(· exact d_x fun _=>x_field rfl fd27_2 dk_eq))
 (apply lxk_eq;(· rfl);(· exact d_bld 0 rfl rfl ld25 rfl))
 (apply lxk_eq;(· rfl);(· exact d_x fun _=>x_len sl25 rfl dk_eq))
 (apply lxk_sl;(· rfl);(· exact d_x fun _=>x_call [0] rfl (c_codewrightref09_Turn) rfl (by rintro _ _ _ ⟨pb1,cb1,rfl,rfl,rfl⟩;exact (dk_sl 0 rfl)));intro pa2 ca2)
 refine lxk_end rfl ?_
 simp only [List.map_cons,List.map_nil,List.cons_append,List.nil_append]
 refine j_run it 1 rfl (by simp) ?_
 refine j_nf [_,_] rfl ?_
 refine j_step rfl (x_bld_all 0 rfl rfl ld27 rfl ?_)
 refine j_run it 1 rfl (by simp) ?_
 refine j_step rfl (x_call [3,4] rfl (c_codewrightref53_columns (by omega) (by omega)) rfl ?_)
 rintro _ _ _ ⟨pa3,ca3,rfl,rfl,rfl⟩
 simp only [List.cons_append,List.nil_append]
 refine j_run it 1 rfl (by simp) ?_
 refine j_nf [_,_] rfl ?_
 refine j_step rfl (x_lit0 sl25 fun b2=>?_)
 refine j_run it 1 rfl (by simp) ?_
 refine j_nf [_,_,_] rfl ?_
 refine j_run it 1 rfl (by simp) ?_
 refine j_nf [_,_,_] rfl ?_
 have hRl : (coP p m md rows lost hs).length = lost.length:=List.length_map _
 (apply j_rowlit (E:=encSl I64) (n:=0) (cs:=[]) [] [] 0 (fun w A hG=>allrd_nil);(· rfl);(· rfl);(· rfl);(· rfl);(· decide))
 refine j_loopG (X:=Nat × Nat × Nat × List Value) [1,2,3,6,7,8] [0,1,2,3,4,5,6,7] (fun x=>[(10,.int .i64 (x.1 : Int)),(9,.slice (some ⟨x.2.1,0,none⟩) x.1 x.2.2.1)]) (fun x=>(some x.2.1,22,x.2.2.2)::_) (fun x=>[rowF (encSl I64) ⟨some x.2.1,x.2.2.1,x.2.2.2⟩ x.1 ((coP p m md rows lost hs).take x.1)]) (fun x=>x.1 ≤ lost.length) (fun x=>lost.length - x.1) (0,b2,0,[]) [0] rfl rfl rfl (Nat.zero_le _) (by repeat (first | exact Fr.sub_nil _ | refine Fr.sub_cons rfl ?_)) rfl rfl ?_
 rintro ⟨i,b,cap,cs⟩ hi ih
 simp only [List.cons_append,List.nil_append] at hi ih ⊢
 by_cases h9 : i < lost.length
 ·obtain ⟨l,at_l⟩ : ∃ l,lost[i]? = some l:=⟨_,List.getElem?_eq_getElem h9⟩
  have hs1 : slB hs.length (eqP p m md rows hs l.toNat) = true:=List.all_eq_true.1 hB l (List.mem_of_getElem? at_l)
  have hcW:=wd_col (show 0 < p ^ m by omega) CC.mat l.toNat
  have hcl : (coL rows lost)[i]? = some (colL rows l.toNat):=by rw [coL,List.getElem?_map,at_l];rfl
  have ecl:=gd_at hcl
  have hcx : (coP p m md rows lost hs)[i]? = some (slX hs.length (eqP p m md rows hs l.toNat)):=by rw [coP,List.getElem?_map,at_l];rfl
  have ih':=fun b cap cs=>ih (i + 1,b,cap,cs) (by dsimp only;omega) (by dsimp only;omega)
  simp only [List.take_add_one,hcx,Option.toList_some] at ih'
  clear ih
  have c_codewrightref09_Solve:=fun {pm ps pb : Option Addr} {nm cm n c nb cb : Nat}=>S_codewrightref09_Solve (pm:=pm) (ps:=ps) (pb:=pb) (nm:=nm) (cm:=cm) (n:=n) (c:=c) (nb:=nb) (cb:=cb) CC.K (show hs.length ≤ 256 by omega) (show (hpL rows hs).length ≤ 256 by rw [List.length_map];omega) hHM (b:=colL rows l.toNat) (by rw [List.length_map];exact hcW)
  rw [show elP p m md hs.length 0 0 (auL (hpL rows hs) (colL rows l.toNat)) = eqP p m md rows hs l.toNat from rfl,so_true hs1,← ecl] at c_codewrightref09_Solve
  generalize slX hs.length (eqP p m md rows hs l.toNat) = X at *
  refine j_nf [_,_,_,_,_,_] rfl ?_
  refine j_run it 2 rfl (by simp) ?_
  refine j_step rfl (x_len sl22 rfl ?_)
  refine j_run it 1 rfl (by simp) ?_
  refine j_nf [_,_,_,_,_] rfl ?_
  refine j_if rfl rfl (fun h1=>?_) (fun h1=>by exfalso;omega)
  refine j_nf [_,_,_,_,_,_,_] rfl ?_
  (apply j_drawK it mx 15;(· rfl);(· rfl))
  (apply lxk_eq;(· rfl);(· exact d_x fun _=>x_field rfl fd27_0 dk_eq))
  (apply lxk_eq;(· rfl);(· exact d_bld_agg 1 rfl rfl ld24 rfl rfl))
  (apply lxk_run 1;(· rfl);(· simp))
  (apply lxk_eq;(· rfl);(· exact d_x fun _=>x_len sl22 rfl dk_eq))
  (apply lxk_run 1;(· rfl);(· simp))
  (apply lxk_fa (val:=fun g=>Value.agg #[Value.int IntKind.i64 ↑hs.length,Value.slice (g 1).1 (rows.length) (g 1).2.1]) (f:=fun g=>[slF (encSl I64) (g 1).1 (rows.length) (g 1).2.1 (hpL rows hs)]);(· rfl);(· exact d_x fun _=>x_build (cs:=[Value.int IntKind.i64 ↑hs.length,Value.slice pa2 rows.length ca2]) st57 zo57 rfl rfl (fun _ _ _ hG=>⟨(fun | 1=>(pa2,ca2,0,[]) | _=>default),rfl,fun g hg=>by (simp only [List.mem_cons,List.not_mem_nil,or_false] at hg;rcases hg with rfl;(· exact drop_own (hG _ (fact_mem (n:=3) rfl))))⟩));intro g1;dsimp only [List.map_cons,List.map_nil])
  (apply lxk_run 2;(· rfl);(· simp))
  (apply lxk_pt;(· rfl);(· exact d_x fun _=>x_idx 2 (i) rfl rfl rfl sl25 rfl (by omega) fun z1 hz1 b3 o1=>(dk_ptD default hz1 0 rfl));intro b3 o1)
  (apply lxk_sl;(· rfl);(· exact d_x fun _=>x_ld_sl 0 rfl rfl ld22 fun pa4 ca4=>(dk_sl 0 rfl));intro pa4 ca4)
  (apply lxk_fa (val:=(fun g=>Value.tuple #[Value.slice (g 0).fst X.length (g 1).snd.fst,Value.int IntKind.i64 0])) (f:=(fun g=>[slF I64 (g 0).fst X.length (g 1).snd.fst X]));(· rfl);(· exact d_x fun _=>x_call [8,2,0] rfl (c_codewrightref09_Solve) rfl (by rintro _ _ _ ⟨pbg0,cbg1,rfl,rfl,rfl⟩;exact fun _ _ _ hG=>⟨(fun | 0=>(pbg0,0,0,[]) | 1=>(none,cbg1,0,[]) | _=>default),rfl,fun g hg=>drop_own (hG _ (List.mem_append_left _ hg))⟩));intro g2;dsimp only [List.map_cons,List.map_nil])
  (apply lxk_fa (val:=fun g=>Value.tuple #[Value.slice (g 0).1 (X.length) (g 0).2.1,Value.int IntKind.i64 0]) (f:=fun g=>[slF (I64) (g 0).1 (X.length) (g 0).2.1 (X)]);(· rfl);(· exact d_x fun _=>x_pv it rfl (by trivial) (fun _ _ _ hG=>⟨(fun | 0=>((g2 0).fst,(g2 1).snd.fst,0,[]) | _=>default),rfl,fun g hg=>by (simp only [List.mem_cons,List.not_mem_nil,or_false] at hg;rcases hg with rfl;(· exact drop_own (hG _ (fact_mem (n:=0) rfl))))⟩));intro g3;dsimp only [List.map_cons,List.map_nil,List.cons_append,List.nil_append])
  (apply lxk_fa (val:=fun g=>Value.slice (g 0).1 (X.length) (g 0).2.1) (f:=fun g=>[slF (I64) (g 0).1 (X.length) (g 0).2.1 (X)]);(· rfl);(· exact d_x fun _=>x_pv it rfl (by trivial) (fun _ _ _ hG=>⟨(fun | 0=>((g3 0).fst,(g3 0).snd.fst,0,[]) | _=>default),rfl,fun g hg=>by (simp only [List.mem_cons,List.not_mem_nil,or_false] at hg;rcases hg with rfl;(· exact drop_own (hG _ (fact_mem (n:=0) rfl))))⟩));intro g4;dsimp only [List.map_cons,List.map_nil,List.cons_append,List.nil_append])
  (apply lxk_eq;(· rfl);(· exact d_x fun _=>x_pv it rfl (by trivial) dk_eq))
  (apply lxk_fa (val:=fun g=>Value.slice (g 0).1 (X.length) (g 0).2.1) (f:=fun g=>[slF (I64) (g 0).1 (X.length) (g 0).2.1 (X)]);(· rfl);(· exact d_x fun _=>x_pv it rfl (by trivial) (fun _ _ _ hG=>⟨(fun | 0=>((g4 0).fst,(g4 0).snd.fst,0,[]) | _=>default),rfl,fun g hg=>by (simp only [List.mem_cons,List.not_mem_nil,or_false] at hg;rcases hg with rfl;(· exact drop_own (hG _ (fact_mem (n:=0) rfl))))⟩));intro g5;dsimp only [List.map_cons,List.map_nil,List.cons_append,List.nil_append])
  refine lxk_end rfl ?_
  simp only [List.map_cons,List.map_nil,List.cons_append,List.nil_append]
  refine j_run it 1 rfl (by simp) ?_
  refine j_nf [_,_,_,_,_,_] rfl ?_
  refine j_run it 2 rfl (by simp) ?_
  refine j_step rfl (x_lit sl25 zo25e rfl rfl rfl rfl (by decide) (by decide) rfl fun b4=>?_)
  refine j_step rfl (x_appR (z:=X) 1 0 7 rfl rfl rfl rfl rfl sl25 zo25e rfl (fun w A hG=>(rd_of_slF (hG _ (fact_mem (n:=0) rfl)))) (by omega) _ by25e (by omega) fun r1=>?_)
  refine j_run it 1 rfl (by simp) ?_
  refine j_nf [_,_,_,_] rfl ?_
  refine j_run it 3 rfl ⟨trivial,⟨by omega,by omega⟩,trivial,trivial⟩ ?_
  refine j_nfn 1 [.lp (pL 500),.blk 0,.c [1,1,1,1,1]] rfl ?_
  refine j_rowB 0 rfl (by omega) fun b9 cap9 cs9 hr=>?_
  subst hr
  dsimp only
  refine j_toM [true,false,true] [0,9,10,11,12,13,14,15,16] (by exact fra rfl) rfl rfl (ih' b9 cap9 cs9)
 ·obtain rfl : i = lost.length:=by omega
  rw [List.take_of_length_le (by omega)]
  clear ih
  generalize coP p m md rows lost hs = R at *
  refine j_pubR 0 0 rfl rfl (by show lost.length * 24 ≤ 140737488355328;omega) ?_
  simp only [List.eraseIdx_cons_zero,List.eraseIdx_cons_succ]
  refine j_nf [_,_,_,_,_,_] rfl ?_
  refine j_run it 2 rfl (by simp) ?_
  refine j_step rfl (x_len sl22 rfl ?_)
  refine j_run it 1 rfl (by simp) ?_
  refine j_nf [_,_,_,_,_] rfl ?_
  refine j_if rfl rfl (fun h1=>by exfalso;omega) (fun h1=>?_)
  refine j_nf [_,_] rfl ?_
  refine j_run it 2 rfl (by simp) ?_
  refine j_nf [_] rfl ?_
  refine j_giv [0] rfl rfl rfl ⟨_,_,rfl,rfl,rfl⟩
theorem eq_eqP {p m l : Nat} {md hs : List Int} {rows : List (List Int)} : eqP p m md rows hs l = eqE (liftI (fA p m)) (liftI (fM p (fpo m md))) (negI p m) (invI p m md) rows (hs.map Int.toNat) l:=by
 rw [eqP,elP,eqE,List.length_map,← auL_eq]
 refine congrArg (elimL _ _ _ _ _ 0 0) (congrArg (fun z=>auL z _) (List.map_congr_left fun r _=>?_))
 rw [pkL,List.map_map];rfl
theorem co_en {p m n : Nat} {md lost hs : List Int} {rows : List (List Int)} (CC : Cok p m md n rows) (hlo : stP n lost) : coB p m md rows lost hs = enB p m md rows lost hs:=by
 have O:=fok_fn CC.K
 rw [en_wt CC hlo,Bool.eq_iff_iff,Option.isNone_iff_eq_none,wt_none,coB,List.all_eq_true]
 refine forall_congr' fun l=>forall_congr' fun hl=>?_
 have:=hlo.1 l hl
 rw [eq_eqP,(O.wi CC.mat (hs_mat CC hs)).2 l.toNat (by omega),show hs.length = (hs.map Int.toNat).length by rw [List.length_map],O.sl_iff CC.mat]
 refine forall_congr' fun x=>forall_congr' fun hx=>?_
 rw [List.map_map];rfl
theorem co_word {p m n : Nat} {md lost hs msg : List Int} {rows : List (List Int)} {l : Int} (CC : Cok p m md n rows) (hB : coB p m md rows lost hs = true) (hl : l ∈ lost) (hx : Wd (p ^ m) rows.length msg) :
  dotL (liftI (fA p m)) (liftI (fM p (fpo m md))) (slX hs.length (eqP p m md rows hs l.toNat)) (piL (cbP p m md n msg rows) hs) = at0 (cbP p m md n msg rows) l.toNat:=by
 have O:=fok_fn CC.K
 have h1:=List.all_eq_true.1 hB l hl
 rw [eq_eqP,show hs.length = (hs.map Int.toNat).length by rw [List.length_map]] at h1
 have h2:=O.sl_word CC.mat h1 hx.2
 rw [eq_eqP,show hs.length = (hs.map Int.toNat).length by rw [List.length_map]]
 rw [pkL,List.map_map] at h2
 exact h2
theorem S_RepairCombines {P M N : Int} {n c nm cm nl cl na ca nh ch nx cx : Nat} {pm ps pl pa ph px : Option Addr} {md lost away hs msg : List Int} {rows : List (List Int)} (hN : InR .i64 N) :
  Ctr Tryz.prog 3 [.agg #[.int .i64 P,.int .i64 M,.slice pm nm cm,.int .i64 N,.slice ps n c,.slice pl nl cl,.slice pa na ca,.slice ph nh ch,.slice px nx cx]] [] [slF I64 pm nm cm md,slF (encSl I64) ps n c rows,slF I64 pl nl cl lost,slF I64 pa na ca away,slF I64 ph nh ch hs,slF I64 px nx cx msg] (Rv (.bool true) []):=by
 refine Ctr_of_j' (F:=F_codewrightlaw53_RepairCombines) rfl fun C=>?_
 have hr:=pairE_rng P M md N rows lost hs
 have c_codewrightlaw53_alive:=S_codewrightlaw53_alive
 by_cases h0 : pairE P M md N rows lost hs = 0
 ·have c_codewrightref53_Pair:=fun {n c nm cm nl cl nh ch : Nat} {pm ps pl ph : Option Addr}=>S_codewrightref53_Pair (pm:=pm) (nm:=nm) (cm:=cm) (ps:=ps) (n:=n) (c:=c) (pl:=pl) (nl:=nl) (cl:=cl) (ph:=ph) (nh:=nh) (ch:=ch) hN h0
  obtain ⟨p,m,N,rfl,rfl,rfl,CC,hlo,hhs,-⟩:=pair_of h0
  have c_codewrightref53_Enough:=fun {n c nm cm nl cl nh ch : Nat} {pm ps pl ph : Option Addr}=>S_codewrightref53_Enough (pm:=pm) (nm:=nm) (cm:=cm) (ps:=ps) (n:=n) (c:=c) (pl:=pl) (nl:=nl) (cl:=cl) (ph:=ph) (nh:=nh) (ch:=ch) CC hlo hhs
  rw [← co_en CC hlo] at c_codewrightref53_Enough
  have hl1:=st_len hlo
  have hl2:=st_len hhs
  have hN64:=CC.n64
  have hq:=CC.K.q
  have O:=fok_fn CC.K
  have q2:=O.q2
  refine j_len 2 rfl fun hn hb _=>?_
  subst hn
  refine j_len 4 rfl fun hn hb2 _=>?_
  subst hn
  have hXw : ∀ l,Wd (p ^ m) hs.length (slX hs.length (eqP p m md rows hs l)):=fun l=>by
   have h:=(fok_fo CC.K).elim (m:=hs.length) (auL_mat (hp_mat (by omega) CC.mat hs) (wd_col (show 0 < p ^ m by omega) CC.mat l).2)
   exact (fok_fo CC.K).slX_wd h.1 h.2.1
  have hRl : (coP p m md rows lost hs).length = lost.length:=List.length_map _
  have hRx : ∀ (i : Nat) (l : Int),lost[i]? = some l → (coP p m md rows lost hs)[i]? = some (slX hs.length (eqP p m md rows hs l.toNat)):=fun i l h=>by rw [coP,List.getElem?_map,h];rfl
  cases hB : coB p m md rows lost hs with
  | false =>
   have c_repair_Combine:=fun {n c nm cm nl cl nh ch : Nat} {pm ps pl ph : Option Addr}=>S_repair_Combine (pm:=pm) (nm:=nm) (cm:=cm) (ps:=ps) (n:=n) (c:=c) (pl:=pl) (nl:=nl) (cl:=cl) (ph:=ph) (nh:=nh) (ch:=ch) CC h0 hlo hhs hB
   simp only [Bool.false_eq_true,if_false] at c_repair_Combine
   rw [hB] at c_codewrightref53_Enough
   refine j_nf [_,_] rfl ?_
   refine j_step rfl (x_box_agg rfl fun b1=>?_)
   refine j_run it 1 rfl (by simp) ?_
   refine j_nf [_,_] rfl ?_
   refine j_step rfl (x_field rfl fd29_0 ?_)
   refine j_step rfl (x_bld_agg 0 rfl rfl ld27 rfl rfl ?_)
   refine j_step rfl (x_field rfl fd29_1 ?_)
   refine j_step rfl (x_bld 0 rfl rfl ld22 rfl ?_)
   refine j_step rfl (x_field rfl fd29_3 ?_)
   refine j_step rfl (x_bld 0 rfl rfl ld22 rfl ?_)
   refine j_step rfl (x_call [0,1,2,4] rfl (c_repair_Combine) rfl ?_)
   rintro _ _ _ ⟨pb1,cb1,rfl,rfl,rfl⟩
   simp only [List.cons_append,List.nil_append]
   refine j_run it 5 rfl (by simp) ?_
   refine j_nf [_,_] rfl ?_
   refine j_step rfl (x_field rfl fd29_0 ?_)
   refine j_step rfl (x_bld_agg 0 rfl rfl ld27 rfl rfl ?_)
   refine j_step rfl (x_field rfl fd29_1 ?_)
   refine j_step rfl (x_bld 0 rfl rfl ld22 rfl ?_)
   refine j_step rfl (x_field rfl fd29_3 ?_)
   refine j_step rfl (x_bld 0 rfl rfl ld22 rfl ?_)
   refine j_step rfl (x_call [1,2,3,5] rfl (c_codewrightref53_Pair) rfl ?_)
   rintro _ _ _ ⟨rfl,rfl,rfl⟩
   simp only [List.cons_append,List.nil_append]
   refine j_run it 1 rfl (by simp) ?_
   refine j_nf [_,_,_] rfl ?_
   refine j_run it 3 rfl (by simp) ?_
   refine j_split_dec (t:=28) rfl (fun h1=>?_) (fun h1=>by exfalso;omega)
   refine j_gstep rfl rfl (x_field rfl fd29_0 ?_)
   refine j_gstep rfl rfl (x_bld_agg 0 rfl rfl ld27 rfl rfl ?_)
   refine j_gstep rfl rfl (x_field rfl fd29_1 ?_)
   refine j_gstep rfl rfl (x_bld 0 rfl rfl ld22 rfl ?_)
   refine j_gstep rfl rfl (x_field rfl fd29_3 ?_)
   refine j_gstep rfl rfl (x_bld 0 rfl rfl ld22 rfl ?_)
   refine j_gstep rfl rfl (x_call [1,2,3,5] rfl (c_codewrightref53_Enough) rfl ?_)
   rintro _ _ _ ⟨rfl,rfl,rfl⟩
   simp only [List.cons_append,List.nil_append]
   simp only [decide_true]
   refine j_run it 2 rfl (by simp) ?_
   refine j_nf [_,_] rfl ?_
   refine j_true rfl rfl ?_
   refine j_nf [_,_] rfl ?_
   refine j_run it 1 rfl (by simp) ?_
   refine j_nf [_,_,_] rfl ?_
   refine j_run it 4 rfl (by simp) ?_
   refine j_split_ndec (t:=41) rfl (fun h2=>by exfalso;omega) (fun h2=>?_)
   refine j_gstep rfl rfl (x_call [] rfl (c_codewrightlaw53_alive) rfl ?_)
   rintro _ _ _ ⟨rfl,rfl,rfl⟩
   simp only [List.cons_append,List.nil_append]
   simp only [decide_true]
   refine j_run it 2 rfl (by simp) ?_
   refine j_nf [_,_] rfl ?_
   refine j_false rfl rfl ?_
   refine j_nf [_,_,_] rfl ?_
   refine j_run it 2 rfl (by simp) ?_
   refine j_nf [_,_] rfl ?_
   refine j_ifn rfl rfl (fun h3=>?_) (fun h3=>by exfalso;omega)
   refine j_nf [_,_,_] rfl ?_
   refine j_run it 1 rfl (by simp) ?_
   refine j_step rfl (x_len sl25 rfl ?_)
   refine j_run it 2 rfl (by simp) ?_
   refine j_nf [_,_] rfl ?_
   refine j_giv [] rfl rfl rfl ⟨rfl,rfl,rfl⟩
  | true =>
   have c_repair_Combine:=fun {n c nm cm nl cl nh ch : Nat} {pm ps pl ph : Option Addr}=>S_repair_Combine (pm:=pm) (nm:=nm) (cm:=cm) (ps:=ps) (n:=n) (c:=c) (pl:=pl) (nl:=nl) (cl:=cl) (ph:=ph) (nh:=nh) (ch:=ch) CC h0 hlo hhs hB
   simp only [if_true] at c_repair_Combine
   rw [hB] at c_codewrightref53_Enough
   have c_codewrightref53_Coefficients:=fun {n c nm cm nl cl nh ch : Nat} {pm ps pl ph : Option Addr}=>S_codewrightref53_Coefficients (pm:=pm) (nm:=nm) (cm:=cm) (ps:=ps) (n:=n) (c:=c) (pl:=pl) (nl:=nl) (cl:=cl) (ph:=ph) (nh:=nh) (ch:=ch) CC hlo hhs hB
   have c_codewrightref11_SameLists:=fun {pl pk : Option Addr} {nl cl nk ck : Nat} {l : List (List Int)}=>S_codewrightref11_SameLists (pl:=pl) (pk:=pk) (nl:=nl) (cl:=cl) (nk:=nk) (ck:=ck) (l:=l)
   by_cases hx : liE msg rows.length (p ^ m) = 0
   ·have hx:=liE_iff.1 hx
    have c_codewrightref12_Encode:=fun {n c nm cm nx cx : Nat} {pm ps px : Option Addr}=>S_codewrightref12_Encode_ok (n:=n) (c:=c) (nm:=nm) (cm:=cm) (nx:=nx) (cx:=cx) (pm:=pm) (ps:=ps) (px:=px) CC hx
    have hwW : Wd (p ^ m) N (cbP p m md N msg rows):=O.cmb_wd hx.2 CC.mat
    have hcw:=fun l hl=>co_word (l:=l) CC hB hl hx
    generalize cbP p m md N msg rows = w at *
    have hwl:=hwW.1
    have hpW : Wd (p ^ m) hs.length (piL w hs):=⟨List.length_map _,fun x hx=>by
     obtain ⟨j,_,rfl⟩:=List.mem_map.1 hx
     exact wd_at (by omega) hwW _⟩
    have c_codewrightref09_Pick:=fun {nw cw nh ch : Nat} {pw ph : Option Addr}=>S_codewrightref09_Pick (nw:=nw) (cw:=cw) (nh:=nh) (ch:=ch) (pw:=pw) (ph:=ph) hq (by omega) hwW (by omega) (show hs.length ≤ 1000000 by omega) hhs.1
    refine j_nf [_,_] rfl ?_
    refine j_step rfl (x_box_agg rfl fun b1=>?_)
    refine j_run it 1 rfl (by simp) ?_
    refine j_nf [_,_] rfl ?_
    refine j_step rfl (x_field rfl fd29_0 ?_)
    refine j_step rfl (x_bld_agg 0 rfl rfl ld27 rfl rfl ?_)
    refine j_step rfl (x_field rfl fd29_1 ?_)
    refine j_step rfl (x_bld 0 rfl rfl ld22 rfl ?_)
    refine j_step rfl (x_field rfl fd29_3 ?_)
    refine j_step rfl (x_bld 0 rfl rfl ld22 rfl ?_)
    refine j_step rfl (x_call [0,1,2,4] rfl (c_repair_Combine) rfl ?_)
    rintro _ _ _ ⟨pb1,cb1,rfl,rfl,rfl⟩
    simp only [List.cons_append,List.nil_append]
    refine j_run it 5 rfl (by simp) ?_
    refine j_nf [_,_] rfl ?_
    refine j_step rfl (x_field rfl fd29_0 ?_)
    refine j_step rfl (x_bld_agg 0 rfl rfl ld27 rfl rfl ?_)
    refine j_step rfl (x_field rfl fd29_1 ?_)
    refine j_step rfl (x_bld 0 rfl rfl ld22 rfl ?_)
    refine j_step rfl (x_field rfl fd29_3 ?_)
    refine j_step rfl (x_bld 0 rfl rfl ld22 rfl ?_)
    refine j_step rfl (x_call [1,2,3,5] rfl (c_codewrightref53_Pair) rfl ?_)
    rintro _ _ _ ⟨rfl,rfl,rfl⟩
    simp only [List.cons_append,List.nil_append]
    refine j_run it 1 rfl (by simp) ?_
    refine j_nf [_,_,_] rfl ?_
    refine j_run it 3 rfl (by simp) ?_
    refine j_split_dec (t:=28) rfl (fun h1=>?_) (fun h1=>by exfalso;omega)
    refine j_gstep rfl rfl (x_field rfl fd29_0 ?_)
    refine j_gstep rfl rfl (x_bld_agg 0 rfl rfl ld27 rfl rfl ?_)
    refine j_gstep rfl rfl (x_field rfl fd29_1 ?_)
    refine j_gstep rfl rfl (x_bld 0 rfl rfl ld22 rfl ?_)
    refine j_gstep rfl rfl (x_field rfl fd29_3 ?_)
    refine j_gstep rfl rfl (x_bld 0 rfl rfl ld22 rfl ?_)
    refine j_gstep rfl rfl (x_call [1,2,3,5] rfl (c_codewrightref53_Enough) rfl ?_)
    rintro _ _ _ ⟨rfl,rfl,rfl⟩
    simp only [List.cons_append,List.nil_append]
    simp only [decide_true]
    refine j_run it 2 rfl (by simp) ?_
    refine j_nf [_,_] rfl ?_
    refine j_false rfl rfl ?_
    refine j_nf [_,_,_] rfl ?_
    refine j_run it 4 rfl (by simp) ?_
    refine j_split_ndec (t:=41) rfl (fun h2=>by exfalso;omega) (fun h2=>?_)
    refine j_gstep rfl rfl (x_call [] rfl (c_codewrightlaw53_alive) rfl ?_)
    rintro _ _ _ ⟨rfl,rfl,rfl⟩
    simp only [List.cons_append,List.nil_append]
    simp only [decide_true]
    refine j_run it 2 rfl (by simp) ?_
    refine j_nf [_,_] rfl ?_
    refine j_false rfl rfl ?_
    refine j_nf [_,_,_] rfl ?_
    refine j_run it 2 rfl (by simp) ?_
    refine j_nf [_,_] rfl ?_
    refine j_ifn rfl rfl (fun h3=>by exfalso;omega) (fun h3=>?_)
    refine j_nf [_,_,_] rfl ?_
    refine j_run it 1 rfl (by simp) ?_
    refine j_step rfl (x_field rfl fd29_0 ?_)
    refine j_step rfl (x_bld_agg 0 rfl rfl ld27 rfl rfl ?_)
    refine j_step rfl (x_field rfl fd29_1 ?_)
    refine j_step rfl (x_bld 0 rfl rfl ld22 rfl ?_)
    refine j_step rfl (x_field rfl fd29_3 ?_)
    refine j_step rfl (x_bld 0 rfl rfl ld22 rfl ?_)
    refine j_step rfl (x_call [1,2,3,5] rfl (c_codewrightref53_Coefficients) rfl ?_)
    rintro _ _ _ ⟨pb2,cb2,rfl,rfl,rfl⟩
    simp only [List.cons_append,List.nil_append]
    simp only [decide_true]
    refine j_step rfl (x_call [1,0] rfl (c_codewrightref11_SameLists) rfl ?_)
    rintro _ _ _ ⟨rfl,rfl,rfl⟩
    simp only [List.cons_append,List.nil_append]
    refine j_run it 1 rfl (by simp) ?_
    refine j_nf [_,_] rfl ?_
    refine j_false rfl rfl ?_
    refine j_nf [_,_] rfl ?_
    refine j_step rfl (x_field rfl fd29_0 ?_)
    refine j_step rfl (x_bld_agg 0 rfl rfl ld27 rfl rfl ?_)
    refine j_step rfl (x_field rfl fd29_4 ?_)
    refine j_step rfl (x_bld 0 rfl rfl ld22 rfl ?_)
    refine j_step rfl (x_call [2,3,7] rfl (c_codewrightref12_Encode) rfl ?_)
    rintro _ _ _ ⟨pb3,cb3,rfl,rfl,rfl⟩
    simp only [List.cons_append,List.nil_append]
    refine j_run it 5 rfl (by simp) ?_
    refine j_nf [_,_,_] rfl ?_
    refine j_run it 2 rfl (by simp) ?_
    refine j_nf [_,_] rfl ?_
    refine j_ifn rfl rfl (fun h4=>by exfalso;omega) (fun h4=>?_)
    refine j_nf [_,_,_] rfl ?_
    refine j_run it 1 rfl (by simp) ?_
    refine j_nf [_,_,_] rfl ?_
    refine j_loopG (X:=Nat) [1,3,6] [0,1,2,3,4,5,6,7,8] (fun i=>[(8,.int .i64 (i : Int))]) (fun _=>_) (fun _=>[]) (fun i=>i ≤ lost.length) (fun i=>lost.length - i) 0 [] rfl rfl rfl (Nat.zero_le _) (by repeat (first | exact Fr.sub_nil _ | refine Fr.sub_cons rfl ?_)) rfl rfl ?_
    rintro i hi ih
    simp only [List.cons_append,List.nil_append] at hi ih ⊢
    by_cases h9 : i < lost.length
    ·obtain ⟨l,at_l⟩ : ∃ l,lost[i]? = some l:=⟨_,List.getElem?_eq_getElem h9⟩
     obtain ⟨l0,l1⟩:=hlo.1 l (List.mem_of_getElem? at_l)
     have el:=gd_at at_l
     have ex:=gd_at (hRx i l at_l)
     have hd:=hcw l (List.mem_of_getElem? at_l)
     have hX:=hXw l.toNat
     rw [← ex] at hd hX
     have h7 : dotL (aF p m) (mF p m md) ((coP p m md rows lost hs).getD i default) (piL w hs) = w.getD (lost.getD i default).toNat default:=by rw [el];exact hd
     have c_codewrightref04_Dot:=fun {nm cm na ca nb cb : Nat} {pm pa pb : Option Addr}=>S_codewrightref04_Dot (nm:=nm) (cm:=cm) (na:=na) (ca:=ca) (nb:=nb) (cb:=cb) (pm:=pm) (pa:=pa) (pb:=pb) CC.K hX hpW
     clear hcw hd hRx hXw
     refine j_nf [_,_,_,_,_,_] rfl ?_
     refine j_run it 1 rfl (by simp) ?_
     refine j_step rfl (x_field rfl fd29_1 ?_)
     refine j_step rfl (x_bld 0 rfl rfl ld22 rfl ?_)
     refine j_step rfl (x_len sl22 rfl ?_)
     refine j_run it 1 rfl (by simp) ?_
     refine j_nf [_,_,_,_,_] rfl ?_
     refine j_if rfl rfl (fun h5=>?_) (fun h5=>by exfalso;omega)
     refine j_nf [_,_,_,_,_,_,_] rfl ?_
     (apply j_drawK it mx 21;(· rfl);(· rfl))
     (apply lxk_eq;(· rfl);(· exact d_x fun _=>x_field rfl fd29_0 dk_eq))
     (apply lxk_eq;(· rfl);(· exact d_x fun _=>x_field rfl fd27_0 dk_eq))
     (apply lxk_eq;(· rfl);(· exact d_bld_agg 0 rfl rfl ld24 rfl rfl))
     (apply lxk_run 2;(· rfl);(· simp))
     (apply lxk_pt;(· rfl);(· exact d_x fun _=>x_idx 2 (i) rfl rfl rfl sl25 rfl (by omega) fun z1 hz1 b2 o1=>(dk_ptD default hz1 0 rfl));intro b2 o1)
     (apply lxk_sl;(· rfl);(· exact d_x fun _=>x_ld_sl 0 rfl rfl ld22 fun pa1 ca1=>(dk_sl 0 rfl));intro pa1 ca1)
     (apply lxk_run 1;(· rfl);(· simp))
     (apply lxk_eq;(· rfl);(· exact d_x fun _=>x_field rfl fd29_3 dk_eq))
     (apply lxk_eq;(· rfl);(· exact d_bld 0 rfl rfl ld22 rfl))
     (apply lxk_sl;(· rfl);(· exact d_x fun _=>x_call [0,7] rfl (c_codewrightref09_Pick) rfl (by rintro _ _ _ ⟨pb4,cb4,rfl,rfl,rfl⟩;exact (dk_sl 0 rfl)));intro pa2 ca2)
     (apply lxk_eq;(· rfl);(· exact d_x fun _=>x_call [6,1,0] rfl (c_codewrightref04_Dot) rfl (by rintro _ _ _ ⟨rfl,rfl,rfl⟩;exact dk_eq)))
     (apply lxk_run 1;(· rfl);(· simp))
     (apply lxk_eq;(· rfl);(· exact d_x fun _=>x_field rfl fd29_1 dk_eq))
     (apply lxk_eq;(· rfl);(· exact d_bld 0 rfl rfl ld22 rfl))
     (apply lxk_run 1;(· rfl);(· simp))
     (apply lxk_pt;(· rfl);(· exact d_x fun _=>x_idx 5 (i) rfl rfl rfl sl22 rfl (by omega) fun z1 hz1 b3 o2=>(dk_ptD default hz1 0 rfl));intro b3 o2)
     (apply lxk_eq;(· rfl);(· exact d_x fun _=>x_ld_int 0 rfl rfl ld3 fun ⟨r1,r2⟩=>dk_eq))
     (apply lxk_pt;(· rfl);(· exact d_x fun _=>x_idx 1 ((lost.getD i default : Int).toNat) rfl rfl rfl sl22 (by omega) (by omega) fun z1 hz1 b4 o3=>(dk_ptD default hz1 0 rfl));intro b4 o3)
     (apply lxk_eq;(· rfl);(· exact d_x fun _=>x_ld_int 0 rfl rfl ld3 fun ⟨r1,r2⟩=>dk_eq))
     (apply lxk_run 1;(· rfl);(· simp))
     refine lxk_end rfl ?_
     simp only [List.map_cons,List.map_nil,List.cons_append,List.nil_append]
     refine j_nf [_,_,_,_,_,_] rfl ?_
     refine j_ifn rfl rfl (fun h6=>by exfalso;omega) (fun h6=>?_)
     refine j_nf [_,_,_,_] rfl ?_
     refine j_run it 3 rfl ⟨trivial,⟨by omega,by omega⟩,trivial,trivial⟩ ?_
     refine j_nfn 1 [.lp (pL 16372),.blk 0,.c (pL 2047)] rfl ?_
     refine j_to [5,6,7,8,9,10,11,12,13] (by exact fra rfl) rfl rfl (ih (i + 1) (by omega) (by omega))
    ·clear ih
     refine j_nf [_,_,_,_,_,_] rfl ?_
     refine j_run it 1 rfl (by simp) ?_
     refine j_step rfl (x_field rfl fd29_1 ?_)
     refine j_step rfl (x_bld 0 rfl rfl ld22 rfl ?_)
     refine j_step rfl (x_len sl22 rfl ?_)
     refine j_run it 1 rfl (by simp) ?_
     refine j_nf [_,_,_,_,_] rfl ?_
     refine j_if rfl rfl (fun h5=>by exfalso;omega) (fun h5=>?_)
     refine j_nf [_,_] rfl ?_
     refine j_run it 1 rfl (by simp) ?_
     refine j_nf [_] rfl ?_
     refine j_giv [] rfl rfl rfl ⟨rfl,rfl,rfl⟩
   ·have c_codewrightref12_Encode:=fun {n c nm cm nx cx : Nat} {pm ps px : Option Addr}=>S_codewrightref12_Encode_bad (n:=n) (c:=c) (nm:=nm) (cm:=cm) (nx:=nx) (cx:=cx) (pm:=pm) (ps:=ps) (px:=px) CC rfl hx
    refine j_nf [_,_] rfl ?_
    refine j_step rfl (x_box_agg rfl fun b1=>?_)
    refine j_run it 1 rfl (by simp) ?_
    refine j_nf [_,_] rfl ?_
    refine j_step rfl (x_field rfl fd29_0 ?_)
    refine j_step rfl (x_bld_agg 0 rfl rfl ld27 rfl rfl ?_)
    refine j_step rfl (x_field rfl fd29_1 ?_)
    refine j_step rfl (x_bld 0 rfl rfl ld22 rfl ?_)
    refine j_step rfl (x_field rfl fd29_3 ?_)
    refine j_step rfl (x_bld 0 rfl rfl ld22 rfl ?_)
    refine j_step rfl (x_call [0,1,2,4] rfl (c_repair_Combine) rfl ?_)
    rintro _ _ _ ⟨pb1,cb1,rfl,rfl,rfl⟩
    simp only [List.cons_append,List.nil_append]
    refine j_run it 5 rfl (by simp) ?_
    refine j_nf [_,_] rfl ?_
    refine j_step rfl (x_field rfl fd29_0 ?_)
    refine j_step rfl (x_bld_agg 0 rfl rfl ld27 rfl rfl ?_)
    refine j_step rfl (x_field rfl fd29_1 ?_)
    refine j_step rfl (x_bld 0 rfl rfl ld22 rfl ?_)
    refine j_step rfl (x_field rfl fd29_3 ?_)
    refine j_step rfl (x_bld 0 rfl rfl ld22 rfl ?_)
    refine j_step rfl (x_call [1,2,3,5] rfl (c_codewrightref53_Pair) rfl ?_)
    rintro _ _ _ ⟨rfl,rfl,rfl⟩
    simp only [List.cons_append,List.nil_append]
    refine j_run it 1 rfl (by simp) ?_
    refine j_nf [_,_,_] rfl ?_
    refine j_run it 3 rfl (by simp) ?_
    refine j_split_dec (t:=28) rfl (fun h1=>?_) (fun h1=>by exfalso;omega)
    refine j_gstep rfl rfl (x_field rfl fd29_0 ?_)
    refine j_gstep rfl rfl (x_bld_agg 0 rfl rfl ld27 rfl rfl ?_)
    refine j_gstep rfl rfl (x_field rfl fd29_1 ?_)
    refine j_gstep rfl rfl (x_bld 0 rfl rfl ld22 rfl ?_)
    refine j_gstep rfl rfl (x_field rfl fd29_3 ?_)
    refine j_gstep rfl rfl (x_bld 0 rfl rfl ld22 rfl ?_)
    refine j_gstep rfl rfl (x_call [1,2,3,5] rfl (c_codewrightref53_Enough) rfl ?_)
    rintro _ _ _ ⟨rfl,rfl,rfl⟩
    simp only [List.cons_append,List.nil_append]
    simp only [decide_true]
    refine j_run it 2 rfl (by simp) ?_
    refine j_nf [_,_] rfl ?_
    refine j_false rfl rfl ?_
    refine j_nf [_,_,_] rfl ?_
    refine j_run it 4 rfl (by simp) ?_
    refine j_split_ndec (t:=41) rfl (fun h2=>by exfalso;omega) (fun h2=>?_)
    refine j_gstep rfl rfl (x_call [] rfl (c_codewrightlaw53_alive) rfl ?_)
    rintro _ _ _ ⟨rfl,rfl,rfl⟩
    simp only [List.cons_append,List.nil_append]
    simp only [decide_true]
    refine j_run it 2 rfl (by simp) ?_
    refine j_nf [_,_] rfl ?_
    refine j_false rfl rfl ?_
    refine j_nf [_,_,_] rfl ?_
    refine j_run it 2 rfl (by simp) ?_
    refine j_nf [_,_] rfl ?_
    refine j_ifn rfl rfl (fun h3=>by exfalso;omega) (fun h3=>?_)
    refine j_nf [_,_,_] rfl ?_
    refine j_run it 1 rfl (by simp) ?_
    refine j_step rfl (x_field rfl fd29_0 ?_)
    refine j_step rfl (x_bld_agg 0 rfl rfl ld27 rfl rfl ?_)
    refine j_step rfl (x_field rfl fd29_1 ?_)
    refine j_step rfl (x_bld 0 rfl rfl ld22 rfl ?_)
    refine j_step rfl (x_field rfl fd29_3 ?_)
    refine j_step rfl (x_bld 0 rfl rfl ld22 rfl ?_)
    refine j_step rfl (x_call [1,2,3,5] rfl (c_codewrightref53_Coefficients) rfl ?_)
    rintro _ _ _ ⟨pb2,cb2,rfl,rfl,rfl⟩
    simp only [List.cons_append,List.nil_append]
    simp only [decide_true]
    refine j_step rfl (x_call [1,0] rfl (c_codewrightref11_SameLists) rfl ?_)
    rintro _ _ _ ⟨rfl,rfl,rfl⟩
    simp only [List.cons_append,List.nil_append]
    refine j_run it 1 rfl (by simp) ?_
    refine j_nf [_,_] rfl ?_
    refine j_false rfl rfl ?_
    refine j_nf [_,_] rfl ?_
    refine j_step rfl (x_field rfl fd29_0 ?_)
    refine j_step rfl (x_bld_agg 0 rfl rfl ld27 rfl rfl ?_)
    refine j_step rfl (x_field rfl fd29_4 ?_)
    refine j_step rfl (x_bld 0 rfl rfl ld22 rfl ?_)
    refine j_step rfl (x_call [2,3,7] rfl (c_codewrightref12_Encode) rfl ?_)
    rintro _ _ _ ⟨rfl,rfl,rfl⟩
    simp only [List.cons_append,List.nil_append]
    refine j_run it 5 rfl (by simp) ?_
    refine j_nf [_,_,_] rfl ?_
    refine j_run it 2 rfl (by simp) ?_
    refine j_nf [_,_] rfl ?_
    refine j_ifn rfl rfl (fun h4=>?_) (fun h4=>by exfalso;omega)
    refine j_nf [_,_,_] rfl ?_
    refine j_run it 1 rfl (by simp) ?_
    refine j_nf [_,_] rfl ?_
    refine j_giv [] rfl rfl rfl ⟨rfl,rfl,rfl⟩
 ·have c_codewrightref53_Pair:=fun {n c nm cm nl cl nh ch : Nat} {pm ps pl ph : Option Addr}=>S_codewrightref53_Pair (P:=P) (M:=M) (N:=N) (md:=md) (rows:=rows) (lost:=lost) (hs:=hs) (pm:=pm) (nm:=nm) (cm:=cm) (ps:=ps) (n:=n) (c:=c) (pl:=pl) (nl:=nl) (cl:=cl) (ph:=ph) (nh:=nh) (ch:=ch) hN rfl
  have c_repair_Combine:=fun {n c nm cm nl cl nh ch : Nat} {pm ps pl ph : Option Addr}=>S_repair_Combine_err (P:=P) (M:=M) (N:=N) (md:=md) (rows:=rows) (lost:=lost) (hs:=hs) (pm:=pm) (nm:=nm) (cm:=cm) (ps:=ps) (n:=n) (c:=c) (pl:=pl) (nl:=nl) (cl:=cl) (ph:=ph) (nh:=nh) (ch:=ch) hN rfl h0
  generalize pairE P M md N rows lost hs = e at *
  have hd:=decide_eq_true (show e = e from rfl)
  refine j_nf [_,_] rfl ?_
  refine j_step rfl (x_box_agg rfl fun b1=>?_)
  refine j_run it 1 rfl (by simp) ?_
  refine j_nf [_,_] rfl ?_
  refine j_step rfl (x_field rfl fd29_0 ?_)
  refine j_step rfl (x_bld_agg 0 rfl rfl ld27 rfl rfl ?_)
  refine j_step rfl (x_field rfl fd29_1 ?_)
  refine j_step rfl (x_bld 0 rfl rfl ld22 rfl ?_)
  refine j_step rfl (x_field rfl fd29_3 ?_)
  refine j_step rfl (x_bld 0 rfl rfl ld22 rfl ?_)
  refine j_step rfl (x_call [0,1,2,4] rfl (c_repair_Combine) rfl ?_)
  rintro _ _ _ ⟨pb1,cb1,rfl,rfl,rfl⟩
  simp only [List.cons_append,List.nil_append]
  refine j_run it 5 rfl (by simp) ?_
  refine j_nf [_,_] rfl ?_
  refine j_step rfl (x_field rfl fd29_0 ?_)
  refine j_step rfl (x_bld_agg 0 rfl rfl ld27 rfl rfl ?_)
  refine j_step rfl (x_field rfl fd29_1 ?_)
  refine j_step rfl (x_bld 0 rfl rfl ld22 rfl ?_)
  refine j_step rfl (x_field rfl fd29_3 ?_)
  refine j_step rfl (x_bld 0 rfl rfl ld22 rfl ?_)
  refine j_step rfl (x_call [1,2,3,5] rfl (c_codewrightref53_Pair) rfl ?_)
  rintro _ _ _ ⟨rfl,rfl,rfl⟩
  simp only [List.cons_append,List.nil_append]
  refine j_run it 1 rfl (by simp) ?_
  refine j_nf [_,_,_] rfl ?_
  refine j_run it 3 rfl (by simp) ?_
  refine j_split_dec (t:=28) rfl (fun h1=>by exfalso;omega) (fun h1=>?_)
  refine j_run it 9 rfl (by simp) ?_
  refine j_nf [_,_] rfl ?_
  refine j_false rfl rfl ?_
  refine j_nf [_,_,_] rfl ?_
  refine j_run it 4 rfl (by simp) ?_
  refine j_split_ndec (t:=41) rfl (fun h2=>by exfalso;omega) (fun h2=>?_)
  refine j_gstep rfl rfl (x_call [] rfl (c_codewrightlaw53_alive) rfl ?_)
  rintro _ _ _ ⟨rfl,rfl,rfl⟩
  simp only [List.cons_append,List.nil_append]
  simp only [decide_true]
  refine j_run it 2 rfl (by simp) ?_
  refine j_nf [_,_] rfl ?_
  refine j_false rfl rfl ?_
  refine j_nf [_,_,_] rfl ?_
  refine j_run it 2 rfl (by simp) ?_
  refine j_nf [_,_] rfl ?_
  refine j_ifn rfl rfl (fun h3=>?_) (fun h3=>by exfalso;omega)
  refine j_nf [_,_,_] rfl ?_
  refine j_run it 1 rfl (by simp) ?_
  refine j_step rfl (x_len sl25 rfl ?_)
  refine j_run it 2 rfl (by simp) ?_
  refine j_nf [_,_] rfl ?_
  refine j_giv [] rfl rfl rfl ⟨rfl,rfl,rfl⟩
end Go.Proofs.YtlecjbjgbcdilaaGreat
