/-
Equations solved, in the program. Coefficients of repairs, in the program. Entries of a word at some places, in the document. Coefficients and what is enough; words rebuilt. Binary digits; powers by squaring; binomial coefficients. Short lists are put in order, in the library. Short lists are put in order by the library's Sort. The program's Plan. Lists compared, in the document. Equations solved, in the document. Entries picked and coefficients of repairs, in the document. The document's search for a smallest set of helpers. The document's Plan. Shapes and elements of plans in the program; lists compared in the document. Repair plans applied, in the document. Hitting trees in the document. The document's CheckProof. What Check answers; the document's Check. The program's Check; the law's function RepairChecks. Plans are right; the law's functions RepairPlans and RepairMinimal. Words of the dual code bar nothing: what a dual word through a lost position says of helpers. Dual codes and weights, in the document. The law's function RepairLocal: dual words have more entries than optimal plans have helpers. The law's function RepairLocal, with the loop behind it.
-/
import Derived.Test.YtkcmkomhnjppaaaGreatRL6
set_option linter.unusedVariables false
set_option linter.unusedSimpArgs false
namespace Go.Proofs.YtkcmkomhnjppaaaGreat
open Go Go.Fw
set_option maxRecDepth 100000
set_option linter.unusedVariables false
set_option linter.unusedSimpArgs false
set_option maxHeartbeats 0
abbrev SoQ (N : Nat) (E : List (List Int) × List Nat) : Value → List Fact → List Blk → Prop:=fun v Φ β=>∃ (pb : Option Addr) (cb : Nat),v = .tuple #[.slice pb (if slB N E then slX N E else []).length cb,.int .i64 (if slB N E then 0 else 11)] ∧ Φ = [slF I64 pb (if slB N E then slX N E else []).length cb (if slB N E then slX N E else [])] ∧ β = []
theorem S_matrix_Solve {p m n c nm cm N nb cb : Nat} {pm ps pb : Option Addr} {md b : List Int} {rows : List (List Int)} (K : Fok p m md) (hN : N ≤ 256) (hl : rows.length ≤ 256) (hM : Mat (p ^ m) N rows) (hb : Wd (p ^ m) rows.length b) :
  Ctr Tryz.prog 106 [.agg #[.int .i64 p,.int .i64 m,.slice pm nm cm],.agg #[.int .i64 N,.slice ps n c],.slice pb nb cb] [] [slF I64 pm nm cm md,slF (encSl I64) ps n c rows,slF I64 pb nb cb b]
   (SoQ N (elP p m md N 0 0 (auL rows b))):=by
 refine Ctr_of_j' (F:=F_matrix_Solve) rfl fun C=>?_
 have O:=fok_fo K
 have hq:=K.q
 refine j_len 1 rfl fun hn hbs _=>?_
 subst hn
 refine j_len 2 rfl fun hn hbb _=>?_
 have hbl:=hb.1
 rw [hbl] at hn
 subst hn
 have hbs' : rows.length * 24 ≤ 140737488355328:=hbs
 have c_matrix_open:=fun {pm ps : Option Addr} {nm cm n c : Nat}=>S_matrix_open_ok (pm:=pm) (nm:=nm) (cm:=cm) (ps:=ps) (n:=n) (c:=c) (Ms:=[((N : Int),rows)]) K (fun z hz=>by rw [List.mem_singleton.1 hz];simp only [InR];omega) (op_one (mtE_ok hN hl hM))
 have c_matrix_entries:=fun {b0 ng cg ne ce nl cl n c : Nat} {pg pe pl ps : Option Addr}=>S_matrix_entries (b:=b0) (p:=p) (m:=m) (q:=p ^ m) (ng:=ng) (cg:=cg) (ne:=ne) (ce:=ce) (nl:=nl) (cl:=cl) (n:=n) (c:=c) (pg:=pg) (pe:=pe) (pl:=pl) (ps:=ps) (l:=b) hq
 rw [entE,if_pos hb.2] at c_matrix_entries
 have c_matrix_clone:=fun {ps : Option Addr} {c : Nat}=>S_matrix_clone (ps:=ps) (m:=rows.length) (c:=c) (rows:=rows) (by omega)
 refine wk 8 cz ?_
 intro b1 b2 b3
 refine j_pub_all (E:=MatE) (n:=1) [[Value.int IntKind.i64 ↑N,Value.slice ps rows.length c]] [((↑N : Int),rows)] 0 (fun w A hG=>(allrd_cons (rd_pair (v1:=[Value.int IntKind.i64 ↑N]) (rd_int (by first | (simp only [InR];omega) | (simp [InR];done) | assumption)) (rd_of_slF (hG _ (fact_mem (n:=1) rfl)))) allrd_nil)) rfl rfl rfl rfl (by first | decide | exact Nat.le_of_ble_eq_true rfl) (by first | decide | exact Nat.le_of_ble_eq_true rfl) ?_
 refine wk 33 (ct @c_matrix_open (ct @c_matrix_entries (ct @c_matrix_clone cz))) ?_
 intro b4 pg1 cg1 pe1 ce1 pl1 cl1 h1 h2 h3 r1 hd1 cs1
 obtain ⟨ro,rcap,rcs⟩:=r1
 dsimp only
 refine j_perm (List.Perm.cons _ List.perm_append_comm) ?_
 simp only [List.eraseIdx_cons_zero,List.cons_append,List.nil_append]
 refine j_selT 3 [1,2,0] rfl rfl ?_
 simp only [List.cons_append,List.nil_append,List.drop_succ_cons,List.drop_zero]
 have hau : (auL rows b).length = rows.length:=auL_len hbl
 let ls : Nat → Nat → List Int:=fun i k=>if k < i then row0 (auL rows b) k else row0 rows k
 refine j_matCongr (ls 0) 1 rfl (fun g hg=>(if_neg (Nat.not_lt_zero g)).symm) ?_
 refine j_loopG (X:=Nat × List Value × (Nat → Hd) × (Nat → List Value)) [2,4,6,7,8,11,46] [3,5,6,8,9,10] (fun x=>[(47,.int .i64 (x.1 : Int))]) (fun x=>(some b2,67,[.int .i64 N,.slice ps rows.length c])::(some b1,24,[.int .i64 p,.int .i64 m,.slice pm nm cm])::(ro,22,x.2.1)::famB 3 x.2.2.1 x.2.2.2 rows.length [])
  (fun x=>[rowF hdE ⟨ro,rcap,x.2.1⟩ rows.length (hdl x.2.2.1 rows.length),matF I64 x.2.2.1 x.2.2.2 (ls x.1) rows.length []]) (fun x=>x.1 ≤ rows.length) (fun x=>rows.length - x.1) (0,rcs,hd1,cs1) [1,0] rfl rfl rfl (Nat.zero_le _) (by repeat (first | exact Fr.sub_nil _ | refine Fr.sub_cons rfl ?_)) rfl rfl ?_
 rintro ⟨i,hc,hd,cs⟩ hi ih
 simp only [List.cons_append,List.nil_append] at hi ih ⊢
 by_cases h9 : i < rows.length
 ·obtain ⟨x,at_x⟩ : ∃ x,b[i]? = some x:=⟨_,List.getElem?_eq_getElem (by omega)⟩
  have ex:=gd_at at_x
  obtain ⟨x0,x1⟩:=hb.2 x (List.mem_of_getElem? at_x)
  have hli : ls i i = row0 rows i:=if_neg (Nat.lt_irrefl i)
  refine j_hdlen 1 rfl fun hlen=>?_
  have hdi : (hd i).2.1 = N:=by rw [hlen i h9 rfl,hli];exact (hM.row h9).1
  refine j_rowB 0 rfl (by omega) fun b9 cap9 cs9 h9'=>?_
  obtain ⟨rfl,rfl,rfl⟩:=Row.mk.inj h9'
  refine j_focusL 3 (i) 1 (N) rfl rfl (by first | assumption | omega) (by first | rfl | assumption | (simp [memB_cons,memB];done) | (simp [memB_cons,memB];omega)) (by first | assumption | omega) fun r1 hr1=>?_
  simp only [List.take_succ_cons,List.take_zero,List.cons_append,List.nil_append]
  refine wk 7 cz ?_
  intro h4
  (refine j_selT 4 [0,1,2,3] rfl rfl ?_;apply j_drawKB it mx 1 12;(· rfl);(· rfl);(· rfl))
  (apply lxk_run 4;(· rfl);(· simp))
  (apply lxk_eq;(· rfl);(· exact d_x fun _=>x_idx_own (i) (i) rfl rfl sl25 rfl (by omega) (Nat.mul_one _) dk_eq))
  (apply lxk_eq;(· rfl);(· exact d_ldR_hd 2 2 (i) rfl rfl rfl ld22 rfl (by assumption)))
  dsimp only
  (apply lxk_run 2;(· rfl);(· simp))
  (apply lxk_pt;(· rfl);(· exact d_x fun _=>x_idx 9 (i) rfl rfl rfl sl22 rfl (by omega) fun z1 hz1 b5 o1=>(dk_ptD default hz1 0 rfl));intro b5 o1)
  (apply lxk_eq;(· rfl);(· exact d_x fun _=>x_ld_int 0 rfl rfl ld3 fun ⟨r2,r3⟩=>dk_eq))
  (apply lxk_sl;(· rfl);(· exact d_x fun _=>x_lit sl22 zo22e rfl rfl rfl rfl (by decide) (by decide) rfl fun b6=>dk_all (E:=I64) [[Value.int IntKind.i64 (b.getD i default)]] [b.getD i default] (fun w A hG=>(allrd_cons ⟨rfl,by first | assumption | (simp only [InR];omega)⟩ allrd_nil)) rfl rfl rfl (by first | decide | exact Nat.le_of_ble_eq_true rfl));intro pa1 ca1)
  (apply lxk_app (m:=1) 2 0;(· rfl);(· rfl);(· rfl);(· rfl);(· rfl);(· exact sl22);(· exact zo22e);(· rfl);(· (first | omega | (simp;done)));(· (first | omega | (simp only [List.length_cons,List.length_nil];omega)));(· exact by22e);(· (first | omega | (simp only [List.length_cons,List.length_nil];omega)));intro b6 cap1 cs2)
  refine lxk_end rfl ?_
  simp only [List.map_cons,List.map_nil,List.cons_append,List.nil_append]
  refine wk 1 cz ?_
  refine j_step rfl (x_stR (vs:=[Value.slice (some { block:=b6,off:=0 }) (N + 1) cap1]) (z:=(some b6,N + 1,cap1)) 3 5 (i) rfl rfl rfl rfl rfl ld22 (Nat.mul_one _).symm (by omega) (fun w A hG=>(rd_hd (some _) _ _)) fun cs3=>?_)
  refine wk 3 cz ?_
  simp only [List.drop_succ_cons,List.drop_zero,setB,List.set_cons_succ,List.set_cons_zero]
  rw [hdl_set,ex]
  refine j_unfocusL 3 i 0 1 5 rfl rfl rfl rfl h9 rfl ?_
  simp only [List.eraseIdx_cons_zero,List.eraseIdx_cons_succ,List.take_succ_cons,List.take_zero,List.cons_append,List.nil_append]
  refine j_matCongr (ls (i + 1)) 0 rfl (fun g hg=>by
   show upd (ls i) i _ g = if _ then _ else _
   by_cases e : g = i
   ·subst e
    rw [upd_self,if_pos (Nat.lt_succ_self g),hli]
    have h1 : rows[g]? = some (row0 rows g):=by rw [row0,List.getD_eq_getElem?_getD,List.getElem?_eq_getElem h9];rfl
    conv=>rhs;rw [row0,List.getD_eq_getElem?_getD,auL_at h1 at_x]
    rfl
   ·rw [upd_ne e]
    show (if _ then _ else _) = _
    by_cases h : g < i
    ·rw [if_pos h,if_pos (by omega)]
    ·rw [if_neg h,if_neg (by omega)]) ?_
  exact tw (ih (i + 1,cs3,upd hd i (some b6,N + 1,cap1),upd cs i cs2) (by dsimp only;omega) (by dsimp only;omega))
 ·have hi0 : i = rows.length:=by omega
  subst hi0
  clear ih
  have hM2:=auL_mat hM hb.2
  refine j_matCongr (row0 (auL rows b)) 1 rfl (fun g hg=>if_pos hg) ?_
  clear_value ls
  have c_matrix_eliminate:=fun {b ng cg ce cl : Nat} {pg pe pl : Option Addr} {rh : Row} {hd : Nat → Hd} {cs : Nat → List Value}=>S_matrix_eliminateW (b:=b) (ng:=ng) (cg:=cg) (ce:=ce) (cl:=cl) (pg:=pg) (pe:=pe) (pl:=pl) (rh:=rh) (hd:=hd) (cs:=cs) K (n:=rows.length) (by omega) (Nat.le_succ N) (by omega) hau hM2
  have hEl : (elP p m md N 0 0 (auL rows b)).1.length = rows.length:=by rw [elP,elimL_len,hau]
  have hEk : (elP p m md N 0 0 (auL rows b)).2.length ≤ rows.length:=by
   have:=elim_le (A:=liftI (fA p m)) (M:=liftI (fM p (fpo m md))) (N:=negI p m) (V:=invI p m md) N 0 0 (auL rows b) (Nat.zero_le _)
   rw [Nat.zero_add,hau] at this;exact this
  have hEM : Mat (p ^ m) (N + 1) (elP p m md N 0 0 (auL rows b)).1:=((fok_fo K).elim (m:=N) hM2).1
  have hEe : Ech (elP p m md N 0 0 (auL rows b)).1 N (elP p m md N 0 0 (auL rows b)).2:=((fok_fo K).elim (m:=N) hM2).2.1
  generalize elP p m md N 0 0 (auL rows b) = E at *
  refine j_nf [_,_,_,_,_] rfl ?_
  refine j_run it 1 rfl (by simp) ?_
  refine j_nf [_,_,_,_,_] rfl ?_
  refine j_if rfl rfl (fun h4=>by exfalso;omega) (fun h4=>?_)
  refine j_nf [_,_] rfl ?_
  refine j_run it 2 rfl (by simp) ?_
  refine j_step rfl (x_field rfl fd67_0 ?_)
  refine j_step rfl (x_bld 0 rfl rfl ld3 rfl ?_)
  refine j_step rfl (x_callA 2 [3,4,5,1,0] rfl rfl (c_matrix_eliminate (rh:=⟨ro,rcap,hc⟩)) rfl ?_)
  rintro _ _ _ ⟨r1,ch'1,hd'1,cs'1,d1,rfl,rfl,rfl⟩
  simp only [List.cons_append,List.nil_append]
  refine j_run it 5 rfl (by simp) ?_
  refine j_nf [_,_,_] rfl ?_
  refine j_run it 2 rfl (by simp) ?_
  refine j_step rfl (x_len sl22 rfl ?_) --ok
  simp only [List.take_succ_cons,List.take_zero,List.cons_append,List.nil_append]
  refine j_hdlen 2 rfl fun hlen=>?_
  refine j_pubFamL 4 3 1 2 rfl rfl rfl rfl (fun i hi=>by rw [hlen i hi rfl,(hEM.row (by omega)).1];show (N + 1) * 8 ≤ _;omega) ?_
  simp only [List.take_succ_cons,List.take_zero]
  rw [show (List.range rows.length).map (row0 E.1) = E.1 from by
   refine List.ext_getElem (by rw [List.length_map,List.length_range,hEl]) fun i h1 h2=>?_
   rw [List.getElem_map,List.getElem_range,row0,List.getD_eq_getElem?_getD,List.getElem?_eq_getElem h2];rfl]
  refine j_pubR 3 0 rfl rfl (by show rows.length * 24 ≤ 140737488355328;omega) ?_
  simp only [List.eraseIdx_cons_zero,List.eraseIdx_cons_succ]
  refine j_pubR 2 2 rfl rfl (by show E.2.length * 8 ≤ 140737488355328;omega) ?_
  simp only [List.eraseIdx_cons_zero,List.eraseIdx_cons_succ]
  refine j_len 1 rfl fun _ _ hcap=>?_
  refine j_step rfl (x_slice_l 1 (E.snd.length) rfl rfl rfl sl25 (by omega) (by omega) fun pa1=>?_)
  refine wk 3 cz ?_
  have hDl : (E.1.drop E.2.length).length = rows.length - E.2.length:=by rw [List.length_drop,hEl]
  have hDM : ∀ r ∈ E.1.drop E.2.length,Wd (p ^ m) (N + 1) r:=fun r hr=>hEM r (List.mem_of_mem_drop hr)
  have hsl : slB N E = (E.1.drop E.2.length).all fun r=>decide (at0 r N = 0):=rfl
  generalize E.1.drop E.2.length = D at *
  refine j_loopG (X:=Nat) [4,11,13,75,76] [0,1,2,3,4,5,6,7,8,9,10,11,12,13,14,15] (fun i=>[(77,.int .i64 (i : Int))]) (fun _=>_) (fun _=>[]) (fun i=>i ≤ D.length ∧ ∀ r ∈ D.take i,at0 r N = 0) (fun i=>D.length - i) 0 [] rfl rfl rfl ⟨Nat.zero_le _,fun x h=>by simp at h⟩ (by repeat (first | exact Fr.sub_nil _ | refine Fr.sub_cons rfl ?_)) rfl rfl ?_
  rintro i ⟨hi,hno⟩ ih
  simp only [List.cons_append,List.nil_append] at hi ih ⊢
  by_cases h9 : i < D.length
  ·obtain ⟨r,at_r⟩ : ∃ r,D[i]? = some r:=⟨_,List.getElem?_eq_getElem h9⟩
   have hrl:=(hDM r (List.mem_of_getElem? at_r)).1
   have at_y : r[N]? = some (at0 r N):=by
    rw [at0,List.getD_eq_getElem?_getD,List.getElem?_eq_getElem (by omega)];rfl
   by_cases h8 : at0 r N = 0
   ·refine wk 13 cz ?_
    intro h5 b5 o1 hz1 pa2 ca1 b6 o2 hz2
    refine j_step rfl (x_ld_int 0 rfl rfl ld3 fun ⟨r2,r3⟩=>?_)
    refine wk 6 cz ?_
    intro h6
    exact tw (ih (i + 1) (by omega) ⟨by omega,tk_all at_r hno h8⟩)
   ·have hs : slB N E = false:=by
     rw [hsl,List.all_eq_false]
     exact ⟨r,List.mem_of_getElem? at_r,by rw [decide_eq_false h8];exact Bool.false_ne_true⟩
    rw [show SoQ N E = fun v Φ β=>∃ (pb : Option Addr) (cb : Nat),v = .tuple #[.slice pb 0 cb,.int .i64 11] ∧ Φ = [slF I64 pb 0 cb []] ∧ β = [] from by funext v Φ β;show (∃ _ _,_) = _;rw [hs];rfl]
    clear ih
    refine wk 13 cz ?_
    intro h5 b5 o1 hz1 pa2 ca1 b6 o2 hz2
    refine j_step rfl (x_ld_int 0 rfl rfl ld3 fun ⟨r2,r3⟩=>?_)
    refine wk 6 cz ?_
    intro h6
    refine j_add (slF I64 none 0 0 []) (fun w A _=>slF_nil I64 w A none 0) ?_
    refine j_giv [0] rfl rfl rfl ⟨_,_,rfl,rfl,rfl⟩
  ·have hs : slB N E = true:=by
    rw [hsl,List.all_eq_true]
    exact fun r hr=>decide_eq_true (hno r (by rwa [List.take_of_length_le (by omega)]))
   rw [show SoQ N E = fun v Φ β=>∃ (pb : Option Addr) (cb : Nat),v = .tuple #[.slice pb (slX N E).length cb,.int .i64 0] ∧ Φ = [slF I64 pb (slX N E).length cb (slX N E)] ∧ β = [] from by funext v Φ β;show (∃ _ _,_) = _;rw [hs];rfl]
   clear ih
   refine wk 14 cz ?_
   intro h5 b5
   rw [show natCells .i64 (List.replicate N 0) = intCells .i64 (slK N E 0) by rw [slK_zero];simp [natCells,intCells,zW]]
   refine j_loopG (X:=Nat) [4,11,17,91,92] [0,1,2,3,4,5,6,7,8,9,10,11,12,13,14,15] (fun i=>[(93,.int .i64 (i : Int))]) (fun i=>(some b5,3,intCells .i64 (slK N E i))::_) (fun _=>[]) (fun i=>i ≤ E.2.length) (fun i=>E.2.length - i) 0 [] rfl rfl rfl (Nat.zero_le _) (by repeat (first | exact Fr.sub_nil _ | refine Fr.sub_cons rfl ?_)) rfl rfl ?_
   rintro i hi ih
   simp only [List.cons_append,List.nil_append] at hi ih ⊢
   by_cases h9 : i < E.2.length
   ·obtain ⟨a,hpa⟩ : ∃ a,E.2[i]? = some a:=⟨_,List.getElem?_eq_getElem h9⟩
    have at_p : (toI E.2)[i]? = some (a : Int):=by rw [toI,List.getElem?_map,hpa];rfl
    have haN:=hEe.lt a (List.mem_of_getElem? hpa)
    have hr : E.1[i]? = some (row0 E.1 i):=by rw [row0,List.getD_eq_getElem?_getD,List.getElem?_eq_getElem (by omega)];rfl
    have er:=gd_at hr
    have hrl : (E.1.getD i default).length = N + 1:=by rw [er];exact (hEM.row (by omega)).1
    have ih':=ih (i + 1) (by omega) (by omega)
    rw [← slK_set hEe hpa,en,← er,show at0 (E.1.getD i default) N = (E.1.getD i default).getD N default from rfl] at ih'
    have hln:=slK_len (n:=N) (k:=i) (E:=E)
    generalize slK N E i = L at *
    refine wk 6 cz ?_
    intro h6
    refine j_rowB 4 rfl (by omega) fun b6 cap1 cs2 hr1=>?_
    subst hr1
    dsimp only
    refine wk 1 cz ?_
    intro b7 o1 hz1
    refine j_step rfl (x_ld_int 0 rfl rfl ld3 fun ⟨r1,r2⟩=>?_)
    refine wk 8 cz ?_
    intro b8 o2 pa2 ca1 b9 o3
    exact tw (ih')
   ·obtain rfl : i = E.2.length:=by omega
    rw [slK_end]
    clear ih
    have hX:=(fok_fo K).slX_wd hEM hEe
    have hXl:=hX.1
    generalize slX N E = X at *
    refine wk 7 cz ?_
    intro h6
    refine j_rowInt 0 rfl hXl.symm (fun y hy=>by have:=hX.2 y hy;simp only [InR];omega) (by omega) ?_
    refine j_pubR 0 0 rfl rfl (by show N * 8 ≤ 140737488355328;omega) ?_
    simp only [List.eraseIdx_cons_zero,List.eraseIdx_cons_succ]
    rw [← hXl]
    refine j_giv [0] rfl rfl rfl ⟨_,_,rfl,rfl,rfl⟩
theorem so_true {N : Nat} {E : List (List Int) × List Nat} (hs : slB N E = true) : SoQ N E = fun v Φ β=>∃ (pb : Option Addr) (cb : Nat),v = .tuple #[.slice pb (slX N E).length cb,.int .i64 0] ∧ Φ = [slF I64 pb (slX N E).length cb (slX N E)] ∧ β = []:=by
 funext v Φ β;show (∃ _ _,_) = _;rw [hs];rfl
theorem so_false {N : Nat} {E : List (List Int) × List Nat} (hs : slB N E = false) : SoQ N E = fun v Φ β=>∃ (pb : Option Addr) (cb : Nat),v = .tuple #[.slice pb 0 cb,.int .i64 11] ∧ Φ = [slF I64 pb 0 cb []] ∧ β = []:=by
 funext v Φ β;show (∃ _ _,_) = _;rw [hs];rfl
abbrev hpL (rows : List (List Int)) (hs : List Int) : List (List Int):=rows.map fun r=>hs.map fun j=>at0 r j.toNat
def eqP (p m : Nat) (md : List Int) (rows : List (List Int)) (hs : List Int) (l : Nat) : List (List Int) × List Nat:=elP p m md hs.length 0 0 (auL (hpL rows hs) (colL rows l))
def coP (p m : Nat) (md : List Int) (rows : List (List Int)) (lost hs : List Int) : List (List Int):=lost.map fun l=>slX hs.length (eqP p m md rows hs l.toNat)
def coB (p m : Nat) (md : List Int) (rows : List (List Int)) (lost hs : List Int) : Bool:=lost.all fun l=>slB hs.length (eqP p m md rows hs l.toNat)
abbrev CoQ (e : Int) (R : List (List Int)) : Value → List Fact → List Blk → Prop:=fun v Φ β=>∃ (pb : Option Addr) (cb : Nat),v = .tuple #[.slice pb R.length cb,.int .i64 e] ∧ Φ = [slF (encSl I64) pb R.length cb R] ∧ β = []
theorem hp_mat {q N : Nat} {rows : List (List Int)} (hq : 0 < q) (hM : Mat q N rows) (hs : List Int) : Mat q hs.length (hpL rows hs):=fun s hr=>by
 obtain ⟨r,h,rfl⟩:=List.mem_map.1 hr
 refine ⟨List.length_map _,fun x hx=>?_⟩
 obtain ⟨j,_,rfl⟩:=List.mem_map.1 hx
 exact wd_at hq (hM r h) _
theorem S_repair_Combine {p m N n c nm cm nl cl nh ch : Nat} {pm ps pl ph : Option Addr} {md lost hs : List Int} {rows : List (List Int)} {B : Bool} (CC : Cok p m md N rows) (he : pairE p m md N rows lost hs = 0) (hlo : stP N lost) (hst : stP N hs) (hB : coB p m md rows lost hs = B) :
  Ctr Tryz.prog 54 [.agg #[.int .i64 p,.int .i64 m,.slice pm nm cm,.int .i64 N,.slice ps n c],.slice pl nl cl,.slice ph nh ch] [] [slF I64 pm nm cm md,slF (encSl I64) ps n c rows,slF I64 pl nl cl lost,slF I64 ph nh ch hs] (CoQ (if B then 0 else 11) (if B then coP p m md rows lost hs else [])):=by
 refine Ctr_of_j' (F:=F_repair_Combine) rfl fun C=>?_
 have hN:=CC.n64
 have hn1:=CC.n1
 have hlr:=CC.len
 have hl1:=st_len hlo
 have hl2:=st_len hst
 have hq:=CC.K.q
 have q2:=(fok_fo CC.K).q2
 have hHM:=hp_mat (by omega) CC.mat hs
 have c_repair_sides:=fun {n c nm cm nl cl nh ch : Nat} {pm ps pl ph : Option Addr}=>S_repair_sides (pm:=pm) (nm:=nm) (cm:=cm) (ps:=ps) (n:=n) (c:=c) (pl:=pl) (nl:=nl) (cl:=cl) (ph:=ph) (nh:=nh) (ch:=ch) (by simp only [InR];omega) he
 have c_matrix_Columns:=fun {pm ps pt : Option Addr} {nm cm n c ns cs' : Nat}=>S_matrix_Columns_ok (pm:=pm) (ps:=ps) (pt:=pt) (nm:=nm) (cm:=cm) (n:=n) (c:=c) (ns:=ns) (cs':=cs') (set:=hs) CC.K (show N ≤ 256 by omega) (show rows.length ≤ 256 by omega) CC.mat (by omega) hst.1
 refine j_len 1 rfl fun hn hb1 _=>?_
 subst hn
 refine j_len 2 rfl fun hn hb2 _=>?_
 subst hn
 refine j_len 3 rfl fun hn hb3 _=>?_
 subst hn
 have hb1' : rows.length * 24 ≤ 140737488355328:=hb1
 have hb2' : lost.length * 8 ≤ 140737488355328:=hb2
 refine wk 33 (ct @c_repair_sides (ct @c_matrix_Columns cz)) ?_
 intro b1 h1 pb1 cb1 b2
 simp only [setB]
 have hRl : (coP p m md rows lost hs).length = lost.length:=List.length_map _
 refine j_row0 (encSl I64) 22 ?_
 refine j_loopG (X:=Nat × Row) [3,9,38,39] [0,1,2,3,4,5] (fun x=>[(40,.int .i64 (x.1 : Int)),(11,.slice (ad x.2.bo) x.1 x.2.cap)]) (fun x=>(x.2.bo,22,x.2.cs)::_) (fun x=>[rowF (encSl I64) x.2 x.1 ((coP p m md rows lost hs).take x.1)]) (fun x=>x.1 ≤ lost.length ∧ ∀ l ∈ lost.take x.1,slB hs.length (eqP p m md rows hs l.toNat) = true) (fun x=>lost.length - x.1) (0,⟨none,0,[]⟩) [0] rfl rfl rfl ⟨Nat.zero_le _,fun x h=>by simp at h⟩ (by repeat (first | exact Fr.sub_nil _ | refine Fr.sub_cons rfl ?_)) rfl rfl ?_
 rintro ⟨i,r⟩ ⟨hi,hno⟩ ih
 simp only [List.cons_append,List.nil_append] at hi hno ih ⊢
 by_cases h9 : i < lost.length
 ·obtain ⟨l,at_l⟩ : ∃ l,lost[i]? = some l:=⟨_,List.getElem?_eq_getElem h9⟩
  obtain ⟨l0,l1⟩:=hlo.1 l (List.mem_of_getElem? at_l)
  obtain ⟨l,rfl⟩:=Int.eq_ofNat_of_zero_le l0
  have hcW:=wd_col (show 0 < p ^ m by omega) CC.mat l
  have hTl : (colL rows l).length = rows.length:=List.length_map _
  have hTa : ∀ (k : Nat) (x : List Int),rows[k]? = some x → (colL rows l)[k]? = some (at0 x l):=fun k x h=>by rw [colL,List.getElem?_map,h];rfl
  have hTr : ∀ z ∈ colL rows l,InR .i64 z:=fun z hz=>by
   have:=hcW.2 z hz
   simp only [InR];omega
  have c_matrix_Solve:=fun {pm ps pb : Option Addr} {nm cm n c nb cb : Nat}=>S_matrix_Solve (pm:=pm) (ps:=ps) (pb:=pb) (nm:=nm) (cm:=cm) (n:=n) (c:=c) (nb:=nb) (cb:=cb) CC.K (show hs.length ≤ 256 by omega) (show (hpL rows hs).length ≤ 256 by rw [List.length_map];omega) hHM (b:=colL rows l) (by rw [List.length_map];exact hcW)
  rw [show elP p m md hs.length 0 0 (auL (hpL rows hs) (colL rows l)) = eqP p m md rows hs l from rfl] at c_matrix_Solve
  refine wk 6 cz ?_
  intro h2 b3 o1 hz1
  refine j_step rfl (x_ld_int 0 rfl rfl ld3 fun ⟨r1,r2⟩=>?_)
  refine wk 13 cz ?_
  intro b4
  rw [show natCells .i64 (List.replicate rows.length 0) = intCells .i64 ((colL rows l).take 0++List.replicate (rows.length - 0) 0) by simp [natCells,intCells]]
  refine j_loopG (X:=Nat) [3,9,11,13,14,38,39,40,41,42,43,44,45,46,47,48,49,50] [0,1,2,3,4,5,6,7] (fun k=>[(51,.int .i64 (k : Int))]) (fun k=>(some b4,3,intCells .i64 ((colL rows l).take k++List.replicate (rows.length - k) 0))::_) (fun _=>[]) (fun k=>k ≤ rows.length) (fun k=>rows.length - k) 0 [] rfl rfl rfl (Nat.zero_le _) (by repeat (first | exact Fr.sub_nil _ | refine Fr.sub_cons rfl ?_)) rfl rfl ?_
  rintro k hk ihk
  simp only [List.cons_append,List.nil_append] at hk ihk ⊢
  by_cases h8 : k < rows.length
  ·obtain ⟨x,at_x⟩ : ∃ x,rows[k]? = some x:=⟨_,List.getElem?_eq_getElem h8⟩
   have hxl:=(CC.mat x (List.mem_of_getElem? at_x)).1
   have hT:=hTa k x at_x
   have at_y : x[l]? = some (at0 x l):=by
    rw [at0,List.getD_eq_getElem?_getD,List.getElem?_eq_getElem (by omega)];rfl
   have ih':=ihk (k + 1) (by omega) (by omega)
   rw [← take_set hT h8] at ih'
   have hln : ((colL rows l).take k++List.replicate (rows.length - k) 0).length = rows.length:=by rw [List.length_append,List.length_take,List.length_replicate];omega
   generalize (colL rows l).take k++List.replicate (rows.length - k) 0 = L at *
   refine wk 12 cz ?_
   intro h3 b5 o2 hz2 pa1 ca1 b6 o3 hz3
   refine j_step rfl (x_ld_int 0 rfl rfl ld3 fun ⟨r3,r4⟩=>?_)
   refine wk 5 cz ?_
   exact tw (ih')
  ·obtain rfl : k = rows.length:=by omega
   rw [Nat.sub_self,List.replicate_zero,List.append_nil,List.take_of_length_le (by omega)]
   clear ihk
   refine wk 3 cz ?_
   refine j_pub_madei (kd:=.i64) (n:=rows.length) 8 (colL rows l) 0 rfl hTl.symm hTr (by omega) (by omega) ?_
   simp only [List.eraseIdx_cons_zero,List.eraseIdx_cons_succ]
   have hcx : (coP p m md rows lost hs)[i]? = some (slX hs.length (eqP p m md rows hs l)):=by rw [coP,List.getElem?_map,at_l];rfl
   by_cases hs1 : slB hs.length (eqP p m md rows hs l) = true
   ·rw [so_true hs1] at c_matrix_Solve
    have ih':=fun r=>ih (i + 1,r) (by dsimp only;omega) ⟨by dsimp only;omega,tk_all at_l hno hs1⟩
    simp only [List.take_add_one,hcx,Option.toList_some] at ih'
    clear ih
    generalize slX hs.length (eqP p m md rows hs l) = X at *
    refine wk 15 (ct @c_matrix_Solve cz) ?_
    intro h3 pb2 cb2 h4 b5
    refine j_step rfl (x_appR (z:=X) 1 0 3 rfl rfl rfl rfl rfl sl25 zo25e rfl (fun w A hG=>(rd_of_slF (hG _ (fact_mem (n:=0) rfl)))) (by omega) _ by25e (by omega) fun r3=>?_)
    refine wk 4 cz ?_
    refine j_toM [true,false,true,true] [0,5,6,7,8,9,10] (by exact fra rfl) rfl rfl (ih' r3)
   ·rw [so_false (Bool.eq_false_iff.2 hs1)] at c_matrix_Solve
    obtain rfl : B = false:=by
     rw [← hB,coB,List.all_eq_false]
     exact ⟨_,List.mem_of_getElem? at_l,hs1⟩
    clear ih
    refine wk 15 (ct @c_matrix_Solve cz) ?_
    intro h3 pb2 cb2 h4
    refine j_add (slF (encSl I64) none 0 0 []) (fun w A _=>slF_nil (encSl I64) w A none 0) ?_
    refine j_giv [0] rfl rfl rfl ⟨_,_,rfl,rfl,rfl⟩
 ·obtain rfl : i = lost.length:=by omega
  obtain rfl : B = true:=by
   rw [← hB,coB,List.all_eq_true]
   exact fun l hl=>hno l (by rwa [List.take_length])
  rw [List.take_of_length_le (by omega)]
  clear ih
  simp only [if_pos]
  generalize coP p m md rows lost hs = R at *
  refine j_pubR 0 0 rfl rfl (by show lost.length * 24 ≤ 140737488355328;omega) ?_
  simp only [List.eraseIdx_cons_zero,List.eraseIdx_cons_succ]
  rw [← hRl]
  refine wk 7 cz ?_
  intro h2
  refine j_giv [0] rfl rfl rfl ⟨_,_,rfl,rfl,rfl⟩
theorem eq_eqP {p m l : Nat} {md hs : List Int} {rows : List (List Int)} : eqP p m md rows hs l = eqE (liftI (fA p m)) (liftI (fM p (fpo m md))) (negI p m) (invI p m md) rows (hs.map Int.toNat) l:=by
 rw [eqP,elP,eqE,List.length_map,← auL_eq]
 refine congrArg (elimL _ _ _ _ _ 0 0) (congrArg (fun z=>auL z _) (List.map_congr_left fun r _=>?_))
 rw [pkL,List.map_map];rfl
theorem co_en {p m n : Nat} {md lost hs : List Int} {rows : List (List Int)} (CC : Cok p m md n rows) (hlo : stP n lost) : coB p m md rows lost hs = enB p m md rows lost hs:=by
 have O:=fok_fn CC.K
 rw [en_wt CC hlo,Bool.eq_iff_iff,Option.isNone_iff_eq_none,wt_none,coB,List.all_eq_true]
 refine forall_congr' fun l=>forall_congr' fun hl=>?_
 have:=hlo.1 l hl
 rw [eq_eqP,(O.wi CC.mat (hs_mat CC hs)).2 l.toNat (by omega),show hs.length = (hs.map Int.toNat).length by rw [List.length_map],O.sl_iff CC.mat]
 refine forall_congr' fun x=>forall_congr' fun hx=>?_
 rw [List.map_map];rfl
def blen (n : Nat) : Nat:=if _h : n = 0 then 0 else blen (n / 2) + 1
termination_by n
decreasing_by omega
theorem blen_zero : blen 0 = 0:=by rw [blen];rfl
theorem blen_pos {n : Nat} (h : n ≠ 0) : blen n = blen (n / 2) + 1:=by rw [blen,dif_neg h]
def blenF : Nat → Nat → Nat
 | 0,_=>0
 | f + 1,n=>if n = 0 then 0 else blenF f (n / 2) + 1
theorem blenF_eq (f : Nat) : ∀ n,n < 2 ^ f → blenF f n = blen n:=by
 induction f with
 | zero => intro n h; have : n = 0 := by simpa using h
           subst this; rw [blen_zero]; rfl
 | succ f ih =>
  intro n h
  rw [blenF]
  by_cases h0 : n = 0
  ·subst h0;rw [if_pos rfl,blen_zero]
  ·rw [if_neg h0,blen_pos h0,ih _ (by rw [Nat.pow_succ] at h;omega)]
theorem blen_le {n k : Nat} (h : n < 2 ^ k) : blen n ≤ k:=by
 induction k generalizing n with
 | zero => have : n = 0 := by simpa using h
           subst this; rw [blen_zero]; omega
 | succ k ih =>
  by_cases h0 : n = 0
  ·subst h0;rw [blen_zero];omega
  ·rw [blen_pos h0];have:=ih (n:=n / 2) (by rw [Nat.pow_succ] at h;omega);omega
def tabOk (s : ByteArray) : Bool:=(List.range 256).all fun n=>match s[n]? with
 | some b=>b.toNat == blenF 8 n
 | none=>false
theorem tab_get {s : ByteArray} (h : tabOk s = true) {n : Nat} (hn : n < 256) : s[n]? = some (UInt8.ofNat (blen n)):=by
 unfold tabOk at h
 have:=List.all_eq_true.1 h n (List.mem_range.2 hn)
 cases hs : s[n]? with
 | none=>rw [hs] at this;simp at this
 | some b =>
  rw [hs] at this
  simp only [beq_iff_eq] at this
  rw [blenF_eq 8 n (by simpa using hn)] at this
  rw [← this];simp
def swp (L : List Int) (j : Nat) : List Int:=(L.set j (at0 L (j - 1))).set (j - 1) (at0 L j)
theorem at0_get {L : List Int} {i : Nat} (h : i < L.length) : at0 L i = L[i]:=by rw [at0,List.getD_eq_getElem?_getD,List.getElem?_eq_getElem h];rfl
theorem swp_perm {L : List Int} {j : Nat} (h0 : 0 < j) (hj : j < L.length) : (swp L j).Perm L:=by
 rw [swp,at0_get hj,at0_get (show j - 1 < L.length by omega)]
 exact List.set_set_perm hj (by omega)
theorem swp_at {L : List Int} {j a : Nat} (h0 : 0 < j) (hj : j < L.length) : at0 (swp L j) a = if a = j - 1 then at0 L j else if a = j then at0 L (j - 1) else at0 L a:=by
 rw [swp,at0,List.getD_eq_getElem?_getD,List.getElem?_set,List.length_set,List.getElem?_set]
 by_cases h1 : j - 1 = a
 ·rw [if_pos h1,if_pos (by omega),if_pos h1.symm];rfl
 ·rw [if_neg h1,if_neg (show ¬ a = j - 1 from fun e=>h1 e.symm)]
  by_cases h2 : j = a
  ·rw [if_pos h2,if_pos hj,if_pos h2.symm];rfl
  ·rw [if_neg h2,if_neg (show ¬ a = j from fun e=>h2 e.symm),at0,List.getD_eq_getElem?_getD]
def srtP (L : List Int) (i j : Nat) : Prop:=∀ a b,a < b → b ≤ i → b ≠ j → at0 L a ≤ at0 L b
theorem srt_step {L : List Int} {i j : Nat} (h : srtP L i j) (h0 : 0 < j) (hj : j < L.length) (hji : j ≤ i) (hx : at0 L j < at0 L (j - 1)) : srtP (swp L j) i (j - 1):=fun a b hab hb hn=>by
 rw [swp_at h0 hj,swp_at h0 hj,if_neg hn]
 have g:=fun a b=>h a b
 by_cases hbj : b = j
 ·rw [if_pos hbj]
  by_cases ha : a = j - 1
  ·rw [if_pos ha];omega
  ·rw [if_neg ha,if_neg (by omega)];exact h a (j - 1) (by omega) (by omega) (by omega)
 ·rw [if_neg hbj]
  by_cases ha : a = j - 1
  ·rw [if_pos ha];exact h j b (by omega) hb hbj
  ·rw [if_neg ha]
   by_cases ha2 : a = j
   ·rw [if_pos ha2];exact h (j - 1) b (by omega) hb hbj
   ·rw [if_neg ha2];exact h a b hab hb hbj
theorem srt_stop {L : List Int} {i j : Nat} (h : srtP L i j) (hx : j = 0 ∨ ¬ at0 L j < at0 L (j - 1)) : srtP L i (i + 1):=fun a b hab hb _=>by
 by_cases hbj : b = j
 ·subst hbj
  rcases hx with hx | hx
  ·omega
  ·by_cases ha : a = b - 1
   ·subst ha;omega
   ·have:=h a (b - 1) (by omega) (by omega) (by omega);omega
 ·exact h a b hab hb hbj
theorem srt_end {L K l : List Int} (hp : L.Perm l) (h : ∀ a b,a < b → b < L.length → at0 L a ≤ at0 L b) (hK : K.Pairwise (· < ·)) (hKl : K.Perm l) : L = K:=by
 have hLK : L.Perm K:=hp.trans hKl.symm
 have hn : L.Nodup:=hLK.nodup_iff.2 (hK.imp fun h=>by omega)
 refine st_ext ?_ hK fun x=>hLK.mem_iff
 rw [List.pairwise_iff_getElem]
 intro i j hi hj hij
 have h1:=h i j hij hj
 rw [at0_get hi,at0_get hj] at h1
 have h2 : L[i] ≠ L[j]:=fun e=>by
  have:=(List.getElem_inj hn).1 e;omega
 omega
theorem S_cmp_isNaN_int_ {x : Int} : Ctr Tryz.prog 174 [.int .i64 x] [] [] (Rv (.bool false) []):=by
 refine Ctr_of_j' (F:=F_cmp_isNaN_int_) rfl fun C=>?_
 have hd : (!decide (x = x)) = false:=by simp
 refine wk 5 cz ?_
 rw [hd]
 exact ge
theorem S_cmp_Less_int_ {x y : Int} : Ctr Tryz.prog 142 [.int .i64 x,.int .i64 y] [] [] (Rv (.bool (decide (x < y))) []):=by
 refine Ctr_of_j' (F:=F_cmp_Less_int_) rfl fun C=>?_
 refine wk 7 (ct @S_cmp_isNaN_int_ cz) ?_
 exact ge
theorem S_bits_Len64 {x : Nat} (hx : x < 256) : Ctr Tryz.prog 146 [.int .u64 x] [] [] (Rv (.int .i64 (blen x)) []):=by
 refine Ctr_of_j' (F:=F_bits_Len64) rfl fun C=>?_
 refine j_nf [_,_] rfl ?_
 refine j_run it 1 rfl (by simp) ?_
 refine j_nf [_,_,_] rfl ?_
 refine j_run it 2 rfl (by simp) ?_
 refine j_nf [_,_] rfl ?_
 refine j_if rfl rfl (fun h1=>by exfalso;omega) (fun h1=>?_)
 refine j_nf [_,_,_] rfl ?_
 refine j_run it 2 rfl (by simp) ?_
 refine j_nf [_,_] rfl ?_
 refine j_if rfl rfl (fun h2=>by exfalso;omega) (fun h2=>?_)
 refine j_nf [_,_,_] rfl ?_
 refine j_run it 2 rfl (by simp) ?_
 refine j_nf [_,_] rfl ?_
 refine j_if rfl rfl (fun h3=>by exfalso;omega) (fun h3=>?_)
 refine j_nf [_,_] rfl ?_
 refine j_run it 3 rfl ⟨⟨by omega,by omega⟩,trivial,trivial,trivial⟩ ?_ --ok
 refine j_step rfl (x_char x rfl rfl rfl rfl (tab_get (by decide +kernel) hx) ?_)
 have h8:=blen_le (n:=x) (k:=8) (by simpa using hx)
 have e : (UInt8.ofNat (blen x)).toNat = blen x:=by
  simp only [UInt8.toNat_ofNat'];omega
 rw [e]
 refine wk 2 cz ?_
 rw [show (0 : Int) + ((blen x : Nat) : Int) = ((blen x : Nat) : Int) by omega]
 exact ge
theorem S_bits_Len {x : Nat} (hx : x < 256) : Ctr Tryz.prog 103 [.int .u64 x] [] [] (Rv (.int .i64 (blen x)) []):=by
 refine Ctr_of_j' (F:=F_bits_Len) rfl fun C=>?_
 refine wk 9 (ct @S_bits_Len64 cz) ?_
 exact ge
section
variable {b cap n : Nat} {cs : List Value} {l K : List Int}
theorem S_slices_insertionSortOrdered_int_ (hn : n ≤ 1000) (hr : ∀ x ∈ l,0 ≤ x ∧ x < 1000000) (hl : l.length = n) (hK : K.Pairwise (· < ·)) (hp : K.Perm l) :
  Ctr Tryz.prog 136 [.slice (some ⟨b,0,none⟩) n cap,.int .i64 0,.int .i64 n] [(some b,3,cs)] [rowF I64 ⟨some b,cap,cs⟩ n l]
   (fun v Φ β=>∃ cs',v = .tuple #[] ∧ Φ = [rowF I64 ⟨some b,cap,cs'⟩ n K] ∧ β = [(some b,3,cs')]):=by
 refine Ctr_of_j' (F:=F_slices_insertionSortOrdered_int_) rfl fun C=>?_
 refine wk 3 cz ?_
 refine j_loopG (X:=Nat × List Value × List Int) [0,1,2] [0] (fun x=>[(6,.int .i64 (x.1 : Int))]) (fun x=>[(some b,3,x.2.1)]) (fun x=>[rowF I64 ⟨some b,cap,x.2.1⟩ n x.2.2]) (fun x=>1 ≤ x.1 ∧ x.1 ≤ n + 1 ∧ x.2.2.Perm l ∧ ∀ u v,u < v → v < x.1 → at0 x.2.2 u ≤ at0 x.2.2 v) (fun x=>n + 1 - x.1) (1,cs,l) [0] rfl rfl rfl ⟨Nat.le_refl _,by dsimp only;omega,List.Perm.refl _,fun u v h1 h2=>by dsimp only at h2;omega⟩ (by repeat (first | exact Fr.sub_nil _ | refine Fr.sub_cons rfl ?_)) rfl rfl ?_
 rintro ⟨i,cs,L⟩ ⟨hi1,hi,hpL,ho⟩ ih
 simp only [List.cons_append,List.nil_append] at hi1 hi hpL ho ih ⊢
 by_cases hin : i < n
 ·refine wk 7 cz ?_
  intro h1
  refine j_loopG (X:=Nat × List Value × List Int) [0,1,2,6,10,11,12,15] [0,1] (fun x=>[(7,.int .i64 (x.1 : Int))]) (fun x=>[(some b,3,x.2.1)]) (fun x=>[rowF I64 ⟨some b,cap,x.2.1⟩ n x.2.2]) (fun x=>x.1 ≤ i ∧ x.2.2.Perm l ∧ srtP x.2.2 i x.1) (fun x=>x.1) (i,cs,L) [0] rfl rfl rfl ⟨Nat.le_refl _,hpL,fun u v h1 h2 h3=>ho u v h1 (by omega)⟩ (by repeat (first | exact Fr.sub_nil _ | refine Fr.sub_cons rfl ?_)) rfl rfl ?_
  rintro ⟨j,cs,L⟩ ⟨hji,hpL,ho⟩ ihj
  simp only [List.cons_append,List.nil_append] at hji hpL ho ihj ⊢
  have hLl : L.length = n:=hpL.length_eq.trans hl
  have stop : (j = 0 ∨ ¬ at0 L j < at0 L (j - 1)) → ∀ u v,u < v → v < i + 1 → at0 L u ≤ at0 L v:=fun h u v h1 h2=>srt_stop ho h u v h1 (by omega) (by omega)
  by_cases hj0 : 0 < j
  ·have at_u : L[j]? = some (at0 L j):=by rw [at0_get (show j < L.length by omega)];exact List.getElem?_eq_getElem _
   have at_v : L[j - 1]? = some (at0 L (j - 1)):=by rw [at0_get (show j - 1 < L.length by omega)];exact List.getElem?_eq_getElem _
   have hsw : (L.set j (at0 L (j - 1))).set (j - 1) (at0 L j) = swp L j:=rfl
   by_cases hx : at0 L j < at0 L (j - 1)
   ·have ihj':=fun cs=>ihj (j - 1,cs,swp L j) (by dsimp only;omega) ⟨by dsimp only;omega,(swp_perm hj0 (by omega)).trans hpL,srt_step ho hj0 (by omega) hji hx⟩
    dsimp only at ihj'
    rw [← hsw] at ihj'
    obtain ⟨u0,u1⟩:=hr _ (hpL.mem_iff.1 (List.mem_of_getElem? at_u))
    obtain ⟨v0,v1⟩:=hr _ (hpL.mem_iff.1 (List.mem_of_getElem? at_v))
    generalize at0 L j = u at *
    generalize at0 L (j - 1) = v at *
    refine wk 5 (ct @S_cmp_Less_int_ cz) ?_
    intro h2
    (apply j_drawKW (x0:=none) it mx 0 15 [2,3,4] 1;(· rfl);(· rfl);(· rfl);(· decide))
    simp only [List.drop_zero]
    (apply lxk_run 5;(· rfl);(· exact ⟨⟨by omega,by omega⟩,trivial,trivial,trivial,trivial,trivial⟩))
    (apply lxk_run 2;(· rfl);(· simp))
    (apply lxk_eq (v:=Value.int IntKind.i64 ((((j) - 1 : Nat)) : Int));(· rfl);(· exact d_x fun _=>x_asN it _ rfl ⟨by omega,by omega⟩ (by omega) dk_eq))
    simp only [Nat.add_sub_cancel]
    (apply lxk_eq;(· rfl);(· exact d_x fun _=>x_idx_own (j - 1) (j - 1) rfl rfl sl22 rfl (by omega) (Nat.mul_one _) dk_eq))
    (apply lxk_eq;(· rfl);(· exact d_ldR_int 0 0 (j - 1) rfl rfl rfl ld3 rfl (by assumption)))
    (apply lxk_run 2;(· rfl);(· simp))
    (apply lxk_eq;(· rfl);(· exact d_x fun _=>x_idx_own (j) (j) rfl rfl sl22 rfl (by omega) (Nat.mul_one _) dk_eq))
    (apply lxk_eq;(· rfl);(· exact d_ldR_int 0 0 (j) rfl rfl rfl ld3 rfl (by assumption)))
    (apply lxk_eq;(· rfl);(· exact d_x fun _=>x_idx_own (j) (j) rfl rfl sl22 rfl (by omega) (Nat.mul_one _) dk_eq)) --ok
    refine lxk_endW rfl ?_
    rotate_left
    rfl
    simp only [List.map_nil,List.nil_append]
    refine win_step it rfl rfl ⟨⟨_,_,_,_,rfl,rfl,rfl,rfl,rfl,rfl,(by first | trivial | (repeat' first | exact trivial | apply And.intro | omega))⟩,⟨⟨_,_,_,_,rfl,rfl,rfl,rfl,rfl,rfl,(by first | trivial | (repeat' first | exact trivial | apply And.intro | omega))⟩,⟨⟨_,_,_,_,rfl,rfl,rfl,rfl,rfl,rfl,(by first | trivial | (repeat' first | exact trivial | apply And.intro | omega))⟩,trivial⟩⟩⟩ (x_stR (vs:=[Value.int IntKind.i64 v]) (z:=(v : Int)) 0 0 (j) rfl rfl rfl rfl rfl ld3 (Nat.mul_one _).symm (by omega) (fun w A hG=>(rd_int (by first | (simp only [InR];omega) | (simp [InR];done)))) fun cs1=>?_)
    refine win_end it ⟨⟨_,_,_,_,rfl,rfl,rfl,rfl,rfl,rfl,(by first | trivial | (repeat' first | exact trivial | apply And.intro | omega))⟩,⟨⟨_,_,_,_,rfl,rfl,rfl,rfl,rfl,rfl,(by first | trivial | (repeat' first | exact trivial | apply And.intro | omega))⟩,⟨⟨_,_,_,_,rfl,rfl,rfl,rfl,rfl,rfl,(by first | trivial | (repeat' first | exact trivial | apply And.intro | omega))⟩,trivial⟩⟩⟩ ?_
    refine wk 1 cz ?_
    refine j_step rfl (x_stR (vs:=[Value.int IntKind.i64 u]) (z:=(u : Int)) 0 0 (j - 1) rfl rfl rfl rfl rfl ld3 (Nat.mul_one _).symm (by omega) (fun w A hG=>(rd_int (by first | (simp only [InR];omega) | (simp [InR];done)))) fun cs2=>?_)
    refine wk 3 cz ?_
    exact tw (ihj' cs2)
   ·have stop':=stop (.inr hx)
    generalize at0 L j = u at *
    generalize at0 L (j - 1) = v at *
    refine wk 7 (ct @S_cmp_Less_int_ cz) ?_
    intro h2
    exact tw (ih (i + 1,cs,L) (by dsimp only;omega) ⟨by dsimp only;omega,by dsimp only;omega,hpL,stop'⟩)
  ·refine wk 7 cz ?_
   exact tw (ih (i + 1,cs,L) (by dsimp only;omega) ⟨by dsimp only;omega,by dsimp only;omega,hpL,stop (.inl (by omega))⟩)
 ·obtain rfl : L = K:=srt_end hpL (fun u v h1 h2=>ho u v h1 (by have:=hpL.length_eq;omega)) hK hp
  clear ih
  refine wk 5 cz ?_
  intro h1
  refine j_gives_end [0] rfl rfl ⟨cs,rfl,rfl,rfl⟩
end
open Go Go.Fw
set_option maxRecDepth 100000
set_option linter.unusedVariables false
set_option linter.unusedSimpArgs false
set_option maxHeartbeats 0
section
variable {b cap n : Nat} {cs : List Value} {l K : List Int} {k : Int}
abbrev SrQ (b cap n : Nat) (K : List Int) : Value → List Fact → List Blk → Prop:=fun v Φ β=>∃ cs',v = .tuple #[] ∧ Φ = [rowF I64 ⟨some b,cap,cs'⟩ n K] ∧ β = [(some b,3,cs')]
theorem S_slices_pdqsortOrdered_int_ (hn : n ≤ 12) (hr : ∀ x ∈ l,0 ≤ x ∧ x < 1000000) (hl : l.length = n) (hK : K.Pairwise (· < ·)) (hp : K.Perm l) :
  Ctr Tryz.prog 102 [.slice (some ⟨b,0,none⟩) n cap,.int .i64 0,.int .i64 n,.int .i64 k] [(some b,3,cs)] [rowF I64 ⟨some b,cap,cs⟩ n l] (SrQ b cap n K):=by
 refine Ctr_of_j' (F:=F_slices_pdqsortOrdered_int_) rfl fun C=>?_
 have c_slices_insertionSortOrdered_int_:=fun {cs : List Value}=>S_slices_insertionSortOrdered_int_ (b:=b) (cap:=cap) (n:=n) (cs:=cs) (l:=l) (K:=K) (by omega) hr hl hK hp
 refine wk 5 cz ?_
 refine j_loopG (X:=Nat) [0] [0] (fun _=>[(1,.int .i64 0),(2,.int .i64 n)]) (fun _=>_) (fun _=>[]) (fun _=>True) (fun i=>i) 0 [] rfl rfl rfl trivial (by repeat (first | exact Fr.sub_nil _ | refine Fr.sub_cons rfl ?_)) rfl rfl ?_
 rintro i hi ih
 simp only [List.cons_append,List.nil_append] at hi ih ⊢
 refine wk 10 (ct @c_slices_insertionSortOrdered_int_ cz) ?_
 intro h1 cs'1
 refine j_gives [0] rfl rfl rfl ⟨_,rfl,rfl,rfl⟩
theorem S_slices_Sort___int_int_ (hn : n ≤ 12) (hr : ∀ x ∈ l,0 ≤ x ∧ x < 1000000) (hl : l.length = n) (hK : K.Pairwise (· < ·)) (hp : K.Perm l) :
  Ctr Tryz.prog 52 [.slice (some ⟨b,0,none⟩) n cap] [(some b,3,cs)] [rowF I64 ⟨some b,cap,cs⟩ n l] (SrQ b cap n K):=by
 refine Ctr_of_j' (F:=F_slices_Sort___int_int_) rfl fun C=>?_
 have c_slices_pdqsortOrdered_int_:=fun {cs : List Value} {k : Int}=>S_slices_pdqsortOrdered_int_ (b:=b) (cap:=cap) (n:=n) (cs:=cs) (l:=l) (K:=K) (k:=k) hn hr hl hK hp
 refine wk 9 (ct @S_bits_Len (ct @c_slices_pdqsortOrdered_int_ cz)) ?_
 intro cs'1
 refine j_gives_end [0] rfl rfl ⟨_,rfl,rfl,rfl⟩
end
open Go Go.Fw
set_option maxRecDepth 100000
set_option linter.unusedVariables false
set_option linter.unusedSimpArgs false
set_option maxHeartbeats 0
noncomputable def plE (P M : Int) (md : List Int) (N : Int) (rows : List (List Int)) (lost away : List Int) : Int :=
 if ckE P M md N rows ≠ 0 then ckE P M md N rows else if ¬ (stP N lost ∧ stP N away) then 5 else if enP P.toNat M.toNat md N.toNat rows lost (othL N.toNat [lost,away]) = false then 19 else 0
abbrev PlQ (e : Int) (lo hs : List Int) (co : List (List Int)) (f : Bool) (t : List (List Int)) : Value → List Fact → List Blk → Prop:=fun v Φ β=>∃ (p1 p2 p3 p4 : Option Addr) (k1 k2 k3 k4 c1 c2 c3 c4 : Nat),v = .tuple #[.agg #[.slice p1 k1 c1,.slice p2 k2 c2,.slice p3 k3 c3,.bool f,.slice p4 k4 c4],.int .i64 e] ∧ Φ = [slF I64 p1 k1 c1 lo,slF I64 p2 k2 c2 hs,slF (encSl I64) p3 k3 c3 co,slF (encSl I64) p4 k4 c4 t] ∧ β = []
section
variable {P M N : Int} {nm cm n c nl cl na ca : Nat} {pm ps pl pa : Option Addr} {md lost away : List Int} {rows : List (List Int)}
theorem S_repair_Plan_err (hN : InR .i64 N) {e : Int} (h : plE P M md N rows lost away = e) (he : e ≠ 0) : Ctr Tryz.prog 19 [.agg #[.int .i64 P,.int .i64 M,.slice pm nm cm,.int .i64 N,.slice ps n c],.slice pl nl cl,.slice pa na ca] [] [slF I64 pm nm cm md,slF (encSl I64) ps n c rows,slF I64 pl nl cl lost,slF I64 pa na ca away] (PlQ e [] [] [] false []):=by
 refine Ctr_of_j' (F:=F_repair_Plan) rfl fun C=>?_
 refine j_len 2 rfl fun hn _ _=>?_
 subst hn
 refine j_len 3 rfl fun hn _ _=>?_
 subst hn
 have hr:=ckE_rng P M md N rows
 have c_code_Check:=fun {pm ps : Option Addr} {nm cm n c : Nat}=>S_code_Check (P:=P) (M:=M) (pm:=pm) (ps:=ps) (nm:=nm) (cm:=cm) (n:=n) (c:=c) (md:=md) (rows:=rows) hN rfl
 have c_repair_set:=fun {ps : Option Addr} {nn c : Nat} {n : Int} {l : List Int} {res : Bool} (hr : decide (stP n l) = res)=>S_repair_set (ps:=ps) (nn:=nn) (c:=c) (n:=n) (l:=l) hr
 rw [plE] at h
 by_cases hc : ckE P M md N rows = 0
 ·rw [if_neg (fun e=>e hc)] at h
  rw [hc] at c_code_Check
  by_cases h1 : stP N lost
  ·by_cases h2 : stP N away
   ·rw [if_neg (fun e=>e ⟨h1,h2⟩)] at h
    obtain ⟨p,m,N,rfl,rfl,rfl,CC⟩:=ck_of hc
    have h64:=CC.n64
    have hn1:=CC.n1
    have hst:=othL_st N [lost,away]
    simp only [Int.toNat_natCast] at h
    have c_repair_others:=fun {ps : Option Addr} {nn c : Nat}=>S_repair_others (ps:=ps) (nn:=nn) (c:=c) (n:=N) (ls:=[lost,away]) (by omega)
    have hle:=st_len hst
    have e0 : srL N (othL N [lost,away]) = othL N [lost,away]:=oth_oth hst
    cases hw : wtP p m md N rows lost (othL N [lost,away]) with
    | none =>
     rw [if_neg (by show ¬ (wtP p m md N rows lost _).isNone = false;rw [hw];simp)] at h
     exact absurd h.symm he
    | some w =>
     rw [if_pos (by show (wtP p m md N rows lost _).isNone = false;rw [hw];rfl)] at h
     subst h
     have hwl:=(wi_wd CC _ w (List.mem_of_find?_eq_some hw)).1
     have c_repair_witness:=fun {nm cm n c nl cl nh ch : Nat} {pm ps pl ph : Option Addr}=>S_wt_some (nm:=nm) (cm:=cm) (n:=n) (c:=c) (nl:=nl) (cl:=cl) (nh:=nh) (ch:=ch) (pm:=pm) (ps:=ps) (pl:=pl) (ph:=ph) (w:=w) (hs:=othL N [lost,away]) CC h1 (by rw [e0];exact hw)
     have hd1:=decide_eq_true h1
     have hd2:=decide_eq_true h2
     generalize othL N [lost,away] = all at *
     refine j_nf [_,_] rfl ?_
     refine j_step rfl (x_box_agg rfl fun b1=>?_)
     refine j_step rfl (x_alloc zo40 fun b2=>?_)
     refine j_run it 1 rfl (by simp) ?_
     refine j_nf [_,_,_] rfl ?_
     refine j_step rfl (x_bld_all 1 rfl rfl ld27 rfl ?_)
     refine j_step rfl (x_call [0,1] rfl (c_code_Check) rfl ?_)
     rintro _ _ _ ⟨rfl,rfl,rfl⟩
     simp only [List.cons_append,List.nil_append]
     refine j_run it 1 rfl (by simp) ?_
     refine j_nf [_,_,_] rfl ?_
     refine j_run it 2 rfl (by simp) ?_
     refine j_nf [_,_] rfl ?_
     refine j_ifn rfl rfl (fun h3=>by exfalso;omega) (fun h3=>?_)
     refine j_nf [_,_,_] rfl ?_
     refine j_run it 1 rfl (by simp) ?_
     refine j_step rfl (x_field rfl fd27_1 ?_)
     refine j_step rfl (x_bld 1 rfl rfl ld3 rfl ?_)
     refine j_step rfl (x_call [2] rfl (c_repair_set (by omega)) rfl ?_)
     rintro _ _ _ ⟨rfl,rfl,rfl⟩
     simp only [List.cons_append,List.nil_append]
     simp only [decide_true]
     refine j_run it 3 rfl (by simp) ?_
     refine j_gstep rfl rfl (x_field rfl fd27_1 ?_)
     refine j_gstep rfl rfl (x_bld 1 rfl rfl ld3 rfl ?_)
     refine j_gstep rfl rfl (x_call [3] rfl (c_repair_set (by omega)) rfl ?_)
     rintro _ _ _ ⟨rfl,rfl,rfl⟩
     simp only [List.cons_append,List.nil_append]
     refine j_run it 2 rfl (by simp) ?_
     refine j_nf [_,_] rfl ?_
     refine j_false rfl rfl ?_
     refine j_nf [_,_] rfl ?_
     refine j_step rfl (x_field rfl fd27_1 ?_)
     refine j_step rfl (x_bld 1 rfl rfl ld3 rfl ?_)
     refine j_run it 2 rfl (by simp) ?_
     refine j_step rfl (x_lit sl25 zo25e rfl rfl rfl rfl (by decide) (by decide) rfl fun b3=>?_)
     refine j_pub_all (E:=(encSl (I64))) (n:=2) [[Value.slice pl lost.length cl],[Value.slice pa away.length ca]] [lost,away] 0 (fun w A hG=>(allrd_cons (rd_of_slF (hG _ (fact_mem (n:=2) rfl))) (allrd_cons (rd_of_slF (hG _ (fact_mem (n:=3) rfl))) allrd_nil))) rfl rfl rfl rfl (by first | decide | exact Nat.le_of_ble_eq_true rfl) (by first | decide | exact Nat.le_of_ble_eq_true rfl) ?_
     refine j_step rfl (x_call [0] rfl (c_repair_others) rfl ?_)
     rintro _ _ _ ⟨r1,rfl,rfl,rfl⟩
     simp only [List.cons_append,List.nil_append]
     refine j_run it 1 rfl (by simp) ?_
     refine j_nf [_,_,_] rfl ?_
     refine j_step rfl (x_bld_all 2 rfl rfl ld27 rfl ?_)
     refine j_run it 2 rfl (by simp) ?_
     refine j_pubR 0 0 rfl rfl (by show (all.length) * 8 ≤ 140737488355328;omega) ?_
     refine j_step rfl (x_call [3,4,5,0] rfl (c_repair_witness) rfl ?_)
     rintro _ _ _ ⟨pa1,k1,ca1,rfl,rfl,rfl⟩
     simp only [List.cons_append,List.nil_append] --ok
     refine j_len 0 rfl fun hn _ _=>?_
     subst hn
     refine j_slsome 0 rfl (by omega) fun b1 o1 hpa=>?_
     subst hpa
     refine j_step rfl (x_nenilS sl22 rfl rfl ?_)
     refine wk 7 cz ?_
     refine j_add (slF (encSl I64) none 0 0 []) (fun w A _=>slF_nil _ w A none 0) ?_
     refine j_add (slF I64 none 0 0 []) (fun w A _=>slF_nil _ w A none 0) ?_
     refine j_givC [0,0,1,1] rfl (.agg 0 rfl rfl ld40 rfl (.tmp rfl .nil)) rfl ⟨none,none,none,none,0,0,0,0,0,0,0,0,rfl,rfl,rfl⟩
   ·rw [if_pos (fun e=>h2 e.2)] at h
    subst h
    have hd1:=decide_eq_true h1
    have hd2:=decide_eq_false h2
    refine wk 29 (ct @c_code_Check (ct @c_repair_set (ct @c_repair_set cz))) ?_
    intro b1 b2 h3
    refine j_add (slF (encSl I64) none 0 0 []) (fun w A _=>slF_nil _ w A none 0) ?_
    refine j_add (slF I64 none 0 0 []) (fun w A _=>slF_nil _ w A none 0) ?_
    refine j_givC [0,0,1,1] rfl (.agg 0 rfl rfl ld40 rfl (.tmp rfl .nil)) rfl ⟨none,none,none,none,0,0,0,0,0,0,0,0,rfl,rfl,rfl⟩
  ·rw [if_pos (fun e=>h1 e.1)] at h
   subst h
   have hd1:=decide_eq_false h1
   refine wk 25 (ct @c_code_Check (ct @c_repair_set cz)) ?_
   intro b1 b2 h2
   refine j_add (slF (encSl I64) none 0 0 []) (fun w A _=>slF_nil _ w A none 0) ?_
   refine j_add (slF I64 none 0 0 []) (fun w A _=>slF_nil _ w A none 0) ?_
   refine j_givC [0,0,1,1] rfl (.agg 0 rfl rfl ld40 rfl (.tmp rfl .nil)) rfl ⟨none,none,none,none,0,0,0,0,0,0,0,0,rfl,rfl,rfl⟩
 ·rw [if_pos hc] at h
  rw [h] at c_code_Check hr
  refine wk 18 (ct @c_code_Check cz) ?_
  intro b1 b2 h1
  refine j_add (slF (encSl I64) none 0 0 []) (fun w A _=>slF_nil _ w A none 0) ?_
  refine j_add (slF I64 none 0 0 []) (fun w A _=>slF_nil _ w A none 0) ?_
  refine j_givC [0,0,1,1] rfl (.agg 0 rfl rfl ld40 rfl (.tmp rfl .nil)) rfl ⟨none,none,none,none,0,0,0,0,0,0,0,0,rfl,rfl,rfl⟩
end
section
variable {p m N nm cm n c nl cl na ca : Nat} {pm ps pl pa : Option Addr} {md lost away : List Int} {rows : List (List Int)}
theorem S_repair_Plan_ok (CC : Cok p m md N rows) (hN : N ≤ 12) (hlo : stP N lost) (haw : stP N away) (hall : enP p m md N rows lost (othL N [lost,away]) = true) {hs : List Int} {f : Bool} {pf : List (List Int)} (hP : plP p m N md lost away rows (N + 1) 0 [] = (hs,f,pf)) : Ctr Tryz.prog 19 [.agg #[.int .i64 p,.int .i64 m,.slice pm nm cm,.int .i64 N,.slice ps n c],.slice pl nl cl,.slice pa na ca] [] [slF I64 pm nm cm md,slF (encSl I64) ps n c rows,slF I64 pl nl cl lost,slF I64 pa na ca away] (PlQ 0 lost hs (coP p m md rows lost hs) f pf):=by
 refine Ctr_of_j' (F:=F_repair_Plan) rfl fun C=>?_
 refine j_len 2 rfl fun hn _ _=>?_
 subst hn
 refine j_len 3 rfl fun hn _ _=>?_
 subst hn
 have h64:=CC.n64
 have hn1:=CC.n1
 have ok:=pl_ok CC hlo hall (N + 1) 0 [] (.inl ⟨rfl,rfl⟩)
 rw [hP] at ok
 have hB : coB p m md rows lost hs = true:=by rw [co_en CC hlo,en_wt CC hlo];exact ok.en
 have hpe : pairE p m md N rows lost hs = 0:=by
  rw [pairE,if_neg (fun e=>e CC.ck),if_neg (fun e=>e ⟨hlo,ok.st⟩),if_neg]
  rw [List.any_eq_true]
  rintro ⟨x,h1,h2⟩
  exact (ok.sub x (of_decide_eq_true h2)).1 h1
 have c_repair_Combine:=fun {n c nm cm nl cl nh ch : Nat} {pm ps pl ph : Option Addr}=>S_repair_Combine (pm:=pm) (nm:=nm) (cm:=cm) (ps:=ps) (n:=n) (c:=c) (pl:=pl) (nl:=nl) (cl:=cl) (ph:=ph) (nh:=nh) (ch:=ch) CC hpe hlo ok.st hB
 simp only [if_true] at c_repair_Combine
 have hck : ckE p m md N rows = 0:=CC.ck
 have c_code_Check:=fun {pm ps : Option Addr} {nm cm n c : Nat}=>S_code_Check (P:=p) (M:=m) (pm:=pm) (ps:=ps) (nm:=nm) (cm:=cm) (n:=n) (c:=c) (md:=md) (rows:=rows) (N:=N) (by simp only [InR];omega) hck
 have c_repair_set:=fun {ps : Option Addr} {nn c : Nat} {n : Int} {l : List Int} {res : Bool} (hr : decide (stP n l) = res)=>S_repair_set (ps:=ps) (nn:=nn) (c:=c) (n:=n) (l:=l) hr
 have hst:=othL_st N [lost,away]
 have c_repair_others:=fun {ps : Option Addr} {nn c : Nat}=>S_repair_others (ps:=ps) (nn:=nn) (c:=c) (n:=N) (ls:=[lost,away]) (by omega)
 have hle:=st_len hst
 have hl1:=st_len hlo
 have e0 : srL N (othL N [lost,away]) = othL N [lost,away]:=oth_oth hst
 have c_repair_witness:=fun {nm cm n c nl cl nh ch : Nat} {pm ps pl ph : Option Addr}=>S_wt_none (nm:=nm) (cm:=cm) (n:=n) (c:=c) (nl:=nl) (cl:=cl) (nh:=nh) (ch:=ch) (pm:=pm) (ps:=ps) (pl:=pl) (ph:=ph) (hs:=othL N [lost,away]) CC hlo (by rw [e0];exact Option.isNone_iff_eq_none.1 hall)
 have c_slices_Clone___int_int_:=fun {ps : Option Addr} {cs : Nat}=>(S_slices_Clone___int_int_ (ps:=ps) (n:=lost.length) (cs:=cs) (l:=lost)).pubR (by show _ * 8 ≤ 140737488355328;omega)
 have hd1:=decide_eq_true hlo
 have hd2:=decide_eq_true haw
 refine j_nf [_,_] rfl ?_
 refine j_step rfl (x_box_agg rfl fun b1=>?_)
 refine j_step rfl (x_alloc zo40 fun b2=>?_)
 refine j_run it 1 rfl (by simp) ?_
 refine j_nf [_,_,_] rfl ?_
 refine j_step rfl (x_bld_all 1 rfl rfl ld27 rfl ?_)
 refine j_step rfl (x_call [0,1] rfl (c_code_Check) rfl ?_)
 rintro _ _ _ ⟨rfl,rfl,rfl⟩
 simp only [List.cons_append,List.nil_append]
 refine j_run it 1 rfl (by simp) ?_
 refine j_nf [_,_,_] rfl ?_
 refine j_run it 2 rfl (by simp) ?_
 refine j_nf [_,_] rfl ?_
 refine j_ifn rfl rfl (fun h1=>by exfalso;omega) (fun h1=>?_)
 refine j_nf [_,_,_] rfl ?_
 refine j_run it 1 rfl (by simp) ?_
 refine j_step rfl (x_field rfl fd27_1 ?_)
 refine j_step rfl (x_bld 1 rfl rfl ld3 rfl ?_)
 refine j_step rfl (x_call [2] rfl (c_repair_set (by omega)) rfl ?_)
 rintro _ _ _ ⟨rfl,rfl,rfl⟩
 simp only [List.cons_append,List.nil_append]
 simp only [decide_true]
 refine j_run it 3 rfl (by simp) ?_
 refine j_gstep rfl rfl (x_field rfl fd27_1 ?_)
 refine j_gstep rfl rfl (x_bld 1 rfl rfl ld3 rfl ?_)
 refine j_gstep rfl rfl (x_call [3] rfl (c_repair_set (by omega)) rfl ?_)
 rintro _ _ _ ⟨rfl,rfl,rfl⟩
 simp only [List.cons_append,List.nil_append]
 refine j_run it 2 rfl (by simp) ?_
 refine j_nf [_,_] rfl ?_
 refine j_false rfl rfl ?_
 refine j_nf [_,_] rfl ?_
 refine j_step rfl (x_field rfl fd27_1 ?_)
 refine j_step rfl (x_bld 1 rfl rfl ld3 rfl ?_)
 refine j_run it 2 rfl (by simp) ?_
 refine j_step rfl (x_lit sl25 zo25e rfl rfl rfl rfl (by decide) (by decide) rfl fun b3=>?_)
 refine j_pub_all (E:=(encSl (I64))) (n:=2) [[Value.slice pl lost.length cl],[Value.slice pa away.length ca]] [lost,away] 0 (fun w A hG=>(allrd_cons (rd_of_slF (hG _ (fact_mem (n:=2) rfl))) (allrd_cons (rd_of_slF (hG _ (fact_mem (n:=3) rfl))) allrd_nil))) rfl rfl rfl rfl (by first | decide | exact Nat.le_of_ble_eq_true rfl) (by first | decide | exact Nat.le_of_ble_eq_true rfl) ?_
 refine j_step rfl (x_call [0] rfl (c_repair_others) rfl ?_)
 rintro _ _ _ ⟨r1,rfl,rfl,rfl⟩
 simp only [List.cons_append,List.nil_append]
 refine j_run it 1 rfl (by simp) ?_
 refine j_nf [_,_,_] rfl ?_
 refine j_step rfl (x_bld_all 2 rfl rfl ld27 rfl ?_)
 refine j_run it 2 rfl (by simp) ?_
 refine j_pubR 0 0 rfl rfl (by show ((othL N [lost,away]).length) * 8 ≤ 140737488355328;omega) ?_
 refine j_step rfl (x_call [3,4,5,0] rfl (c_repair_witness) rfl ?_)
 rintro _ _ _ ⟨rfl,rfl,rfl⟩
 simp only [List.cons_append,List.nil_append]
 refine j_step rfl (x_nenilN sl22 rfl rfl ?_)
 refine j_nf [_,_] rfl ?_
 refine j_false rfl rfl ?_
 refine j_nf [_,_] rfl ?_
 refine j_run it 1 rfl (by simp) ?_
 refine j_step rfl (x_call [5] rfl (c_slices_Clone___int_int_) rfl ?_)
 rintro _ _ _ ⟨pa1,ca1,rfl,rfl,rfl⟩
 simp only [List.cons_append,List.nil_append]
 refine j_step rfl (x_build (cs:=[Value.slice pa1 lost.length ca1,Value.slice none 0 0,Value.slice none 0 0,Value.bool false,Value.slice none 0 0]) st40 zo40 rfl rfl ?_)
 refine j_step rfl (x_alloc zo40 fun b4=>?_)
 refine j_step rfl (x_bst_all 0 rfl rfl rfl ld40 rfl rfl (by simp [Value.oneCell']) ?_)
 refine j_nf [_,_] rfl ?_
 refine j_run it 1 rfl (by simp) ?_
 refine j_nf [_,_,_] rfl ?_
 refine j_run it 1 rfl (by simp) ?_
 refine j_nf [_,_,_] rfl ?_
 simp only [setB,List.set_cons_zero,List.eraseIdx_cons_zero,List.eraseIdx_cons_succ,List.cons_append,List.nil_append]
 refine j_add (slF I64 none 0 0 []) (fun w A _=>slF_nil _ w A none 0) ?_
 refine j_add (slF (encSl I64) none 0 0 []) (fun w A _=>slF_nil _ w A none 0) ?_
 refine j_loopG (X:=Nat × Option Addr × Nat × Nat × List (List Int)) [1,2,3,6,7,9,10] [0,1,2,3,4,5,6,7,8,9] (fun x=>[(12,.int .i64 (x.1 : Int)),(11,.slice x.2.1 x.2.2.1 x.2.2.2.1)]) (fun _=>_) (fun x=>[slF (encSl I64) x.2.1 x.2.2.1 x.2.2.2.1 x.2.2.2.2]) (fun x=>x.1 ≤ (othL N [lost,away]).length ∧ plP p m N md lost away rows (N + 1) 0 [] = plP p m N md lost away rows (N + 1 - x.1) x.1 x.2.2.2.2) (fun x=>N + 1 - x.1) (0,none,0,0,[]) [0] rfl rfl rfl ⟨Nat.zero_le _,rfl⟩ (by repeat (first | exact Fr.sub_nil _ | refine Fr.sub_cons rfl ?_)) rfl rfl ?_
 rintro ⟨w,pp,kp,cp,t⟩ ⟨hw,hg⟩ ih
 simp only [List.cons_append,List.nil_append] at hw hg ih ⊢
 rw [hP,show N + 1 - w = (N - w) + 1 by omega,plP,plR] at hg
 have c_repair_hunt__node:=fun {b : Nat}=>S_repair_hunt__node CC hlo (away:=away) w (s:=[]) (z:=[]) (k:=4096) (T:=[]) (W:=w) (b:=b) (pm:=pm) (nm:=nm) (cm:=cm) (ps:=ps) (n:=n) (c:=c) (pl:=pl) (nl:=lost.length) (cl:=cl) (pa:=pa) (na:=away.length) (ca:=ca) (r:=⟨none,0,[]⟩) (pS:=none) (ns:=0) (cs:=0) (pz:=none) (nz:=0) (cz':=0) (by simp) (by omega) (by simp;omega) (by simp) (by simp) (by simp)
 have hen:=hunt_ends CC hlo hall (w:=w)
 have hset:=fun {s : List Int}=>hunt_set (lost:=lost) (away:=away) CC (w:=w) (s:=s)
 obtain ⟨⟨⟨k',T'⟩,o⟩,hH⟩ : ∃ x,huP p m N md lost away rows w [] [] (4096,[]) = x:=⟨_,rfl⟩
 rw [show huW p m N md lost away rows w = ((k',T'),o) from hH] at hg hen hset
 simp only [hH,List.length_nil] at c_repair_hunt__node
 dsimp only at hg hen hset
 have hTl : T'.length + k' ≤ 0 + 4096:=by have:=(hu_le (add:=apI) (wt:=fun s=>wtP p m md N rows lost (srL N s)) (br:=fun z w=>brL lost away z w N) w [] [] (4096,[])).2;rw [show huT apI (fun s=>wtP p m md N rows lost (srL N s)) (fun z w=>brL lost away z w N) w [] [] (4096,[]) = ((k',T'),o) from hH] at this;exact this
 cases o with
 | none =>
  have hw2 : w < (othL N [lost,away]).length:=by
   refine Classical.byContradiction fun h=>hen (by omega) rfl
  simp only [NoQ] at c_repair_hunt__node
  refine j_nf [_,_,_,_,_,_,_] rfl ?_
  refine j_step rfl (x_bld_all 2 rfl rfl ld27 rfl ?_)
  refine j_run it 3 rfl (by simp) ?_
  refine j_step rfl (x_build (cs:=[Value.int IntKind.i64 ↑p,Value.int IntKind.i64 ↑m,Value.slice pm nm cm,Value.int IntKind.i64 ↑N,Value.slice ps n c,Value.slice pl lost.length cl,Value.slice pa away.length ca,Value.int IntKind.i64 ↑w,Value.int IntKind.i64 4096,Value.slice none 0 0]) st83 zo83 rfl rfl ?_)
  refine j_step rfl (x_alloc zo83 fun b5=>?_)
  refine j_step rfl (x_bst_all 0 rfl rfl rfl ld83 rfl rfl (by simp [Value.oneCell']) ?_)
  refine j_nf [_,_,_,_,_,_,_] rfl ?_
  refine j_row0 (encSl I64) 22 ?_
  refine j_selB [1,0,2,3,4] rfl rfl ?_
  refine wk 13 (ct @c_repair_hunt__node cz) ?_
  intro r2
  simp only [List.length_cons,List.length_nil,List.drop_succ_cons,List.drop_zero,List.cons_append,List.nil_append]
  refine j_pubR 1 0 rfl rfl (by show T'.length * 24 ≤ 140737488355328;omega) ?_
  refine j_toM [false,true,true,true] [0,4,5,6,7,8,9,10,11,12,13] (by exact fra rfl) rfl rfl (ih (w + 1,ad r2.bo,T'.length,r2.cap,T') (by dsimp only;omega) ⟨by dsimp only;omega,by dsimp only;rw [show N + 1 - (w + 1) = N - w by omega];exact hP.trans hg⟩)
 | some o =>
 clear ih
 cases o with
 | none =>
  obtain ⟨rfl,rfl,rfl⟩ : hs = fewGo (enP p m md N rows lost) (othL N [lost,away]).length (othL N [lost,away]) ∧ f = false ∧ pf = []:=by simpa using hg
  simp only [NoQ] at c_repair_hunt__node
  have c_repair_spare:=fun {nm cm n c nl cl nh ch : Nat} {pm ps pl ph : Option Addr}=>S_repair_spare (nm:=nm) (cm:=cm) (n:=n) (c:=c) (nl:=nl) (cl:=cl) (nh:=nh) (ch:=ch) (pm:=pm) (ps:=ps) (pl:=pl) (ph:=ph) CC hlo hst
  generalize hfw : fewGo (enP p m md N rows lost) (othL N [lost,away]).length (othL N [lost,away]) = hs at *
  refine j_nf [_,_,_,_,_,_,_] rfl ?_
  refine j_step rfl (x_bld_all 2 rfl rfl ld27 rfl ?_)
  refine j_run it 3 rfl (by simp) ?_
  refine j_step rfl (x_build (cs:=[Value.int IntKind.i64 ↑p,Value.int IntKind.i64 ↑m,Value.slice pm nm cm,Value.int IntKind.i64 ↑N,Value.slice ps n c,Value.slice pl lost.length cl,Value.slice pa away.length ca,Value.int IntKind.i64 ↑w,Value.int IntKind.i64 4096,Value.slice none 0 0]) st83 zo83 rfl rfl ?_)
  refine j_step rfl (x_alloc zo83 fun b5=>?_)
  refine j_step rfl (x_bst_all 0 rfl rfl rfl ld83 rfl rfl (by simp [Value.oneCell']) ?_)
  refine j_nf [_,_,_,_,_,_,_] rfl ?_
  refine j_row0 (encSl I64) 22 ?_
  refine j_selB [1,0,2,3,4] rfl rfl ?_
  refine wk 8 (ct @c_repair_hunt__node cz) ?_
  intro r2
  refine j_step rfl (x_nenilN sl22 rfl rfl ?_)
  refine wk 22 (ct @c_repair_spare (ct @c_repair_Combine cz)) ?_
  intro pa2 k1 ca2 pb1 cb1
  refine j_givC [7,1,0,5] rfl (.agg 3 rfl rfl ld40 rfl (.tmp rfl .nil)) rfl ⟨_,_,_,_,_,_,_,_,_,_,_,_,rfl,rfl,rfl⟩
 | some l =>
  obtain ⟨rfl,rfl,rfl⟩ : hs = srL N l ∧ f = true ∧ pf = t:=by simpa using hg
  obtain ⟨h1,h2,h3,h4⟩:=hset rfl
  have hsl:=srL_len (fun y hy=>(h4 y hy).1) h3
  simp only [NoQ] at c_repair_hunt__node
  have c_slices_Sort___int_int_:=fun {b cap : Nat} {cs : List Value}=>S_slices_Sort___int_int_ (b:=b) (cap:=cap) (n:=l.length) (cs:=cs) (l:=l) (K:=srL N l) (by omega) (fun x hx=>by have:=(h4 x hx).1;omega) rfl ok.st.2 (srL_pm (fun y hy=>(h4 y hy).1) h3)
  generalize srL N l = hs at *
  refine j_nf [_,_,_,_,_,_,_] rfl ?_
  refine j_step rfl (x_bld_all 2 rfl rfl ld27 rfl ?_)
  refine j_run it 3 rfl (by simp) ?_
  refine j_step rfl (x_build (cs:=[Value.int IntKind.i64 ↑p,Value.int IntKind.i64 ↑m,Value.slice pm nm cm,Value.int IntKind.i64 ↑N,Value.slice ps n c,Value.slice pl lost.length cl,Value.slice pa away.length ca,Value.int IntKind.i64 ↑w,Value.int IntKind.i64 4096,Value.slice none 0 0]) st83 zo83 rfl rfl ?_)
  refine j_step rfl (x_alloc zo83 fun b5=>?_)
  refine j_step rfl (x_bst_all 0 rfl rfl rfl ld83 rfl rfl (by simp [Value.oneCell']) ?_)
  refine j_nf [_,_,_,_,_,_,_] rfl ?_
  refine j_row0 (encSl I64) 22 ?_
  refine j_selB [1,0,2,3,4] rfl rfl ?_
  refine wk 8 (ct @c_repair_hunt__node cz) ?_
  intro r2 b21 c21 cs21
  refine j_step rfl (x_nenilS sl22 rfl rfl ?_)
  refine wk 18 (ct @c_slices_Sort___int_int_ cz) ?_
  intro cs'1
  simp only [List.length_cons,List.length_nil,List.drop_succ_cons,List.drop_zero,List.cons_append,List.nil_append,List.eraseIdx_cons_zero,List.eraseIdx_cons_succ,setB,List.set_cons_succ,List.set_cons_zero]
  refine j_pubRb 0 0 rfl rfl (by show l.length * 8 ≤ 140737488355328;omega) ?_
  refine wk 9 (ct @c_repair_Combine cz) ?_
  intro pb1 cb1
  refine j_givC [9,1,0,6] rfl (.agg 3 rfl rfl ld40 rfl (.tmp rfl .nil)) rfl ⟨_,_,_,_,_,_,_,_,_,_,_,_,rfl,rfl,rfl⟩
end
open Go Go.Fw
set_option maxRecDepth 100000
set_option linter.unusedVariables false
set_option linter.unusedSimpArgs false
set_option maxHeartbeats 0
section
variable {P : Program} {F : Fun P} {C : Cx} {S : List It} {R : Value → World → Prop} {β : List Blk} {Γ : List Fact} {it : List (TypeId × IntKind)} {L : List Oper} {pt : List (List Nat)} {p : List Nat} {σ κ : Fr} {fs : List (Nat × Fact)} {al : List Blk} {i : Nat}
end
open Go Go.Fw
set_option maxRecDepth 100000
set_option linter.unusedVariables false
set_option linter.unusedSimpArgs false
set_option maxHeartbeats 0
section
variable {add : List Int → Int → List Int} {f : List Int → List Int → Nat × List (List Int) → (Nat × List (List Int)) × Option (Option (List Int))}
end
section
variable {p m N : Nat} {md lost away : List Int} {rows : List (List Int)}
end
open Go Go.Fw
set_option maxRecDepth 100000
set_option linter.unusedVariables false
set_option linter.unusedSimpArgs false
set_option maxHeartbeats 0
section
variable {P M N : Int} {nm cm n c nl cl na ca : Nat} {pm ps pl pa : Option Addr} {md lost away : List Int} {rows : List (List Int)}
theorem setsB2 {P M N : Int} {md l k : List Int} {rows : List (List Int)} : setsE P M md N rows [l,k] = if ckE P M md N rows ≠ 0 then ckE P M md N rows else if stP N l ∧ stP N k then 0 else 5:=by
 rw [setsE]
 congr 1
 by_cases h2 : stP N l ∧ stP N k
 ·rw [if_pos h2,if_pos fun x hx=>?_]
  rcases List.mem_cons.1 hx with rfl | hx
  ·exact h2.1
  ·rw [List.mem_singleton.1 hx];exact h2.2
 ·rw [if_neg h2,if_neg fun h=>h2 ⟨h _ (.head _),h _ (.tail _ (.head _))⟩]
end
section
variable {n1 c1 n2 c2 n3 c3 n4 c4 m1 d1 m2 d2 m3 d3 m4 d4 : Nat} {p1 p2 p3 p4 q1 q2 q3 q4 : Option Addr} {lo hs : List Int} {co t : List (List Int)} {f : Bool}
end
section
variable {p m N nm cm n c nl cl na ca : Nat} {pm ps pl pa : Option Addr} {md lost away : List Int} {rows : List (List Int)}
end
open Go Go.Fw
set_option maxRecDepth 100000
set_option linter.unusedVariables false
set_option linter.unusedSimpArgs false
set_option maxHeartbeats 0
section
variable {P : Program} {C : Cx} {σ : Fr} {β : List Blk} {Γ : List Fact} {ty : TypeId} {K : Value → List Blk → List Fact → Prop}
end
section
variable {p m N : Nat} {md lost away : List Int} {rows : List (List Int)}
end
open Go Go.Fw
set_option maxRecDepth 100000
set_option linter.unusedVariables false
set_option linter.unusedSimpArgs false
set_option maxHeartbeats 0
section
variable {P M N w e : Int} {nm cm n c nl cl na ca nt ct : Nat} {md lost away : List Int} {rows t : List (List Int)} {pm ps pl pa pt : Option Addr}
end
open Go Go.Fw
set_option maxRecDepth 100000
set_option linter.unusedVariables false
set_option linter.unusedSimpArgs false
set_option maxHeartbeats 0
section
variable {P M N e : Int} {nm cm n c na ca nl cl nh ch nc cc np cp : Nat} {md away lost hs : List Int} {rows coef t : List (List Int)} {f : Bool} {pm ps pa pl ph pc pp : Option Addr}
end
open Go Go.Fw
set_option maxRecDepth 100000
set_option linter.unusedVariables false
set_option linter.unusedSimpArgs false
set_option maxHeartbeats 0
section
variable {P M N e : Int} {nm cm n c na ca nl cl nh ch nc cc np cp : Nat} {md away lost hs : List Int} {rows coef t : List (List Int)} {f : Bool} {pm ps pa pl ph pc pp : Option Addr}
end
open Go Go.Fw
set_option maxRecDepth 100000
set_option linter.unusedVariables false
set_option linter.unusedSimpArgs false
set_option maxHeartbeats 0
section
variable {p m N : Nat} {md lost away hs : List Int} {rows t : List (List Int)}
theorem en_more (CC : Cok p m md N rows) (hlo : stP N lost) {H K : List Int} (hK : stP N K) (hsub : ∀ x ∈ H,x ∈ K) (h : enB p m md rows lost H = true) : enP p m md N rows lost K = true:=by
 cases hw : wtP p m md N rows lost K with
 | none=>show (wtP p m md N rows lost K).isNone = true;rw [hw];rfl
 | some w =>
  have e0 : srL N K = K:=oth_oth hK
  obtain ⟨h1,h2,h3⟩:=wt_word (s:=K) CC (by rw [e0];exact hw) hK.1
  rw [gdB,Bool.and_eq_true,Bool.and_eq_true,Bool.and_eq_true] at h2
  have:=not_en (H:=H) CC hlo h1 h2.1.1.2 (fun x hx=>h3 x (hsub x hx)) h2.2
  rw [h] at this;cases this
end
section
variable {P M N : Int} {n c nm cm nl cl na ca nh ch nx cx : Nat} {pm ps pl pa ph px : Option Addr} {md lost away hs msg : List Int} {rows : List (List Int)}
theorem S_codewrightlaw53_short {b : Bool} (hN : InR .i64 N) (h : (ckE P M md N rows ≠ 0 ∧ b = true) ∨ (ckE P M md N rows = 0 ∧ b = decide (N ≤ 10))) : Ctr Tryz.prog 18 [.agg #[.int .i64 P,.int .i64 M,.slice pm nm cm,.int .i64 N,.slice ps n c]] [] [slF I64 pm nm cm md,slF (encSl I64) ps n c rows] (Rv (.bool b) []):=by
 refine Ctr_of_j' (F:=F_codewrightlaw53_short) rfl fun C=>?_
 have hr:=ckE_rng P M md N rows
 have c_codewrightref12_Check:=fun {pm ps : Option Addr} {nm cm n c : Nat}=>S_codewrightref12_Check (P:=P) (M:=M) (pm:=pm) (ps:=ps) (nm:=nm) (cm:=cm) (n:=n) (c:=c) (md:=md) (rows:=rows) hN rfl
 rcases h with ⟨h1,rfl⟩ | ⟨h1,rfl⟩
 ·generalize ckE P M md N rows = e at *
  refine wk 11 (ct @c_codewrightref12_Check cz) ?_
  intro b1 h2
  exact ge
 ·rw [h1] at c_codewrightref12_Check
  refine wk 12 (ct @c_codewrightref12_Check cz) ?_
  intro b1 h2
  exact ge
end
open Go Go.Fw
set_option maxRecDepth 100000
set_option linter.unusedVariables false
set_option linter.unusedSimpArgs false
set_option maxHeartbeats 0
section
variable {q : Nat} {A M : Int → Int → Int} {N V : Int → Int} (O : FO q A M N V)
include O
theorem FO.cmb_orth {n : Nat} {R : List (List Int)} (hR : Mat q n R) {g : List Int} (hg : Wd q n g) (hs : Sol A M R g) {x : List Int} (hx : ∀ a ∈ x,0 ≤ a ∧ a < q) : dotL A M g (cmbL A M n x R) = 0:=by
 refine O.cmbF_ind (P:=fun u=>dotL A M g u = 0) hR (fun a r u hr a0 a1 hu h=>?_) hx (fun r hr=>hr) (O.wz n) (O.fi.dz hg)
 have hq:=O.q2
 show dotL A M g (axp A M a r u) = 0
 rw [O.fi.daxp a0 a1 hg (hR r hr) hu,h,hs r hr,O.fi.m0 a0 a1,O.fi.a0 0 (Int.le_refl 0) (by omega)]
end
section
variable {p m N : Nat} {md lost away msg : List Int} {rows : List (List Int)}
abbrev duR (p m : Nat) (md : List Int) (N : Nat) (rows : List (List Int)) : List (List Int):=(cnP p m md N (nuP p m md N rows)).1
theorem du_mat (CC : Cok p m md N rows) : Mat (p ^ m) N (duR p m md N rows):=by
 have O:=fok_fn CC.K
 exact (O.cn (O.nu CC.mat).1).1.mat
theorem du_orth (CC : Cok p m md N rows) {x : List Int} (hx : ∀ a ∈ x,0 ≤ a ∧ a < ((p ^ m : Nat) : Int)) {w : List Int} (hw : Cmb (p ^ m) (liftI (fA p m)) (liftI (fM p (fpo m md))) N rows w) : dotL (liftI (fA p m)) (liftI (fM p (fpo m md))) w (cbP p m md N x (duR p m md N rows)) = 0:=by
 have O:=fok_fn CC.K
 have hv : Wd (p ^ m) N (cbP p m md N x (duR p m md N rows)):=O.cmb_wd hx (du_mat CC)
 have hg : ∀ g ∈ rows,dotL (liftI (fA p m)) (liftI (fM p (fpo m md))) g (cbP p m md N x (duR p m md N rows)) = 0:=fun g hg=>by
  have hgw:=CC.mat g hg
  refine O.cmb_orth (du_mat CC) hgw ?_ hx
  obtain ⟨h1,h2⟩:=O.nu CC.mat
  exact ((O.cn h1).2 g hgw).2 ((h2 g hgw).2 fun y hy hs=>hs g hg)
 obtain ⟨t,ht,he⟩:=O.cmb_coef CC.mat hw
 have hww:=O.cmb_mat CC.mat hw
 have e : w = cmbL (liftI (fA p m)) (liftI (fM p (fpo m md))) N t rows:=wd_at_ext hww (O.cmb_wd ht.2 CC.mat) fun j hj=>by rw [he,O.cmb_at ht.2 CC.mat]
 rw [O.fi.dcomm hww hv,e]
 refine O.cmb_orth CC.mat hv (fun g hg2=>?_) ht.2
 rw [O.fi.dcomm hv (CC.mat g hg2)]
 exact hg g hg2
abbrev suL (l : Int) (v : List Int) (N : Nat) : List Int:=brL [l] [] [] v N
theorem brL_st {lost away z w : List Int} {n : Nat} : stP n (brL lost away z w n):=by
 refine ⟨fun x hx=>?_,?_⟩
 ·obtain ⟨i,rfl,hi,_⟩:=brL_mem.1 hx
  exact ⟨by omega,by omega⟩
 ·rw [brL,List.pairwise_map]
  refine List.Pairwise.sublist List.filter_sublist ?_
  exact (List.pairwise_lt_range (n:=n)).imp fun h=>by omega
theorem su_en (CC : Cok p m md N rows) {l : Int} (hlo : stP N [l]) {x : List Int} (hx : ∀ a ∈ x,0 ≤ a ∧ a < ((p ^ m : Nat) : Int)) (h1 : at0 (cbP p m md N x (duR p m md N rows)) l.toNat ≠ 0) : enB p m md rows [l] (suL l (cbP p m md N x (duR p m md N rows)) N) = true:=by
 have O:=fok_fn CC.K
 have hq:=O.q2
 have hv : Wd (p ^ m) N (cbP p m md N x (duR p m md N rows)):=O.cmb_wd hx (du_mat CC)
 obtain ⟨l0,l1⟩:=hlo.1 l (.head _)
 rw [en_wt CC hlo,Option.isNone_iff_eq_none]
 cases hw : wtP p m md N rows [l] (suL l (cbP p m md N x (duR p m md N rows)) N) with
 | none=>rfl
 | some w =>
  have hz:=wi_zero CC (brL_st).1 (List.mem_of_find?_eq_some hw)
  have hc:=wi_cmb CC (List.mem_of_find?_eq_some hw)
  have hn:=List.find?_some hw
  have hww:=O.cmb_mat CC.mat hc
  have hd:=du_orth CC hx hc
  generalize cbP p m md N x (duR p m md N rows) = v at *
  rw [O.dot_one hww hv l.toNat fun e he=>?_] at hd
  ·obtain ⟨a0,a1⟩:=wd_at (show 0 < p ^ m by omega) hww l.toNat
   obtain ⟨b0,b1⟩:=wd_at (show 0 < p ^ m by omega) hv l.toNat
   have hwl : at0 w l.toNat ≠ 0:=by
    intro h0
    have : nzL [l] w = false:=nzL_false.2 fun y hy=>by rw [List.mem_singleton.1 hy];exact h0
    rw [this] at hn;cases hn
   rcases O.fi.nz _ _ a0 a1 b0 b1 hd with h | h
   ·exact absurd h hwl
   ·exact absurd h h1
  ·obtain ⟨b0,b1⟩:=wd_at (show 0 < p ^ m by omega) hv e
   obtain ⟨a0,a1⟩:=wd_at (show 0 < p ^ m by omega) hww e
   by_cases h2 : at0 v e = 0
   ·rw [h2,O.fi.m0 a0 a1]
   ·have hen : e < N:=Classical.byContradiction fun hh=>h2 (wd_out hv (by omega))
    have : at0 w ((e : Nat) : Int).toNat = 0:=hz (e : Int) (brL_mem.2 ⟨e,rfl,hen,h2,by simp;omega,by simp,by simp⟩)
    rw [Int.toNat_natCast] at this
    rw [this,O.fi.mc 0 _ (Int.le_refl 0) (by omega) b0 b1,O.fi.m0 b0 b1]
theorem su_len {v : List Int} {l : Int} (l0 : 0 ≤ l) (l1 : l < N) (h1 : at0 v l.toNat ≠ 0) : (brL [] [] [] v N).length = (suL l v N).length + 1:=by
 have hn : (l::suL l v N).Nodup:=List.nodup_cons.2 ⟨fun h=>by
  obtain ⟨i,rfl,_,_,h,_⟩:=brL_mem.1 h
  exact h (.head _),brL_st.2.imp fun h=>by omega⟩
 have hp : (brL [] [] [] v N).Perm (l::suL l v N):=(List.perm_ext_iff_of_nodup (brL_st.2.imp fun h=>by omega) hn).2 fun x=>by
  rw [List.mem_cons,brL_mem,brL_mem]
  constructor
  ·rintro ⟨i,rfl,hi,h2,-⟩
   by_cases e : (i : Int) = l
   ·exact .inl e
   ·exact .inr ⟨i,rfl,hi,h2,by simpa using e,by simp,by simp⟩
  ·rintro (rfl | ⟨i,rfl,hi,h2,-⟩)
   ·exact ⟨x.toNat,by omega,by omega,h1,by simp,by simp,by simp⟩
   ·exact ⟨i,rfl,hi,h2,by simp,by simp,by simp⟩
 rw [hp.length_eq];rfl
end
open Go Go.Fw
set_option maxRecDepth 100000
set_option linter.unusedVariables false
set_option linter.unusedSimpArgs false
set_option maxHeartbeats 0
theorem nu_len {p m N : Nat} {md : List Int} {rows : List (List Int)} (CC : Cok p m md N rows) : (nuP p m md N rows).length ≤ N:=by
 have O:=fok_fn CC.K
 have hnm:=O.nv_mat (O.cn CC.mat).1
 rw [show nuP p m md N rows = (cnP p m md N (nvL (negI p m) N (cnP p m md N rows))).1 from rfl,O.cn_len hnm]
 exact (O.cn hnm).1.piv_le
theorem br0_succ {w : List Int} {k : Nat} : brL [] [] [] w (k + 1) = brL [] [] [] w k++if decide (at0 w k = 0) = true then [] else [(k : Int)]:=by
 rw [brL_succ]
 congr 1
 by_cases h : at0 w k = 0 <;> simp [brB,h]
section
variable {p m N nm cm n c nw cw : Nat} {pm ps pw : Option Addr} {md w : List Int} {rows : List (List Int)}
theorem S_codewrightref11_Clean (K : Fok p m md) (hw : Wd (p ^ m) N w) (hN : N ≤ 1000000) : Ctr Tryz.prog 110 [.agg #[.int .i64 p,.int .i64 m,.slice pm nm cm],.slice pw nw cw] [] [slF I64 pm nm cm md,slF I64 pw nw cw w] (RwI N w):=by
 refine Ctr_of_j' (F:=F_codewrightref11_Clean) rfl fun C=>?_
 refine j_len 1 rfl fun hn _ _=>?_
 rw [hw.1] at hn
 subst hn
 have hwl:=hw.1
 have c_codewrightref04_Order:=fun {pm : Option Addr} {n c : Nat}=>S_codewrightref04_Order (pm:=pm) (n:=n) (c:=c) (K.ord)
 refine wk 15 (ct @c_codewrightref04_Order cz) ?_
 intro b1 b2
 simp only [List.cons_append,List.nil_append]
 rw [show natCells .i64 (List.replicate nw 0) = intCells .i64 (w.take 0++List.replicate (nw - 0) 0) by simp [natCells,intCells]]
 refine j_loopG (X:=Nat) [1,4,5,6] [0,1] (fun k=>[(7,.int .i64 (k : Int))]) (fun k=>(some b2,3,intCells .i64 (w.take k++List.replicate (nw - k) 0))::_) (fun _=>[]) (fun k=>k ≤ nw) (fun k=>nw - k) 0 [] rfl rfl rfl (Nat.zero_le _) (by repeat (first | exact Fr.sub_nil _ | refine Fr.sub_cons rfl ?_)) rfl rfl ?_
 rintro k hk ih
 simp only [List.cons_append,List.nil_append] at hk ih ⊢
 by_cases h8 : k < nw
 ·obtain ⟨x,at_x⟩ : ∃ x,w[k]? = some x:=⟨_,List.getElem?_eq_getElem (by omega)⟩
  obtain ⟨x0,x1⟩:=hw.2 x (List.mem_of_getElem? at_x)
  have ih':=ih (k + 1) (by omega) (by omega)
  have hL : (w.take k++List.replicate (nw - k) 0).length = nw:=by rw [List.length_append,List.length_take,List.length_replicate];omega
  have hset : (w.take k++List.replicate (nw - k) 0).set k x = w.take (k + 1)++List.replicate (nw - (k + 1)) 0:=take_set at_x h8
  rw [← hset] at ih'
  generalize w.take k++List.replicate (nw - k) 0 = L at *
  clear ih
  refine j_nf [_,_,_,_,_,_] rfl ?_
  refine j_run it 2 rfl (by simp) ?_
  refine j_step rfl (x_len sl22 rfl ?_)
  refine j_run it 1 rfl (by simp) ?_
  refine j_nf [_,_,_,_,_] rfl ?_
  refine j_if rfl rfl (fun h1=>?_) (fun h1=>by exfalso;omega)
  refine j_nf [_,_,_,_,_,_,_] rfl ?_
  refine j_run it 2 rfl (by simp) ?_
  refine j_step rfl (x_idx 1 (k) rfl rfl rfl sl22 rfl (by omega) fun z1 hz1 b3 o1=>?_)
  obtain rfl : _ = z1:=Option.some.inj (at_x.symm.trans hz1)
  refine j_step rfl (x_ld_int 0 rfl rfl ld3 fun ⟨r1,r2⟩=>?_)
  refine j_run it 2 rfl (by simp) ?_
  refine j_split_dec (t:=24) rfl (fun h2=>?_) (fun h2=>by exfalso;omega)
  refine j_run it 2 rfl (by simp) ?_
  refine j_gstep rfl rfl (x_idx 2 (k) rfl rfl rfl sl22 rfl (by omega) fun z1 hz2 b4 o2=>?_)
  obtain rfl : _ = z1:=Option.some.inj (at_x.symm.trans hz2)
  refine j_gstep rfl rfl (x_ld_int 0 rfl rfl ld3 fun ⟨r3,r4⟩=>?_)
  refine j_run it 3 rfl (by simp) ?_
  refine j_nf [_,_,_,_,_,_] rfl ?_
  refine j_if rfl rfl (fun h3=>?_) (fun h3=>by exfalso;omega)
  refine j_nf [_,_,_,_,_,_] rfl ?_
  refine j_run it 4 rfl (by simp) ?_
  refine j_step rfl (x_idx 3 (k) rfl rfl rfl sl22 rfl (by omega) fun z1 hz3 b5 o3=>?_)
  obtain rfl : _ = z1:=Option.some.inj (at_x.symm.trans hz3)
  refine j_step rfl (x_ld_int 0 rfl rfl ld3 fun ⟨r5,r6⟩=>?_)
  refine j_step rfl (x_idx_own (k) (k) rfl rfl sl22 rfl (by omega) (Nat.mul_one _) ?_)
  refine j_step rfl (x_bst_int 0 rfl rfl rfl ld3 (by first | omega | (simp;omega)) ?_)
  refine j_nf [_,_,_,_] rfl ?_
  refine j_run it 3 rfl ⟨trivial,⟨by omega,by omega⟩,trivial,trivial⟩ ?_
  refine j_nfn 1 [.lp (pL 244),.blk 0,.c [1,1,1,1]] rfl ?_
  simp only [setB]
  exact tw (ih')
 ·obtain rfl : k = nw:=by omega
  rw [List.take_of_length_le (by omega),Nat.sub_self,List.replicate_zero,List.append_nil]
  clear ih
  refine wk 9 cz ?_
  intro h1
  refine j_rowInt 0 rfl hwl.symm (fun x hx=>by have:=hw.2 x hx;have:=K.q;simp only [InR];omega) (by omega) ?_
  refine j_givK 2 [0] [0] rfl (.tmp rfl .nil) rfl rfl rfl ⟨⟨some b2,k,intCells .i64 w⟩,rfl,rfl,rfl⟩
theorem S_codewrightref12_Field (K : Fok p m md) : Ctr Tryz.prog 107 [.agg #[.int .i64 p,.int .i64 m,.slice pm nm cm]] [] [slF I64 pm nm cm md] (fun v Φ β=>∃ (pb : Option Addr) (nb cb : Nat),v = .agg #[.int .i64 p,.int .i64 m,.slice pb nb cb] ∧ Φ = [slF I64 pb nb cb md] ∧ β = []):=by
 refine Ctr_of_j' (F:=F_codewrightref12_Field) rfl fun C=>?_
 refine j_len 0 rfl fun hn hb _=>?_
 subst hn
 have hb' : md.length * 8 ≤ 140737488355328:=hb
 refine wk 4 cz ?_
 intro b1 b2
 (apply j_drawKB it mx 0 9;(· rfl);(· rfl);(· rfl))
 simp only [List.drop_zero,List.take_zero]
 (apply lxk_eq;(· rfl);(· exact d_x fun _=>x_field rfl fd24_0 dk_eq))
 (apply lxk_eq;(· rfl);(· exact d_bld 1 rfl rfl ld3 rfl))
 (apply lxk_eq;(· rfl);(· exact d_x fun _=>x_field rfl fd24_1 dk_eq))
 (apply lxk_eq;(· rfl);(· exact d_bld 1 rfl rfl ld3 rfl))
 (apply lxk_lit0 (encInt IntKind.i64 8);(· rfl);(· exact sl22);intro pa1)
 (apply lxk_eq;(· rfl);(· exact d_x fun _=>x_field rfl fd24_2 dk_eq))
 (apply lxk_eq;(· rfl);(· exact d_bld 1 rfl rfl ld22 rfl))
 (apply lxk_appLi 0 1;(· rfl);(· rfl);(· rfl);(· rfl);(· rfl);(· exact sl22);(· exact zo22e);(· rfl);(· (first | omega | (simp only [List.length_cons,List.length_nil];omega)));(· exact by22e);(· (first | omega | (simp only [List.length_cons,List.length_nil];omega)));intro pa2 cap1 b3 cs1)
 (apply lxk_pv [4,6,10] (fun vs=>Value.agg ((fillL ([(0,1),(1,1),(2,1)]) ([Value.int IntKind.i64 0,Value.int IntKind.i64 0,Value.slice none 0 0]) [(0,cellsL (vs.getD 0 undef)),(1,cellsL (vs.getD 1 undef)),(2,cellsL (vs.getD 2 undef))]).getD []).toArray) (v:=Value.agg #[Value.int IntKind.i64 ↑p,Value.int IntKind.i64 ↑m,Value.slice pa2 (0 + md.length) cap1]);(· rfl);(· rfl);(· rfl);(· rfl);(· exact d_x fun _=>x_build (cs:=[Value.int IntKind.i64 ↑p,Value.int IntKind.i64 ↑m,Value.slice pa2 (0 + md.length) cap1]) st24 zo24 rfl rfl dk_eq))
 refine lxk_endB rfl ?_
 (rotate_left;rfl;rotate_right)
 simp only [List.append_nil,List.append_assoc,List.map_cons,List.map_nil,List.cons_append,List.nil_append,List.drop_zero]
 (refine j_pubZ 0 0 (by first | rfl | exact (List.append_nil _).symm) rfl (by show (0 + md.length) * 8 ≤ 140737488355328;omega) ?_;simp only [List.take_succ_cons,List.take_zero,List.cons_append,List.nil_append,List.append_nil])
 refine wk 2 cz ?_ --ok
 refine j_givC [0] rfl (.agg 0 rfl rfl ld24 rfl .nil) rfl ⟨_,_,_,rfl,rfl,rfl⟩
theorem S_codewrightref12_Make (K : Fok p m md) (hn : rows.length ≤ 1000000) (hN : N ≤ 1000000) (hM : Mat (p ^ m) N rows) : Ctr Tryz.prog 56 [.agg #[.int .i64 p,.int .i64 m,.slice pm nm cm],.slice ps n c,.int .i64 N] [] [slF I64 pm nm cm md,slF (encSl I64) ps n c rows]
  (fun v Φ β=>∃ (pb pc : Option Addr) (nb cb nc cc : Nat),v = .agg #[.int .i64 p,.int .i64 m,.slice pb nb cb,.int .i64 N,.slice pc nc cc] ∧ Φ = [slF I64 pb nb cb md,slF (encSl I64) pc nc cc (cnP p m md N rows).1] ∧ β = []):=by
 refine Ctr_of_j' (F:=F_codewrightref12_Make) rfl fun C=>?_
 refine j_len 1 rfl fun hn2 _ _=>?_
 subst hn2
 have c_codewrightref09_Canon:=fun {nm cm c : Nat} {pm ps : Option Addr}=>S_codewrightref09_Canon (nm:=nm) (cm:=cm) (c:=c) (pm:=pm) (ps:=ps) K hn hN rfl hM
 have c_codewrightref12_Field:=fun {nm cm : Nat} {pm : Option Addr}=>S_codewrightref12_Field (nm:=nm) (cm:=cm) (pm:=pm) K
 refine j_nf [_,_] rfl ?_
 refine j_step rfl (x_box_agg rfl fun b1=>?_)
 refine j_step rfl (x_alloc zo27 fun b2=>?_)
 refine j_nf [_,_] rfl ?_
 refine j_step rfl (x_bld_all 1 rfl rfl ld24 rfl ?_)
 refine j_run it 2 rfl (by simp) ?_
 refine j_step rfl (x_call [0,1] rfl (c_codewrightref09_Canon) rfl ?_)
 rintro _ _ _ ⟨pb1,pp1,cb1,cp1,rfl,rfl,rfl⟩
 simp only [List.cons_append,List.nil_append]
 refine j_run it 5 rfl (by simp) ?_
 refine j_nf [_,_] rfl ?_
 refine j_step rfl (x_bld_all 1 rfl rfl ld24 rfl ?_)
 refine j_step rfl (x_call [2] rfl (c_codewrightref12_Field) rfl ?_)
 rintro _ _ _ ⟨pb2,nb1,cb2,rfl,rfl,rfl⟩
 simp only [List.cons_append,List.nil_append]
 refine j_run it 2 rfl (by simp) ?_
 refine j_step rfl (x_build (cs:=[Value.int IntKind.i64 ↑p,Value.int IntKind.i64 ↑m,Value.slice pb2 nb1 cb2,Value.int IntKind.i64 ↑N,Value.slice pb1 (cnP p m md N rows).snd.length cb1]) st27 zo27 rfl rfl ?_)
 refine j_step rfl (x_bst_all 0 rfl rfl rfl ld27 rfl rfl (by simp [Value.oneCell']) ?_)
 refine j_nf [_] rfl ?_
 refine j_givC [0,1] rfl (.agg 0 rfl rfl ld27 rfl .nil) rfl ⟨_,_,_,_,_,_,rfl,rfl,rfl⟩
theorem S_codewrightref12_Parity (CC : Cok p m md N rows) : Ctr Tryz.prog 57 [.agg #[.int .i64 p,.int .i64 m,.slice pm nm cm,.int .i64 N,.slice ps n c]] [] [slF I64 pm nm cm md,slF (encSl I64) ps n c rows]
  (fun v Φ β=>∃ (pb : Option Addr) (cb : Nat),v = .slice pb (nuP p m md N rows).length cb ∧ Φ = [slF (encSl I64) pb (nuP p m md N rows).length cb (nuP p m md N rows)] ∧ β = []):=by
 refine Ctr_of_j' (F:=F_codewrightref12_Parity) rfl fun C=>?_
 refine j_len 1 rfl fun hn2 _ _=>?_
 subst hn2
 have h64:=CC.n64
 have hl:=CC.len
 have c_codewrightref09_Null:=fun {nm cm c : Nat} {pm ps : Option Addr}=>S_codewrightref09_Null (nm:=nm) (cm:=cm) (c:=c) (pm:=pm) (ps:=ps) (n:=rows.length) (N:=N) CC.K (by omega) (by omega) rfl CC.mat
 refine wk 13 (ct @c_codewrightref09_Null cz) ?_
 intro b1 pb1 cb1
 refine j_giv [0] rfl rfl rfl ⟨_,_,rfl,rfl,rfl⟩
theorem S_codewrightref12_Dual (CC : Cok p m md N rows) : Ctr Tryz.prog 21 [.agg #[.int .i64 p,.int .i64 m,.slice pm nm cm,.int .i64 N,.slice ps n c]] [] [slF I64 pm nm cm md,slF (encSl I64) ps n c rows]
  (fun v Φ β=>∃ (pb pc : Option Addr) (nb cb nc cc : Nat),v = .tuple #[.agg #[.int .i64 p,.int .i64 m,.slice pb nb cb,.int .i64 N,.slice pc nc cc],.int .i64 0] ∧ Φ = [slF I64 pb nb cb md,slF (encSl I64) pc nc cc (duR p m md N rows)] ∧ β = []):=by
 refine Ctr_of_j' (F:=F_codewrightref12_Dual) rfl fun C=>?_
 refine j_len 1 rfl fun hn2 _ _=>?_
 subst hn2
 have h64:=CC.n64
 have O:=fok_fn CC.K
 have hnl : (nuP p m md N rows).length ≤ N:=nu_len CC
 have c_codewrightref12_Check:=fun {pm ps : Option Addr} {nm cm n c : Nat}=>S_codewrightref12_Check (P:=p) (M:=m) (pm:=pm) (ps:=ps) (nm:=nm) (cm:=cm) (n:=n) (c:=c) (md:=md) (rows:=rows) (N:=N) (by simp only [InR];omega) CC.ck
 have c_codewrightref12_Parity:=fun {pm ps : Option Addr} {nm cm n c : Nat}=>S_codewrightref12_Parity (pm:=pm) (ps:=ps) (nm:=nm) (cm:=cm) (n:=n) (c:=c) CC
 have c_codewrightref12_Make:=fun {pm ps : Option Addr} {nm cm n c : Nat}=>S_codewrightref12_Make (pm:=pm) (ps:=ps) (nm:=nm) (cm:=cm) (n:=n) (c:=c) (N:=N) (rows:=nuP p m md N rows) CC.K (by omega) (by omega) (O.nu CC.mat).1
 show J _ _ _ _ _ _ (Gives C (fun v Φ β=>∃ (pb pc : Option Addr) (nb cb nc cc : Nat),v = .tuple #[.agg #[.int .i64 p,.int .i64 m,.slice pb nb cb,.int .i64 N,.slice pc nc cc],.int .i64 0] ∧ Φ = [slF I64 pb nb cb md,slF (encSl I64) pc nc cc (cnP p m md N (nuP p m md N rows)).1] ∧ β = []))
 generalize nuP p m md N rows = nu at *
 refine wk 13 (ct @c_codewrightref12_Check cz) ?_
 intro b1 b2 h1
 (apply j_drawK it mx 7;(· rfl);(· rfl))
 (apply lxk_eq;(· rfl);(· exact d_x fun _=>x_field rfl fd27_0 dk_eq))
 (apply lxk_eq;(· rfl);(· exact d_bld_agg 1 rfl rfl ld24 rfl rfl))
 (apply lxk_eq;(· rfl);(· exact d_bld_all 1 rfl rfl ld27 rfl))
 (apply lxk_sl;(· rfl);(· exact d_x fun _=>x_call [0,1] rfl (c_codewrightref12_Parity) rfl (by rintro _ _ _ ⟨pb1,cb1,rfl,rfl,rfl⟩;exact (dk_sl 0 rfl)));intro pa1 ca1)
 (apply lxk_eq;(· rfl);(· exact d_x fun _=>x_field rfl fd27_1 dk_eq))
 (apply lxk_eq;(· rfl);(· exact d_bld 1 rfl rfl ld3 rfl))
 (apply lxk_fa (val:=(fun g=>Value.agg #[Value.int IntKind.i64 ↑p,Value.int IntKind.i64 ↑m,Value.slice (g 0).fst (g 2).snd.fst (g 3).snd.fst,Value.int IntKind.i64 ↑N,Value.slice (g 1).fst (g 4).snd.fst (g 5).snd.fst])) (f:=(fun g=>[slF I64 (g 0).fst (g 2).snd.fst (g 3).snd.fst md,slF (encSl I64) (g 1).fst (g 4).snd.fst (g 5).snd.fst (cnP p m md N nu).fst]));(· rfl);(· exact d_x fun _=>x_call [1,0] rfl (c_codewrightref12_Make) rfl (by rintro _ _ _ ⟨pbg0,pcg1,nbg2,cbg3,ncg4,ccg5,rfl,rfl,rfl⟩;exact fun _ _ _ hG=>⟨(fun | 0=>(pbg0,0,0,[]) | 1=>(pcg1,0,0,[]) | 2=>(none,nbg2,0,[]) | 3=>(none,cbg3,0,[]) | 4=>(none,ncg4,0,[]) | 5=>(none,ccg5,0,[]) | _=>default),rfl,fun g hg=>drop_own (hG _ (List.mem_append_left _ hg))⟩));intro g1;dsimp only [List.map_cons,List.map_nil])
 refine lxk_end rfl ?_
 simp only [List.map_cons,List.map_nil,List.cons_append,List.nil_append]
 refine wk 3 cz ?_
 refine j_givC [0,1] rfl (.agg 0 rfl rfl ld27 rfl (.tmp rfl .nil)) rfl ⟨_,_,_,_,_,_,rfl,rfl,rfl⟩
theorem S_codewrightref11_Support (K : Fok p m md) (hw : Wd (p ^ m) N w) (hN : N ≤ 1000000) : Ctr Tryz.prog 60 [.agg #[.int .i64 p,.int .i64 m,.slice pm nm cm],.slice pw nw cw] [] [slF I64 pm nm cm md,slF I64 pw nw cw w] (RwI (brL [] [] [] w N).length (brL [] [] [] w N)):=by
 refine Ctr_of_j' (F:=F_codewrightref11_Support) rfl fun C=>?_
 have hwl:=hw.1
 have c_codewrightref11_Clean:=fun {nm cm nw cw : Nat} {pm pw : Option Addr}=>(S_codewrightref11_Clean (nm:=nm) (cm:=cm) (nw:=nw) (cw:=cw) (pm:=pm) (pw:=pw) K hw hN).pubR (by show N * 8 ≤ 140737488355328;omega)
 refine wk 14 (ct @c_codewrightref11_Clean cz) ?_
 intro b1 pa1 ca1 b2
 simp only [List.cons_append,List.nil_append]
 (apply j_rowlit (E:=I64) (n:=0) (cs:=[]) [] [] 0 (fun w A hG=>allrd_nil);(· rfl);(· rfl);(· rfl);(· rfl);(· decide))
 refine j_loopG (X:=Nat × Row) [4,5] [0,1,2,3] (fun x=>[(7,.int .i64 (x.1 : Int)),(6,.slice (ad x.2.bo) (brL [] [] [] w x.1).length x.2.cap)]) (fun x=>(x.2.bo,3,x.2.cs)::_) (fun x=>[rowF I64 x.2 (brL [] [] [] w x.1).length (brL [] [] [] w x.1)]) (fun x=>x.1 ≤ N) (fun x=>N - x.1) (0,⟨some b2,0,[]⟩) [0] rfl rfl rfl (Nat.zero_le _) (by repeat (first | exact Fr.sub_nil _ | refine Fr.sub_cons rfl ?_)) rfl rfl ?_
 rintro ⟨i,r⟩ hi ih
 simp only [List.cons_append,List.nil_append] at hi ih ⊢
 have hle:=brL_le (lost:=[]) (away:=[]) (z:=[]) (w:=w) (n:=i)
 by_cases hil : i < N
 ·obtain ⟨y,at_y⟩ : ∃ y,w[i]? = some y:=⟨_,List.getElem?_eq_getElem (by omega)⟩
  have ey : at0 w i = y:=by rw [at0,List.getD_eq_getElem?_getD,at_y];rfl
  have ih':=fun r=>ih (i + 1,r) (by dsimp only;omega) (by dsimp only;omega)
  dsimp only at ih'
  rw [br0_succ,ey] at ih'
  by_cases h0 : y = 0
  ·rw [decide_eq_true h0,if_pos rfl,List.append_nil] at ih'
   refine wk 9 cz ?_
   intro h1 b3 o1 hz1
   refine j_step rfl (x_ld_int 0 rfl rfl ld3 fun ⟨r1,r2⟩=>?_)
   refine wk 6 cz ?_
   intro h2
   exact tw (ih' r)
  ·rw [decide_eq_false h0,if_neg (by decide)] at ih'
   simp only [List.length_append,List.length_singleton] at ih'
   refine wk 9 cz ?_
   intro h1 b3 o1 hz1
   refine j_step rfl (x_ld_int 0 rfl rfl ld3 fun ⟨r1,r2⟩=>?_)
   refine wk 6 cz ?_
   intro h2 b4
   refine j_step rfl (x_appR (z:=(↑i : Int)) 1 0 1 rfl rfl rfl rfl rfl sl22 zo22e rfl (fun w A hG=>(rd_int (by first | (simp only [InR];omega) | (simp [InR];done)))) (by omega) _ by22e (by omega) fun r3=>?_)
   refine wk 4 cz ?_
   refine j_toM [true,false,true] [0,3,4,5,6] (by exact fra rfl) rfl rfl (ih' r3)
 ·obtain rfl : i = N:=by omega
  clear ih
  refine wk 9 cz ?_
  intro h1
  refine j_givK 2 [0] [0] rfl (.tmp rfl .nil) rfl rfl rfl ⟨r,rfl,rfl,rfl⟩
theorem S_codewrightref11_Weight (K : Fok p m md) (hw : Wd (p ^ m) N w) (hN : N ≤ 1000000) : Ctr Tryz.prog 23 [.agg #[.int .i64 p,.int .i64 m,.slice pm nm cm],.slice pw nw cw] [] [slF I64 pm nm cm md,slF I64 pw nw cw w] (Rv (.int .i64 ((brL [] [] [] w N).length : Int)) []):=by
 refine Ctr_of_j' (F:=F_codewrightref11_Weight) rfl fun C=>?_
 have hle:=brL_le (lost:=[]) (away:=[]) (z:=[]) (w:=w) (n:=N)
 have c_codewrightref11_Support:=fun {nm cm nw cw : Nat} {pm pw : Option Addr}=>(S_codewrightref11_Support (nm:=nm) (cm:=cm) (nw:=nw) (cw:=cw) (pm:=pm) (pw:=pw) K hw hN).pubR (by show _ * 8 ≤ 140737488355328;omega)
 refine wk 10 (ct @c_codewrightref11_Support cz) ?_
 intro b1 pa1 ca1
 exact ge
end
open Go Go.Fw
set_option maxRecDepth 100000
set_option linter.unusedVariables false
set_option linter.unusedSimpArgs false
set_option maxHeartbeats 0
section
variable {p m N : Nat} {md lost away : List Int} {rows : List (List Int)}
theorem ck_cok (h : ckE p m md N rows = 0) : Cok p m md N rows:=by
 obtain ⟨p',m',n',h1,h2,h3,CC⟩:=ck_of h
 obtain rfl : p = p':=by omega
 obtain rfl : m = m':=by omega
 obtain rfl : N = n':=by omega
 exact CC
theorem su_dis {l : Int} {v : List Int} (h : ∀ a ∈ away,a = l ∨ at0 v a.toNat = 0) : ∀ x ∈ suL l v N,x ∉ away:=fun x hx ha=>by
 obtain ⟨i,rfl,hi,h0,h1,_⟩:=brL_mem.1 hx
 rcases h _ ha with e | e
 ·exact h1 (by rw [e];exact .head _)
 ·rw [Int.toNat_natCast] at e;exact h0 e
theorem su_not {l : Int} {v : List Int} : ∀ x ∈ [l],x ∉ suL l v N:=fun x hx h=>by
 obtain ⟨i,rfl,hi,h0,h1,_⟩:=brL_mem.1 h
 exact h1 hx
end
section
variable {p m N nm cm n c cl ca nh ch nx cx k11 c11 k21 c21 k31 c31 k41 c41 b1 b3 cb2 : Nat} {pm ps pl pa ph px pb2 p11 p21 p31 p41 : Option Addr} {md away v hh : List Int} {l e : Int} {f : Bool}
theorem RL_loop {C : Cx} (K : Fok p m md) (l0 : 0 ≤ l) (l1 : l < N) (haw : stP N away) (hvW : Wd (p ^ m) N v) (hn12 : N ≤ 12) (he : 0 ≤ e ∧ e ≤ 19) (hfin : (∀ a ∈ away,a = l ∨ at0 v a.toNat = 0) → e = 0 ∧ (f = true → hh.length < (brL [] [] [] v N).length)) :
  J F_codewrightlaw53_RepairLocal C [It.c (pL 2042),It.blk 0,It.c (pL 511)] [(9,.int .i64 0),(1,.pointer (some ⟨b1,0,none⟩)),(3,.pointer (some ⟨b3,0,none⟩)),(4,.int .i64 e),(7,.slice pb2 N cb2)]
   [(some b3,40,[.slice p11 k11 c11,.slice p21 k21 c21,.slice p31 k31 c31,.bool f,.slice p41 k41 c41]),(some b1,46,[.int .i64 p,.int .i64 m,.slice pm nm cm,.int .i64 N,.slice ps n c,.slice pl 1 cl,.slice pa away.length ca,.slice ph nh ch,.slice px nx cx])]
   [slF I64 pb2 N cb2 v,slF I64 p21 k21 c21 hh,slF I64 pm nm cm md,slF I64 pl 1 cl [l],slF I64 pa away.length ca away] (Gives C (Rv (.bool true) [])):=by
 refine j_len 1 rfl fun hn _ _=>?_
 subst hn
 have hq:=K.q
 have q2:=(fok_fn K).q2
 have at_l : [l][0]? = some l:=rfl
 have gl:=gd_at at_l
 have hal2:=st_len haw
 have hvl:=hvW.1
 have hbl:=brL_le (lost:=[]) (away:=[]) (z:=[]) (w:=v) (n:=N)
 have c_codewrightref11_Weight:=fun {nm cm nw cw : Nat} {pm pw : Option Addr}=>S_codewrightref11_Weight (nm:=nm) (cm:=cm) (nw:=nw) (cw:=cw) (pm:=pm) (pw:=pw) K hvW (by omega)
 generalize (brL [] [] [] v N).length = wt at *
 refine j_loopG (X:=Nat) [1,3,4,7] [0,1,2,3,4] (fun i=>[(9,.int .i64 (i : Int))]) (fun _=>_) (fun _=>[]) (fun i=>i ≤ away.length ∧ ∀ a ∈ away.take i,a = l ∨ at0 v a.toNat = 0) (fun i=>away.length - i) 0 [] rfl rfl rfl ⟨Nat.zero_le _,fun a h=>by simp at h⟩ (by repeat (first | exact Fr.sub_nil _ | refine Fr.sub_cons rfl ?_)) rfl rfl ?_
 rintro i ⟨hi,hno⟩ ih
 simp only [List.cons_append,List.nil_append] at hi ih ⊢
 by_cases hil : i < away.length
 ·obtain ⟨a,at_a⟩ : ∃ a,away[i]? = some a:=⟨_,List.getElem?_eq_getElem hil⟩
  have ga:=gd_at at_a
  obtain ⟨a0,a1⟩:=haw.1 a (List.mem_of_getElem? at_a)
  have at_w : v[a.toNat]? = some (at0 v a.toNat):=by rw [at0,List.getD_eq_getElem?_getD,List.getElem?_eq_getElem (by omega)];rfl
  have hstep : (a = l ∨ at0 v a.toNat = 0) → ∀ x ∈ away.take (i + 1),x = l ∨ at0 v x.toNat = 0:=fun h x hx=>by
   rw [List.take_add_one,at_a,Option.toList_some] at hx
   rcases List.mem_append.1 hx with hx | hx
   ·exact hno x hx
   ·rw [List.mem_singleton.1 hx];exact h
  have gw:=gd_at at_w
  clear hfin
  by_cases hal : a = l
  ·have hst:=hstep (.inl hal)
   refine wk 9 cz ?_
   intro h1
   (apply j_drawK it mx 21;(· rfl);(· rfl))
   (apply lxk_eq;(· rfl);(· exact d_x fun _=>x_field rfl fd46_2 dk_eq))
   (apply lxk_eq;(· rfl);(· exact d_bld 1 rfl rfl ld22 rfl))
   (apply lxk_run 1;(· rfl);(· simp))
   (apply lxk_pt;(· rfl);(· exact d_x fun _=>x_idx 4 (i) rfl rfl rfl sl22 rfl (by omega) fun z1 hz1 b2 o1=>(dk_ptD default hz1 0 rfl));intro b2 o1)
   (apply lxk_eq;(· rfl);(· exact d_x fun _=>x_ld_int 0 rfl rfl ld3 fun ⟨r1,r2⟩=>dk_eq))
   (apply lxk_eq;(· rfl);(· exact d_x fun _=>x_field rfl fd46_1 dk_eq))
   (apply lxk_eq;(· rfl);(· exact d_bld 1 rfl rfl ld22 rfl))
   (apply lxk_pt;(· rfl);(· exact d_x fun _=>x_idx 3 0 rfl rfl rfl sl22 (by omega) (by omega) fun z1 hz1 b4 o2=>(dk_ptD default hz1 0 rfl));intro b4 o2)
   (apply lxk_eq;(· rfl);(· exact d_x fun _=>x_ld_int 0 rfl rfl ld3 fun ⟨r1,r2⟩=>dk_eq))
   (apply lxk_eq;(· rfl);(· exact d_x fun _=>x_falseN it rfl (by trivial) (by omega) dk_eq))
   (apply lxk_run 9;(· rfl);(· simp))
   (apply lxk_run 2;(· rfl);(· simp))
   refine lxk_end rfl ?_
   simp only [List.map_cons,List.map_nil,List.cons_append,List.nil_append]
   refine wk 5 cz ?_
   exact tw (ih (i + 1) (by omega) ⟨by omega,hst⟩)
  ·by_cases haz : at0 v a.toNat = 0
   ·have hst:=hstep (.inr haz)
    have hz2 : v.getD (away.getD i default).toNat default = 0:=by rw [ga];exact haz
    refine wk 9 cz ?_
    intro h1
    (apply j_drawK it mx 21;(· rfl);(· rfl))
    (apply lxk_eq;(· rfl);(· exact d_x fun _=>x_field rfl fd46_2 dk_eq))
    (apply lxk_eq;(· rfl);(· exact d_bld 1 rfl rfl ld22 rfl))
    (apply lxk_run 1;(· rfl);(· simp))
    (apply lxk_pt;(· rfl);(· exact d_x fun _=>x_idx 4 (i) rfl rfl rfl sl22 rfl (by omega) fun z1 hz1 b2 o1=>(dk_ptD default hz1 0 rfl));intro b2 o1)
    (apply lxk_eq;(· rfl);(· exact d_x fun _=>x_ld_int 0 rfl rfl ld3 fun ⟨r1,r2⟩=>dk_eq))
    (apply lxk_eq;(· rfl);(· exact d_x fun _=>x_field rfl fd46_1 dk_eq))
    (apply lxk_eq;(· rfl);(· exact d_bld 1 rfl rfl ld22 rfl))
    (apply lxk_pt;(· rfl);(· exact d_x fun _=>x_idx 3 0 rfl rfl rfl sl22 (by omega) (by omega) fun z1 hz1 b4 o2=>(dk_ptD default hz1 0 rfl));intro b4 o2)
    (apply lxk_eq;(· rfl);(· exact d_x fun _=>x_ld_int 0 rfl rfl ld3 fun ⟨r1,r2⟩=>dk_eq))
    (apply lxk_eq;(· rfl);(· exact d_x fun _=>x_trueN it rfl (by trivial) (by omega) dk_eq))
    (apply lxk_run 2;(· rfl);(· simp))
    (apply lxk_eq;(· rfl);(· exact d_x fun _=>x_field rfl fd46_2 dk_eq))
    (apply lxk_eq;(· rfl);(· exact d_bld 1 rfl rfl ld22 rfl))
    (apply lxk_run 1;(· rfl);(· simp))
    (apply lxk_pt;(· rfl);(· exact d_x fun _=>x_idx 6 (i) rfl rfl rfl sl22 rfl (by omega) fun z1 hz1 b5 o3=>(dk_ptD default hz1 0 rfl));intro b5 o3)
    (apply lxk_eq;(· rfl);(· exact d_x fun _=>x_ld_int 0 rfl rfl ld3 fun ⟨r1,r2⟩=>dk_eq))
    (apply lxk_pt;(· rfl);(· exact d_x fun _=>x_idx 3 ((away.getD i default : Int).toNat) rfl rfl rfl sl22 (by omega) (by omega) fun z1 hz1 b6 o4=>(dk_ptD default hz1 0 rfl));intro b6 o4)
    (apply lxk_eq;(· rfl);(· exact d_x fun _=>x_ld_int 0 rfl rfl ld3 fun ⟨r1,r2⟩=>dk_eq))
    (apply lxk_eq;(· rfl);(· exact d_x fun _=>x_falseN it rfl (by trivial) (by omega) dk_eq))
    (apply lxk_run 1;(· rfl);(· simp))
    refine lxk_end rfl ?_
    simp only [List.map_cons,List.map_nil,List.cons_append,List.nil_append]
    refine wk 5 cz ?_
    exact tw (ih (i + 1) (by omega) ⟨by omega,hst⟩)
   ·clear ih
    have hz2 : ¬ v.getD (away.getD i default).toNat default = 0:=by rw [ga];exact haz
    refine wk 9 cz ?_
    intro h1
    (apply j_drawK it mx 21;(· rfl);(· rfl))
    (apply lxk_eq;(· rfl);(· exact d_x fun _=>x_field rfl fd46_2 dk_eq))
    (apply lxk_eq;(· rfl);(· exact d_bld 1 rfl rfl ld22 rfl))
    (apply lxk_run 1;(· rfl);(· simp))
    (apply lxk_pt;(· rfl);(· exact d_x fun _=>x_idx 4 (i) rfl rfl rfl sl22 rfl (by omega) fun z1 hz1 b2 o1=>(dk_ptD default hz1 0 rfl));intro b2 o1)
    (apply lxk_eq;(· rfl);(· exact d_x fun _=>x_ld_int 0 rfl rfl ld3 fun ⟨r1,r2⟩=>dk_eq))
    (apply lxk_eq;(· rfl);(· exact d_x fun _=>x_field rfl fd46_1 dk_eq))
    (apply lxk_eq;(· rfl);(· exact d_bld 1 rfl rfl ld22 rfl))
    (apply lxk_pt;(· rfl);(· exact d_x fun _=>x_idx 3 0 rfl rfl rfl sl22 (by omega) (by omega) fun z1 hz1 b4 o2=>(dk_ptD default hz1 0 rfl));intro b4 o2)
    (apply lxk_eq;(· rfl);(· exact d_x fun _=>x_ld_int 0 rfl rfl ld3 fun ⟨r1,r2⟩=>dk_eq))
    (apply lxk_eq;(· rfl);(· exact d_x fun _=>x_trueN it rfl (by trivial) (by omega) dk_eq))
    (apply lxk_run 2;(· rfl);(· simp))
    (apply lxk_eq;(· rfl);(· exact d_x fun _=>x_field rfl fd46_2 dk_eq))
    (apply lxk_eq;(· rfl);(· exact d_bld 1 rfl rfl ld22 rfl))
    (apply lxk_run 1;(· rfl);(· simp))
    (apply lxk_pt;(· rfl);(· exact d_x fun _=>x_idx 6 (i) rfl rfl rfl sl22 rfl (by omega) fun z1 hz1 b5 o3=>(dk_ptD default hz1 0 rfl));intro b5 o3)
    (apply lxk_eq;(· rfl);(· exact d_x fun _=>x_ld_int 0 rfl rfl ld3 fun ⟨r1,r2⟩=>dk_eq))
    (apply lxk_pt;(· rfl);(· exact d_x fun _=>x_idx 3 ((away.getD i default : Int).toNat) rfl rfl rfl sl22 (by omega) (by omega) fun z1 hz1 b6 o4=>(dk_ptD default hz1 0 rfl));intro b6 o4)
    (apply lxk_eq;(· rfl);(· exact d_x fun _=>x_ld_int 0 rfl rfl ld3 fun ⟨r1,r2⟩=>dk_eq))
    (apply lxk_eq;(· rfl);(· exact d_x fun _=>x_trueN it rfl (by trivial) (by omega) dk_eq))
    (apply lxk_run 1;(· rfl);(· simp))
    refine lxk_end rfl ?_
    simp only [List.map_cons,List.map_nil,List.cons_append,List.nil_append]
    refine wk 5 cz ?_
    exact ge
 ·obtain rfl : i = away.length:=by omega
  rw [List.take_length] at hno
  obtain ⟨rfl,hopt⟩:=hfin hno
  clear ih
  cases f with
  | false =>
   refine wk 12 cz ?_
   intro h1
   exact ge
  | true =>
   have hlt:=hopt rfl
   refine wk 12 (ct @c_codewrightref11_Weight cz) ?_
   intro h1
   exact ge
end
open Go Go.Fw
set_option maxRecDepth 100000
set_option linter.unusedVariables false
set_option linter.unusedSimpArgs false
set_option maxHeartbeats 0
section
variable {p m N n c nm cm cl na ca nh ch nx cx : Nat} {pm ps pl pa ph px : Option Addr} {md away hs msg : List Int} {rows : List (List Int)} {l : Int}
theorem RL_one (CC : Cok p m md N rows) (hN10 : (N : Int) ≤ 10) (hlo : stP N [l]) (haw : stP N away) (C : Cx) : J F_codewrightlaw53_RepairLocal C [It.c []] (argF 0 [.agg #[.int .i64 p,.int .i64 m,.slice pm nm cm,.int .i64 N,.slice ps n c,.slice pl [l].length cl,.slice pa away.length ca,.slice ph nh ch,.slice px nx cx]]) [] [slF I64 pm nm cm md,slF (encSl I64) ps n c rows,slF I64 pl [l].length cl [l],slF I64 pa away.length ca away,slF I64 ph nh ch hs,slF I64 px nx cx msg] (Gives C (Rv (.bool true) [])):=by
 have hc : ckE p m md N rows = 0:=CC.ck
 have hl1 : [l].length = 1:=rfl
 have hN : InR .i64 (N : Int):=by have:=CC.n64;simp only [InR];omega
 have c_codewrightlaw53_alive:=S_codewrightlaw53_alive
 have c_codewrightlaw53_short:=fun {pm ps : Option Addr} {nm cm n c : Nat}=>S_codewrightlaw53_short (b:=true) (pm:=pm) (ps:=ps) (nm:=nm) (cm:=cm) (n:=n) (c:=c) (md:=md) (rows:=rows) hN (.inr ⟨hc,(decide_eq_true hN10).symm⟩)
 have c_codewrightref53_Sets:=fun {pm ps pl : Option Addr} {nm cm n c nl cl : Nat}=>S_codewrightref53_Sets (pm:=pm) (ps:=ps) (nm:=nm) (cm:=cm) (n:=n) (c:=c) (pl:=pl) (nl:=nl) (cl:=cl) (P:=(p : Int)) (M:=(m : Int)) (N:=(N : Int)) (md:=md) (rows:=rows) (ls:=[[l],away]) hN rfl
 rw [setsB2,if_neg (fun e=>e hc),if_pos ⟨hlo,haw⟩] at c_codewrightref53_Sets
 have hn12 : N ≤ 12:=by omega
 have h64:=CC.n64
 have hq:=CC.K.q
 have q2:=(fok_fn CC.K).q2
 have at_l : [l][0]? = some l:=rfl
 have gl:=gd_at at_l
 obtain ⟨l0,l1⟩:=hlo.1 l (.head _)
 have hall_st:=othL_st N [[l],away]
 have hal2:=st_len haw
 have c_codewrightref12_Dual:=fun {pm ps : Option Addr} {nm cm n c : Nat}=>S_codewrightref12_Dual (pm:=pm) (ps:=ps) (nm:=nm) (cm:=cm) (n:=n) (c:=c) CC
 have hsu:=fun {x : List Int}=>su_en (x:=x) CC hlo
 have hsl:=fun {v : List Int}=>su_len (v:=v) (N:=N) l0 l1
 have hdm:=du_mat CC
 obtain ⟨e,lo,hh,co,f,pf,c_repair_Plan,hE⟩ : ∃ (e : Int) (lo hh : List Int) (co : List (List Int)) (f : Bool) (pf : List (List Int)),(∀ {nm cm n c nl cl na ca : Nat} {pm ps pl pa : Option Addr},Ctr Tryz.prog 19 [.agg #[.int .i64 p,.int .i64 m,.slice pm nm cm,.int .i64 N,.slice ps n c],.slice pl nl cl,.slice pa na ca] [] [slF I64 pm nm cm md,slF (encSl I64) ps n c rows,slF I64 pl nl cl [l],slF I64 pa na ca away] (PlQ e lo hh co f pf)) ∧ ((e = 19 ∧ enP p m md N rows [l] (othL N [[l],away]) = false) ∨ (e = 0 ∧ PlOk p m N md [l] away rows (hh,f,pf))):=by
  cases hall : enP p m md N rows [l] (othL N [[l],away]) with
  | false =>
   have h19 : plE p m md N rows [l] away = 19:=by
    rw [plE,if_neg (fun e=>e hc),if_neg (fun e=>e ⟨hlo,haw⟩),if_pos]
    simp only [Int.toNat_natCast];exact hall
   exact ⟨19,[],[],[],false,[],fun {nm cm n c nl cl na ca : Nat} {pm ps pl pa : Option Addr}=>S_repair_Plan_err (nm:=nm) (cm:=cm) (n:=n) (c:=c) (nl:=nl) (cl:=cl) (na:=na) (ca:=ca) (pm:=pm) (ps:=ps) (pl:=pl) (pa:=pa) hN h19 (by decide),.inl ⟨rfl,rfl⟩⟩
  | true =>
   obtain ⟨⟨hh,f,pf⟩,hP⟩ : ∃ x,plP p m N md [l] away rows (N + 1) 0 [] = x:=⟨_,rfl⟩
   have ok:=pl_ok CC hlo hall (N + 1) 0 [] (.inl ⟨rfl,rfl⟩)
   rw [hP] at ok
   exact ⟨0,[l],hh,_,f,pf,fun {nm cm n c nl cl na ca : Nat} {pm ps pl pa : Option Addr}=>S_repair_Plan_ok (nm:=nm) (cm:=cm) (n:=n) (c:=c) (nl:=nl) (cl:=cl) (na:=na) (ca:=ca) (pm:=pm) (ps:=ps) (pl:=pl) (pa:=pa) CC hn12 hlo haw hall hP,.inr ⟨rfl,ok⟩⟩
 have he : 0 ≤ e ∧ e ≤ 19:=by rcases hE with ⟨h,_⟩ | ⟨h,_⟩ <;> omega
 by_cases hdc : ckE p m md N (duR p m md N rows) = 0
 ·have CD:=ck_cok hdc
  by_cases hx : liE msg (duR p m md N rows).length (p ^ m) = 0
  ·have hx:=liE_iff.1 hx
   have c_codewrightref12_Encode:=fun {n c nm cm nx cx : Nat} {pm ps px : Option Addr}=>S_codewrightref12_Encode_ok (n:=n) (c:=c) (nm:=nm) (cm:=cm) (nx:=nx) (cx:=cx) (pm:=pm) (ps:=ps) (px:=px) CD hx
   have hvW : Wd (p ^ m) N (cbP p m md N msg (duR p m md N rows)):=(fok_fn CC.K).cmb_wd hx.2 hdm
   have hsu':=hsu hx.2
   clear hsu
   generalize cbP p m md N msg (duR p m md N rows) = v at *
   have hvl:=hvW.1
   have at_v : v[l.toNat]? = some (at0 v l.toNat):=by rw [at0,List.getD_eq_getElem?_getD,List.getElem?_eq_getElem (by omega)];rfl
   by_cases hv0 : at0 v l.toNat = 0
   ·generalize at0 v l.toNat = z at *
    refine wk 20 (ct @c_codewrightlaw53_alive (ct @c_codewrightlaw53_short cz)) ?_
    intro b1 b2
    refine j_pub_all (E:=(encSl (I64))) (n:=2) [[Value.slice pl [l].length cl],[Value.slice pa away.length ca]] [[l],away] 0 (fun w A hG=>(allrd_cons (rd_of_slF (hG _ (fact_mem (n:=2) rfl))) (allrd_cons (rd_of_slF (hG _ (fact_mem (n:=3) rfl))) allrd_nil))) rfl rfl rfl rfl (by first | decide | exact Nat.le_of_ble_eq_true rfl) (by first | decide | exact Nat.le_of_ble_eq_true rfl) ?_
    refine wk 41 (ct @c_codewrightref53_Sets (ct @c_repair_Plan (ct @c_codewrightref12_Dual (ct @c_codewrightref12_Encode cz)))) ?_
    intro h1 h2 p11 p21 p31 p41 k11 k21 k31 k41 c11 c21 c31 c41 b3 pb1 pc1 nb1 cb1 nc1 cc1 b4 pb2 cb2 h3 b5 o1 hz1
    refine j_gstep rfl rfl (x_ld_int 0 rfl rfl ld3 fun ⟨r1,r2⟩=>?_)
    refine wk 1 cz ?_
    intro b6 o2 hz2
    refine j_gstep rfl rfl (x_ld_int 0 rfl rfl ld3 fun ⟨r3,r4⟩=>?_)
    refine wk 6 cz ?_
    intro h4
    exact ge
   ·have hsu2:=hsu' hv0
    have hwl:=hsl hv0
    have hfin : (∀ a ∈ away,a = l ∨ at0 v a.toNat = 0) → e = 0 ∧ (f = true → hh.length < (brL [] [] [] v N).length):=fun h=>by
     rcases hE with ⟨_,hall⟩ | ⟨he,ok⟩
     ·rw [en_more CC hlo hall_st (fun x hx=>othL_mem.2 ⟨brL_st.1 x hx,fun k hk=>?_⟩) hsu2] at hall
      ·cases hall
      ·rcases List.mem_cons.1 hk with rfl | hk
       ·exact fun h2=>su_not x h2 hx
       ·rw [List.mem_singleton.1 hk]
        exact su_dis h x hx
     ·refine ⟨he,fun hf=>?_⟩
      refine Classical.byContradiction fun hlt=>?_
      have:=pr_sound CC hlo brL_st (ok.pr hf) (H:=suL l v N) su_not (by
       rw [List.any_eq_false]
       exact fun x hx h2=>su_dis h x hx (of_decide_eq_true h2)) (by show ¬ ((hh.length : Int) - 1 < ((suL l v N).length : Int));omega)
      rw [hsu2] at this;cases this
    clear hE hsl hsu' hwl hsu2
    generalize at0 v l.toNat = z at *
    refine wk 20 (ct @c_codewrightlaw53_alive (ct @c_codewrightlaw53_short cz)) ?_
    intro b1 b2
    refine j_pub_all (E:=(encSl (I64))) (n:=2) [[Value.slice pl [l].length cl],[Value.slice pa away.length ca]] [[l],away] 0 (fun w A hG=>(allrd_cons (rd_of_slF (hG _ (fact_mem (n:=2) rfl))) (allrd_cons (rd_of_slF (hG _ (fact_mem (n:=3) rfl))) allrd_nil))) rfl rfl rfl rfl (by first | decide | exact Nat.le_of_ble_eq_true rfl) (by first | decide | exact Nat.le_of_ble_eq_true rfl) ?_
    refine wk 41 (ct @c_codewrightref53_Sets (ct @c_repair_Plan (ct @c_codewrightref12_Dual (ct @c_codewrightref12_Encode cz)))) ?_
    intro h1 h2 p11 p21 p31 p41 k11 k21 k31 k41 c11 c21 c31 c41 b3 pb1 pc1 nb1 cb1 nc1 cc1 b4 pb2 cb2 h3 b5 o1 hz1
    refine j_gstep rfl rfl (x_ld_int 0 rfl rfl ld3 fun ⟨r1,r2⟩=>?_)
    refine wk 1 cz ?_
    intro b6 o2 hz2
    refine j_gstep rfl rfl (x_ld_int 0 rfl rfl ld3 fun ⟨r3,r4⟩=>?_)
    refine wk 6 cz ?_
    intro h4
    simp only [setB,List.set_cons_zero,List.eraseIdx_cons_zero,List.cons_append,List.nil_append]
    simp only [List.length_singleton]
    refine j_toM [false,true,true] [2,6,10,12,13] (by exact fra rfl) rfl rfl (RL_loop (b1:=b1) (b3:=b3) (pm:=pm) (nm:=nm) (cm:=cm) CC.K l0 l1 haw hvW hn12 he hfin)
  ·have c_codewrightref12_Encode:=fun {n c nm cm nx cx : Nat} {pm ps px : Option Addr}=>S_codewrightref12_Encode_bad (n:=n) (c:=c) (nm:=nm) (cm:=cm) (nx:=nx) (cx:=cx) (pm:=pm) (ps:=ps) (px:=px) CD rfl hx
   generalize liE msg (duR p m md N rows).length (p ^ m) = e2 at *
   refine wk 20 (ct @c_codewrightlaw53_alive (ct @c_codewrightlaw53_short cz)) ?_
   intro b1 b2
   refine j_pub_all (E:=(encSl (I64))) (n:=2) [[Value.slice pl [l].length cl],[Value.slice pa away.length ca]] [[l],away] 0 (fun w A hG=>(allrd_cons (rd_of_slF (hG _ (fact_mem (n:=2) rfl))) (allrd_cons (rd_of_slF (hG _ (fact_mem (n:=3) rfl))) allrd_nil))) rfl rfl rfl rfl (by first | decide | exact Nat.le_of_ble_eq_true rfl) (by first | decide | exact Nat.le_of_ble_eq_true rfl) ?_
   refine wk 46 (ct @c_codewrightref53_Sets (ct @c_repair_Plan (ct @c_codewrightref12_Dual (ct @c_codewrightref12_Encode cz)))) ?_
   intro h1 h2 p11 p21 p31 p41 k11 k21 k31 k41 c11 c21 c31 c41 b3 pb1 pc1 nb1 cb1 nc1 cc1 b4 h3
   exact ge
 ·have c_codewrightref12_Encode:=fun {n c nm cm nx cx : Nat} {pm ps px : Option Addr}=>S_codewrightref12_Encode_err (P:=p) (M:=m) (N:=N) (md:=md) (rows:=duR p m md N rows) (msg:=msg) (n:=n) (c:=c) (nm:=nm) (cm:=cm) (nx:=nx) (cx:=cx) (pm:=pm) (ps:=ps) (px:=px) hN rfl hdc
  generalize ckE p m md N (duR p m md N rows) = e2 at *
  refine wk 20 (ct @c_codewrightlaw53_alive (ct @c_codewrightlaw53_short cz)) ?_
  intro b1 b2
  refine j_pub_all (E:=(encSl (I64))) (n:=2) [[Value.slice pl [l].length cl],[Value.slice pa away.length ca]] [[l],away] 0 (fun w A hG=>(allrd_cons (rd_of_slF (hG _ (fact_mem (n:=2) rfl))) (allrd_cons (rd_of_slF (hG _ (fact_mem (n:=3) rfl))) allrd_nil))) rfl rfl rfl rfl (by first | decide | exact Nat.le_of_ble_eq_true rfl) (by first | decide | exact Nat.le_of_ble_eq_true rfl) ?_
  refine wk 46 (ct @c_codewrightref53_Sets (ct @c_repair_Plan (ct @c_codewrightref12_Dual (ct @c_codewrightref12_Encode cz)))) ?_
  intro h1 h2 p11 p21 p31 p41 k11 k21 k31 k41 c11 c21 c31 c41 b3 pb1 pc1 nb1 cb1 nc1 cc1 b4 h3
  exact ge
end
section
variable {P M N : Int} {n c nm cm nl cl na ca nh ch nx cx : Nat} {pm ps pl pa ph px : Option Addr} {md lost away hs msg : List Int} {rows : List (List Int)}
theorem S_RepairLocal (hN : InR .i64 N) : Ctr Tryz.prog 6 [.agg #[.int .i64 P,.int .i64 M,.slice pm nm cm,.int .i64 N,.slice ps n c,.slice pl nl cl,.slice pa na ca,.slice ph nh ch,.slice px nx cx]] [] [slF I64 pm nm cm md,slF (encSl I64) ps n c rows,slF I64 pl nl cl lost,slF I64 pa na ca away,slF I64 ph nh ch hs,slF I64 px nx cx msg] (Rv (.bool true) []):=by
 refine Ctr_of_j' (F:=F_codewrightlaw53_RepairLocal) rfl fun C=>?_
 refine j_len 2 rfl fun hn _ _=>?_
 subst hn
 refine j_len 3 rfl fun hn _ _=>?_
 subst hn
 have c_codewrightlaw53_alive:=S_codewrightlaw53_alive
 have hrs:=ckE_rng P M md N rows
 have c_codewrightref53_Sets:=fun {pm ps pl : Option Addr} {nm cm n c nl cl : Nat}=>S_codewrightref53_Sets (pm:=pm) (ps:=ps) (nm:=nm) (cm:=cm) (n:=n) (c:=c) (pl:=pl) (nl:=nl) (cl:=cl) (P:=P) (M:=M) (N:=N) (md:=md) (rows:=rows) (ls:=[lost,away]) hN rfl
 rw [setsB2] at c_codewrightref53_Sets
 by_cases hc : ckE P M md N rows = 0
 ·by_cases hN10 : N ≤ 10
  ·have c_codewrightlaw53_short:=fun {pm ps : Option Addr} {nm cm n c : Nat}=>S_codewrightlaw53_short (b:=true) (P:=P) (M:=M) (pm:=pm) (ps:=ps) (nm:=nm) (cm:=cm) (n:=n) (c:=c) (md:=md) (rows:=rows) hN (.inr ⟨hc,(decide_eq_true hN10).symm⟩)
   rw [if_neg (fun e=>e hc)] at c_codewrightref53_Sets
   by_cases h1 : stP N lost ∧ stP N away
   ·rw [if_pos h1] at c_codewrightref53_Sets
    by_cases hl1 : lost.length = 1
    ·obtain ⟨l,rfl⟩ : ∃ l,lost = [l]:=List.length_eq_one_iff.1 hl1
     obtain ⟨p,m,N,rfl,rfl,rfl,CC⟩:=ck_of hc
     exact RL_one CC hN10 h1.1 h1.2 C
    ·refine wk 20 (ct @c_codewrightlaw53_alive (ct @c_codewrightlaw53_short cz)) ?_
     intro b1 b2
     refine j_pub_all (E:=(encSl (I64))) (n:=2) [[Value.slice pl lost.length cl],[Value.slice pa away.length ca]] [lost,away] 0 (fun w A hG=>(allrd_cons (rd_of_slF (hG _ (fact_mem (n:=2) rfl))) (allrd_cons (rd_of_slF (hG _ (fact_mem (n:=3) rfl))) allrd_nil))) rfl rfl rfl rfl (by first | decide | exact Nat.le_of_ble_eq_true rfl) (by first | decide | exact Nat.le_of_ble_eq_true rfl) ?_
     refine wk 12 (ct @c_codewrightref53_Sets cz) ?_
     intro h2 h3
     exact ge
   ·rw [if_neg h1] at c_codewrightref53_Sets
    refine wk 20 (ct @c_codewrightlaw53_alive (ct @c_codewrightlaw53_short cz)) ?_
    intro b1 b2
    refine j_pub_all (E:=(encSl (I64))) (n:=2) [[Value.slice pl lost.length cl],[Value.slice pa away.length ca]] [lost,away] 0 (fun w A hG=>(allrd_cons (rd_of_slF (hG _ (fact_mem (n:=2) rfl))) (allrd_cons (rd_of_slF (hG _ (fact_mem (n:=3) rfl))) allrd_nil))) rfl rfl rfl rfl (by first | decide | exact Nat.le_of_ble_eq_true rfl) (by first | decide | exact Nat.le_of_ble_eq_true rfl) ?_
    refine wk 7 (ct @c_codewrightref53_Sets cz) ?_
    exact ge
  ·have c_codewrightlaw53_short:=fun {pm ps : Option Addr} {nm cm n c : Nat}=>S_codewrightlaw53_short (b:=false) (P:=P) (M:=M) (pm:=pm) (ps:=ps) (nm:=nm) (cm:=cm) (n:=n) (c:=c) (md:=md) (rows:=rows) hN (.inr ⟨hc,(decide_eq_false hN10).symm⟩)
   refine wk 18 (ct @c_codewrightlaw53_alive (ct @c_codewrightlaw53_short cz)) ?_
   intro b1
   exact ge
 ·have c_codewrightlaw53_short:=fun {pm ps : Option Addr} {nm cm n c : Nat}=>S_codewrightlaw53_short (b:=true) (P:=P) (M:=M) (pm:=pm) (ps:=ps) (nm:=nm) (cm:=cm) (n:=n) (c:=c) (md:=md) (rows:=rows) hN (.inl ⟨hc,rfl⟩)
  rw [if_pos hc] at c_codewrightref53_Sets
  generalize ckE P M md N rows = e at *
  refine wk 20 (ct @c_codewrightlaw53_alive (ct @c_codewrightlaw53_short cz)) ?_
  intro b1 b2
  refine j_pub_all (E:=(encSl (I64))) (n:=2) [[Value.slice pl lost.length cl],[Value.slice pa away.length ca]] [lost,away] 0 (fun w A hG=>(allrd_cons (rd_of_slF (hG _ (fact_mem (n:=2) rfl))) (allrd_cons (rd_of_slF (hG _ (fact_mem (n:=3) rfl))) allrd_nil))) rfl rfl rfl rfl (by first | decide | exact Nat.le_of_ble_eq_true rfl) (by first | decide | exact Nat.le_of_ble_eq_true rfl) ?_
  refine wk 11 (ct @c_codewrightref53_Sets cz) ?_
  intro h1
  exact ge
end
end Go.Proofs.YtkcmkomhnjppaaaGreat
