/-
Repair plans applied, in the program. Lists of lists compared in the document; the walk of RepairApplies.
-/
import Derived.Test.YtlecjbjgbcdilaaRC6
set_option linter.unusedVariables false
set_option linter.unusedSimpArgs false
namespace Go.Proofs.Ytlecjbjgbcdilaa
open Go Go.Fw
set_option maxRecDepth 100000
set_option linter.unusedVariables false
set_option linter.unusedSimpArgs false
set_option maxHeartbeats 8000000
theorem S_repair_elementsR {b p m q ng cg ne ce nl cl n c : Nat} {pg pe pl ps : Option Addr} {rows : List (List Int)} {res : Bool} (hq : q ≤ 256) (hr : elB rows q = res) :
  Ctr Try.prog 30 [.pointer (some ⟨b,0,none⟩),.slice ps n c] [] [gfC b p m q pg ng cg pe ne ce pl nl cl,slF (encSl I64) ps n c rows] (Rv (.bool res) []):=hr ▸ S_repair_elements hq
theorem S_repair_Apply_err {P M : Int} {nm cm nh ch nl cl nc cc np cp nb cb : Nat} {f : Bool} {pm pl ph pc pp pb : Option Addr} {md lost hs : List Int} {coef bs : List (List Int)} (hc : ¬ chkF P M md) :
  Ctr Try.prog 12 [.agg #[.int .i64 P,.int .i64 M,.slice pm nm cm],.agg #[.slice pl nl cl,.slice ph nh ch,.slice pc nc cc,.bool f,.slice pp np cp],.slice pb nb cb] [] [slF I64 pm nm cm md,slF I64 pl nl cl lost,slF I64 ph nh ch hs,slF (encSl I64) pc nc cc coef,slF (encSl I64) pb nb cb bs] (ApQ 1 []):=by
 refine Ctr_of_j' (F:=F_repair_Apply) rfl fun C=>?_
 have c_field_New:=fun {pm : Option Addr} {nm cm : Nat}=>S_field_New_err (pm:=pm) (nm:=nm) (cm:=cm) hc
 refine j_nf [_,_] rfl (j_step rfl (x_box_agg rfl fun b1=>?_))
 refine j_step rfl (x_box_agg rfl fun b2=>?_)
 refine j_step rfl (x_box_one rfl rfl fun b3=>?_)
 refine j_run it 2 rfl (by simp) ?_
 refine j_nf [_,_] rfl (j_step rfl (x_bld_all 2 rfl rfl ld24 rfl ?_))
 refine j_step rfl (x_call [0] rfl (c_field_New) rfl ?_)
 rintro _ _ _ ⟨rfl,rfl,rfl⟩
 simp only [List.cons_append,List.nil_append]
 refine j_run it 5 rfl (by simp) ?_
 refine j_nf [_,_,_] rfl (j_run it 2 rfl (by simp) ?_)
 refine j_nf [_,_] rfl (j_ifn rfl rfl (fun h1=>?_) (fun h1=>by exfalso;omega))
 refine j_nf [_,_,_] rfl (j_run it 3 rfl (by simp) ?_)
 refine j_nf [_,_] rfl ?_
 refine j_add (slF (encSl I64) none 0 0 []) (fun w A _=>slF_nil (encSl I64) w A none 0) ?_
 refine j_giv [0] rfl rfl rfl ⟨_,_,rfl,rfl,rfl⟩
theorem S_repair_Apply {p m nm cm nh ch nl cl nc cc np cp nb cb : Nat} {f : Bool} {pm pl ph pc pp pb : Option Addr} {md lost hs : List Int} {coef bs : List (List Int)} {e : Int} (K : Fok p m md) (hW : (bs.getD 0 []).length ≤ 1000000) (hL : lost.length ≤ 1000000) (he : apE lost hs coef bs (p ^ m) = e) :
  Ctr Try.prog 12 [.agg #[.int .i64 p,.int .i64 m,.slice pm nm cm],.agg #[.slice pl nl cl,.slice ph nh ch,.slice pc nc cc,.bool f,.slice pp np cp],.slice pb nb cb] [] [slF I64 pm nm cm md,slF I64 pl nl cl lost,slF I64 ph nh ch hs,slF (encSl I64) pc nc cc coef,slF (encSl I64) pb nb cb bs] (ApQ e (apR p m md coef bs e)):=by
 refine Ctr_of_j' (F:=F_repair_Apply) rfl fun C=>?_
 have hq:=K.q
 refine j_len 1 rfl fun hn hbl _=>?_
 subst hn
 refine j_len 2 rfl fun hn hbh _=>?_
 subst hn
 refine j_len 3 rfl fun hn hbc _=>?_
 subst hn
 refine j_len 4 rfl fun hn hbb _=>?_
 subst hn
 have hbc' : coef.length * 24 ≤ 140737488355328:=hbc
 have hbb' : bs.length * 24 ≤ 140737488355328:=hbb
 have c_field_New:=fun {pm : Option Addr} {nm cm : Nat}=>S_field_New_ok (pm:=pm) (nm:=nm) (cm:=cm) K
 have c_repair_shaped:=fun {nh ch nl cl nc cc np cp : Nat} {f : Bool} {pl ph pc pp : Option Addr}=>S_repair_shaped (nh:=nh) (ch:=ch) (nl:=nl) (cl:=cl) (nc:=nc) (cc:=cc) (np:=np) (cp:=cp) (f:=f) (pl:=pl) (ph:=ph) (pc:=pc) (pp:=pp) (lost:=lost) (hs:=hs) (coef:=coef)
 have c_repair_elements:=fun {b ng cg ne ce nl cl n c : Nat} {pg pe pl ps : Option Addr} {rows : List (List Int)}=>S_repair_elements (b:=b) (p:=p) (m:=m) (q:=p ^ m) (ng:=ng) (cg:=cg) (ne:=ne) (ce:=ce) (nl:=nl) (cl:=cl) (n:=n) (c:=c) (pg:=pg) (pe:=pe) (pl:=pl) (ps:=ps) (rows:=rows) hq
 have c_slices_ContainsFunc_____int___int_:=fun {b3 : Nat}=>S_slices_ContainsFunc_____int___int_ (f:=29) (caps:=[.pointer (some ⟨b3,0,none⟩)]) (g:=conjF [celF b3 [.slice pb bs.length cb],slF (encSl I64) pb bs.length cb bs]) (p:=fun r=>!decide ((r.length : Int) = ((bs.getD 0 []).length : Int))) (ps:=pb) (n:=bs.length) (c:=cb) (l:=bs) fun x hx pa ca=>(S_repair_Apply_1 (List.length_pos_of_mem hx) rfl).conj1
 refine j_nf [_,_] rfl ?_
 refine j_step rfl (x_box_agg rfl fun b1=>?_)
 refine j_step rfl (x_box_agg rfl fun b2=>?_)
 refine j_step rfl (x_box_one rfl rfl fun b3=>?_)
 refine j_run it 2 rfl (by simp) ?_
 refine j_pubC 0 rfl ?_
 refine j_conj [0,5] rfl ?_
 rw [apE] at he
 by_cases h1 : shB lost hs coef = true
 ·rw [if_pos h1] at he
  rw [h1] at c_repair_shaped
  obtain ⟨hcl,hcr⟩:=shB_iff.1 h1
  by_cases h2 : (bs.length : Int) = (hs.length : Int)
  ·rw [if_pos h2] at he
   by_cases h3 : wdB bs = true
   ·rw [if_pos h3] at he
    have hbw:=wdB_iff.1 h3
    rw [show (bs.any fun r=>!decide ((r.length : Int) = ((bs.getD 0 []).length : Int))) = false by rw [wdB,Bool.not_eq_true'] at h3;exact h3] at c_slices_ContainsFunc_____int___int_
    by_cases h4 : elB coef (p ^ m) = true
    ·rw [if_pos h4] at he
     have hce:=elB_iff.1 h4
     have c_repair_elements:=fun {b ng cg ne ce nl cl n c : Nat} {pg pe pl ps : Option Addr}=>S_repair_elementsR (b:=b) (p:=p) (m:=m) (q:=p ^ m) (ng:=ng) (cg:=cg) (ne:=ne) (ce:=ce) (nl:=nl) (cl:=cl) (n:=n) (c:=c) (pg:=pg) (pe:=pe) (pl:=pl) (ps:=ps) (rows:=coef) hq h4
     refine j_nf [_,_] rfl ?_
     refine j_step rfl (x_bld_all 1 rfl rfl ld24 rfl ?_)
     refine j_step rfl (x_call [2] rfl (c_field_New) rfl ?_)
     rintro _ _ _ ⟨b4,pg1,cg1,pe1,ce1,pl1,cl1,rfl,rfl,rfl⟩
     simp only [List.cons_append,List.nil_append]
     refine j_run it 5 rfl (by simp) ?_
     refine j_nf [_,_,_] rfl ?_
     refine j_run it 2 rfl (by simp) ?_
     refine j_nf [_,_] rfl ?_
     refine j_ifn rfl rfl (fun h5=>by exfalso;omega) (fun h5=>?_)
     refine j_nf [_,_,_] rfl ?_
     refine j_step rfl (x_bld_all 0 rfl rfl ld41 rfl ?_)
     refine j_step rfl (x_call [7,8,9] rfl (c_repair_shaped) rfl ?_)
     rintro _ _ _ ⟨rfl,rfl,rfl⟩
     simp only [List.cons_append,List.nil_append]
     simp only [decide_true]
     refine j_run it 2 rfl (by simp) ?_
     refine j_gstep rfl rfl (x_ldC 5 rfl rfl ld25 rfl ?_)
     refine j_gstep rfl rfl (x_len sl25 rfl ?_)
     refine j_gstep rfl rfl (x_field rfl fd41_1 ?_)
     refine j_gstep rfl rfl (x_bld 0 rfl rfl ld22 rfl ?_)
     refine j_gstep rfl rfl (x_len sl22 rfl ?_)
     refine j_run it 3 rfl (by simp) ?_
     refine j_split_ndec (t:=36) rfl (fun h6=>by exfalso;omega) (fun h6=>?_)
     refine j_gstep rfl rfl (x_ldC 5 rfl rfl ld25 rfl ?_)
     refine j_run it 1 rfl (by simp) ?_
     refine j_gstep rfl rfl (x_call [10,4] rfl (c_slices_ContainsFunc_____int___int_) rfl ?_)
     rintro _ _ _ ⟨rfl,rfl,rfl⟩
     simp only [List.cons_append,List.nil_append]
     refine j_run it 1 rfl (by simp) ?_
     refine j_nf [_,_] rfl ?_
     refine j_false rfl rfl ?_
     refine j_nf [_,_,_] rfl ?_
     refine j_run it 1 rfl (by simp) ?_
     refine j_step rfl (x_field rfl fd41_2 ?_)
     refine j_step rfl (x_bld 0 rfl rfl ld25 rfl ?_)
     refine j_step rfl (x_call [0,9] rfl (c_repair_elements) rfl ?_)
     rintro _ _ _ ⟨rfl,rfl,rfl⟩
     simp only [List.cons_append,List.nil_append]
     refine j_run it 3 rfl (by simp) ?_
     by_cases h5 : elB bs (p ^ m) = true
     ·rw [if_pos h5] at he
      subst he
      have hbe:=elB_iff.1 h5
      have c_repair_elements:=fun {b ng cg ne ce nl cl n c : Nat} {pg pe pl ps : Option Addr}=>S_repair_elementsR (b:=b) (p:=p) (m:=m) (q:=p ^ m) (ng:=ng) (cg:=cg) (ne:=ne) (ce:=ce) (nl:=nl) (cl:=cl) (n:=n) (c:=c) (pg:=pg) (pe:=pe) (pl:=pl) (ps:=ps) (rows:=bs) hq h5
      have hM : Mat (p ^ m) (bs.getD 0 []).length bs:=fun r hr=>⟨by have:=hbw r hr;omega,hbe r hr⟩
      rw [apR,if_pos rfl]
      clear c_slices_ContainsFunc_____int___int_ c_repair_shaped c_field_New
      rcases Nat.eq_zero_or_pos bs.length with h0 | h0
      ·rw [show (coef.map fun c=>acbP p m md (bs.getD 0 []).length c bs bs.length) = (List.range lost.length).map (fun _=>[]) from by
        obtain rfl : bs = []:=List.eq_nil_of_length_eq_zero h0
        refine List.ext_getElem (by rw [List.length_map,List.length_map,List.length_range,hcl]) fun i a b=>?_
        rw [List.getElem_map,List.getElem_map];rfl]
       refine j_gstep rfl rfl (x_ldC 5 rfl rfl ld25 rfl ?_)
       refine j_gstep rfl rfl (x_call [0,10] rfl (c_repair_elements) rfl ?_)
       rintro _ _ _ ⟨rfl,rfl,rfl⟩
       simp only [List.cons_append,List.nil_append]
       refine j_run it 2 rfl (by simp) ?_
       refine j_nf [_,_] rfl ?_
       refine j_false rfl rfl ?_
       refine j_nf [_,_] rfl ?_
       refine j_step rfl (x_field rfl fd41_0 ?_)
       refine j_step rfl (x_bld 0 rfl rfl ld22 rfl ?_)
       refine j_step rfl (x_len sl22 rfl ?_)
       refine j_step rfl (x_make (lost.length) _ rfl rfl sl25 zo25e rfl rfl by25e (by omega) (by omega) (by omega) fun b5=>?_)
       refine j_run it 1 rfl (by simp) ?_
       refine j_nf [_,_,_] rfl ?_
       refine j_step rfl (x_field rfl fd41_2 ?_)
       refine j_step rfl (x_bld 1 rfl rfl ld25 rfl ?_)
       refine j_step rfl (x_len sl25 rfl ?_)
       refine j_run it 1 rfl (by simp) ?_
       refine j_nf [_,_,_] rfl ?_
       refine j_hd0 0 rfl (by omega) fun csA=>?_
       refine j_famNil I64 3 lost.length ?_
       simp only [setB,List.cons_append,List.nil_append,List.eraseIdx_cons_zero]
       refine j_loopG (X:=Nat) [5,6,7,8,10,57,58] [0,1,2,3,4,5,6,7,8,9,10,11,12] (fun i=>[(59,.int .i64 (i : Int))]) (fun _=>_) (fun _=>[]) (fun i=>i ≤ coef.length) (fun i=>coef.length - i) 0 [] rfl rfl rfl (Nat.zero_le _) (by repeat (first | exact Fr.sub_nil _ | refine Fr.sub_cons rfl ?_)) rfl rfl ?_
       rintro i hi ih
       simp only [List.cons_append,List.nil_append] at hi ih ⊢
       by_cases h9 : i < coef.length
       ·obtain ⟨u,at_u⟩ : ∃ u,coef[i]? = some u:=⟨_,List.getElem?_eq_getElem h9⟩
        refine j_nf [_,_,_,_,_] rfl ?_
        refine j_run it 1 rfl (by simp) ?_
        refine j_nf [_,_,_,_,_] rfl ?_
        refine j_if rfl rfl (fun h7=>?_) (fun h7=>by exfalso;omega)
        refine j_nf [_,_,_,_,_,_,_] rfl ?_
        refine j_run it 1 rfl (by simp) ?_
        refine j_step rfl (x_idx 11 (i) rfl rfl rfl sl25 rfl (by omega) fun z1 hz1 b6 o1=>?_)
        obtain rfl : _ = z1:=Option.some.inj (at_u.symm.trans hz1)
        refine j_step rfl (x_ld_sl 0 rfl rfl ld22 fun pa1 ca1=>?_)
        refine j_run it 2 rfl (by simp) ?_
        refine j_nf [_,_,_,_,_,_,_] rfl ?_
        refine j_step rfl (x_ldC 9 rfl rfl ld25 rfl ?_)
        refine j_step rfl (x_len sl25 rfl ?_)
        refine j_run it 1 rfl (by simp) ?_
        refine j_nf [_,_,_,_,_,_,_] rfl ?_
        refine j_loopG (X:=Unit) [5,6,7,8,10,11,12,57,58,59,60,61,62,63,64,65] [0,1,2,3,4,5,6,7,8,9,10,11,12,13,14] (fun _=>[(66,.int .i64 0)]) (fun _=>_) (fun _=>[]) (fun _=>True) (fun _=>0) () [] rfl rfl rfl trivial (by repeat (first | exact Fr.sub_nil _ | refine Fr.sub_cons rfl ?_)) rfl rfl ?_
        rintro ⟨⟩ - ihj
        simp only [List.cons_append,List.nil_append] at ihj ⊢
        clear ihj
        refine j_nf [_,_,_,_,_,_,_,_,_] rfl ?_
        refine j_run it 1 rfl (by simp) ?_
        refine j_nf [_,_,_,_,_,_,_,_,_] rfl ?_
        refine j_if rfl rfl (fun h8=>by exfalso;omega) (fun h8=>?_)
        refine j_nf [_,_,_,_] rfl ?_
        refine j_run it 2 rfl ⟨trivial,⟨by omega,by omega⟩,trivial⟩ ?_
        refine j_nfn 1 [.lp (pL 2036),.blk 0,.c (pL 255)] rfl ?_
        refine j_to [2,3,4,5,6,7,8,9,10,11,12,13,14] (by exact fra rfl) rfl rfl (ih (i + 1) (by omega) (by omega))
       ·clear ih
        refine j_nf [_,_,_,_,_] rfl ?_
        refine j_run it 1 rfl (by simp) ?_
        refine j_nf [_,_,_,_,_] rfl ?_
        refine j_pubFamL 3 0 1 0 rfl rfl rfl rfl (fun i hi=>Nat.zero_le _) ?_
        simp only [List.take_succ_cons,List.take_zero]
        have hRl : ((List.range lost.length).map fun _=>([] : List Int)).length = lost.length:=by rw [List.length_map,List.length_range]
        generalize ((List.range lost.length).map fun _=>([] : List Int)) = R at *
        refine j_pubR 0 0 rfl rfl (by show lost.length * 24 ≤ 140737488355328;omega) ?_
        rw [← hRl]
        simp only [List.eraseIdx_cons_zero,List.eraseIdx_cons_succ]
        refine j_if rfl rfl (fun h7=>by exfalso;omega) (fun h7=>?_)
        refine j_nf [_,_] rfl ?_
        refine j_run it 3 rfl (by simp) ?_
        refine j_nf [_] rfl ?_
        refine j_giv [0] rfl rfl rfl ⟨_,_,rfl,rfl,rfl⟩
      ·generalize (bs.getD 0 []).length = W at *
       have hRl : (coef.map fun c=>acbP p m md W c bs bs.length).length = lost.length:=by rw [List.length_map,hcl]
       have hRa : ∀ i u,coef[i]? = some u → row0 (coef.map fun c=>acbP p m md W c bs bs.length) i = acbP p m md W u bs bs.length:=fun i u h=>by
        rw [row0,List.getD_eq_getElem?_getD,List.getElem?_map,h];rfl
       generalize (coef.map fun c=>acbP p m md W c bs bs.length) = R at *
       refine j_gstep rfl rfl (x_ldC 5 rfl rfl ld25 rfl ?_)
       refine j_gstep rfl rfl (x_call [0,10] rfl (c_repair_elements) rfl ?_)
       rintro _ _ _ ⟨rfl,rfl,rfl⟩
       simp only [List.cons_append,List.nil_append]
       refine j_run it 2 rfl (by simp) ?_
       refine j_nf [_,_] rfl ?_
       refine j_false rfl rfl ?_
       refine j_nf [_,_] rfl ?_
       refine j_step rfl (x_field rfl fd41_0 ?_)
       refine j_step rfl (x_bld 0 rfl rfl ld22 rfl ?_)
       refine j_step rfl (x_len sl22 rfl ?_)
       refine j_step rfl (x_make (lost.length) _ rfl rfl sl25 zo25e rfl rfl by25e (by omega) (by omega) (by omega) fun b5=>?_)
       refine j_run it 1 rfl (by simp) ?_
       refine j_nf [_,_,_] rfl ?_
       refine j_step rfl (x_field rfl fd41_2 ?_)
       refine j_step rfl (x_bld 1 rfl rfl ld25 rfl ?_)
       refine j_step rfl (x_len sl25 rfl ?_)
       refine j_run it 1 rfl (by simp) ?_
       refine j_nf [_,_,_] rfl ?_
       refine j_hd0 0 rfl (by omega) fun csA=>?_
       refine j_famNil I64 3 0 ?_
       simp only [setB,List.cons_append,List.nil_append]
       refine j_matCongr (row0 R) 0 rfl (fun g hg=>absurd hg (Nat.not_lt_zero g)) ?_
       simp only [List.eraseIdx_cons_zero,List.cons_append,List.nil_append]
       refine j_loopG (X:=Nat × List Value × (Nat → Hd) × (Nat → List Value)) [5,6,7,8,10,57,58] [3,5,6,8,12,13] (fun x=>[(59,.int .i64 (x.1 : Int))]) (fun x=>(some b5,22,x.2.1)::(some b2,41,[.slice pl lost.length cl,.slice ph hs.length ch,.slice pc coef.length cc,.bool f,.slice pp np cp])::(some b1,24,[.int .i64 p,.int .i64 m,.slice pm nm cm])::famB 3 x.2.2.1 x.2.2.2 x.1 [])
        (fun x=>[rowF hdE ⟨some b5,lost.length,x.2.1⟩ lost.length (hdl x.2.2.1 lost.length),matF I64 x.2.2.1 x.2.2.2 (row0 R) x.1 []])
        (fun x=>x.1 ≤ lost.length ∧ ∀ k,x.1 ≤ k → x.2.2.1 k = (none,0,0)) (fun x=>lost.length - x.1) (0,csA,fun _=>(none,0,0),fun _=>[]) [2,0] rfl rfl rfl ⟨Nat.zero_le _,fun _ _=>rfl⟩ (by repeat (first | exact Fr.sub_nil _ | refine Fr.sub_cons rfl ?_)) rfl rfl ?_
       rintro ⟨i,hc,hd,cs⟩ ⟨hi,hnil⟩ ih
       simp only [List.cons_append,List.nil_append] at hi hnil ih ⊢
       by_cases h9 : i < lost.length
       ·obtain ⟨u,at_u⟩ : ∃ u,coef[i]? = some u:=⟨_,List.getElem?_eq_getElem (by omega)⟩
        have hxe:=hce u (List.mem_of_getElem? at_u)
        have hxl:=hcr u (List.mem_of_getElem? at_u)
        have hra:=hRa i u at_u
        have hwd : ∀ {j : Nat},j ≤ bs.length → Wd (p ^ m) W (acbP p m md W u bs j):=acb_wd K hM hxe (by omega)
        have eu : upd hd i (none,0,0) = hd:=upd_id (hnil i (Nat.le_refl _))
        refine j_nf [_,_,_,_,_] rfl ?_
        refine j_run it 1 rfl (by simp) ?_
        refine j_nf [_,_,_,_,_] rfl ?_
        refine j_if rfl rfl (fun h7=>?_) (fun h7=>by exfalso;omega)
        refine j_nf [_,_,_,_,_,_,_] rfl ?_
        refine j_run it 1 rfl (by simp) ?_
        refine j_step rfl (x_idx 6 (i) rfl rfl rfl sl25 rfl (by omega) fun z1 hz1 b6 o1=>?_)
        obtain rfl : _ = z1:=Option.some.inj (at_u.symm.trans hz1)
        refine j_step rfl (x_ld_sl 0 rfl rfl ld22 fun pa1 ca1=>?_)
        refine j_run it 2 rfl (by simp) ?_
        refine j_nf [_,_,_,_,_,_,_] rfl ?_
        refine j_step rfl (x_ldC 7 rfl rfl ld25 rfl ?_)
        refine j_step rfl (x_len sl25 rfl ?_)
        refine j_run it 1 rfl (by simp) ?_
        refine j_nf [_,_,_,_,_,_,_] rfl ?_
        refine j_add (rowF hdE ⟨some b5,lost.length,hc⟩ lost.length (hdl (upd hd i (none,0,0)) lost.length)) (fun w A hG=>by rw [eu];exact hG _ (fact_mem (n:=2) rfl)) ?_
        refine j_row0 I64 3 ?_
        refine j_loopG (X:=Nat × Option Nat × Nat × List Value × List Value) [5,6,7,8,10,11,12,57,58,59,60,61,62,63,64,65] [2,5,6,7,8,9,10,11] (fun x=>[(66,.int .i64 (x.1 : Int))]) (fun x=>(x.2.1,3,x.2.2.2.1)::(some b5,22,x.2.2.2.2)::(some b2,41,[.slice pl lost.length cl,.slice ph hs.length ch,.slice pc coef.length cc,.bool f,.slice pp np cp])::(some b1,24,[.int .i64 p,.int .i64 m,.slice pm nm cm])::famB 3 hd cs i [])
         (fun x=>[rowF hdE ⟨some b5,lost.length,x.2.2.2.2⟩ lost.length (hdl (upd hd i (x.2.1,x.2.2.1,x.2.2.1)) lost.length)])
         (fun x=>x.1 ≤ bs.length ∧ (x.1 = 0 → x.2.1 = none ∧ x.2.2.1 = 0) ∧ (x.1 ≠ 0 → (∃ b,x.2.1 = some b) ∧ x.2.2.1 = W ∧ x.2.2.2.1 = intCells .i64 (acbP p m md W u bs x.1))) (fun x=>bs.length - x.1) (0,none,0,[],hc) [1] rfl rfl rfl ⟨Nat.zero_le _,fun _=>⟨rfl,rfl⟩,fun h=>absurd rfl h⟩ (by repeat (first | exact Fr.sub_nil _ | refine Fr.sub_cons rfl ?_)) rfl rfl ?_
        rintro ⟨j,bo,l,cel,hc⟩ ⟨hj,hj0,hj1⟩ ihj
        simp only [List.cons_append,List.nil_append] at hj hj0 hj1 ihj ⊢
        have hz : (hdl (upd hd i (bo,l,l)) lost.length)[i]? = some (bo,l,l):=by rw [hdl,List.getElem?_map,List.getElem?_range h9,Option.map_some,upd_self]
        by_cases h8 : j < bs.length
        ·obtain ⟨v,at_v⟩ : ∃ v,bs[j]? = some v:=⟨_,List.getElem?_eq_getElem h8⟩
         have hv:=hM v (List.mem_of_getElem? at_v)
         obtain rfl : W = v.length:=hv.1.symm
         obtain ⟨a,at_a⟩ : ∃ a,u[j]? = some a:=⟨_,List.getElem?_eq_getElem (by omega)⟩
         obtain ⟨a0,a1⟩:=hxe a (List.mem_of_getElem? at_a)
         have ga:=gd_at at_a
         have hu:=hwd hj
         have FF:=(fok_fo K).fi
         have hax:=FF.axw a0 a1 hv hu
         have hnx : acbP p m md v.length u bs (j + 1) = axp (liftI (fA p m)) (liftI (fM p (fpo m md))) a v (acbP p m md v.length u bs j):=by rw [acbP,gd_at at_v,ga]
         have key : ∀ (b : Nat) (hc : List Value) (pa2 : Option Addr) (ca2 : Nat),J F_repair_Apply C [It.c (pL 133483726),It.blk 4,It.blk 3,It.c (pL 4171367),It.lp (pL 521420),It.blk 2,It.blk 1,It.c (pL 16295),It.lp (pL 2036),It.blk 0,It.c (pL 255)]
           [(5,.pointer (some ⟨b3,0,none⟩)),(6,.slice none 0 0),(7,.int .i64 0),(8,.pointer (some ⟨b4,0,none⟩)),(10,.slice (some ⟨b5,0,none⟩) lost.length lost.length),(11,.int .i64 i),(12,.slice pa1 u.length ca1),(13,.int .i64 j),(57,.slice pc coef.length cc),(58,.int .i64 coef.length),(59,.int .i64 i),(60,.bool (decide ((i : Int) < coef.length))),(61,.int .i64 i),(62,.pointer (some ⟨b6,o1,none⟩)),(63,.slice pa1 u.length ca1),(64,.slice pb bs.length cb),(65,.int .i64 bs.length),(66,.int .i64 j),(82,.slice pa2 v.length ca2),(83,.int .i64 v.length),(84,.int .i64 0)]
           ((some b,3,intCells .i64 (acbP p m md v.length u bs j))::(some b5,22,hc)::(some b2,41,[.slice pl lost.length cl,.slice ph hs.length ch,.slice pc coef.length cc,.bool f,.slice pp np cp])::(some b1,24,[.int .i64 p,.int .i64 m,.slice pm nm cm])::famB 3 hd cs i [])
           [rowF hdE ⟨some b5,lost.length,hc⟩ lost.length (hdl (upd hd i (some b,v.length,v.length)) lost.length),slF I64 pa2 v.length ca2 v,slF I64 pa1 u.length ca1 u,matF I64 hd cs (row0 R) i [],celF b4 [.int .i64 p,.int .i64 m,.slice pg1 md.length cg1,.int .i64 (p ^ m : Nat),.slice pe1 (p ^ m - 1) ce1,.slice pl1 (p ^ m) cl1],slF I64 pe1 (p ^ m - 1) ce1 (exL p m md),slF I64 pl1 (p ^ m) cl1 (lgL p m md),celF b3 [.slice pb bs.length cb],slF (encSl I64) pc coef.length cc coef,slF (encSl I64) pb bs.length cb bs] (Gives C (ApQ 0 R)):=by
          intro b hc pa2 ca2
          have hal:=hax.1
          have hul:=hu.1
          have hz : (hdl (upd hd i (some b,v.length,v.length)) lost.length)[i]? = some (some b,v.length,v.length):=by rw [hdl,List.getElem?_map,List.getElem?_range h9,Option.map_some,upd_self]
          have c_field_GF__Mul:=fun {b ng cg ce cl : Nat} {pg pe pl : Option Addr} {x y : Int}=>S_field_GF__Mul (b:=b) (ng:=ng) (cg:=cg) (ce:=ce) (cl:=cl) (pg:=pg) (pe:=pe) (pl:=pl) (x:=x) (y:=y) K
          have c_field_GF__Add:=fun {b ng cg ne ce nl cl : Nat} {pg pe pl : Option Addr} {x y : Int}=>S_field_GF__Add (b:=b) (ng:=ng) (cg:=cg) (ne:=ne) (ce:=ce) (nl:=nl) (cl:=cl) (pg:=pg) (pe:=pe) (pl:=pl) (x:=x) (y:=y) K.p2 K.m1 K.q
          have ihj':=fun hc=>ihj (j + 1,some b,v.length,intCells .i64 (acbP p m md v.length u bs (j + 1)),hc) (by dsimp only;omega) ⟨by dsimp only;omega,fun h=>absurd h (Nat.succ_ne_zero j),fun _=>⟨⟨b,rfl⟩,rfl,rfl⟩⟩
          dsimp only at ihj'
          rw [hnx] at ihj'
          clear ihj ih
          generalize acbP p m md v.length u bs j = o at *
          generalize liftI (fM p (fpo m md)) = M at *
          generalize liftI (fA p m) = A0 at *
          refine j_loopG (X:=Nat) [5,6,7,8,10,11,12,13,57,58,59,60,61,62,63,64,65,66,82,83] [0,1,2,3,4,5,6,7,8,9] (fun k=>[(84,.int .i64 (k : Int))]) (fun k=>(some b,3,intCells .i64 ((axp A0 M a v o).take k++o.drop k))::(some b5,22,hc)::(some b2,41,[.slice pl lost.length cl,.slice ph hs.length ch,.slice pc coef.length cc,.bool f,.slice pp np cp])::(some b1,24,[.int .i64 p,.int .i64 m,.slice pm nm cm])::famB 3 hd cs i []) (fun _=>[]) (fun k=>k ≤ v.length) (fun k=>v.length - k) 0 [] rfl rfl rfl (Nat.zero_le _) (by repeat (first | exact Fr.sub_nil _ | refine Fr.sub_cons rfl ?_)) rfl rfl ?_
          rintro k hk ihk
          simp only [List.cons_append,List.nil_append] at hk ihk ⊢
          by_cases hkn : k < v.length
          ·obtain ⟨x,at_x⟩ : ∃ x,v[k]? = some x:=⟨_,List.getElem?_eq_getElem hkn⟩
           obtain ⟨y,hy⟩ : ∃ y,o[k]? = some y:=⟨_,List.getElem?_eq_getElem (by omega)⟩
           obtain ⟨x0,x1⟩:=hv.2 x (List.mem_of_getElem? at_x)
           obtain ⟨y0,y1⟩:=hu.2 y (List.mem_of_getElem? hy)
           have hT : (axp A0 M a v o)[k]? = some (A0 y (M a x)):=by rw [axp,List.getElem?_zipWith,hy,at_x]
           have at_y:=(mixI_at hal hul hkn).trans hy
           have hset:=mixI_set hal hul hkn hT
           have hLl : ((axp A0 M a v o).take k++o.drop k).length = v.length:=by rw [List.length_append,List.length_take,List.length_drop];omega
           have ihk':=ihk (k + 1) (by omega) (by omega)
           rw [← hset] at ihk'
           obtain ⟨m0,m1⟩:=FF.ml a x a0 a1 x0 x1
           obtain ⟨s0,s1⟩:=FF.al y (M a x) y0 y1 m0 m1
           generalize (axp A0 M a v o).take k++o.drop k = L at *
           rw [← ga] at ihk' m0 m1 s0 s1
           clear ihk ihj'
           refine j_nf [_,_,_,_,_,_,_,_,_,_,_,_,_] rfl ?_
           refine j_run it 1 rfl (by simp) ?_
           refine j_nf [_,_,_,_,_,_,_,_,_,_,_,_,_] rfl ?_
           refine j_if rfl rfl (fun h10=>?_) (fun h10=>by exfalso;omega)
           refine j_nf [_,_,_,_,_,_,_,_,_,_,_,_,_,_,_] rfl ?_
           refine j_run it 1 rfl (by simp) ?_
           refine j_step rfl (x_idx 1 (k) rfl rfl rfl sl22 rfl (by omega) fun z1 hz2 b7 o2=>?_)
           obtain rfl : _ = z1:=Option.some.inj (at_x.symm.trans hz2)
           refine j_step rfl (x_ld_int 0 rfl rfl ld3 fun ⟨r1,r2⟩=>?_)
           refine j_run it 2 rfl (by simp) ?_
           refine j_nf [_,_,_,_,_,_,_,_,_,_,_,_,_,_] rfl ?_
           (apply j_drawK it mx 21;(· rfl);(· rfl))
           (apply lxk_run 2;(· rfl);(· simp))
           (apply lxk_eq;(· rfl);(· exact d_x fun _=>x_idx_own (i) (i) rfl rfl sl25 rfl (by omega) (Nat.mul_one _) dk_eq))
           (apply lxk_eq;(· rfl);(· exact d_ldR_hd 1 1 (i) rfl rfl rfl ld22 rfl (by assumption)))
           dsimp only
           (apply lxk_run 4;(· rfl);(· simp))
           (apply lxk_eq;(· rfl);(· exact d_x fun _=>x_idx_own (i) (i) rfl rfl sl25 rfl (by omega) (Nat.mul_one _) dk_eq))
           (apply lxk_eq;(· rfl);(· exact d_ldR_hd 1 1 (i) rfl rfl rfl ld22 rfl (by assumption)))
           dsimp only
           (apply lxk_run 1;(· rfl);(· simp))
           (apply lxk_eq;(· rfl);(· exact d_x fun _=>x_idx_own (k) (k) rfl rfl sl22 rfl (by omega) (Nat.mul_one _) dk_eq))
           (apply lxk_eq;(· rfl);(· exact d_bld_int 0 rfl rfl ld3 (by assumption)))
           (apply lxk_run 3;(· rfl);(· simp))
           (apply lxk_pt;(· rfl);(· exact d_x fun _=>x_idx 3 (j) rfl rfl rfl sl22 rfl (by omega) fun z1 hz3 b8 o3=>(dk_ptD default hz3 0 rfl));intro b8 o3)
           (apply lxk_eq;(· rfl);(· exact d_x fun _=>x_ld_int 0 rfl rfl ld3 fun ⟨r3,r4⟩=>dk_eq))
           (apply lxk_run 1;(· rfl);(· simp))
           (apply lxk_eq;(· rfl);(· exact d_x fun _=>x_call [6,7,8] rfl (c_field_GF__Mul (by omega) (by omega) (by omega) (by omega)) rfl (by rintro _ _ _ ⟨rfl,rfl,rfl⟩;exact dk_eq)))
           (apply lxk_eq;(· rfl);(· exact d_x fun _=>x_call [6] rfl (c_field_GF__Add (by omega) (by omega) (by omega) (by omega)) rfl (by rintro _ _ _ ⟨rfl,rfl,rfl⟩;exact dk_eq)))
           refine lxk_end rfl ?_
           simp only [List.map_cons,List.map_nil,List.cons_append,List.nil_append]
           refine j_step rfl (x_idx_own (k) (k) rfl rfl sl22 rfl (by omega) (Nat.mul_one _) ?_)
           refine j_step rfl (x_bst_int 0 rfl rfl rfl ld3 (by first | omega | (simp;omega)) ?_)
           refine j_nf [_,_,_,_,_,_,_,_,_,_,_,_] rfl ?_
           refine j_run it 2 rfl ⟨trivial,⟨by omega,by omega⟩,trivial⟩ ?_
           refine j_nfn 1 [.lp (pL 266967452),.blk 4,.blk 3,.c (pL 4171367),.lp (pL 521420),.blk 2,.blk 1,.c (pL 16295),.lp (pL 2036),.blk 0,.c (pL 255)] rfl ?_
           simp only [setB]
           refine j_to [2,3,4,5,6,7,8,9,10,11] (by exact fra rfl) rfl rfl (ihk')
          ·obtain rfl : k = v.length:=by omega
           rw [List.take_of_length_le (by omega),List.drop_of_length_le (by omega),List.append_nil]
           clear ihk
           refine j_nf [_,_,_,_,_,_,_,_,_,_,_,_,_] rfl ?_
           refine j_run it 1 rfl (by simp) ?_
           refine j_nf [_,_,_,_,_,_,_,_,_,_,_,_,_] rfl ?_
           refine j_if rfl rfl (fun h10=>by exfalso;omega) (fun h10=>?_)
           refine j_nf [_,_,_,_,_,_,_,_] rfl ?_
           refine j_run it 2 rfl ⟨trivial,⟨by omega,by omega⟩,trivial⟩ ?_
           refine j_nfn 1 [.lp (pL 521420),.blk 2,.blk 1,.c (pL 16295),.lp (pL 2036),.blk 0,.c (pL 255)] rfl ?_
           refine j_to [0,2,3,4,5,6,7,8,9] (by exact fra rfl) rfl rfl (ihj' hc)
         by_cases h7 : j = 0
         ·obtain ⟨rfl,rfl⟩:=hj0 h7
          clear ih ihj
          refine j_nf [_,_,_,_,_,_,_,_,_] rfl ?_
          refine j_run it 1 rfl (by simp) ?_
          refine j_nf [_,_,_,_,_,_,_,_,_] rfl ?_
          refine j_if rfl rfl (fun h10=>?_) (fun h10=>by exfalso;omega)
          refine j_nf [_,_,_,_,_,_,_,_,_,_,_] rfl ?_
          refine j_run it 1 rfl (by simp) ?_
          refine j_step rfl (x_idx 8 (j) rfl rfl rfl sl25 rfl (by omega) fun z1 hz2 b7 o2=>?_)
          obtain rfl : _ = z1:=Option.some.inj (at_v.symm.trans hz2)
          refine j_step rfl (x_ld_sl 0 rfl rfl ld22 fun pa2 ca2=>?_)
          refine j_run it 2 rfl (by simp) ?_
          refine j_nf [_,_,_,_,_,_,_,_,_,_,_,_] rfl ?_
          refine j_run it 2 rfl (by simp) ?_
          refine j_step rfl (x_idx_own (i) (i) rfl rfl sl25 rfl (by omega) (Nat.mul_one _) ?_)
          refine j_step rfl (x_ldR_hd 1 2 (i) rfl rfl rfl ld22 rfl (by assumption) ?_)
          refine j_step rfl (x_eqnilN sl22 rfl rfl ?_)
          refine j_nf [_,_,_,_,_,_,_,_,_,_,_] rfl ?_
          refine j_true rfl rfl ?_
          refine j_nf [_,_,_,_,_,_,_,_,_,_,_] rfl ?_
          refine j_run it 3 rfl (by simp) ?_
          refine j_step rfl (x_len sl22 rfl ?_)
          refine j_step rfl (x_make_nat (v.length) _ rfl rfl sl22 zo22e by22e (by omega) (by omega) (by omega) fun b8=>?_)
          refine j_step rfl (x_idx_own (i) (i) rfl rfl sl25 rfl (by omega) (Nat.mul_one _) ?_)
          refine j_step rfl (x_stR (vs:=[Value.slice (some { block:=b8,off:=0 }) v.length v.length]) (z:=(some b8,v.length,v.length)) 2 2 (i) rfl rfl rfl rfl rfl ld22 (Nat.mul_one _).symm (by omega) (fun w A hG=>(rd_hd (some _) _ _)) fun cs1=>?_)
          refine j_nf [_,_,_,_,_,_,_,_,_,_,_] rfl ?_
          refine j_run it 1 rfl (by simp) ?_
          refine j_step rfl (x_len sl22 rfl ?_)
          refine j_run it 1 rfl (by simp) ?_
          refine j_nfn 2 [.c (pL 133483726),.blk 4,.blk 3,.c (pL 4171367),.lp (pL 521420),.blk 2,.blk 1,.c (pL 16295),.lp (pL 2036),.blk 0,.c (pL 255)] rfl ?_
          simp only [setB,List.set_cons_succ,List.set_cons_zero]
          rw [hdl_set,eu,show natCells .i64 (List.replicate v.length 0) = intCells .i64 (acbP p m md v.length u bs j) by rw [h7];simp [natCells,intCells,zW,acbP]]
          refine j_selT 5 [0,2,3,4] rfl rfl ?_
          simp only [List.cons_append,List.nil_append,List.drop_succ_cons,List.drop_zero]
          refine j_to [0,1,4,5,6,7,8,9,10,11] (by exact fra rfl) rfl rfl (key b8 cs1 pa2 ca2)
         ·obtain ⟨⟨b,rfl⟩,rfl,rfl⟩:=hj1 h7
          clear ih ihj
          refine j_nf [_,_,_,_,_,_,_,_,_] rfl ?_
          refine j_run it 1 rfl (by simp) ?_
          refine j_nf [_,_,_,_,_,_,_,_,_] rfl ?_
          refine j_if rfl rfl (fun h10=>?_) (fun h10=>by exfalso;omega)
          refine j_nf [_,_,_,_,_,_,_,_,_,_,_] rfl ?_
          refine j_run it 1 rfl (by simp) ?_
          refine j_step rfl (x_idx 8 (j) rfl rfl rfl sl25 rfl (by omega) fun z1 hz2 b7 o2=>?_)
          obtain rfl : _ = z1:=Option.some.inj (at_v.symm.trans hz2)
          refine j_step rfl (x_ld_sl 0 rfl rfl ld22 fun pa2 ca2=>?_)
          refine j_run it 2 rfl (by simp) ?_
          refine j_nf [_,_,_,_,_,_,_,_,_,_,_,_] rfl ?_
          refine j_run it 2 rfl (by simp) ?_
          refine j_step rfl (x_idx_own (i) (i) rfl rfl sl25 rfl (by omega) (Nat.mul_one _) ?_)
          refine j_step rfl (x_ldR_hd 1 2 (i) rfl rfl rfl ld22 rfl (by assumption) ?_)
          refine j_step rfl (x_eqnilS sl22 rfl rfl ?_)
          refine j_nf [_,_,_,_,_,_,_,_,_,_,_] rfl ?_
          refine j_false rfl rfl ?_
          refine j_nf [_,_,_,_,_,_,_,_,_,_,_] rfl ?_
          refine j_run it 1 rfl (by simp) ?_
          refine j_step rfl (x_len sl22 rfl ?_)
          refine j_run it 1 rfl (by simp) ?_
          refine j_nfn 2 [.c (pL 133483726),.blk 4,.blk 3,.c (pL 4171367),.lp (pL 521420),.blk 2,.blk 1,.c (pL 16295),.lp (pL 2036),.blk 0,.c (pL 255)] rfl ?_
          refine j_to [2,0,3,4,5,6,7,8,9,10] (by exact fra rfl) rfl rfl (key b hc pa2 ca2)
        ·obtain rfl : j = bs.length:=by omega
         obtain ⟨⟨b,rfl⟩,rfl,rfl⟩:=hj1 (by omega)
         clear ihj
         have hr:=hwd (Nat.le_refl _)
         refine j_nf [_,_,_,_,_,_,_,_,_] rfl ?_
         refine j_run it 1 rfl (by simp) ?_
         refine j_nf [_,_,_,_,_,_,_,_,_] rfl ?_
         refine j_rowInt 0 rfl hr.1.symm (fun y hy=>by have:=hr.2 y hy;simp only [InR];omega) (by omega) ?_
         refine j_push 3 0 0 3 rfl rfl rfl rfl ?_
         simp only [List.eraseIdx_cons_zero,List.eraseIdx_cons_succ,List.take_succ_cons,List.take_zero,List.cons_append,List.nil_append]
         refine j_matCongr (row0 R) 0 rfl (fun g hg=>by
          by_cases e : g = i
          ·subst e;rw [upd_self,hra]
          ·rw [upd_ne e]) ?_
         refine j_if rfl rfl (fun h10=>by exfalso;omega) (fun h10=>?_)
         refine j_nf [_,_,_,_] rfl ?_
         refine j_run it 2 rfl ⟨trivial,⟨by omega,by omega⟩,trivial⟩ ?_
         refine j_nfn 1 [.lp (pL 2036),.blk 0,.c (pL 255)] rfl ?_
         refine j_to [3,0,6,7,8,9,10,11] (by exact fra rfl) rfl rfl (ih (i + 1,hc,upd hd i (some b,l,l),upd cs i (intCells .i64 (acbP p m md l u bs bs.length))) (by dsimp only;omega) ⟨by dsimp only;omega,fun k hk=>by
          dsimp only at hk ⊢
          rw [upd_ne (show k ≠ i by omega)]
          exact hnil k (by omega)⟩)
       ·obtain rfl : lost.length = i:=by omega
        refine j_nf [_,_,_,_,_] rfl ?_
        refine j_run it 1 rfl (by simp) ?_
        refine j_nf [_,_,_,_,_] rfl ?_
        clear ih
        refine j_hdlen 1 rfl fun hlen=>?_
        refine j_pubFamL 3 0 0 1 rfl rfl rfl rfl (fun k hk=>by
         obtain ⟨u,at_u⟩ : ∃ u,coef[k]? = some u:=⟨_,List.getElem?_eq_getElem (by omega)⟩
         rw [hlen k hk rfl,hRa k u at_u,(acb_wd K hM (hce u (List.mem_of_getElem? at_u)) (by have:=hcr u (List.mem_of_getElem? at_u);omega) (Nat.le_refl _)).1]
         show W * 8 ≤ 140737488355328
         omega) ?_
        simp only [List.take_succ_cons,List.take_zero]
        rw [show (List.range lost.length).map (row0 R) = R from by
         refine List.ext_getElem (by rw [List.length_map,List.length_range,hRl]) fun i h1 h2=>?_
         rw [List.getElem_map,List.getElem_range,row0,List.getD_eq_getElem?_getD,List.getElem?_eq_getElem h2];rfl]
        refine j_pubR 0 0 rfl rfl (by show lost.length * 24 ≤ 140737488355328;omega) ?_
        simp only [List.eraseIdx_cons_zero,List.eraseIdx_cons_succ]
        rw [← hRl]
        refine j_if rfl rfl (fun h7=>by exfalso;omega) (fun h7=>?_)
        refine j_nf [_,_] rfl ?_
        refine j_run it 3 rfl (by simp) ?_
        refine j_nf [_] rfl ?_
        refine j_giv [0] rfl rfl rfl ⟨_,_,rfl,rfl,rfl⟩
     ·rw [if_neg h5] at he
      have c_repair_elements:=fun {b ng cg ne ce nl cl n c : Nat} {pg pe pl ps : Option Addr}=>S_repair_elementsR (b:=b) (p:=p) (m:=m) (q:=p ^ m) (ng:=ng) (cg:=cg) (ne:=ne) (ce:=ce) (nl:=nl) (cl:=cl) (n:=n) (c:=c) (pg:=pg) (pe:=pe) (pl:=pl) (ps:=ps) (rows:=bs) hq (Bool.eq_false_iff.2 h5)
      subst he
      refine j_gstep rfl rfl (x_ldC 5 rfl rfl ld25 rfl ?_)
      refine j_gstep rfl rfl (x_call [0,10] rfl (c_repair_elements) rfl ?_)
      rintro _ _ _ ⟨rfl,rfl,rfl⟩
      simp only [List.cons_append,List.nil_append]
      refine j_run it 2 rfl (by simp) ?_
      refine j_nf [_,_] rfl ?_
      refine j_true rfl rfl ?_
      refine j_nf [_,_,_] rfl ?_
      refine j_run it 2 rfl (by simp) ?_
      refine j_nf [_,_] rfl ?_
      refine j_add (slF (encSl I64) none 0 0 []) (fun w A _=>slF_nil (encSl I64) w A none 0) ?_
      refine j_giv [0] rfl rfl rfl ⟨_,_,rfl,rfl,rfl⟩
    ·rw [if_neg h4] at he
     have c_repair_elements:=fun {b ng cg ne ce nl cl n c : Nat} {pg pe pl ps : Option Addr}=>S_repair_elementsR (b:=b) (p:=p) (m:=m) (q:=p ^ m) (ng:=ng) (cg:=cg) (ne:=ne) (ce:=ce) (nl:=nl) (cl:=cl) (n:=n) (c:=c) (pg:=pg) (pe:=pe) (pl:=pl) (ps:=ps) (rows:=coef) hq (Bool.eq_false_iff.2 h4)
     subst he
     refine j_nf [_,_] rfl ?_
     refine j_step rfl (x_bld_all 1 rfl rfl ld24 rfl ?_)
     refine j_step rfl (x_call [2] rfl (c_field_New) rfl ?_)
     rintro _ _ _ ⟨b4,pg1,cg1,pe1,ce1,pl1,cl1,rfl,rfl,rfl⟩
     simp only [List.cons_append,List.nil_append]
     refine j_run it 5 rfl (by simp) ?_
     refine j_nf [_,_,_] rfl ?_
     refine j_run it 2 rfl (by simp) ?_
     refine j_nf [_,_] rfl ?_
     refine j_ifn rfl rfl (fun h5=>by exfalso;omega) (fun h5=>?_)
     refine j_nf [_,_,_] rfl ?_
     refine j_step rfl (x_bld_all 0 rfl rfl ld41 rfl ?_)
     refine j_step rfl (x_call [7,8,9] rfl (c_repair_shaped) rfl ?_)
     rintro _ _ _ ⟨rfl,rfl,rfl⟩
     simp only [List.cons_append,List.nil_append]
     simp only [decide_true]
     refine j_run it 2 rfl (by simp) ?_
     refine j_gstep rfl rfl (x_ldC 5 rfl rfl ld25 rfl ?_)
     refine j_gstep rfl rfl (x_len sl25 rfl ?_)
     refine j_gstep rfl rfl (x_field rfl fd41_1 ?_)
     refine j_gstep rfl rfl (x_bld 0 rfl rfl ld22 rfl ?_)
     refine j_gstep rfl rfl (x_len sl22 rfl ?_)
     refine j_run it 3 rfl (by simp) ?_
     refine j_split_ndec (t:=36) rfl (fun h6=>by exfalso;omega) (fun h6=>?_)
     refine j_gstep rfl rfl (x_ldC 5 rfl rfl ld25 rfl ?_)
     refine j_run it 1 rfl (by simp) ?_
     refine j_gstep rfl rfl (x_call [10,4] rfl (c_slices_ContainsFunc_____int___int_) rfl ?_)
     rintro _ _ _ ⟨rfl,rfl,rfl⟩
     simp only [List.cons_append,List.nil_append]
     refine j_run it 1 rfl (by simp) ?_
     refine j_nf [_,_] rfl ?_
     refine j_false rfl rfl ?_
     refine j_nf [_,_,_] rfl ?_
     refine j_run it 1 rfl (by simp) ?_
     refine j_step rfl (x_field rfl fd41_2 ?_)
     refine j_step rfl (x_bld 0 rfl rfl ld25 rfl ?_)
     refine j_step rfl (x_call [0,9] rfl (c_repair_elements) rfl ?_)
     rintro _ _ _ ⟨rfl,rfl,rfl⟩
     simp only [List.cons_append,List.nil_append]
     refine j_run it 7 rfl (by simp) ?_
     refine j_nf [_,_] rfl ?_
     refine j_true rfl rfl ?_
     refine j_nf [_,_,_] rfl ?_
     refine j_run it 2 rfl (by simp) ?_
     refine j_nf [_,_] rfl ?_
     refine j_add (slF (encSl I64) none 0 0 []) (fun w A _=>slF_nil (encSl I64) w A none 0) ?_
     refine j_giv [0] rfl rfl rfl ⟨_,_,rfl,rfl,rfl⟩
   ·rw [if_neg h3] at he
    rw [show (bs.any fun r=>!decide ((r.length : Int) = ((bs.getD 0 []).length : Int))) = true by rw [wdB,Bool.not_eq_true',Bool.not_eq_false] at h3;exact h3] at c_slices_ContainsFunc_____int___int_
    subst he
    refine j_nf [_,_] rfl ?_
    refine j_step rfl (x_bld_all 1 rfl rfl ld24 rfl ?_)
    refine j_step rfl (x_call [2] rfl (c_field_New) rfl ?_)
    rintro _ _ _ ⟨b4,pg1,cg1,pe1,ce1,pl1,cl1,rfl,rfl,rfl⟩
    simp only [List.cons_append,List.nil_append]
    refine j_run it 5 rfl (by simp) ?_
    refine j_nf [_,_,_] rfl ?_
    refine j_run it 2 rfl (by simp) ?_
    refine j_nf [_,_] rfl ?_
    refine j_ifn rfl rfl (fun h4=>by exfalso;omega) (fun h4=>?_)
    refine j_nf [_,_,_] rfl ?_
    refine j_step rfl (x_bld_all 0 rfl rfl ld41 rfl ?_)
    refine j_step rfl (x_call [7,8,9] rfl (c_repair_shaped) rfl ?_)
    rintro _ _ _ ⟨rfl,rfl,rfl⟩
    simp only [List.cons_append,List.nil_append]
    simp only [decide_true]
    refine j_run it 2 rfl (by simp) ?_
    refine j_gstep rfl rfl (x_ldC 5 rfl rfl ld25 rfl ?_)
    refine j_gstep rfl rfl (x_len sl25 rfl ?_)
    refine j_gstep rfl rfl (x_field rfl fd41_1 ?_)
    refine j_gstep rfl rfl (x_bld 0 rfl rfl ld22 rfl ?_)
    refine j_gstep rfl rfl (x_len sl22 rfl ?_)
    refine j_run it 3 rfl (by simp) ?_
    refine j_split_ndec (t:=36) rfl (fun h5=>by exfalso;omega) (fun h5=>?_)
    refine j_gstep rfl rfl (x_ldC 5 rfl rfl ld25 rfl ?_)
    refine j_run it 1 rfl (by simp) ?_
    refine j_gstep rfl rfl (x_call [10,4] rfl (c_slices_ContainsFunc_____int___int_) rfl ?_)
    rintro _ _ _ ⟨rfl,rfl,rfl⟩
    simp only [List.cons_append,List.nil_append]
    refine j_run it 1 rfl (by simp) ?_
    refine j_nf [_,_] rfl ?_
    refine j_true rfl rfl ?_
    refine j_nf [_,_,_] rfl ?_
    refine j_run it 2 rfl (by simp) ?_
    refine j_nf [_,_] rfl ?_
    refine j_add (slF (encSl I64) none 0 0 []) (fun w A _=>slF_nil (encSl I64) w A none 0) ?_
    refine j_giv [0] rfl rfl rfl ⟨_,_,rfl,rfl,rfl⟩
  ·rw [if_neg h2] at he
   subst he
   refine j_nf [_,_] rfl ?_
   refine j_step rfl (x_bld_all 1 rfl rfl ld24 rfl ?_)
   refine j_step rfl (x_call [2] rfl (c_field_New) rfl ?_)
   rintro _ _ _ ⟨b4,pg1,cg1,pe1,ce1,pl1,cl1,rfl,rfl,rfl⟩
   simp only [List.cons_append,List.nil_append]
   refine j_run it 5 rfl (by simp) ?_
   refine j_nf [_,_,_] rfl ?_
   refine j_run it 2 rfl (by simp) ?_
   refine j_nf [_,_] rfl ?_
   refine j_ifn rfl rfl (fun h3=>by exfalso;omega) (fun h3=>?_)
   refine j_nf [_,_,_] rfl ?_
   refine j_step rfl (x_bld_all 0 rfl rfl ld41 rfl ?_)
   refine j_step rfl (x_call [7,8,9] rfl (c_repair_shaped) rfl ?_)
   rintro _ _ _ ⟨rfl,rfl,rfl⟩
   simp only [List.cons_append,List.nil_append]
   simp only [decide_true]
   refine j_run it 2 rfl (by simp) ?_
   refine j_gstep rfl rfl (x_ldC 5 rfl rfl ld25 rfl ?_)
   refine j_gstep rfl rfl (x_len sl25 rfl ?_)
   refine j_gstep rfl rfl (x_field rfl fd41_1 ?_)
   refine j_gstep rfl rfl (x_bld 0 rfl rfl ld22 rfl ?_)
   refine j_gstep rfl rfl (x_len sl22 rfl ?_)
   refine j_run it 3 rfl (by simp) ?_
   refine j_split_ndec (t:=36) rfl (fun h4=>?_) (fun h4=>by exfalso;omega)
   refine j_run it 4 rfl (by simp) ?_
   refine j_nf [_,_] rfl ?_
   refine j_true rfl rfl ?_
   refine j_nf [_,_,_] rfl ?_
   refine j_run it 2 rfl (by simp) ?_
   refine j_nf [_,_] rfl ?_
   refine j_add (slF (encSl I64) none 0 0 []) (fun w A _=>slF_nil (encSl I64) w A none 0) ?_
   refine j_giv [0] rfl rfl rfl ⟨_,_,rfl,rfl,rfl⟩
 ·rw [if_neg h1] at he
  rw [Bool.eq_false_iff.2 h1] at c_repair_shaped
  subst he
  refine j_nf [_,_] rfl ?_
  refine j_step rfl (x_bld_all 1 rfl rfl ld24 rfl ?_)
  refine j_step rfl (x_call [2] rfl (c_field_New) rfl ?_)
  rintro _ _ _ ⟨b4,pg1,cg1,pe1,ce1,pl1,cl1,rfl,rfl,rfl⟩
  simp only [List.cons_append,List.nil_append]
  refine j_run it 5 rfl (by simp) ?_
  refine j_nf [_,_,_] rfl ?_
  refine j_run it 2 rfl (by simp) ?_
  refine j_nf [_,_] rfl ?_
  refine j_ifn rfl rfl (fun h2=>by exfalso;omega) (fun h2=>?_)
  refine j_nf [_,_,_] rfl ?_
  refine j_step rfl (x_bld_all 0 rfl rfl ld41 rfl ?_)
  refine j_step rfl (x_call [7,8,9] rfl (c_repair_shaped) rfl ?_)
  rintro _ _ _ ⟨rfl,rfl,rfl⟩
  simp only [List.cons_append,List.nil_append]
  simp only [decide_true]
  refine j_run it 14 rfl (by simp) ?_
  refine j_nf [_,_] rfl ?_
  refine j_true rfl rfl ?_
  refine j_nf [_,_,_] rfl ?_
  refine j_run it 2 rfl (by simp) ?_
  refine j_nf [_,_] rfl ?_
  refine j_add (slF (encSl I64) none 0 0 []) (fun w A _=>slF_nil (encSl I64) w A none 0) ?_
  refine j_giv [0] rfl rfl rfl ⟨_,_,rfl,rfl,rfl⟩
theorem S_codewrightref11_CompareS {pl pk : Option Addr} {nl cl nk ck : Nat} {l : List Int} {z : Int} (hz : z = 0) :
  Ctr Try.prog 37 [.slice pl nl cl,.slice pk nk ck] [] [slF I64 pl nl cl l,slF I64 pk nk ck l] (Rv (.int .i64 z) []) :=
 (S_codewrightref11_Compare (l:=l) (k:=l)).mono fun C w v Φ β' ⟨e,h1,h2,h3,h4⟩ hO hG=>⟨Φ,β',⟨by rw [h1,h4.2 rfl,hz],h2,h3⟩,hO,hG⟩
theorem S_codewrightref11_SameLists {pl pk : Option Addr} {nl cl nk ck : Nat} {l : List (List Int)} : Ctr Try.prog 14 [.slice pl nl cl,.slice pk nk ck] [] [slF (encSl I64) pl nl cl l,slF (encSl I64) pk nk ck l] (Rv (.bool true) []):=by
 refine Ctr_of_j' (F:=F_codewrightref11_SameLists) rfl fun C=>?_
 obtain ⟨z,hz⟩ : ∃ z : Int,z = 0:=⟨0,rfl⟩
 have c_codewrightref11_Compare:=fun {pl pk : Option Addr} {nl cl nk ck : Nat} {l : List Int}=>S_codewrightref11_CompareS (pl:=pl) (pk:=pk) (nl:=nl) (cl:=cl) (nk:=nk) (ck:=ck) (l:=l) hz
 refine j_len 0 rfl fun hn hb _=>?_
 refine j_len 1 rfl fun hn2 hb2 _=>?_
 subst hn
 subst hn2
 have hb' : l.length * 24 ≤ 140737488355328:=hb
 refine j_nf [_,_] rfl ?_
 refine j_run it 1 rfl (by simp) ?_
 refine j_nf [_,_,_] rfl ?_
 refine j_run it 1 rfl (by simp) ?_
 refine j_step rfl (x_len sl25 rfl ?_)
 refine j_run it 1 rfl (by simp) ?_
 refine j_step rfl (x_len sl25 rfl ?_)
 refine j_run it 1 rfl (by simp) ?_
 refine j_nf [_,_] rfl ?_
 refine j_ifn rfl rfl (fun h1=>by exfalso;omega) (fun h1=>?_)
 refine j_nf [_,_,_] rfl ?_
 refine j_run it 1 rfl (by simp) ?_
 refine j_nf [_,_,_] rfl ?_
 refine j_loopG (X:=Nat) [0,1] [0,1] (fun i=>[(5,.int .i64 (i : Int))]) (fun _=>[]) (fun _=>[]) (fun i=>i ≤ l.length) (fun i=>l.length - i) 0 [] rfl rfl rfl (Nat.zero_le _) (by repeat (first | exact Fr.sub_nil _ | refine Fr.sub_cons rfl ?_)) rfl rfl ?_
 rintro i hi ih
 simp only [List.cons_append,List.nil_append] at hi ih ⊢
 by_cases h9 : i < l.length
 ·refine j_nf [_,_,_,_,_,_] rfl ?_
  refine j_run it 2 rfl (by simp) ?_
  refine j_step rfl (x_len sl25 rfl ?_)
  refine j_run it 1 rfl (by simp) ?_
  refine j_nf [_,_,_,_,_] rfl ?_
  refine j_if rfl rfl (fun h2=>?_) (fun h2=>by exfalso;omega)
  refine j_nf [_,_,_,_,_,_,_] rfl ?_
  (apply j_drawK it mx 10;(· rfl);(· rfl))
  (apply lxk_run 2;(· rfl);(· simp))
  (apply lxk_pt;(· rfl);(· exact d_x fun _=>x_idx 0 (i) rfl rfl rfl sl25 rfl (by omega) fun z1 hz1 b1 o1=>(dk_ptD default hz1 0 rfl));intro b1 o1)
  (apply lxk_sl;(· rfl);(· exact d_x fun _=>x_ld_sl 0 rfl rfl ld22 fun pa1 ca1=>(dk_sl 0 rfl));intro pa1 ca1)
  (apply lxk_run 2;(· rfl);(· simp))
  (apply lxk_pt;(· rfl);(· exact d_x fun _=>x_idx 1 (i) rfl rfl rfl sl25 rfl (by omega) fun z1 hz1 b2 o2=>(dk_ptD default hz1 0 rfl));intro b2 o2)
  (apply lxk_sl;(· rfl);(· exact d_x fun _=>x_ld_sl 0 rfl rfl ld22 fun pa2 ca2=>(dk_sl 0 rfl));intro pa2 ca2)
  (apply lxk_eq;(· rfl);(· exact d_x fun _=>x_call [2,0] rfl (c_codewrightref11_Compare) rfl (by rintro _ _ _ ⟨rfl,rfl,rfl⟩;exact dk_eq)))
  (apply lxk_run 1;(· rfl);(· simp))
  refine lxk_end rfl ?_
  simp only [List.map_cons,List.map_nil,List.cons_append,List.nil_append]
  refine j_nf [_,_,_,_,_,_] rfl ?_
  refine j_ifn rfl rfl (fun h3=>by exfalso;omega) (fun h3=>?_)
  refine j_nf [_,_,_,_] rfl ?_
  refine j_run it 3 rfl ⟨trivial,⟨by omega,by omega⟩,trivial,trivial⟩ ?_
  refine j_nfn 1 [.lp (pL 116),.blk 0,.c [1,1,1]] rfl ?_
  refine j_to [4,5] (by exact fra rfl) rfl rfl (ih (i + 1) (by omega) (by omega))
 ·clear ih
  refine j_nf [_,_,_,_,_,_] rfl ?_
  refine j_run it 2 rfl (by simp) ?_
  refine j_step rfl (x_len sl25 rfl ?_)
  refine j_run it 1 rfl (by simp) ?_
  refine j_nf [_,_,_,_,_] rfl ?_
  refine j_if rfl rfl (fun h2=>by exfalso;omega) (fun h2=>?_)
  refine j_nf [_,_] rfl ?_
  refine j_run it 1 rfl (by simp) ?_
  refine j_nf [_] rfl ?_
  refine j_giv [] rfl rfl rfl ⟨rfl,rfl,rfl⟩
theorem S_RepairApplies {P M : Int} {nm cm nh ch nl cl nc cc np cp nb cb : Nat} {f : Bool} {pm pl ph pc pp pb : Option Addr} {md lost hs : List Int} {coef bs : List (List Int)} :
  Ctr Try.prog 5 [.agg #[.int .i64 P,.int .i64 M,.slice pm nm cm],.agg #[.slice pl nl cl,.slice ph nh ch,.slice pc nc cc,.bool f,.slice pp np cp],.slice pb nb cb] [] [slF I64 pm nm cm md,slF I64 pl nl cl lost,slF I64 ph nh ch hs,slF (encSl I64) pc nc cc coef,slF (encSl I64) pb nb cb bs] (Rv (.bool true) []):=by
 refine Ctr_of_j' (F:=F_codewrightlaw53_RepairApplies) rfl fun C=>?_
 have c_codewrightlaw53_alive:=S_codewrightlaw53_alive
 have c_codewrightref11_SameLists:=fun {pl pk : Option Addr} {nl cl nk ck : Nat} {l : List (List Int)}=>S_codewrightref11_SameLists (pl:=pl) (pk:=pk) (nl:=nl) (cl:=cl) (nk:=nk) (ck:=ck) (l:=l)
 refine j_len 1 rfl fun hn hbl _=>?_
 subst hn
 refine j_len 4 rfl fun hn hbb _=>?_
 subst hn
 have hbl' : lost.length * 8 ≤ 140737488355328:=hbl
 have hbb' : bs.length * 24 ≤ 140737488355328:=hbb
 by_cases h1 : 100 < bs.length
 ·refine j_nf [_,_] rfl (j_step rfl (x_box_agg rfl fun b1=>?_))
  refine j_step rfl (x_box_agg rfl fun b2=>?_)
  refine j_run it 1 rfl (by simp) ?_
  refine j_nf [_,_,_] rfl (j_run it 1 rfl (by simp) ?_)
  refine j_step rfl (x_len sl25 rfl ?_)
  refine j_run it 2 rfl (by simp) ?_
  refine j_split_dec (t:=14) rfl (fun h2=>?_) (fun h2=>by exfalso;omega)
  refine j_run it 10 rfl (by simp) ?_
  refine j_gskipU rfl rfl ?_
  refine j_gskipU rfl rfl ?_
  refine j_gskipU rfl rfl ?_
  refine j_gskipU rfl rfl ?_
  refine j_gskipU rfl rfl ?_
  refine j_run it 2 rfl (by simp) ?_
  refine j_nf [_,_] rfl ?_
  refine j_true rfl rfl ?_
  refine j_nf [_,_,_] rfl (j_step rfl (x_call [] rfl (c_codewrightlaw53_alive) rfl ?_))
  rintro _ _ _ ⟨rfl,rfl,rfl⟩
  simp only [List.cons_append,List.nil_append]
  refine j_run it 1 rfl (by simp) ?_
  refine j_nf [_,_] rfl ?_
  refine j_giv [] rfl rfl rfl ⟨rfl,rfl,rfl⟩
 ·by_cases h2 : 100 < lost.length
  ·refine j_nf [_,_] rfl (j_step rfl (x_box_agg rfl fun b1=>?_))
   refine j_step rfl (x_box_agg rfl fun b2=>?_)
   refine j_run it 1 rfl (by simp) ?_
   refine j_nf [_,_,_] rfl (j_run it 1 rfl (by simp) ?_)
   refine j_step rfl (x_len sl25 rfl ?_)
   refine j_run it 2 rfl (by simp) ?_
   refine j_split_dec (t:=14) rfl (fun h3=>by exfalso;omega) (fun h3=>?_)
   refine j_gstep rfl rfl (x_field rfl fd41_0 ?_)
   refine j_gstep rfl rfl (x_bld 0 rfl rfl ld22 rfl ?_)
   refine j_gstep rfl rfl (x_len sl22 rfl ?_)
   refine j_run it 3 rfl (by simp) ?_
   refine j_split_dec (t:=20) rfl (fun h4=>?_) (fun h4=>by exfalso;omega)
   refine j_run it 4 rfl (by simp) ?_
   refine j_gskipU rfl rfl ?_
   refine j_gskipU rfl rfl ?_
   refine j_gskipU rfl rfl ?_
   refine j_gskipU rfl rfl ?_
   refine j_gskipU rfl rfl ?_
   refine j_run it 2 rfl (by simp) ?_
   refine j_nf [_,_] rfl ?_
   refine j_true rfl rfl ?_
   refine j_nf [_,_,_] rfl (j_step rfl (x_call [] rfl (c_codewrightlaw53_alive) rfl ?_))
   rintro _ _ _ ⟨rfl,rfl,rfl⟩
   simp only [List.cons_append,List.nil_append]
   refine j_run it 1 rfl (by simp) ?_
   refine j_nf [_,_] rfl ?_
   refine j_giv [] rfl rfl rfl ⟨rfl,rfl,rfl⟩
  ·have rest : (bs.getD 0 []).length ≤ 300 → ∃ (e : Int) (R : List (List Int)),(∀ {pm pl ph pc pp pb : Option Addr} {nm cm nh ch nl cl nc cc np cp nb cb : Nat} {f : Bool},Ctr Try.prog 12 [.agg #[.int .i64 P,.int .i64 M,.slice pm nm cm],.agg #[.slice pl nl cl,.slice ph nh ch,.slice pc nc cc,.bool f,.slice pp np cp],.slice pb nb cb] [] [slF I64 pm nm cm md,slF I64 pl nl cl lost,slF I64 ph nh ch hs,slF (encSl I64) pc nc cc coef,slF (encSl I64) pb nb cb bs] (ApQ e R))
     ∧ ∀ {pm pl ph pc pp pb : Option Addr} {nm cm nh ch nl cl nc cc np cp nb cb : Nat} {f : Bool},Ctr Try.prog 13 [.agg #[.int .i64 P,.int .i64 M,.slice pm nm cm],.agg #[.slice pl nl cl,.slice ph nh ch,.slice pc nc cc,.bool f,.slice pp np cp],.slice pb nb cb] [] [slF I64 pm nm cm md,slF I64 pl nl cl lost,slF I64 ph nh ch hs,slF (encSl I64) pc nc cc coef,slF (encSl I64) pb nb cb bs] (ApQ e R):=fun hW=>by
    by_cases hc : chkF P M md
    ·obtain ⟨p,m,rfl,rfl,K⟩:=chk_ok hc
     exact ⟨_,_,S_repair_Apply K (by omega) (by omega) rfl,S_codewrightref53_Apply K (by omega) (by omega) rfl⟩
    ·exact ⟨1,[],S_repair_Apply_err hc,S_codewrightref53_Apply_err hc⟩
   by_cases h3 : 0 < bs.length
   ·obtain ⟨r,at_r⟩ : ∃ r,bs[0]? = some r:=⟨_,List.getElem?_eq_getElem h3⟩
    have er : bs.getD 0 [] = r:=by rw [List.getD_eq_getElem?_getD,at_r];rfl
    rw [er] at rest
    by_cases h4 : 300 < r.length
    ·refine j_nf [_,_] rfl (j_step rfl (x_box_agg rfl fun b1=>?_))
     refine j_step rfl (x_box_agg rfl fun b2=>?_)
     refine j_run it 1 rfl (by simp) ?_
     refine j_nf [_,_,_] rfl (j_run it 1 rfl (by simp) ?_)
     refine j_step rfl (x_len sl25 rfl ?_)
     refine j_run it 2 rfl (by simp) ?_
     refine j_split_dec (t:=14) rfl (fun h5=>by exfalso;omega) (fun h5=>?_)
     refine j_gstep rfl rfl (x_field rfl fd41_0 ?_)
     refine j_gstep rfl rfl (x_bld 0 rfl rfl ld22 rfl ?_)
     refine j_gstep rfl rfl (x_len sl22 rfl ?_)
     refine j_run it 3 rfl (by simp) ?_
     refine j_split_dec (t:=20) rfl (fun h6=>by exfalso;omega) (fun h6=>?_)
     refine j_run it 1 rfl (by simp) ?_
     refine j_gstep rfl rfl (x_len sl25 rfl ?_)
     refine j_run it 2 rfl (by simp) ?_
     refine j_split_dec (t:=24) rfl (fun h7=>?_) (fun h7=>by exfalso;omega)
     refine j_run it 1 rfl (by simp) ?_
     refine j_gstep rfl rfl (x_idx 4 0 rfl rfl rfl sl25 (by omega) (by omega) fun z1 hz1 b3 o1=>?_)
     obtain rfl : _ = z1:=Option.some.inj (at_r.symm.trans hz1)
     refine j_gstep rfl rfl (x_ld_sl 0 rfl rfl ld22 fun pa1 ca1=>?_)
     refine j_gstep rfl rfl (x_len sl22 rfl ?_)
     refine j_run it 3 rfl (by simp) ?_
     refine j_nf [_,_] rfl (j_if rfl rfl (fun h8=>?_) (fun h8=>by exfalso;omega))
     refine j_nf [_,_,_] rfl (j_step rfl (x_call [] rfl (c_codewrightlaw53_alive) rfl ?_))
     rintro _ _ _ ⟨rfl,rfl,rfl⟩
     simp only [List.cons_append,List.nil_append]
     refine j_run it 1 rfl (by simp) ?_
     refine j_nf [_,_] rfl ?_
     refine j_giv [] rfl rfl rfl ⟨rfl,rfl,rfl⟩
    ·obtain ⟨e,R,c_repair_Apply,c_codewrightref53_Apply⟩:=rest (by omega)
     have hd:=decide_eq_true (show e = e from rfl)
     refine j_nf [_,_] rfl (j_step rfl (x_box_agg rfl fun b1=>?_))
     refine j_step rfl (x_box_agg rfl fun b2=>?_)
     refine j_run it 1 rfl (by simp) ?_
     refine j_nf [_,_,_] rfl (j_run it 1 rfl (by simp) ?_)
     refine j_step rfl (x_len sl25 rfl ?_)
     refine j_run it 2 rfl (by simp) ?_
     refine j_split_dec (t:=14) rfl (fun h5=>by exfalso;omega) (fun h5=>?_)
     refine j_gstep rfl rfl (x_field rfl fd41_0 ?_)
     refine j_gstep rfl rfl (x_bld 0 rfl rfl ld22 rfl ?_)
     refine j_gstep rfl rfl (x_len sl22 rfl ?_)
     refine j_run it 3 rfl (by simp) ?_
     refine j_split_dec (t:=20) rfl (fun h6=>by exfalso;omega) (fun h6=>?_)
     refine j_run it 1 rfl (by simp) ?_
     refine j_gstep rfl rfl (x_len sl25 rfl ?_)
     refine j_run it 2 rfl (by simp) ?_
     refine j_split_dec (t:=24) rfl (fun h7=>?_) (fun h7=>by exfalso;omega)
     refine j_run it 1 rfl (by simp) ?_
     refine j_gstep rfl rfl (x_idx 4 0 rfl rfl rfl sl25 (by omega) (by omega) fun z1 hz1 b3 o1=>?_)
     obtain rfl : _ = z1:=Option.some.inj (at_r.symm.trans hz1)
     refine j_gstep rfl rfl (x_ld_sl 0 rfl rfl ld22 fun pa1 ca1=>?_)
     refine j_gstep rfl rfl (x_len sl22 rfl ?_)
     refine j_run it 3 rfl (by simp) ?_
     refine j_nf [_,_] rfl (j_if rfl rfl (fun h8=>by exfalso;omega) (fun h8=>?_))
     refine j_nf [_,_] rfl (j_step rfl (x_bld_all 1 rfl rfl ld24 rfl ?_))
     refine j_step rfl (x_bld_all 0 rfl rfl ld41 rfl ?_)
     refine j_run it 1 rfl (by simp) ?_
     refine j_step rfl (x_call [2,3,4,5,6] rfl (c_repair_Apply) rfl ?_)
     rintro _ _ _ ⟨pb1,cb1,rfl,rfl,rfl⟩
     simp only [List.cons_append,List.nil_append]
     refine j_run it 5 rfl (by simp) ?_
     refine j_nf [_,_] rfl (j_step rfl (x_bld_all 1 rfl rfl ld24 rfl ?_))
     refine j_step rfl (x_bld_all 0 rfl rfl ld41 rfl ?_)
     refine j_run it 1 rfl (by simp) ?_
     refine j_step rfl (x_call [3,4,5,6,7] rfl (c_codewrightref53_Apply) rfl ?_)
     rintro _ _ _ ⟨pb2,cb2,rfl,rfl,rfl⟩
     simp only [List.cons_append,List.nil_append]
     refine j_run it 5 rfl (by simp) ?_
     refine j_nf [_,_] rfl (j_run it 4 rfl (by simp) ?_)
     refine j_split_dec (t:=50) rfl (fun h9=>?_) (fun h9=>by exfalso;omega)
     refine j_run it 2 rfl (by simp) ?_
     refine j_gstep rfl rfl (x_call [1,0] rfl (c_codewrightref11_SameLists) rfl ?_)
     rintro _ _ _ ⟨rfl,rfl,rfl⟩
     simp only [List.cons_append,List.nil_append]
     simp only [decide_true]
     refine j_run it 2 rfl (by simp) ?_
     refine j_gstep rfl rfl (x_call [] rfl (c_codewrightlaw53_alive) rfl ?_)
     rintro _ _ _ ⟨rfl,rfl,rfl⟩
     simp only [List.cons_append,List.nil_append]
     refine j_run it 2 rfl (by simp) ?_
     refine j_nf [_] rfl ?_
     refine j_giv [] rfl rfl rfl ⟨rfl,rfl,rfl⟩
   ·have e0 : bs = []:=List.eq_nil_of_length_eq_zero (by omega)
    obtain ⟨e,R,c_repair_Apply,c_codewrightref53_Apply⟩:=rest (by rw [e0];decide)
    have hd:=decide_eq_true (show e = e from rfl)
    refine j_nf [_,_] rfl (j_step rfl (x_box_agg rfl fun b1=>?_))
    refine j_step rfl (x_box_agg rfl fun b2=>?_)
    refine j_run it 1 rfl (by simp) ?_
    refine j_nf [_,_,_] rfl (j_run it 1 rfl (by simp) ?_)
    refine j_step rfl (x_len sl25 rfl ?_)
    refine j_run it 2 rfl (by simp) ?_
    refine j_split_dec (t:=14) rfl (fun h4=>by exfalso;omega) (fun h4=>?_)
    refine j_gstep rfl rfl (x_field rfl fd41_0 ?_)
    refine j_gstep rfl rfl (x_bld 0 rfl rfl ld22 rfl ?_)
    refine j_gstep rfl rfl (x_len sl22 rfl ?_)
    refine j_run it 3 rfl (by simp) ?_
    refine j_split_dec (t:=20) rfl (fun h5=>by exfalso;omega) (fun h5=>?_)
    refine j_run it 1 rfl (by simp) ?_
    refine j_gstep rfl rfl (x_len sl25 rfl ?_)
    refine j_run it 2 rfl (by simp) ?_
    refine j_split_dec (t:=24) rfl (fun h6=>by exfalso;omega) (fun h6=>?_)
    refine j_run it 7 rfl (by simp) ?_
    refine j_nf [_,_] rfl ?_
    refine j_false rfl rfl ?_
    refine j_nf [_,_] rfl (j_step rfl (x_bld_all 1 rfl rfl ld24 rfl ?_))
    refine j_step rfl (x_bld_all 0 rfl rfl ld41 rfl ?_)
    refine j_run it 1 rfl (by simp) ?_
    refine j_step rfl (x_call [0,1,2,3,4] rfl (c_repair_Apply) rfl ?_)
    rintro _ _ _ ⟨pb1,cb1,rfl,rfl,rfl⟩
    simp only [List.cons_append,List.nil_append]
    refine j_run it 5 rfl (by simp) ?_
    refine j_nf [_,_] rfl (j_step rfl (x_bld_all 1 rfl rfl ld24 rfl ?_))
    refine j_step rfl (x_bld_all 0 rfl rfl ld41 rfl ?_)
    refine j_run it 1 rfl (by simp) ?_
    refine j_step rfl (x_call [1,2,3,4,5] rfl (c_codewrightref53_Apply) rfl ?_)
    rintro _ _ _ ⟨pb2,cb2,rfl,rfl,rfl⟩
    simp only [List.cons_append,List.nil_append]
    refine j_run it 5 rfl (by simp) ?_
    refine j_nf [_,_] rfl (j_run it 4 rfl (by simp) ?_)
    refine j_split_dec (t:=50) rfl (fun h7=>?_) (fun h7=>by exfalso;omega)
    refine j_run it 2 rfl (by simp) ?_
    refine j_gstep rfl rfl (x_call [1,0] rfl (c_codewrightref11_SameLists) rfl ?_)
    rintro _ _ _ ⟨rfl,rfl,rfl⟩
    simp only [List.cons_append,List.nil_append]
    simp only [decide_true]
    refine j_run it 2 rfl (by simp) ?_
    refine j_gstep rfl rfl (x_call [] rfl (c_codewrightlaw53_alive) rfl ?_)
    rintro _ _ _ ⟨rfl,rfl,rfl⟩
    simp only [List.cons_append,List.nil_append]
    refine j_run it 2 rfl (by simp) ?_
    refine j_nf [_] rfl ?_
    refine j_giv [] rfl rfl rfl ⟨rfl,rfl,rfl⟩
end Go.Proofs.Ytlecjbjgbcdilaa
