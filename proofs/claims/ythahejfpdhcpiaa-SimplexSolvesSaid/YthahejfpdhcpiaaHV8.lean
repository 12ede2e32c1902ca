/-
The walk of SimplexSolves.
-/
import Derived.Test.YthahejfpdhcpiaaHV7
set_option linter.unusedVariables false
set_option linter.unusedSimpArgs false

namespace Go.Proofs.Ythahejfpdhcpiaa
open Go Go.Fw
set_option maxRecDepth 100000
set_option linter.unusedVariables false
set_option linter.unusedSimpArgs false
set_option maxHeartbeats 8000000
theorem sol_canon {n m : Nat} {A : Nat → Nat → Rat} {Bv Cv : Nat → Rat} {k : Int} {X Y R : List Rt} (s : SolR n m A Bv Cv k X Y R) : ∀ r ∈ X++(Y++R),r = rt (vq r):=by
  have key : ∀ {n : Nat} {f : Nat → Rat},∀ r ∈ rl n f,r = rt (vq r):=fun r hr=>by
    obtain ⟨k,_,rfl⟩:=List.mem_map.1 hr
    show rt _ = rt (vq (rt _))
    rw [vq_rt]
  intro r hr
  cases s <;> simp only [List.nil_append,List.append_nil,List.mem_append] at hr
  · exact key r hr
  · rcases hr with h | h
    · exact key r h
    · exact key r h
  · rcases hr with h | h
    · exact key r h
    · exact key r h
theorem S_SimplexSolves {p1 p2 p3 : Option Addr} {c1 c2 c3 : Nat} {C B : List Rt} {M : List (List Rt)} :
    Ctr Try.prog 4 [.agg #[.slice p1 C.length c1,.slice p2 M.length c2,.slice p3 B.length c3]] []
      [slF RatE p1 C.length c1 C,slF (encSl RatE) p2 M.length c2 M,slF RatE p3 B.length c3 B] (Rv (.bool true) []):=by
  refine Ctr_of_j' (F:=F_codewrightlaw35_SimplexSolves) rfl fun Cx=>?_
  refine rts_range 0 rfl fun rC=>?_
  refine rtss_rng 1 rfl fun rM=>?_
  refine rts_range 2 rfl fun rB=>?_
  have c_codewrightref35_Small:=@S_Small_res
  cases hf : smallB 6 C M B with
  | false =>
    refine j_nf [.o [0] 0,.c [1]] rfl ?_
    refine j_step rfl (x_box_agg rfl fun b1=>?_)
    refine j_run it 1 rfl (by simp) ?_
    refine j_nf [.o [1,0,0] 0,.c [1,0,1],.c [1,1]] rfl ?_
    refine j_step rfl (x_bld_all 0 rfl rfl ld26 rfl ?_)
    refine j_step rfl (x_call [0,1,2] rfl (c_codewrightref35_Small (by first|omega|exact side _ (by assumption)|assumption|rfl|(simp;done)|(simp;omega)) (by first|omega|exact side _ (by assumption)|assumption|rfl|(simp;done)|(simp;omega)) (by first|omega|exact side _ (by assumption)|assumption|rfl|(simp;done)|(simp;omega)) (by first|omega|exact side _ (by assumption)|assumption|rfl|(simp;done)|(simp;omega)) (by first|omega|exact side _ (by assumption)|assumption|rfl|(simp;done)|(simp;omega))) rfl ?_)
    rintro _ _ _ ⟨rfl,rfl,rfl⟩
    simp only [List.cons_append,List.nil_append]
    refine j_run it 1 rfl (by simp) ?_
    refine j_nf [.c [1,0,1],.c [1,1]] rfl ?_
    refine j_true rfl rfl ?_
    refine j_nf [.o [1,0,1,0,0] 0,.c [1,0,1,0,1],.c [1,1]] rfl ?_
    refine j_run it 1 rfl (by simp) ?_
    refine j_nf [.c [1,0,1,0,1],.c [1,1]] rfl ?_
    refine j_giv [] rfl rfl rfl ⟨rfl,rfl,rfl⟩
  | true =>
    obtain ⟨lC,lB,lM,oC,oB,oM⟩:=small_ok2 hf rC rB rM
    have c_codewrightref35_Check:=@S_codewrightref35_Check p1 p2 p3 c1 c2 c3 C M B
    by_cases hc : checkOf (C,M,B) = 0
    case neg =>
      have c_simplex_Solve:=S_simplex_Solve_err (p1:=p1) (p2:=p2) (p3:=p3) (c1:=c1) (c2:=c2) (c3:=c3) hc
      refine j_nf [.o [0] 0,.c [1]] rfl ?_
      refine j_step rfl (x_box_agg rfl fun b1=>?_)
      refine j_run it 1 rfl (by simp) ?_
      refine j_nf [.o [1,0,0] 0,.c [1,0,1],.c [1,1]] rfl ?_
      refine j_step rfl (x_bld_all 0 rfl rfl ld26 rfl ?_)
      refine j_step rfl (x_call [0,1,2] rfl (c_codewrightref35_Small (by first|omega|exact side _ (by assumption)|assumption|rfl|(simp;done)|(simp;omega)) (by first|omega|exact side _ (by assumption)|assumption|rfl|(simp;done)|(simp;omega)) (by first|omega|exact side _ (by assumption)|assumption|rfl|(simp;done)|(simp;omega)) (by first|omega|exact side _ (by assumption)|assumption|rfl|(simp;done)|(simp;omega)) (by first|omega|exact side _ (by assumption)|assumption|rfl|(simp;done)|(simp;omega))) rfl ?_)
      rintro _ _ _ ⟨rfl,rfl,rfl⟩
      simp only [List.cons_append,List.nil_append]
      refine j_run it 1 rfl (by simp) ?_
      refine j_nf [.c [1,0,1],.c [1,1]] rfl ?_
      refine j_false rfl rfl ?_
      refine j_nf [.o [1,1,0] 0,.c [1,1,1]] rfl ?_
      refine j_step rfl (x_bld_all 0 rfl rfl ld26 rfl ?_)
      refine j_step rfl (x_call [0,1,2] rfl (c_simplex_Solve) rfl ?_)
      rintro _ _ _ ⟨rfl,rfl,rfl⟩
      simp only [List.cons_append,List.nil_append]
      refine j_run it 3 rfl (by simp) ?_
      refine j_step rfl (x_alloc zo34 fun b2=>?_)
      refine j_step rfl (x_bst_all 0 rfl rfl rfl ld34 rfl rfl (by simp [Value.oneCell']) ?_)
      refine j_run it 1 rfl (by simp) ?_
      refine j_nf [.o [1,1,1,0,0] 0,.c [1,1,1,0,1],.c [1,1,1,1]] rfl ?_
      refine j_step rfl (x_bld_all 1 rfl rfl ld26 rfl ?_)
      refine j_step rfl (x_call [0,1,2] rfl (c_codewrightref35_Check) rfl ?_)
      rintro _ _ _ ⟨rfl,rfl,rfl⟩
      simp only [List.cons_append,List.nil_append]
      refine j_run it 1 rfl (by simp) ?_
      refine j_nf [.c [1,1,1,0,1],.c [1,1,1,1]] rfl ?_
      refine j_ifn rfl rfl (fun h1=>?_) (fun h1=>by exfalso;omega)
      refine j_nf [.o (pL 244) 0,.c (pL 245),.c [1,1,1,1]] rfl ?_
      refine j_run it 1 rfl (by simp) ?_
      refine j_step rfl (x_bld_all 1 rfl rfl ld26 rfl ?_)
      refine j_step rfl (x_call [0,1,2] rfl (c_codewrightref35_Check) rfl ?_)
      rintro _ _ _ ⟨rfl,rfl,rfl⟩
      simp only [List.cons_append,List.nil_append]
      refine j_run it 2 rfl (by simp) ?_
      refine j_split_dec (t:=22) rfl (fun h2=>?_) (fun h2=>by exfalso;omega)
      refine j_gstep rfl rfl (x_field rfl fd34_0 ?_)
      refine j_gstep rfl rfl (x_bld 0 rfl rfl ld3 rfl ?_)
      refine j_run it 3 rfl (by simp) ?_
      refine j_split_dec (t:=27) rfl (fun h3=>?_) (fun h3=>by exfalso;omega)
      refine j_gstep rfl rfl (x_field rfl fd34_1 ?_)
      refine j_gstep rfl rfl (x_bld 0 rfl rfl ld23 rfl ?_)
      refine j_gstep rfl rfl (x_len sl23 rfl ?_)
      refine j_gstep rfl rfl (x_field rfl fd34_2 ?_)
      refine j_gstep rfl rfl (x_bld 0 rfl rfl ld23 rfl ?_)
      refine j_gstep rfl rfl (x_len sl23 rfl ?_)
      refine j_run it 1 rfl (by repeat' first | exact trivial | apply And.intro | omega) ?_
      refine j_gstep rfl rfl (x_field rfl fd34_3 ?_)
      refine j_gstep rfl rfl (x_bld 0 rfl rfl ld23 rfl ?_)
      refine j_gstep rfl rfl (x_len sl23 rfl ?_)
      refine j_run it 4 rfl (by repeat' first | exact trivial | apply And.intro | omega) ?_
      refine j_nf [.c (pL 245),.c [1,1,1,1]] rfl ?_
      refine j_giv [] rfl rfl rfl ⟨rfl,rfl,rfl⟩
    obtain ⟨eM,eR⟩:=check_rows hc
    have hsz : szP' 2 M.length ≤ 1000000:=Nat.le_trans (szP'_mono lM) (by decide)
    have hsz2 : szP' 2 M.length ≤ 100000:=Nat.le_trans (szP'_mono lM) (by decide)
    have c_simplex_Solve:=S_simplex_Solve (p1:=p1) (pM:=p2) (p3:=p3) (c1:=c1) (c2:=c2) (c3:=c3) (K:=2) (C:=C) (B:=B) (M:=M) hc (by omega) (by omega) eM.symm (by decide) (by decide) hsz oC oB (fun row hr=>⟨eR row hr,oM row hr⟩)
    refine j_nf [.o [0] 0,.c [1]] rfl ?_
    refine j_step rfl (x_box_agg rfl fun b1=>?_)
    refine j_run it 1 rfl (by simp) ?_
    refine j_nf [.o [1,0,0] 0,.c [1,0,1],.c [1,1]] rfl ?_
    refine j_step rfl (x_bld_all 0 rfl rfl ld26 rfl ?_)
    refine j_step rfl (x_call [0,1,2] rfl (c_codewrightref35_Small (by first|omega|exact side _ (by assumption)|assumption|rfl|(simp;done)|(simp;omega)) (by first|omega|exact side _ (by assumption)|assumption|rfl|(simp;done)|(simp;omega)) (by first|omega|exact side _ (by assumption)|assumption|rfl|(simp;done)|(simp;omega)) (by first|omega|exact side _ (by assumption)|assumption|rfl|(simp;done)|(simp;omega)) (by first|omega|exact side _ (by assumption)|assumption|rfl|(simp;done)|(simp;omega))) rfl ?_)
    rintro _ _ _ ⟨rfl,rfl,rfl⟩
    simp only [List.cons_append,List.nil_append]
    refine j_run it 1 rfl (by simp) ?_
    refine j_nf [.c [1,0,1],.c [1,1]] rfl ?_
    refine j_false rfl rfl ?_
    refine j_nf [.o [1,1,0] 0,.c [1,1,1]] rfl ?_
    refine j_step rfl (x_bld_all 0 rfl rfl ld26 rfl ?_)
    refine j_step rfl (x_call [0,1,2] rfl (c_simplex_Solve) rfl ?_)
    rintro _ _ _ ⟨k1,X1,Y1,R1,px1,nx1,cx1,py1,ny1,cy1,pr1,nr1,cr1,rfl,h1,h2,rfl,rfl⟩
    simp only [List.cons_append,List.nil_append]
    have oS : ∀ r ∈ X1++(Y1++R1),okR 100000 r:=okR_le hsz2 h2
    have c_codewrightref35_Accept:=S_ref35_Accept (p1:=p1) (p2:=p2) (p3:=p3) (c1:=c1) (c2:=c2) (c3:=c3) (q1:=px1) (q2:=py1) (q3:=pr1) (m1:=nx1) (m2:=ny1) (m3:=nr1) (d1:=cx1) (d2:=cy1) (d3:=cr1) (Z:=100000) hc (by omega) (by omega) (by decide) (by decide) (okR_le (by decide) oC) (okR_le (by decide) oB) (fun row hr=>okR_le (by decide) (oM row hr)) oS h1
    have c_codewrightref35_Sure:=fun {p1 p2 p3 : Option Addr} {c1 c2 c3 : Nat}=>S_ref35_Sure (p1:=p1) (p2:=p2) (p3:=p3) (c1:=c1) (c2:=c2) (c3:=c3) (n1:=C.length) (n2:=M.length) (n3:=B.length) (by omega) (by omega)
    refine j_len 0 rfl fun e4 _ _=>?_
    refine j_len 1 rfl fun e5 _ _=>?_
    refine j_len 2 rfl fun e6 _ _=>?_
    have hl : nx1 ≤ 8 ∧ ny1 ≤ 8 ∧ nr1 ≤ 8:=by
      subst e4;subst e5;subst e6
      cases h1 <;> simp only [rl_len,List.length_nil] <;> omega
    obtain ⟨l1,l2,l3⟩:=hl
    refine j_run it 3 rfl (by simp) ?_
    refine j_step rfl (x_alloc zo34 fun b2=>?_)
    refine j_step rfl (x_bst_all 0 rfl rfl rfl ld34 rfl rfl (by simp [Value.oneCell']) ?_)
    refine j_run it 1 rfl (by simp) ?_
    refine j_nf [.o [1,1,1,0,0] 0,.c [1,1,1,0,1],.c [1,1,1,1]] rfl ?_
    refine j_step rfl (x_bld_all 1 rfl rfl ld26 rfl ?_)
    refine j_step rfl (x_call [3,4,5] rfl (c_codewrightref35_Check) rfl ?_)
    rintro _ _ _ ⟨rfl,rfl,rfl⟩
    simp only [List.cons_append,List.nil_append]
    refine j_run it 1 rfl (by simp) ?_
    refine j_nf [.c [1,1,1,0,1],.c [1,1,1,1]] rfl ?_
    refine j_ifn rfl rfl (fun h3=>by exfalso;omega) (fun h3=>?_)
    refine j_nf [.o (pL 124) 0,.c (pL 125),.c [1,1,1,1,1]] rfl ?_
    refine j_run it 3 rfl (by simp) ?_
    refine j_split_ndec (t:=43) rfl (fun h4=>by exfalso;omega) (fun h4=>?_)
    refine j_gstep rfl rfl (x_bld_all 1 rfl rfl ld26 rfl ?_)
    refine j_gstep rfl rfl (x_bld_all 0 rfl rfl ld34 rfl ?_)
    refine j_gstep rfl rfl (x_call [3,4,5,0,1,2] rfl (c_codewrightref35_Accept) rfl ?_)
    rintro _ _ _ ⟨rfl,rfl,rfl⟩
    simp only [List.cons_append,List.nil_append]
    simp only [decide_true]
    refine j_run it 3 rfl (by simp) ?_
    refine j_gstep rfl rfl (x_bld_all 1 rfl rfl ld26 rfl ?_)
    refine j_gstep rfl rfl (x_call [] rfl (c_codewrightref35_Sure) rfl ?_)
    rintro _ _ _ ⟨rfl,rfl,rfl⟩
    simp only [List.cons_append,List.nil_append]
    refine j_run it 2 rfl (by simp) ?_
    refine j_nf [.c (pL 125),.c [1,1,1,1,1]] rfl ?_
    refine j_false rfl rfl ?_
    refine j_nf [.c (pL 126),.c (pL 127)] rfl ?_
    (apply j_drawKB it mx 0 10;(· rfl);(· rfl);(· rfl))
    (apply lxk_lit0 (RatE);(· rfl);(· exact sl23);intro pa1)
    (apply lxk_eq;(· rfl);(· exact d_x fun _=>x_field rfl fd34_1 dk_eq))
    (apply lxk_eq;(· rfl);(· exact d_bld 0 rfl rfl ld23 rfl))
    (apply lxk_appL (keep:=[]) 0 1;(· rfl);(· rfl);(· rfl);(· rfl);(· rfl);(· exact sl23);(· exact zo23e);(· rfl);(· (first | omega | (simp only [List.length_cons,List.length_nil];omega)));(· exact by23e);(· (first | omega | (simp only [List.length_cons,List.length_nil];omega)));intro pa2 cap1 b3 cs1)
    (apply lxk_eq;(· rfl);(· exact d_x fun _=>x_field rfl fd34_2 dk_eq))
    (apply lxk_eq;(· rfl);(· exact d_bld 0 rfl rfl ld23 rfl))
    (apply lxk_appZ 0 3;(· rfl);(· rfl);(· rfl);(· rfl);(· rfl);(· exact sl23);(· exact zo23e);(· rfl);(· (first | omega | (simp only [List.length_cons,List.length_nil];omega)));(· exact by23e);(· (first | omega | (simp only [List.length_cons,List.length_nil];omega)));intro pa3 cap2 b4 cs2)
    (apply lxk_eq;(· rfl);(· exact d_x fun _=>x_field rfl fd34_3 dk_eq))
    (apply lxk_eq;(· rfl);(· exact d_bld 0 rfl rfl ld23 rfl))
    (apply lxk_appZ 0 5;(· rfl);(· rfl);(· rfl);(· rfl);(· rfl);(· exact sl23);(· exact zo23e);(· rfl);(· (first | omega | (simp only [List.length_cons,List.length_nil];omega)));(· exact by23e);(· (first | omega | (simp only [List.length_cons,List.length_nil];omega)));intro pa4 cap3 b5 cs3)
    refine lxk_endB rfl ?_
    (rotate_left;rfl;rotate_right)
    (rotate_left;rfl;rotate_right)
    (rotate_left;rfl;rotate_right)
    simp only [List.append_nil,List.append_assoc]
    simp only [List.map_cons,List.map_nil,List.cons_append,List.nil_append,List.drop_zero]
    (refine j_pubZ 0 0 (by first | rfl | exact (List.append_nil _).symm) rfl (by show (0 + nx1 + ny1 + nr1) * 56 ≤ 140737488355328;omega) ?_;simp only [List.take_succ_cons,List.take_zero,List.cons_append,List.nil_append,List.append_nil])
    refine j_run it 1 rfl (by simp) ?_
    refine j_nf [.o (pL 508) 0,.c (pL 509),.c (pL 255)] rfl ?_
    refine j_run it 1 rfl (by simp) ?_
    refine j_nf [.c (pL 1018),.blk 0,.c (pL 255)] rfl ?_
    refine j_len 0 rfl fun e7 _ _=>?_
    generalize hall : X1++(Y1++R1) = all at *
    have hcan : ∀ r ∈ all,r = rt (vq r):=by rw [← hall];exact sol_canon h1
    have hlen : 0 + nx1 + ny1 + nr1 ≤ 24:=by omega
    generalize 0 + nx1 + ny1 + nr1 = len at *
    refine j_loopG (X:=Nat) [5] [0,1,2,3,4,5,6,7,8,9,10] (fun k=>[(6,.int .i64 (k : Int))]) (fun _=>[(some b2,34,[.int .i64 k1,.slice px1 nx1 cx1,.slice py1 ny1 cy1,.slice pr1 nr1 cr1]),(some b1,26,[.slice p1 C.length c1,.slice p2 M.length c2,.slice p3 B.length c3])]) (fun _=>[]) (fun k=>k ≤ len) (fun k=>len - k) 0 [] rfl rfl rfl (Nat.zero_le _) (by repeat (first | exact Fr.sub_nil _ | refine Fr.sub_cons rfl ?_)) rfl rfl ?_
    rintro k hk ih
    simp only [List.cons_append,List.nil_append] at hk ih ⊢
    by_cases hkl : k < len
    · obtain ⟨z,hz⟩ : ∃ z,all[k]? = some z:=⟨_,List.getElem?_eq_getElem (by omega)⟩
      have hm:=List.mem_of_getElem? hz
      obtain ⟨_,_,y1,y2⟩:=oS z hm
      have hd : decide ((z.1,z.2.1,z.2.2) = rt (vq (z.1,z.2.1,z.2.2))) = true:=decide_eq_true (hcan z hm)
      refine j_nf [.o (pL 8144) 0,.c (pL 8145),.c (pL 4073),.lp (pL 2036),.blk 0,.c (pL 255)] rfl ?_
      refine j_run it 2 rfl (by simp) ?_
      refine j_step rfl (x_len sl23 rfl ?_)
      refine j_run it 1 rfl (by simp) ?_
      refine j_nf [.c (pL 8145),.c (pL 4073),.lp (pL 2036),.blk 0,.c (pL 255)] rfl ?_
      refine j_if rfl rfl (fun h5=>?_) (fun h5=>by exfalso;omega)
      refine j_nf [.o (pL 32584) 0,.c (pL 32585),.blk 1,.c (pL 8147),.lp (pL 2036),.blk 0,.c (pL 255)] rfl ?_
      refine j_run it 2 rfl (by simp) ?_
      refine j_step rfl (x_idx 0 (k) rfl rfl rfl sl23 rfl (by omega) fun z1 hz1 b6 o1=>?_)
      refine j_step rfl (x_ld_rt 0 rfl rfl ld44 fun pa5 ca1 pa6 ca2=>?_)
      obtain rfl : z1 = z:=Option.some.inj (hz1.symm.trans hz)
      refine j_step rfl (x_call [0,1] rfl (S_codewrightref02_Is (by first|omega|exact side _ (by assumption)|assumption|rfl|(simp;done)|(simp;omega)) (by first|omega|exact side _ (by assumption)|assumption|rfl|(simp;done)|(simp;omega))) rfl ?_)
      rintro _ _ _ ⟨rfl,rfl,rfl⟩
      simp only [List.cons_append,List.nil_append]
      simp only [hd]
      refine j_run it 1 rfl (by simp) ?_
      refine j_nf [.c (pL 32585),.blk 1,.c (pL 8147),.lp (pL 2036),.blk 0,.c (pL 255)] rfl ?_
      refine j_false rfl rfl ?_
      refine j_nf [.o (pL 8147) 0,.lp (pL 2036),.blk 0,.c (pL 255)] rfl ?_
      refine j_run it 3 rfl (by repeat' first | exact trivial | apply And.intro | omega) ?_
      refine j_nfn 1 [.lp (pL 2036),.blk 0,.c (pL 255)] rfl ?_
      refine j_to [3,4,5,6,7,8,9,10,11,12,13] (by repeat (first | exact Fr.sub_nil _ | refine Fr.sub_cons rfl ?_ | refine Fr.sub_consI rfl (by first | omega | (dsimp only;omega)) ?_ | refine Fr.sub_consS rfl (by first | omega | (dsimp only;omega)) (by first | omega | (dsimp only;omega)) ?_)) rfl rfl (ih (k + 1) (by omega) (by omega))
    · obtain rfl : k = len:=by omega
      refine j_nf [.o (pL 8144) 0,.c (pL 8145),.c (pL 4073),.lp (pL 2036),.blk 0,.c (pL 255)] rfl ?_
      refine j_run it 2 rfl (by simp) ?_
      refine j_step rfl (x_len sl23 rfl ?_)
      refine j_run it 1 rfl (by simp) ?_
      refine j_nf [.c (pL 8145),.c (pL 4073),.lp (pL 2036),.blk 0,.c (pL 255)] rfl ?_
      refine j_if rfl rfl (fun h5=>by exfalso;omega) (fun h5=>?_)
      refine j_nf [.o (pL 510) 0,.c (pL 511)] rfl ?_
      refine j_run it 1 rfl (by simp) ?_
      refine j_nf [.c (pL 511)] rfl ?_
      refine j_giv [] rfl rfl rfl ⟨rfl,rfl,rfl⟩
end Go.Proofs.Ythahejfpdhcpiaa
