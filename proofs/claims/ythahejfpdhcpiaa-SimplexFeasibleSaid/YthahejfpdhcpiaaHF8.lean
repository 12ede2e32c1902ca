/-
Accept of an optimum that is feasible and whose prices cover; the example of the laws by it. What the answers of Solve say of each other. The walk of SimplexStrong. The walk of SimplexFeasible.
-/
import Derived.Test.YthahejfpdhcpiaaHF7
set_option linter.unusedVariables false
set_option linter.unusedSimpArgs false

namespace Go.Proofs.Ythahejfpdhcpiaa
open Go Go.Fw
set_option maxRecDepth 100000
set_option linter.unusedVariables false
set_option linter.unusedSimpArgs false
set_option maxHeartbeats 4000000
theorem S_Accept_few {p1 p2 p3 q1 q2 q3 : Option Addr} {n1 n2 n3 m1 m2 m3 c1 c2 c3 d1 d2 d3 K : Nat} {C B X Y : List Rt} {M : List (List Rt)} (hK : 1 ≤ K) (hK2 : K ≤ 100000) (hC : ∀ r ∈ C,okR K r) (hM : ∀ row ∈ M,∀ r ∈ row,okR K r) (hB : ∀ r ∈ B,okR K r) (hX : ∀ r ∈ X,okR K r) (hY : ∀ r ∈ Y,okR K r) (h : checkOf (C,M,B) = 0) (hf : feasB C.length M B X = true) (hv : covB C.length M Y C = true) {ve : Int} (hve : accE 0 C M B X Y [] = ve) :
    Ctr Try.prog 56 [.agg #[.slice p1 n1 c1,.slice p2 n2 c2,.slice p3 n3 c3],.agg #[.int .i64 0,.slice q1 m1 d1,.slice q2 m2 d2,.slice q3 m3 d3]] [] [slF RatE p1 n1 c1 C,slF (encSl RatE) p2 n2 c2 M,slF RatE p3 n3 c3 B,slF RatE q1 m1 d1 X,slF RatE q2 m2 d2 Y,slF RatE q3 m3 d3 []] (Rv (.int .i64 ve) []):=by
  subst hve
  refine Ctr_of_j' (F:=F_simplex_Accept) rfl fun Cx=>?_
  refine j_len 0 rfl fun e1 _ _=>?_
  refine j_len 1 rfl fun e2 _ _=>?_
  refine j_len 2 rfl fun e3 _ _=>?_
  refine j_len 3 rfl fun e4 _ _=>?_
  refine j_len 4 rfl fun e5 _ _=>?_
  refine j_len 5 rfl fun e6 _ _=>?_
  subst e1;subst e2;subst e3;subst e4;subst e5;subst e6
  obtain ⟨lC,lM,hMB,hrow⟩:=check_zero h
  have hM' : ∀ row ∈ M,row.length = C.length ∧ ∀ r ∈ row,okR K r:=fun row hr=>⟨hrow row hr,hM row hr⟩
  have hXl : X.length = C.length:=by simp only [feasB,Bool.and_eq_true,decide_eq_true_eq] at hf;exact hf.1.1
  have hYl : Y.length = M.length:=by simp only [covB,Bool.and_eq_true,decide_eq_true_eq] at hv;exact hv.1.1
  obtain ⟨w1,w2⟩:=dot_lens hK hK2 hC hX lC
  obtain ⟨w3,w4⟩:=dot_lens hK hK2 hB hY (by omega)
  by_cases hd : dotR C X = dotR B Y
  · have hs:=cmp_zero.2 hd
    rw [show accE 0 C M B X Y [] = 0 by rw [accE,if_pos h,if_pos (by simp only [accB,hv,hf,if_pos];simp [hd])]]
    refine j_nf [.o [0] 0,.c [1]] rfl ?_
    refine j_step rfl (x_box_agg rfl fun b1=>?_)
    refine j_step rfl (x_box_agg rfl fun b2=>?_)
    refine j_run it 1 rfl (by simp) ?_
    refine j_nf [.o [1,0,0] 0,.c [1,0,1],.c [1,1]] rfl ?_
    refine j_step rfl (x_bld_all 1 rfl rfl ld26 rfl ?_)
    refine j_step rfl (x_call [0,1,2] rfl (S_simplex_Check) rfl ?_)
    rintro _ _ _ ⟨rfl,rfl,rfl⟩
    simp only [List.cons_append,List.nil_append]
    refine j_run it 1 rfl (by simp) ?_
    refine j_nf [.o [1,0,1,0] 0,.c [1,0,1,1],.c [1,1]] rfl ?_
    refine j_run it 2 rfl (by simp) ?_
    refine j_nf [.c [1,0,1,1],.c [1,1]] rfl ?_
    refine j_ifn rfl rfl (fun h1=>by exfalso;omega) (fun h1=>?_)
    refine j_nf [.o [1,1,0] 0,.c [1,1,1]] rfl ?_
    refine j_run it 1 rfl (by simp) ?_
    refine j_nf [.o [1,1,1,0,0] 0,.c [1,1,1,0,1],.c [1,1,1,1]] rfl ?_
    refine j_step rfl (x_field rfl fd34_0 ?_)
    refine j_step rfl (x_bld 0 rfl rfl ld3 rfl ?_)
    refine j_nf [.o (pL 244) 0,.c (pL 245),.blk 0,.c [1,1,1,1]] rfl ?_
    refine j_run it 2 rfl (by simp) ?_
    refine j_nf [.c (pL 245),.blk 0,.c [1,1,1,1]] rfl ?_
    refine j_if rfl rfl (fun h2=>?_) (fun h2=>by exfalso;omega)
    (apply j_drawK it mx 32;(· rfl);(· rfl))
    (apply lxk_eq;(· rfl);(· exact d_x fun _=>x_field rfl fd34_3 dk_eq))
    (apply lxk_eq;(· rfl);(· exact d_bld 0 rfl rfl ld23 rfl))
    (apply lxk_eq;(· rfl);(· exact d_x fun _=>x_len sl23 rfl dk_eq))
    (apply lxk_eq;(· rfl);(· exact d_x fun _=>x_true it rfl (by trivial) (by omega) dk_eq))
    (apply lxk_run 1;(· rfl);(· simp))
    (apply lxk_eq;(· rfl);(· exact d_bld_all 1 rfl rfl ld26 rfl))
    (apply lxk_eq;(· rfl);(· exact d_x fun _=>x_field rfl fd34_1 dk_eq))
    (apply lxk_eq;(· rfl);(· exact d_bld 0 rfl rfl ld23 rfl))
    (apply lxk_eq;(· rfl);(· exact d_x fun _=>x_call [1,2,3] rfl (S_simplex_feasible (by first|omega|exact side _ (by assumption)|assumption|rfl|(simp;done)|(simp;omega)) (by first|omega|exact side _ (by assumption)|assumption|rfl|(simp;done)|(simp;omega)) (by first|omega|exact side _ (by assumption)|assumption|rfl|(simp;done)|(simp;omega)) (by first|omega|exact side _ (by assumption)|assumption|rfl|(simp;done)|(simp;omega)) (by first|omega|exact side _ (by assumption)|assumption|rfl|(simp;done)|(simp;omega)) (by first|omega|exact side _ (by assumption)|assumption|rfl|(simp;done)|(simp;omega)) (by first|omega|exact side _ (by assumption)|assumption|rfl|(simp;done)|(simp;omega)) (by first|omega|exact side _ (by assumption)|assumption|rfl|(simp;done)|(simp;omega)) (by first|omega|exact side _ (by assumption)|assumption|rfl|(simp;done)|(simp;omega))) rfl (by rintro _ _ _ ⟨rfl,rfl,rfl⟩;exact dk_eq)))
    (apply lxk_run 2;(· rfl);(· simp))
    (apply lxk_eq;(· rfl);(· exact d_bld_all 1 rfl rfl ld26 rfl))
    (apply lxk_eq;(· rfl);(· exact d_x fun _=>x_field rfl fd34_2 dk_eq))
    (apply lxk_eq;(· rfl);(· exact d_bld 0 rfl rfl ld23 rfl))
    (apply lxk_eq;(· rfl);(· exact d_x fun _=>x_field rfl fd26_0 dk_eq))
    (apply lxk_eq;(· rfl);(· exact d_bld 1 rfl rfl ld23 rfl))
    (apply lxk_eq;(· rfl);(· exact d_x fun _=>x_call [1,4,0] rfl (S_simplex_covers (by first|omega|exact side _ (by assumption)|assumption|rfl|(simp;done)|(simp;omega)) (by first|omega|exact side _ (by assumption)|assumption|rfl|(simp;done)|(simp;omega)) (by first|omega|exact side _ (by assumption)|assumption|rfl|(simp;done)|(simp;omega)) (by first|omega|exact side _ (by assumption)|assumption|rfl|(simp;done)|(simp;omega)) (by first|omega|exact side _ (by assumption)|assumption|rfl|(simp;done)|(simp;omega)) (by first|omega|exact side _ (by assumption)|assumption|rfl|(simp;done)|(simp;omega)) (by first|omega|exact side _ (by assumption)|assumption|rfl|(simp;done)|(simp;omega)) (by first|omega|exact side _ (by assumption)|assumption|rfl|(simp;done)|(simp;omega)) (by first|omega|exact side _ (by assumption)|assumption|rfl|(simp;done)|(simp;omega))) rfl (by rintro _ _ _ ⟨rfl,rfl,rfl⟩;exact dk_eq)))
    (apply lxk_run 2;(· rfl);(· simp))
    (apply lxk_eq;(· rfl);(· exact d_x fun _=>x_field rfl fd26_0 dk_eq))
    (apply lxk_eq;(· rfl);(· exact d_bld 1 rfl rfl ld23 rfl))
    (apply lxk_eq;(· rfl);(· exact d_x fun _=>x_field rfl fd34_1 dk_eq))
    (apply lxk_eq;(· rfl);(· exact d_bld 0 rfl rfl ld23 rfl))
    (apply lxk_rq;(· rfl);(· exact d_x fun _=>x_call [0,3] rfl (S_simplex_product (by first|omega|exact side _ (by assumption)|assumption|rfl|(simp;done)|(simp;omega)) (by first|omega|exact side _ (by assumption)|assumption|rfl|(simp;done)|(simp;omega)) (by first|omega|exact side _ (by assumption)|assumption|rfl|(simp;done)|(simp;omega)) (by first|omega|exact side _ (by assumption)|assumption|rfl|(simp;done)|(simp;omega)) (by first|omega|exact side _ (by assumption)|assumption|rfl|(simp;done)|(simp;omega)) (by first|omega|exact side _ (by assumption)|assumption|rfl|(simp;done)|(simp;omega))) rfl (by rintro _ _ _ ⟨pn1,cn1,pd1,cd1,rfl,rfl,rfl⟩;exact (dk_rq 0 1 rfl rfl)));intro pn1 cn1 pd1 cd1)
    (apply lxk_eq;(· rfl);(· exact d_x fun _=>x_field rfl fd26_2 dk_eq))
    (apply lxk_eq;(· rfl);(· exact d_bld 1 rfl rfl ld23 rfl))
    (apply lxk_eq;(· rfl);(· exact d_x fun _=>x_field rfl fd34_2 dk_eq))
    (apply lxk_eq;(· rfl);(· exact d_bld 0 rfl rfl ld23 rfl))
    (apply lxk_rq;(· rfl);(· exact d_x fun _=>x_call [4,6] rfl (S_simplex_product (by first|omega|exact side _ (by assumption)|assumption|rfl|(simp;done)|(simp;omega)) (by first|omega|exact side _ (by assumption)|assumption|rfl|(simp;done)|(simp;omega)) (by first|omega|exact side _ (by assumption)|assumption|rfl|(simp;done)|(simp;omega)) (by first|omega|exact side _ (by assumption)|assumption|rfl|(simp;done)|(simp;omega)) (by first|omega|exact side _ (by assumption)|assumption|rfl|(simp;done)|(simp;omega)) (by first|omega|exact side _ (by assumption)|assumption|rfl|(simp;done)|(simp;omega))) rfl (by rintro _ _ _ ⟨pn2,cn2,pd2,cd2,rfl,rfl,rfl⟩;exact (dk_rq 0 1 rfl rfl)));intro pn2 cn2 pd2 cd2)
    (apply lxk_eq;(· rfl);(· exact d_x fun _=>x_call [2,3,0,1] rfl (S_rational_Cmp (by first|omega|exact side _ (by assumption)|assumption|rfl|(simp;done)|(simp;omega)) (by first|omega|exact side _ (by assumption)|assumption|rfl|(simp;done)|(simp;omega)) (by first|omega|exact side _ (by assumption)|assumption|rfl|(simp;done)|(simp;omega)) (by first|omega|exact side _ (by assumption)|assumption|rfl|(simp;done)|(simp;omega))) rfl (by rintro _ _ _ ⟨rfl,rfl,rfl⟩;exact dk_eq)))
    simp only [vq_rt']
    (apply lxk_eq;(· rfl);(· exact d_x fun _=>x_true it rfl (by trivial) (by omega) dk_eq))
    (apply lxk_run 1;(· rfl);(· simp))
    refine lxk_end rfl ?_
    simp only [List.map_cons,List.map_nil,List.cons_append,List.nil_append]
    refine j_run it 1 rfl (by simp) ?_
    refine j_nf [.o (pL 124) 0,.c (pL 125),.c [1,1,1,1,1]] rfl ?_
    refine j_run it 2 rfl (by simp) ?_
    refine j_nf [.c (pL 125),.c [1,1,1,1,1]] rfl ?_
    refine j_false rfl rfl ?_
    refine j_nf [.o (pL 126) 0,.c (pL 127)] rfl ?_
    refine j_run it 1 rfl (by simp) ?_
    refine j_nf [.c (pL 127)] rfl ?_
    refine j_giv [] rfl rfl rfl ⟨rfl,rfl,rfl⟩
  · have hs : ¬ (dotR C X - dotR B Y).num.sign = 0:=fun e=>hd (cmp_zero.1 e)
    rw [show accE 0 C M B X Y [] = 13 by rw [accE,if_pos h,if_neg (by simp only [accB,hv,hf,if_pos];simp [hd])]]
    refine j_nf [.o [0] 0,.c [1]] rfl ?_
    refine j_step rfl (x_box_agg rfl fun b1=>?_)
    refine j_step rfl (x_box_agg rfl fun b2=>?_)
    refine j_run it 1 rfl (by simp) ?_
    refine j_nf [.o [1,0,0] 0,.c [1,0,1],.c [1,1]] rfl ?_
    refine j_step rfl (x_bld_all 1 rfl rfl ld26 rfl ?_)
    refine j_step rfl (x_call [0,1,2] rfl (S_simplex_Check) rfl ?_)
    rintro _ _ _ ⟨rfl,rfl,rfl⟩
    simp only [List.cons_append,List.nil_append]
    refine j_run it 1 rfl (by simp) ?_
    refine j_nf [.o [1,0,1,0] 0,.c [1,0,1,1],.c [1,1]] rfl ?_
    refine j_run it 2 rfl (by simp) ?_
    refine j_nf [.c [1,0,1,1],.c [1,1]] rfl ?_
    refine j_ifn rfl rfl (fun h1=>by exfalso;omega) (fun h1=>?_)
    refine j_nf [.o [1,1,0] 0,.c [1,1,1]] rfl ?_
    refine j_run it 1 rfl (by simp) ?_
    refine j_nf [.o [1,1,1,0,0] 0,.c [1,1,1,0,1],.c [1,1,1,1]] rfl ?_
    refine j_step rfl (x_field rfl fd34_0 ?_)
    refine j_step rfl (x_bld 0 rfl rfl ld3 rfl ?_)
    refine j_nf [.o (pL 244) 0,.c (pL 245),.blk 0,.c [1,1,1,1]] rfl ?_
    refine j_run it 2 rfl (by simp) ?_
    refine j_nf [.c (pL 245),.blk 0,.c [1,1,1,1]] rfl ?_
    refine j_if rfl rfl (fun h2=>?_) (fun h2=>by exfalso;omega)
    (apply j_drawK it mx 32;(· rfl);(· rfl))
    (apply lxk_eq;(· rfl);(· exact d_x fun _=>x_field rfl fd34_3 dk_eq))
    (apply lxk_eq;(· rfl);(· exact d_bld 0 rfl rfl ld23 rfl))
    (apply lxk_eq;(· rfl);(· exact d_x fun _=>x_len sl23 rfl dk_eq))
    (apply lxk_eq;(· rfl);(· exact d_x fun _=>x_true it rfl (by trivial) (by omega) dk_eq))
    (apply lxk_run 1;(· rfl);(· simp))
    (apply lxk_eq;(· rfl);(· exact d_bld_all 1 rfl rfl ld26 rfl))
    (apply lxk_eq;(· rfl);(· exact d_x fun _=>x_field rfl fd34_1 dk_eq))
    (apply lxk_eq;(· rfl);(· exact d_bld 0 rfl rfl ld23 rfl))
    (apply lxk_eq;(· rfl);(· exact d_x fun _=>x_call [1,2,3] rfl (S_simplex_feasible (by first|omega|exact side _ (by assumption)|assumption|rfl|(simp;done)|(simp;omega)) (by first|omega|exact side _ (by assumption)|assumption|rfl|(simp;done)|(simp;omega)) (by first|omega|exact side _ (by assumption)|assumption|rfl|(simp;done)|(simp;omega)) (by first|omega|exact side _ (by assumption)|assumption|rfl|(simp;done)|(simp;omega)) (by first|omega|exact side _ (by assumption)|assumption|rfl|(simp;done)|(simp;omega)) (by first|omega|exact side _ (by assumption)|assumption|rfl|(simp;done)|(simp;omega)) (by first|omega|exact side _ (by assumption)|assumption|rfl|(simp;done)|(simp;omega)) (by first|omega|exact side _ (by assumption)|assumption|rfl|(simp;done)|(simp;omega)) (by first|omega|exact side _ (by assumption)|assumption|rfl|(simp;done)|(simp;omega))) rfl (by rintro _ _ _ ⟨rfl,rfl,rfl⟩;exact dk_eq)))
    (apply lxk_run 2;(· rfl);(· simp))
    (apply lxk_eq;(· rfl);(· exact d_bld_all 1 rfl rfl ld26 rfl))
    (apply lxk_eq;(· rfl);(· exact d_x fun _=>x_field rfl fd34_2 dk_eq))
    (apply lxk_eq;(· rfl);(· exact d_bld 0 rfl rfl ld23 rfl))
    (apply lxk_eq;(· rfl);(· exact d_x fun _=>x_field rfl fd26_0 dk_eq))
    (apply lxk_eq;(· rfl);(· exact d_bld 1 rfl rfl ld23 rfl))
    (apply lxk_eq;(· rfl);(· exact d_x fun _=>x_call [1,4,0] rfl (S_simplex_covers (by first|omega|exact side _ (by assumption)|assumption|rfl|(simp;done)|(simp;omega)) (by first|omega|exact side _ (by assumption)|assumption|rfl|(simp;done)|(simp;omega)) (by first|omega|exact side _ (by assumption)|assumption|rfl|(simp;done)|(simp;omega)) (by first|omega|exact side _ (by assumption)|assumption|rfl|(simp;done)|(simp;omega)) (by first|omega|exact side _ (by assumption)|assumption|rfl|(simp;done)|(simp;omega)) (by first|omega|exact side _ (by assumption)|assumption|rfl|(simp;done)|(simp;omega)) (by first|omega|exact side _ (by assumption)|assumption|rfl|(simp;done)|(simp;omega)) (by first|omega|exact side _ (by assumption)|assumption|rfl|(simp;done)|(simp;omega)) (by first|omega|exact side _ (by assumption)|assumption|rfl|(simp;done)|(simp;omega))) rfl (by rintro _ _ _ ⟨rfl,rfl,rfl⟩;exact dk_eq)))
    (apply lxk_run 2;(· rfl);(· simp))
    (apply lxk_eq;(· rfl);(· exact d_x fun _=>x_field rfl fd26_0 dk_eq))
    (apply lxk_eq;(· rfl);(· exact d_bld 1 rfl rfl ld23 rfl))
    (apply lxk_eq;(· rfl);(· exact d_x fun _=>x_field rfl fd34_1 dk_eq))
    (apply lxk_eq;(· rfl);(· exact d_bld 0 rfl rfl ld23 rfl))
    (apply lxk_rq;(· rfl);(· exact d_x fun _=>x_call [0,3] rfl (S_simplex_product (by first|omega|exact side _ (by assumption)|assumption|rfl|(simp;done)|(simp;omega)) (by first|omega|exact side _ (by assumption)|assumption|rfl|(simp;done)|(simp;omega)) (by first|omega|exact side _ (by assumption)|assumption|rfl|(simp;done)|(simp;omega)) (by first|omega|exact side _ (by assumption)|assumption|rfl|(simp;done)|(simp;omega)) (by first|omega|exact side _ (by assumption)|assumption|rfl|(simp;done)|(simp;omega)) (by first|omega|exact side _ (by assumption)|assumption|rfl|(simp;done)|(simp;omega))) rfl (by rintro _ _ _ ⟨pn1,cn1,pd1,cd1,rfl,rfl,rfl⟩;exact (dk_rq 0 1 rfl rfl)));intro pn1 cn1 pd1 cd1)
    (apply lxk_eq;(· rfl);(· exact d_x fun _=>x_field rfl fd26_2 dk_eq))
    (apply lxk_eq;(· rfl);(· exact d_bld 1 rfl rfl ld23 rfl))
    (apply lxk_eq;(· rfl);(· exact d_x fun _=>x_field rfl fd34_2 dk_eq))
    (apply lxk_eq;(· rfl);(· exact d_bld 0 rfl rfl ld23 rfl))
    (apply lxk_rq;(· rfl);(· exact d_x fun _=>x_call [4,6] rfl (S_simplex_product (by first|omega|exact side _ (by assumption)|assumption|rfl|(simp;done)|(simp;omega)) (by first|omega|exact side _ (by assumption)|assumption|rfl|(simp;done)|(simp;omega)) (by first|omega|exact side _ (by assumption)|assumption|rfl|(simp;done)|(simp;omega)) (by first|omega|exact side _ (by assumption)|assumption|rfl|(simp;done)|(simp;omega)) (by first|omega|exact side _ (by assumption)|assumption|rfl|(simp;done)|(simp;omega)) (by first|omega|exact side _ (by assumption)|assumption|rfl|(simp;done)|(simp;omega))) rfl (by rintro _ _ _ ⟨pn2,cn2,pd2,cd2,rfl,rfl,rfl⟩;exact (dk_rq 0 1 rfl rfl)));intro pn2 cn2 pd2 cd2)
    (apply lxk_eq;(· rfl);(· exact d_x fun _=>x_call [2,3,0,1] rfl (S_rational_Cmp (by first|omega|exact side _ (by assumption)|assumption|rfl|(simp;done)|(simp;omega)) (by first|omega|exact side _ (by assumption)|assumption|rfl|(simp;done)|(simp;omega)) (by first|omega|exact side _ (by assumption)|assumption|rfl|(simp;done)|(simp;omega)) (by first|omega|exact side _ (by assumption)|assumption|rfl|(simp;done)|(simp;omega))) rfl (by rintro _ _ _ ⟨rfl,rfl,rfl⟩;exact dk_eq)))
    simp only [vq_rt']
    (apply lxk_eq;(· rfl);(· exact d_x fun _=>x_false it rfl (by trivial) (by omega) dk_eq))
    (apply lxk_run 1;(· rfl);(· simp))
    refine lxk_end rfl ?_
    simp only [List.map_cons,List.map_nil,List.cons_append,List.nil_append]
    refine j_run it 1 rfl (by simp) ?_
    refine j_nf [.o (pL 124) 0,.c (pL 125),.c [1,1,1,1,1]] rfl ?_
    refine j_run it 2 rfl (by simp) ?_
    refine j_nf [.c (pL 125),.c [1,1,1,1,1]] rfl ?_
    refine j_true rfl rfl ?_
    refine j_nf [.o (pL 500) 0,.c (pL 501),.c [1,1,1,1,1]] rfl ?_
    refine j_run it 1 rfl (by simp) ?_
    refine j_nf [.c (pL 501),.c [1,1,1,1,1]] rfl ?_
    refine j_giv [] rfl rfl rfl ⟨rfl,rfl,rfl⟩
theorem one_c : checkOf ([rt 1],[[rt 1]],[rt 1]) = 0:=by simp [checkOf]
theorem one_d : feasB [rt 1].length [[rt 1]] [rt 1] [rt 1] = true:=by
  have h1 : (0 : Rat) ≤ 1:=by decide
  simp [feasB,posB,leB,dotR,dot,vq_rt,h1,Rat.add_zero,Rat.le_refl]
theorem one_e : feasB [rt 1].length [[rt 1]] [rt 1] [rt 0] = true:=by
  have h1 : (0 : Rat) ≤ 1:=by decide
  simp [feasB,posB,leB,dotR,dot,vq_rt,h1,Rat.add_zero,Rat.mul_zero,Rat.le_refl]
theorem one_f : covB [rt 1].length [[rt 1]] [rt 1] [rt 1] = true:=by
  have h1 : (0 : Rat) ≤ 1:=by decide
  simp [covB,posB,geB,colR,dotR,dot,vq_rt,h1,Rat.add_zero,Rat.le_refl]
theorem S_one_few : Ctr Try.prog 20 [] [] [] (Rv (.bool true) []):=by
  refine Ctr_of_j' (F:=F_codewrightlaw35_one) rfl fun Cx=>?_
  refine j_add (slF RatE none 0 0 []) (fun w A _=>slF_nil _ _ _ _ _) ?_
  have hi0 : InR .i64 (0 : Int):=by simp [InR]
  have hi1 : InR .i64 (1 : Int):=by simp [InR]
  have a1:=bd1
  have a2:=bd0
  have a4:=bd11
  have a5:=one_a
  have a6:=one_b
  have a7 : (1 : Nat) ≤ 1:=Nat.le_refl 1
  have a8:=one_c
  have a9:=one_d
  have a10:=one_e
  have a11:=one_f
  have c_simplex_Accept:=@S_Accept_few
  refine j_nf [.o [0] 0,.c [1]] rfl ?_
  refine j_run it 1 rfl (by simp) ?_
  refine j_nf [.o [1,0] 0,.c [1,1]] rfl ?_
  refine j_step rfl (x_call [] rfl (S_codewrightref02_Int (by first|omega|exact side _ (by assumption)|assumption|rfl|(simp;done)|(simp;omega))) rfl ?_)
  rintro _ _ _ ⟨pn1,cn1,pd1,cd1,rfl,rfl,rfl⟩
  simp only [List.cons_append,List.nil_append]
  refine j_step rfl (x_lit sl23 zo23e rfl rfl rfl rfl (by decide) (by decide) rfl fun b1=>?_)
  refine j_step rfl (x_call [] rfl (S_codewrightref02_Int (by first|omega|exact side _ (by assumption)|assumption|rfl|(simp;done)|(simp;omega))) rfl ?_)
  rintro _ _ _ ⟨pn2,cn2,pd2,cd2,rfl,rfl,rfl⟩
  simp only [List.cons_append,List.nil_append]
  refine j_step rfl (x_lit sl23 zo23e rfl rfl rfl rfl (by decide) (by decide) rfl fun b2=>?_)
  refine j_step rfl (x_lit sl24 zo24e rfl rfl rfl rfl (by decide) (by decide) rfl fun b3=>?_)
  refine j_step rfl (x_call [] rfl (S_codewrightref02_Int (by first|omega|exact side _ (by assumption)|assumption|rfl|(simp;done)|(simp;omega))) rfl ?_)
  rintro _ _ _ ⟨pn3,cn3,pd3,cd3,rfl,rfl,rfl⟩
  simp only [List.cons_append,List.nil_append]
  refine j_step rfl (x_lit sl23 zo23e rfl rfl rfl rfl (by decide) (by decide) rfl fun b4=>?_)
  refine j_step rfl (x_build (cs:=[Value.slice (some { block:=b1,off:=0 }) 1 1,Value.slice (some { block:=b3,off:=0 }) 1 1,Value.slice (some { block:=b4,off:=0 }) 1 1]) st26 zo26 rfl rfl ?_)
  refine j_step rfl (x_alloc zo26 fun b5=>?_)
  refine j_step rfl (x_bst_all 0 rfl rfl rfl ld26 rfl rfl (by simp [Value.oneCell']) ?_)
  refine j_nf [.o [1,1,0] 0,.c [1,1,1]] rfl ?_
  refine j_step rfl (x_call [] rfl (S_codewrightref02_Int (by first|omega|exact side _ (by assumption)|assumption|rfl|(simp;done)|(simp;omega))) rfl ?_)
  rintro _ _ _ ⟨pn4,cn4,pd4,cd4,rfl,rfl,rfl⟩
  simp only [List.cons_append,List.nil_append]
  refine j_step rfl (x_lit sl23 zo23e rfl rfl rfl rfl (by decide) (by decide) rfl fun b6=>?_)
  refine j_step rfl (x_call [] rfl (S_codewrightref02_Int (by first|omega|exact side _ (by assumption)|assumption|rfl|(simp;done)|(simp;omega))) rfl ?_)
  rintro _ _ _ ⟨pn5,cn5,pd5,cd5,rfl,rfl,rfl⟩
  simp only [List.cons_append,List.nil_append]
  refine j_step rfl (x_lit sl23 zo23e rfl rfl rfl rfl (by decide) (by decide) rfl fun b7=>?_)
  refine j_step rfl (x_build (cs:=[Value.int IntKind.i64 0,Value.slice (some { block:=b6,off:=0 }) 1 1,Value.slice (some { block:=b7,off:=0 }) 1 1,Value.slice none 0 0]) st34 zo34 rfl rfl ?_)
  refine j_step rfl (x_alloc zo34 fun b8=>?_)
  refine j_step rfl (x_bst_all 0 rfl rfl rfl ld34 rfl rfl (by simp [Value.oneCell']) ?_)
  refine j_nf [.o [1,1,1,0] 0,.c [1,1,1,1]] rfl ?_
  refine j_step rfl (x_call [] rfl (S_codewrightref02_Int (by first|omega|exact side _ (by assumption)|assumption|rfl|(simp;done)|(simp;omega))) rfl ?_)
  rintro _ _ _ ⟨pn6,cn6,pd6,cd6,rfl,rfl,rfl⟩
  simp only [List.cons_append,List.nil_append]
  refine j_step rfl (x_lit sl23 zo23e rfl rfl rfl rfl (by decide) (by decide) rfl fun b9=>?_)
  refine j_step rfl (x_call [] rfl (S_codewrightref02_Int (by first|omega|exact side _ (by assumption)|assumption|rfl|(simp;done)|(simp;omega))) rfl ?_)
  rintro _ _ _ ⟨pn7,cn7,pd7,cd7,rfl,rfl,rfl⟩
  simp only [List.cons_append,List.nil_append]
  refine j_step rfl (x_lit sl23 zo23e rfl rfl rfl rfl (by decide) (by decide) rfl fun b10=>?_)
  refine j_step rfl (x_build (cs:=[Value.int IntKind.i64 0,Value.slice (some { block:=b9,off:=0 }) 1 1,Value.slice (some { block:=b10,off:=0 }) 1 1,Value.slice none 0 0]) st34 zo34 rfl rfl ?_)
  refine j_step rfl (x_alloc zo34 fun b11=>?_)
  refine j_step rfl (x_bst_all 0 rfl rfl rfl ld34 rfl rfl (by simp [Value.oneCell']) ?_)
  refine j_nf [.o [1,1,1,1,0] 0,.c [1,1,1,1,1]] rfl ?_
  refine j_step rfl (x_bld_all 6 rfl rfl ld26 rfl ?_)
  refine j_step rfl (x_bld_all 3 rfl rfl ld34 rfl ?_)
  simp only [show ((1 : Int) : Rat) = 1 from rfl,show ((0 : Int) : Rat) = 0 from rfl]
  refine j_pub_all (E:=RatE) (n:=1) [[.bool (rt 1).1,.slice pn2 (rt 1).2.1.length cn2,.slice pd2 (rt 1).2.2.length cd2]] [rt 1] 9 (fun w A hG=>allrd_cons (rd_rt (hG _ (fact_mem (n:=10) rfl)) (hG _ (fact_mem (n:=11) rfl))) allrd_nil) rfl rfl rfl rfl (by decide) (by decide) ?_
  refine j_pub_all (E:=RatE) (n:=1) [[Value.bool (rt 1).fst,Value.slice pn1 (rt 1).snd.fst.length cn1,Value.slice pd1 (rt 1).snd.snd.length cd1]] [((rt 1).fst,(rt 1).snd.fst,(rt 1).snd.snd)] 9 (fun w A hG=>(allrd_cons (rd_rt (hG _ (fact_mem (n:=13) rfl)) (hG _ (fact_mem (n:=14) rfl))) allrd_nil)) rfl rfl rfl rfl (by first | decide | exact Nat.le_of_ble_eq_true rfl) (by first | decide | exact Nat.le_of_ble_eq_true rfl) ?_
  refine j_pub_all (E:=(encSl RatE)) (n:=1) [[Value.slice (some { block:=b2,off:=0 }) 1 1]] [[rt 1]] 8 (fun w A hG=>(allrd_cons (rd_of_slF (hG _ (fact_mem (n:=1) rfl))) allrd_nil)) rfl rfl rfl rfl (by first | decide | exact Nat.le_of_ble_eq_true rfl) (by first | decide | exact Nat.le_of_ble_eq_true rfl) ?_
  refine j_pub_all (E:=RatE) (n:=1) [[Value.bool (rt 1).fst,Value.slice pn3 (rt 1).snd.fst.length cn3,Value.slice pd3 (rt 1).snd.snd.length cd3]] [((rt 1).fst,(rt 1).snd.fst,(rt 1).snd.snd)] 7 (fun w A hG=>(allrd_cons (rd_rt (hG _ (fact_mem (n:=11) rfl)) (hG _ (fact_mem (n:=12) rfl))) allrd_nil)) rfl rfl rfl rfl (by first | decide | exact Nat.le_of_ble_eq_true rfl) (by first | decide | exact Nat.le_of_ble_eq_true rfl) ?_
  refine j_pub_all (E:=RatE) (n:=1) [[Value.bool (rt 1).fst,Value.slice pn4 (rt 1).snd.fst.length cn4,Value.slice pd4 (rt 1).snd.snd.length cd4]] [((rt 1).fst,(rt 1).snd.fst,(rt 1).snd.snd)] 5 (fun w A hG=>(allrd_cons (rd_rt (hG _ (fact_mem (n:=10) rfl)) (hG _ (fact_mem (n:=11) rfl))) allrd_nil)) rfl rfl rfl rfl (by first | decide | exact Nat.le_of_ble_eq_true rfl) (by first | decide | exact Nat.le_of_ble_eq_true rfl) ?_
  refine j_pub_all (E:=RatE) (n:=1) [[Value.bool (rt 1).fst,Value.slice pn5 (rt 1).snd.fst.length cn5,Value.slice pd5 (rt 1).snd.snd.length cd5]] [((rt 1).fst,(rt 1).snd.fst,(rt 1).snd.snd)] 4 (fun w A hG=>(allrd_cons (rd_rt (hG _ (fact_mem (n:=9) rfl)) (hG _ (fact_mem (n:=10) rfl))) allrd_nil)) rfl rfl rfl rfl (by first | decide | exact Nat.le_of_ble_eq_true rfl) (by first | decide | exact Nat.le_of_ble_eq_true rfl) ?_
  refine j_step rfl (x_call [4,3,2,1,0,20] rfl (c_simplex_Accept (by first|omega|exact side _ (by assumption)|assumption|rfl|(simp;done)|(simp;omega)) (by first|omega|exact side _ (by assumption)|assumption|rfl|(simp;done)|(simp;omega)) (by first|omega|exact side _ (by assumption)|assumption|rfl|(simp;done)|(simp;omega)) (by first|omega|exact side _ (by assumption)|assumption|rfl|(simp;done)|(simp;omega)) (by first|omega|exact side _ (by assumption)|assumption|rfl|(simp;done)|(simp;omega)) (by first|omega|exact side _ (by assumption)|assumption|rfl|(simp;done)|(simp;omega)) (by first|omega|exact side _ (by assumption)|assumption|rfl|(simp;done)|(simp;omega)) (by first|omega|exact side _ (by assumption)|assumption|rfl|(simp;done)|(simp;omega)) (by first|omega|exact side _ (by assumption)|assumption|rfl|(simp;done)|(simp;omega)) (by first|omega|exact side _ (by assumption)|assumption|rfl|(simp;done)|(simp;omega)) (by first|omega|exact side _ (by assumption)|assumption|rfl|(simp;done)|(simp;omega))) rfl ?_)
  rintro _ _ _ ⟨rfl,rfl,rfl⟩
  simp only [List.cons_append,List.nil_append]
  refine j_run it 2 rfl (by simp) ?_
  refine j_split_dec (t:=26) rfl (fun h1=>?_) (fun h1=>by exfalso;omega)
  refine j_gstep rfl rfl (x_bld_all 4 rfl rfl ld26 rfl ?_)
  refine j_gstep rfl rfl (x_bld_all 0 rfl rfl ld34 rfl ?_)
  refine j_pub_all (E:=RatE) (n:=1) [[Value.bool (rt 0).fst,Value.slice pn6 (rt 0).snd.fst.length cn6,Value.slice pd6 (rt 0).snd.snd.length cd6]] [((rt 0).fst,(rt 0).snd.fst,(rt 0).snd.snd)] 2 (fun w A hG=>(allrd_cons (rd_rt (hG _ (fact_mem (n:=8) rfl)) (hG _ (fact_mem (n:=9) rfl))) allrd_nil)) rfl rfl rfl rfl (by first | decide | exact Nat.le_of_ble_eq_true rfl) (by first | decide | exact Nat.le_of_ble_eq_true rfl) ?_
  refine j_pub_all (E:=RatE) (n:=1) [[Value.bool (rt 1).fst,Value.slice pn7 (rt 1).snd.fst.length cn7,Value.slice pd7 (rt 1).snd.snd.length cd7]] [((rt 1).fst,(rt 1).snd.fst,(rt 1).snd.snd)] 1 (fun w A hG=>(allrd_cons (rd_rt (hG _ (fact_mem (n:=7) rfl)) (hG _ (fact_mem (n:=8) rfl))) allrd_nil)) rfl rfl rfl rfl (by first | decide | exact Nat.le_of_ble_eq_true rfl) (by first | decide | exact Nat.le_of_ble_eq_true rfl) ?_
  refine j_gstep rfl rfl (x_call [6,5,4,1,0,22] rfl (c_simplex_Accept (by first|omega|exact side _ (by assumption)|assumption|rfl|(simp;done)|(simp;omega)) (by first|omega|exact side _ (by assumption)|assumption|rfl|(simp;done)|(simp;omega)) (by first|omega|exact side _ (by assumption)|assumption|rfl|(simp;done)|(simp;omega)) (by first|omega|exact side _ (by assumption)|assumption|rfl|(simp;done)|(simp;omega)) (by first|omega|exact side _ (by assumption)|assumption|rfl|(simp;done)|(simp;omega)) (by first|omega|exact side _ (by assumption)|assumption|rfl|(simp;done)|(simp;omega)) (by first|omega|exact side _ (by assumption)|assumption|rfl|(simp;done)|(simp;omega)) (by first|omega|exact side _ (by assumption)|assumption|rfl|(simp;done)|(simp;omega)) (by first|omega|exact side _ (by assumption)|assumption|rfl|(simp;done)|(simp;omega)) (by first|omega|exact side _ (by assumption)|assumption|rfl|(simp;done)|(simp;omega)) (by first|omega|exact side _ (by assumption)|assumption|rfl|(simp;done)|(simp;omega))) rfl ?_)
  rintro _ _ _ ⟨rfl,rfl,rfl⟩
  simp only [List.cons_append,List.nil_append]
  simp only [decide_true]
  refine j_run it 3 rfl (by simp) ?_
  refine j_nf [.c [1,1,1,1,1]] rfl ?_
  refine j_giv [] rfl rfl rfl ⟨rfl,rfl,rfl⟩
end Go.Proofs.Ythahejfpdhcpiaa

namespace Go.Proofs.Ythahejfpdhcpiaa
open Go Go.Fw
set_option maxRecDepth 100000
set_option linter.unusedVariables false
set_option linter.unusedSimpArgs false
theorem lp_mono {n : Nat} {x f g : Nat → Rat} (hx : ∀ j,j < n → 0 ≤ x j) (h : ∀ j,j < n → f j ≤ g j) : rs n (fun j=>x j * f j) ≤ rs n (fun j=>x j * g j):=by
  induction n with
  | zero=>exact Rat.le_refl
  | succ n ih =>
    rw [rs,rs]
    have h1:=ih (fun j hj=>hx j (by omega)) (fun j hj=>h j (by omega))
    have h2:=Rat.mul_nonneg (hx n (by omega)) (show 0 ≤ g n - f n by have:=h n (by omega);grind)
    grind
theorem lp_swap (n m : Nat) (A : Nat → Nat → Rat) (x y : Nat → Rat) : rs m (fun i=>y i * rs n (fun j=>A i j * x j)) = rs n (fun j=>x j * rs m (fun i=>y i * A i j)):=by
  rw [rs_congr (g:=fun i=>rs n (fun j=>y i * (A i j * x j))) fun i _=>(rs_mul _ _ _).symm,rs_swap]
  exact rs_congr fun j _=>by rw [← rs_mul];exact rs_congr fun i _=>by grind
theorem rs_comm (n : Nat) (f g : Nat → Rat) : rs n (fun i=>f i * g i) = rs n (fun i=>g i * f i):=rs_congr fun i _=>Rat.mul_comm _ _
section
variable {n m : Nat} {A : Nat → Nat → Rat} {B C x y : Nat → Rat}
theorem weakD (hx : ∀ j,j < n → 0 ≤ x j) (hA : ∀ h,h < m → rs n (fun k=>A h k * x k) ≤ B h) (hy : ∀ h,h < m → 0 ≤ y h) (hC : ∀ j,j < n → C j ≤ rs m (fun h=>y h * A h j)) : rs n (fun k=>C k * x k) ≤ rs m (fun h=>B h * y h):=by
  have h1:=lp_mono hx hC
  have h2:=lp_mono hy hA
  rw [← lp_swap] at h1
  rw [rs_comm n C x,rs_comm m B y]
  grind
theorem farkasD (hx : ∀ j,j < n → 0 ≤ x j) (hA : ∀ h,h < m → rs n (fun k=>A h k * x k) ≤ B h) (hy : ∀ h,h < m → 0 ≤ y h) (hC : ∀ j,j < n → 0 ≤ rs m (fun h=>y h * A h j)) (hb : rs m (fun h=>B h * y h) < 0) : False:=by
  have h:=weakD (C:=fun _=>0) hx hA hy hC
  rw [rs_congr (g:=fun _=>0) fun _ _=>Rat.zero_mul _,rs_zero] at h
  grind
end
def Fe (n m : Nat) (A : Nat → Nat → Rat) (B x : Nat → Rat) : Prop:=(∀ j,j < n → 0 ≤ x j) ∧ ∀ h,h < m → rs n (fun k=>A h k * x k) ≤ B h
def Pr (n m : Nat) (A : Nat → Nat → Rat) (C y : Nat → Rat) : Prop:=(∀ h,h < m → 0 ≤ y h) ∧ ∀ j,j < n → C j ≤ rs m (fun h=>y h * A h j)
section
variable {n m : Nat} {A : Nat → Nat → Rat} {B C : Nat → Rat} {k : Int} {X Y R : List Rt}
theorem sol_kind (h : SolR n m A B C k X Y R) : k = 0 ∨ k = 1 ∨ k = 2:=by cases h <;> simp
theorem sol_inf (h : SolR n m A B C 1 X Y R) {x : Nat → Rat} (hx : Fe n m A B x) : False:=by
  cases h with
  | inf y h1 h2 h3=>exact farkasD hx.1 hx.2 h1 h2 h3
theorem sol_opt (h : SolR n m A B C 0 X Y R) : ∃ x y,X = rl n x ∧ Y = rl m y ∧ Fe n m A B x ∧ Pr n m A C y ∧ rs n (fun k=>C k * x k) = rs m (fun h=>B h * y h):=by
  cases h with
  | opt x y h1 h2 h3 h4 h5=>exact ⟨x,y,rfl,rfl,⟨h1,h2⟩,⟨h3,h4⟩,h5⟩
end
section
variable {n m : Nat} {A A' : Nat → Nat → Rat} {B C B' C' : Nat → Rat} {k k' : Int} {X Y R X' Y' R' : List Rt}
end
theorem dotR_rl {n : Nat} {C : List Rt} {x : Nat → Rat} (hC : C.length = n) : dotR C (rl n x) = rs n (fun k=>cvOf C k * x k):=by
  have h : ∀ k,k ≤ n → dotR (C.take k) ((rl n x).take k) = rs k (fun k=>cvOf C k * x k):=by
    intro k
    induction k with
    | zero=>intro _;rfl
    | succ k ih =>
      intro hk
      obtain ⟨z,hz⟩ : ∃ z,C[k]? = some z:=⟨_,List.getElem?_eq_getElem (by omega)⟩
      rw [dotR_succ hz (rl_get (by omega)),ih (by omega),rs,cvOf_at hz]
      congr 1
      rw [show vq (rt (x k)) = x k from vq_rt' (x k)]
  have h2:=h n (Nat.le_refl _)
  rw [← hC,List.take_length,List.take_of_length_le (by rw [rl_len];omega)] at h2
  rw [← hC];exact h2
end Go.Proofs.Ythahejfpdhcpiaa

namespace Go.Proofs.Ythahejfpdhcpiaa
open Go Go.Fw
set_option maxRecDepth 100000
set_option linter.unusedVariables false
set_option linter.unusedSimpArgs false
set_option maxHeartbeats 8000000
theorem short_ok2 {L : List Rt} (h : shortB L = true) (hr : ∀ r ∈ L,(∀ x ∈ r.2.1,x < 4294967296) ∧ (∀ x ∈ r.2.2,x < 4294967296)) : ∀ r ∈ L,okR 2 r:=fun r hm=>by
  have:=List.all_eq_true.1 h r hm
  simp only [Bool.and_eq_true,decide_eq_true_eq] at this
  exact ⟨(hr r hm).1,(hr r hm).2,by omega,by omega⟩
theorem small_ok2 {c : Nat} {C B : List Rt} {M : List (List Rt)} (h : smallB c C M B = true) (rC : ∀ r ∈ C,(∀ x ∈ r.2.1,x < 4294967296) ∧ (∀ x ∈ r.2.2,x < 4294967296)) (rB : ∀ r ∈ B,(∀ x ∈ r.2.1,x < 4294967296) ∧ (∀ x ∈ r.2.2,x < 4294967296))
    (rM : ∀ row ∈ M,∀ r ∈ row,(∀ x ∈ r.2.1,x < 4294967296) ∧ (∀ x ∈ r.2.2,x < 4294967296)) :
    C.length ≤ c ∧ B.length ≤ c ∧ M.length ≤ c ∧ (∀ r ∈ C,okR 2 r) ∧ (∀ r ∈ B,okR 2 r) ∧ (∀ row ∈ M,∀ r ∈ row,okR 2 r):=by
  simp only [smallB,Bool.and_eq_true,decide_eq_true_eq] at h
  obtain ⟨⟨⟨⟨⟨h1,h2⟩,h3⟩,h4⟩,h5⟩,h6⟩:=h
  refine ⟨h1,h2,h3,short_ok2 h4 rC,short_ok2 h5 rB,fun row hr=>?_⟩
  have:=List.all_eq_true.1 h6 row hr
  simp only [Bool.and_eq_true,decide_eq_true_eq] at this
  exact short_ok2 this.2 (rM row hr)
theorem check_rows {C B : List Rt} {M : List (List Rt)} (h : checkOf (C,M,B) = 0) : M.length = B.length ∧ ∀ row ∈ M,row.length = C.length:=by
  unfold checkOf at h
  split at h
  · cases h
  · split at h
    · cases h
    · next h2 =>
      split at h
      · next h3 =>
        exact ⟨Decidable.of_not_not h2,fun row hr=>by simpa using List.all_eq_true.1 h3 row hr⟩
      · cases h
theorem S_Small_res {p1 p2 p3 : Option Addr} {c1 c2 c3 n1 n2 n3 m : Nat} {C B : List Rt} {A : List (List Rt)} {res : Bool} (hm : m ≤ 1000) (e1 : n1 = C.length) (e2 : n2 = A.length) (e3 : n3 = B.length) (hres : smallB m C A B = res) :
    Ctr Try.prog 13 [.agg #[.slice p1 n1 c1,.slice p2 n2 c2,.slice p3 n3 c3],.int .i64 m] [] [slF RatE p1 n1 c1 C,slF (encSl RatE) p2 n2 c2 A,slF RatE p3 n3 c3 B] (Rv (.bool res) []):=by
  subst e1;subst e2;subst e3;subst hres
  exact S_codewrightref35_Small hm
theorem okR_le {K L : Nat} (h : K ≤ L) {X : List Rt} (hx : ∀ r ∈ X,okR K r) : ∀ r ∈ X,okR L r:=fun r hr=>⟨(hx r hr).1,(hx r hr).2.1,Nat.le_trans (hx r hr).2.2.1 h,Nat.le_trans (hx r hr).2.2.2 h⟩
end Go.Proofs.Ythahejfpdhcpiaa

namespace Go.Proofs.Ythahejfpdhcpiaa
open Go Go.Fw
set_option maxRecDepth 100000
set_option linter.unusedVariables false
set_option linter.unusedSimpArgs false
set_option maxHeartbeats 8000000
theorem dotR_cv {n : Nat} {C x : List Rt} (hC : C.length = n) (hx : x.length = n) : dotR C x = rs n (fun k=>cvOf C k * cvOf x k):=by
  have h : ∀ k,k ≤ n → dotR (C.take k) (x.take k) = rs k (fun k=>cvOf C k * cvOf x k):=by
    intro k
    induction k with
    | zero=>intro _;rfl
    | succ k ih =>
      intro hk
      obtain ⟨z,hz⟩ : ∃ z,C[k]? = some z:=⟨_,List.getElem?_eq_getElem (by omega)⟩
      obtain ⟨u,hu⟩ : ∃ u,x[k]? = some u:=⟨_,List.getElem?_eq_getElem (by omega)⟩
      rw [dotR_succ hz hu,ih (by omega),rs,cvOf_at hz,cvOf_at hu]
  have h2:=h n (Nat.le_refl _)
  rw [← hC,List.take_length,List.take_of_length_le (by omega)] at h2
  rw [← hC];exact h2
theorem feasB_fe {C B x : List Rt} {M : List (List Rt)} (hrow : ∀ row ∈ M,row.length = C.length) (h : feasB C.length M B x = true) : Fe C.length M.length (mvOf M) (cvOf B) (cvOf x):=by
  have hl:=feas_len h
  simp only [feasB,Bool.and_eq_true,decide_eq_true_eq] at h
  obtain ⟨⟨_,h2⟩,h3⟩:=h
  refine ⟨fun j hj=>?_,fun i hi=>?_⟩
  · obtain ⟨z,hz⟩ : ∃ z,x[j]? = some z:=⟨_,List.getElem?_eq_getElem (by omega)⟩
    rw [cvOf_at hz]
    rw [posB,List.all_eq_true] at h2
    have:=h2 z (List.mem_of_getElem? hz)
    rwa [decide_eq_true_eq] at this
  · rw [leB,List.all_eq_true] at h3
    have h4:=h3 i (List.mem_range.2 hi)
    rw [decide_eq_true_eq] at h4
    obtain ⟨row,hr⟩ : ∃ row,M[i]? = some row:=⟨_,List.getElem?_eq_getElem hi⟩
    have g1 : M.getD i default = row:=by rw [List.getD_eq_getElem?_getD,hr];rfl
    have g2 : M.getD i [] = row:=by rw [List.getD_eq_getElem?_getD,hr];rfl
    rw [g1,dotR_cv (hrow row (List.mem_of_getElem? hr)) hl] at h4
    simp only [mvOf,g2]
    exact h4
theorem S_SimplexFeasible {p1 p2 p3 p4 : Option Addr} {c1 c2 c3 c4 : Nat} {C B x : List Rt} {M : List (List Rt)} :
    Ctr Try.prog 7 [.agg #[.slice p1 C.length c1,.slice p2 M.length c2,.slice p3 B.length c3],.slice p4 x.length c4] []
      [slF RatE p1 C.length c1 C,slF (encSl RatE) p2 M.length c2 M,slF RatE p3 B.length c3 B,slF RatE p4 x.length c4 x] (Rv (.bool true) []):=by
  refine Ctr_of_j' (F:=F_codewrightlaw35_SimplexFeasible) rfl fun Cx=>?_
  refine rts_range 0 rfl fun rC=>?_
  refine rtss_rng 1 rfl fun rM=>?_
  refine rts_range 2 rfl fun rB=>?_
  refine rts_range 3 rfl fun rX=>?_
  have c_codewrightref35_Small:=@S_Small_res
  have c_codewrightlaw35_one:=S_one_few
  cases hff : fitsB C M B [x] with
  | false =>
    refine j_nf [.o [0] 0,.c [1]] rfl ?_
    refine j_step rfl (x_box_agg rfl fun b1=>?_)
    refine j_run it 1 rfl (by simp) ?_
    refine j_nf [.o [1,0,0] 0,.c [1,0,1],.c [1,1]] rfl ?_
    refine j_step rfl (x_bld_all 0 rfl rfl ld26 rfl ?_)
    refine j_run it 1 rfl (by simp) ?_
    refine j_step rfl (x_lit sl24 zo24e rfl rfl rfl rfl (by decide) (by decide) rfl fun b2=>?_)
    refine j_pub_all (E:=(encSl RatE)) (n:=1) [[Value.slice p4 x.length c4]] [x] 0 (fun w A hG=>(allrd_cons (rd_of_slF (hG _ (fact_mem (n:=3) rfl))) allrd_nil)) rfl rfl rfl rfl (by first | decide | exact Nat.le_of_ble_eq_true rfl) (by first | decide | exact Nat.le_of_ble_eq_true rfl) ?_
    refine j_step rfl (x_call [1,2,3,0] rfl (S_codewrightlaw35_fits (by first|omega|exact side _ (by assumption)|assumption|rfl|(simp;done)|(simp;omega))) rfl ?_)
    rintro _ _ _ ⟨rfl,rfl,rfl⟩
    simp only [List.cons_append,List.nil_append]
    refine j_run it 1 rfl (by simp) ?_
    refine j_nf [.c [1,0,1],.c [1,1]] rfl ?_
    refine j_true rfl rfl ?_
    refine j_nf [.o [1,0,1,0,0] 0,.c [1,0,1,0,1],.c [1,1]] rfl ?_
    refine j_run it 1 rfl (by simp) ?_
    refine j_nf [.c [1,0,1,0,1],.c [1,1]] rfl ?_
    refine j_giv [] rfl rfl rfl ⟨rfl,rfl,rfl⟩
  | true =>
    cases hf : smallB 6 C M B with
    | false =>
      refine j_nf [.o [0] 0,.c [1]] rfl ?_
      refine j_step rfl (x_box_agg rfl fun b1=>?_)
      refine j_run it 1 rfl (by simp) ?_
      refine j_nf [.o [1,0,0] 0,.c [1,0,1],.c [1,1]] rfl ?_
      refine j_step rfl (x_bld_all 0 rfl rfl ld26 rfl ?_)
      refine j_run it 1 rfl (by simp) ?_
      refine j_step rfl (x_lit sl24 zo24e rfl rfl rfl rfl (by decide) (by decide) rfl fun b2=>?_)
      refine j_pub_all (E:=(encSl RatE)) (n:=1) [[Value.slice p4 x.length c4]] [x] 0 (fun w A hG=>(allrd_cons (rd_of_slF (hG _ (fact_mem (n:=3) rfl))) allrd_nil)) rfl rfl rfl rfl (by first | decide | exact Nat.le_of_ble_eq_true rfl) (by first | decide | exact Nat.le_of_ble_eq_true rfl) ?_
      refine j_step rfl (x_call [1,2,3,0] rfl (S_codewrightlaw35_fits (by first|omega|exact side _ (by assumption)|assumption|rfl|(simp;done)|(simp;omega))) rfl ?_)
      rintro _ _ _ ⟨rfl,rfl,rfl⟩
      simp only [List.cons_append,List.nil_append]
      refine j_run it 1 rfl (by simp) ?_
      refine j_nf [.c [1,0,1],.c [1,1]] rfl ?_
      refine j_false rfl rfl ?_
      refine j_nf [.o [1,1,0,0] 0,.c [1,1,0,1],.c [1,1,1]] rfl ?_
      refine j_step rfl (x_bld_all 0 rfl rfl ld26 rfl ?_)
      refine j_step rfl (x_call [1,2,3] rfl (c_codewrightref35_Small (by first|omega|exact side _ (by assumption)|assumption|rfl|(simp;done)|(simp;omega)) (by first|omega|exact side _ (by assumption)|assumption|rfl|(simp;done)|(simp;omega)) (by first|omega|exact side _ (by assumption)|assumption|rfl|(simp;done)|(simp;omega)) (by first|omega|exact side _ (by assumption)|assumption|rfl|(simp;done)|(simp;omega)) (by first|omega|exact side _ (by assumption)|assumption|rfl|(simp;done)|(simp;omega))) rfl ?_)
      rintro _ _ _ ⟨rfl,rfl,rfl⟩
      simp only [List.cons_append,List.nil_append]
      refine j_run it 6 rfl (by simp) ?_
      refine j_nf [.c [1,1,0,1],.c [1,1,1]] rfl ?_
      refine j_true rfl rfl ?_
      refine j_nf [.o (pL 116) 0,.c (pL 117),.c [1,1,1]] rfl ?_
      refine j_run it 1 rfl (by simp) ?_
      refine j_nf [.c (pL 117),.c [1,1,1]] rfl ?_
      refine j_giv [] rfl rfl rfl ⟨rfl,rfl,rfl⟩
    | true =>
      by_cases hc : checkOf (C,M,B) = 0
      case neg =>
        refine j_nf [.o [0] 0,.c [1]] rfl ?_
        refine j_step rfl (x_box_agg rfl fun b1=>?_)
        refine j_run it 1 rfl (by simp) ?_
        refine j_nf [.o [1,0,0] 0,.c [1,0,1],.c [1,1]] rfl ?_
        refine j_step rfl (x_bld_all 0 rfl rfl ld26 rfl ?_)
        refine j_run it 1 rfl (by simp) ?_
        refine j_step rfl (x_lit sl24 zo24e rfl rfl rfl rfl (by decide) (by decide) rfl fun b2=>?_)
        refine j_pub_all (E:=(encSl RatE)) (n:=1) [[Value.slice p4 x.length c4]] [x] 0 (fun w A hG=>(allrd_cons (rd_of_slF (hG _ (fact_mem (n:=3) rfl))) allrd_nil)) rfl rfl rfl rfl (by first | decide | exact Nat.le_of_ble_eq_true rfl) (by first | decide | exact Nat.le_of_ble_eq_true rfl) ?_
        refine j_step rfl (x_call [1,2,3,0] rfl (S_codewrightlaw35_fits (by first|omega|exact side _ (by assumption)|assumption|rfl|(simp;done)|(simp;omega))) rfl ?_)
        rintro _ _ _ ⟨rfl,rfl,rfl⟩
        simp only [List.cons_append,List.nil_append]
        refine j_run it 1 rfl (by simp) ?_
        refine j_nf [.c [1,0,1],.c [1,1]] rfl ?_
        refine j_false rfl rfl ?_
        refine j_nf [.o [1,1,0,0] 0,.c [1,1,0,1],.c [1,1,1]] rfl ?_
        refine j_step rfl (x_bld_all 0 rfl rfl ld26 rfl ?_)
        refine j_step rfl (x_call [1,2,3] rfl (c_codewrightref35_Small (by first|omega|exact side _ (by assumption)|assumption|rfl|(simp;done)|(simp;omega)) (by first|omega|exact side _ (by assumption)|assumption|rfl|(simp;done)|(simp;omega)) (by first|omega|exact side _ (by assumption)|assumption|rfl|(simp;done)|(simp;omega)) (by first|omega|exact side _ (by assumption)|assumption|rfl|(simp;done)|(simp;omega)) (by first|omega|exact side _ (by assumption)|assumption|rfl|(simp;done)|(simp;omega))) rfl ?_)
        rintro _ _ _ ⟨rfl,rfl,rfl⟩
        simp only [List.cons_append,List.nil_append]
        refine j_run it 2 rfl (by simp) ?_
        refine j_gstep rfl rfl (x_bld_all 0 rfl rfl ld26 rfl ?_)
        refine j_gstep rfl rfl (x_call [1,2,3] rfl (S_codewrightref35_Check) rfl ?_)
        rintro _ _ _ ⟨rfl,rfl,rfl⟩
        simp only [List.cons_append,List.nil_append]
        refine j_run it 2 rfl (by simp) ?_
        refine j_nf [.c [1,1,0,1],.c [1,1,1]] rfl ?_
        refine j_ifn rfl rfl (fun h1=>?_) (fun h1=>by exfalso;omega)
        refine j_nf [.o (pL 116) 0,.c (pL 117),.c [1,1,1]] rfl ?_
        refine j_run it 1 rfl (by simp) ?_
        refine j_nf [.c (pL 117),.c [1,1,1]] rfl ?_
        refine j_giv [] rfl rfl rfl ⟨rfl,rfl,rfl⟩
      obtain ⟨lC,lB,lM,oC,oB,oM⟩:=small_ok2 hf rC rB rM
      obtain ⟨eM,eR⟩:=check_rows hc
      have hff':=hff
      simp only [fitsB,Bool.and_eq_true,List.all_cons,List.all_nil,and_true] at hff'
      obtain ⟨lX,oX⟩:=few_list hff'.1 rX
      have hsz : ∀ {n : Nat},n ≤ 6 → szP' 2 n ≤ 9557:=fun h=>Nat.le_trans (szP'_mono h) (by decide)
      have c_simplex_Solve:=S_simplex_Solve (p1:=p1) (pM:=p2) (p3:=p3) (c1:=c1) (c2:=c2) (c3:=c3) (K:=2) (C:=C) (B:=B) (M:=M) hc (by omega) (by omega) eM.symm (by decide) (by decide) (Nat.le_trans (hsz lM) (by decide)) oC oB (fun row hr=>⟨eR row hr,oM row hr⟩)
      refine j_nf [.o [0] 0,.c [1]] rfl ?_
      refine j_step rfl (x_box_agg rfl fun b1=>?_)
      refine j_run it 1 rfl (by simp) ?_
      refine j_nf [.o [1,0,0] 0,.c [1,0,1],.c [1,1]] rfl ?_
      refine j_step rfl (x_bld_all 0 rfl rfl ld26 rfl ?_)
      refine j_run it 1 rfl (by simp) ?_
      refine j_step rfl (x_lit sl24 zo24e rfl rfl rfl rfl (by decide) (by decide) rfl fun b2=>?_)
      refine j_pub_all (E:=(encSl RatE)) (n:=1) [[Value.slice p4 x.length c4]] [x] 0 (fun w A hG=>(allrd_cons (rd_of_slF (hG _ (fact_mem (n:=3) rfl))) allrd_nil)) rfl rfl rfl rfl (by first | decide | exact Nat.le_of_ble_eq_true rfl) (by first | decide | exact Nat.le_of_ble_eq_true rfl) ?_
      refine j_step rfl (x_call [1,2,3,0] rfl (S_codewrightlaw35_fits (by first|omega|exact side _ (by assumption)|assumption|rfl|(simp;done)|(simp;omega))) rfl ?_)
      rintro _ _ _ ⟨rfl,rfl,rfl⟩
      simp only [List.cons_append,List.nil_append]
      refine j_run it 1 rfl (by simp) ?_
      refine j_nf [.c [1,0,1],.c [1,1]] rfl ?_
      refine j_false rfl rfl ?_
      refine j_nf [.o [1,1,0,0] 0,.c [1,1,0,1],.c [1,1,1]] rfl ?_
      refine j_step rfl (x_bld_all 0 rfl rfl ld26 rfl ?_)
      refine j_step rfl (x_call [1,2,3] rfl (c_codewrightref35_Small (by first|omega|exact side _ (by assumption)|assumption|rfl|(simp;done)|(simp;omega)) (by first|omega|exact side _ (by assumption)|assumption|rfl|(simp;done)|(simp;omega)) (by first|omega|exact side _ (by assumption)|assumption|rfl|(simp;done)|(simp;omega)) (by first|omega|exact side _ (by assumption)|assumption|rfl|(simp;done)|(simp;omega)) (by first|omega|exact side _ (by assumption)|assumption|rfl|(simp;done)|(simp;omega))) rfl ?_)
      rintro _ _ _ ⟨rfl,rfl,rfl⟩
      simp only [List.cons_append,List.nil_append]
      refine j_run it 2 rfl (by simp) ?_
      refine j_gstep rfl rfl (x_bld_all 0 rfl rfl ld26 rfl ?_)
      refine j_gstep rfl rfl (x_call [1,2,3] rfl (S_codewrightref35_Check) rfl ?_)
      rintro _ _ _ ⟨rfl,rfl,rfl⟩
      simp only [List.cons_append,List.nil_append]
      refine j_run it 2 rfl (by simp) ?_
      refine j_nf [.c [1,1,0,1],.c [1,1,1]] rfl ?_
      refine j_ifn rfl rfl (fun h1=>by exfalso;omega) (fun h1=>?_)
      refine j_nf [.o [1,1,1,0] 0,.c [1,1,1,1]] rfl ?_
      refine j_step rfl (x_bld_all 0 rfl rfl ld26 rfl ?_)
      refine j_step rfl (x_call [1,2,3] rfl (c_simplex_Solve) rfl ?_)
      rintro _ _ _ ⟨k1,X1,Y1,R1,px1,nx1,cx1,py1,ny1,cy1,pr1,nr1,cr1,rfl,h2,h3,rfl,rfl⟩
      simp only [List.cons_append,List.nil_append]
      have h2 : SolR C.length M.length (mvOf M) (cvOf B) (cvOf C) k1 X1 Y1 R1:=by assumption
      have h3 : ∀ r ∈ X1++(Y1++R1),okR (szP' 2 M.length) r:=by assumption
      have oC' : ∀ r ∈ C,okR 9557 r:=okR_le (by decide) oC
      have oB' : ∀ r ∈ B,okR 9557 r:=okR_le (by decide) oB
      have oM' : ∀ row ∈ M,∀ r ∈ row,okR 9557 r:=fun row hr=>okR_le (by decide) (oM row hr)
      have oX' : ∀ r ∈ x,okR 9557 r:=okR_le (by decide) oX
      have oX1 : ∀ r ∈ X1,okR 9557 r:=okR_le (hsz lM) fun r hr=>h3 r (List.mem_append_left _ hr)
      have hKK : (1 : Nat) ≤ 9557:=by decide
      obtain ⟨w1,w2⟩:=dot_lens hKK (by decide) oC' oX1 (by omega)
      obtain ⟨w3,w4⟩:=dot_lens hKK (by decide) oC' oX' (by omega)
      by_cases hve : valE C M B x = 0
      · have hfe:=feasB_fe eR (val_feas hve).2
        have hvr:=val_rat hve
        have hk : k1 = 0 ∨ k1 = 2:=by
          rcases sol_kind h2 with h | h | h
          · exact .inl h
          · subst h;exact (sol_inf h2 hfe).elim
          · exact .inr h
        rcases hk with rfl | rfl
        · obtain ⟨y0,y1,e1,_,hx0,hy0,e2⟩:=sol_opt h2
          have hw:=weakD hfe.1 hfe.2 hy0.1 hy0.2
          have hge : dotR C x ≤ dotR C X1:=by
            rw [e1,dotR_rl rfl,dotR_cv rfl (feas_len (val_feas hve).2),e2];exact hw
          have hs : 0 ≤ (dotR C X1 - dotR C x).num.sign:=by
            have:=cmp_neg (x:=dotR C X1) (y:=dotR C x)
            by_cases h : (dotR C X1 - dotR C x).num.sign < 0
            · have:=this.1 h;grind
            · omega
          refine j_run it 3 rfl (by simp) ?_
          refine j_step rfl (x_alloc zo34 fun b3=>?_)
          refine j_step rfl (x_bst_all 0 rfl rfl rfl ld34 rfl rfl (by simp [Value.oneCell']) ?_)
          refine j_run it 1 rfl (by simp) ?_
          refine j_nf [.o [1,1,1,1,0] 0,.c [1,1,1,1,1]] rfl ?_
          refine j_step rfl (x_bld_all 1 rfl rfl ld26 rfl ?_)
          refine j_run it 1 rfl (by simp) ?_
          refine j_step rfl (x_call [4,5,6,7] rfl (S_simplex_Value (by first|omega|exact side _ (by assumption)|assumption|rfl|(simp;done)|(simp;omega)) (by first|omega|exact side _ (by assumption)|assumption|rfl|(simp;done)|(simp;omega)) (by first|omega|exact side _ (by assumption)|assumption|rfl|(simp;done)|(simp;omega)) (by first|omega|exact side _ (by assumption)|assumption|rfl|(simp;done)|(simp;omega)) (by first|omega|exact side _ (by assumption)|assumption|rfl|(simp;done)|(simp;omega)) (by first|omega|exact side _ (by assumption)|assumption|rfl|(simp;done)|(simp;omega)) (by first|omega|exact side _ (by assumption)|assumption|rfl|(simp;done)|(simp;omega)) (by first|omega|exact side _ (by assumption)|assumption|rfl|(simp;done)|(simp;omega))) rfl ?_)
          rintro _ _ _ ⟨pn1,cn1,pd1,cd1,rfl,rfl,rfl⟩
          simp only [List.cons_append,List.nil_append]
          refine j_run it 3 rfl (by simp) ?_
          refine j_step rfl (x_alloc zo44 fun b4=>?_)
          refine j_step rfl (x_bst_all 0 rfl rfl rfl ld44 rfl rfl (by simp [Value.oneCell']) ?_)
          refine j_run it 1 rfl (by simp) ?_
          refine j_nf [.o (pL 252) 0,.c (pL 253),.c (pL 127)] rfl ?_
          refine j_step rfl (x_call [] rfl (c_codewrightlaw35_one) rfl ?_)
          rintro _ _ _ ⟨rfl,rfl,rfl⟩
          simp only [List.cons_append,List.nil_append]
          refine j_run it 5 rfl (by simp) ?_
          refine j_nf [.c (pL 253),.c (pL 127)] rfl ?_
          refine j_ifn rfl rfl (fun h4=>by exfalso;omega) (fun h4=>?_)
          refine j_nf [.c (pL 254),.c (pL 255)] rfl ?_
          (apply j_drawK it mx 22;(· rfl);(· rfl))
          (apply lxk_run 1;(· rfl);(· simp))
          (apply lxk_eq;(· rfl);(· exact d_x fun _=>x_falseN it rfl (by trivial) (by omega) dk_eq))
          (apply lxk_run 1;(· rfl);(· simp))
          (apply lxk_eq;(· rfl);(· exact d_x fun _=>x_field rfl fd34_0 dk_eq))
          (apply lxk_eq;(· rfl);(· exact d_bld 1 rfl rfl ld3 rfl))
          (apply lxk_eq;(· rfl);(· exact d_x fun _=>x_false it rfl (by trivial) (by omega) dk_eq))
          (apply lxk_run 2;(· rfl);(· simp))
          (apply lxk_eq;(· rfl);(· exact d_x fun _=>x_field rfl fd34_0 dk_eq))
          (apply lxk_eq;(· rfl);(· exact d_bld 1 rfl rfl ld3 rfl))
          (apply lxk_eq;(· rfl);(· exact d_x fun _=>x_true it rfl (by trivial) (by omega) dk_eq))
          (apply lxk_run 1;(· rfl);(· simp))
          (apply lxk_eq;(· rfl);(· exact d_x fun _=>x_field rfl fd26_0 dk_eq))
          (apply lxk_eq;(· rfl);(· exact d_bld 2 rfl rfl ld23 rfl))
          (apply lxk_eq;(· rfl);(· exact d_x fun _=>x_field rfl fd34_1 dk_eq))
          (apply lxk_eq;(· rfl);(· exact d_bld 1 rfl rfl ld23 rfl))
          (apply lxk_rq;(· rfl);(· exact d_x fun _=>x_call [6,2] rfl (S_codewrightref02_Dot (by first|omega|exact side _ (by assumption)|assumption|rfl|(simp;done)|(simp;omega)) (by first|omega|exact side _ (by assumption)|assumption|rfl|(simp;done)|(simp;omega)) (by first|omega|exact side _ (by assumption)|assumption|rfl|(simp;done)|(simp;omega)) (by first|omega|exact side _ (by assumption)|assumption|rfl|(simp;done)|(simp;omega)) (by first|omega|exact side _ (by assumption)|assumption|rfl|(simp;done)|(simp;omega))) rfl (by rintro _ _ _ ⟨pn2,cn2,pd2,cd2,rfl,rfl,rfl⟩;exact (dk_rq 0 1 rfl rfl)));intro pn2 cn2 pd2 cd2)
          simp only [vq_rt']
          (apply lxk_eq;(· rfl);(· exact d_bld_all 0 rfl rfl ld44 rfl))
          (apply lxk_eq;(· rfl);(· exact d_x fun _=>x_call [0,1,2,3] rfl (S_codewrightref02_Cmp (by first|omega|exact side _ (by assumption)|assumption|rfl|(simp;done)|(simp;omega)) (by first|omega|exact side _ (by assumption)|assumption|rfl|(simp;done)|(simp;omega)) (by first|omega|exact side _ (by assumption)|assumption|rfl|(simp;done)|(simp;omega)) (by first|omega|exact side _ (by assumption)|assumption|rfl|(simp;done)|(simp;omega))) rfl (by rintro _ _ _ ⟨rfl,rfl,rfl⟩;exact dk_eq)))
          simp only [vq_rt']
          (apply lxk_eq;(· rfl);(· exact d_x fun _=>x_true it rfl (by trivial) (by omega) dk_eq))
          (apply lxk_run 2;(· rfl);(· simp))
          refine lxk_end rfl ?_
          simp only [List.map_cons,List.map_nil,List.cons_append,List.nil_append]
          refine j_run it 1 rfl (by simp) ?_
          refine j_nf [.c (pL 255)] rfl ?_
          refine j_giv [] rfl rfl rfl ⟨rfl,rfl,rfl⟩
        · refine j_run it 3 rfl (by simp) ?_
          refine j_step rfl (x_alloc zo34 fun b3=>?_)
          refine j_step rfl (x_bst_all 0 rfl rfl rfl ld34 rfl rfl (by simp [Value.oneCell']) ?_)
          refine j_run it 1 rfl (by simp) ?_
          refine j_nf [.o [1,1,1,1,0] 0,.c [1,1,1,1,1]] rfl ?_
          refine j_step rfl (x_bld_all 1 rfl rfl ld26 rfl ?_)
          refine j_run it 1 rfl (by simp) ?_
          refine j_step rfl (x_call [4,5,6,7] rfl (S_simplex_Value (by first|omega|exact side _ (by assumption)|assumption|rfl|(simp;done)|(simp;omega)) (by first|omega|exact side _ (by assumption)|assumption|rfl|(simp;done)|(simp;omega)) (by first|omega|exact side _ (by assumption)|assumption|rfl|(simp;done)|(simp;omega)) (by first|omega|exact side _ (by assumption)|assumption|rfl|(simp;done)|(simp;omega)) (by first|omega|exact side _ (by assumption)|assumption|rfl|(simp;done)|(simp;omega)) (by first|omega|exact side _ (by assumption)|assumption|rfl|(simp;done)|(simp;omega)) (by first|omega|exact side _ (by assumption)|assumption|rfl|(simp;done)|(simp;omega)) (by first|omega|exact side _ (by assumption)|assumption|rfl|(simp;done)|(simp;omega))) rfl ?_)
          rintro _ _ _ ⟨pn1,cn1,pd1,cd1,rfl,rfl,rfl⟩
          simp only [List.cons_append,List.nil_append]
          refine j_run it 3 rfl (by simp) ?_
          refine j_step rfl (x_alloc zo44 fun b4=>?_)
          refine j_step rfl (x_bst_all 0 rfl rfl rfl ld44 rfl rfl (by simp [Value.oneCell']) ?_)
          refine j_run it 1 rfl (by simp) ?_
          refine j_nf [.o (pL 252) 0,.c (pL 253),.c (pL 127)] rfl ?_
          refine j_step rfl (x_call [] rfl (c_codewrightlaw35_one) rfl ?_)
          rintro _ _ _ ⟨rfl,rfl,rfl⟩
          simp only [List.cons_append,List.nil_append]
          refine j_run it 5 rfl (by simp) ?_
          refine j_nf [.c (pL 253),.c (pL 127)] rfl ?_
          refine j_ifn rfl rfl (fun h4=>by exfalso;omega) (fun h4=>?_)
          refine j_nf [.c (pL 254),.c (pL 255)] rfl ?_
          (apply j_drawK it mx 22;(· rfl);(· rfl))
          (apply lxk_run 1;(· rfl);(· simp))
          (apply lxk_eq;(· rfl);(· exact d_x fun _=>x_falseN it rfl (by trivial) (by omega) dk_eq))
          (apply lxk_run 1;(· rfl);(· simp))
          (apply lxk_eq;(· rfl);(· exact d_x fun _=>x_field rfl fd34_0 dk_eq))
          (apply lxk_eq;(· rfl);(· exact d_bld 1 rfl rfl ld3 rfl))
          (apply lxk_eq;(· rfl);(· exact d_x fun _=>x_true it rfl (by trivial) (by omega) dk_eq))
          (apply lxk_run 4;(· rfl);(· simp))
          (apply lxk_run 9;(· rfl);(· simp))
          (apply lxk_run 3;(· rfl);(· simp))
          refine lxk_end rfl ?_
          simp only [List.map_cons,List.map_nil,List.cons_append,List.nil_append]
          refine j_run it 1 rfl (by simp) ?_
          refine j_nf [.c (pL 255)] rfl ?_
          refine j_giv [] rfl rfl rfl ⟨rfl,rfl,rfl⟩
      · have hvr : valR C M B x = (false,[],[]):=if_neg hve
        refine j_run it 3 rfl (by simp) ?_
        refine j_step rfl (x_alloc zo34 fun b3=>?_)
        refine j_step rfl (x_bst_all 0 rfl rfl rfl ld34 rfl rfl (by simp [Value.oneCell']) ?_)
        refine j_run it 1 rfl (by simp) ?_
        refine j_nf [.o [1,1,1,1,0] 0,.c [1,1,1,1,1]] rfl ?_
        refine j_step rfl (x_bld_all 1 rfl rfl ld26 rfl ?_)
        refine j_run it 1 rfl (by simp) ?_
        refine j_step rfl (x_call [4,5,6,7] rfl (S_simplex_Value (by first|omega|exact side _ (by assumption)|assumption|rfl|(simp;done)|(simp;omega)) (by first|omega|exact side _ (by assumption)|assumption|rfl|(simp;done)|(simp;omega)) (by first|omega|exact side _ (by assumption)|assumption|rfl|(simp;done)|(simp;omega)) (by first|omega|exact side _ (by assumption)|assumption|rfl|(simp;done)|(simp;omega)) (by first|omega|exact side _ (by assumption)|assumption|rfl|(simp;done)|(simp;omega)) (by first|omega|exact side _ (by assumption)|assumption|rfl|(simp;done)|(simp;omega)) (by first|omega|exact side _ (by assumption)|assumption|rfl|(simp;done)|(simp;omega)) (by first|omega|exact side _ (by assumption)|assumption|rfl|(simp;done)|(simp;omega))) rfl ?_)
        rintro _ _ _ ⟨pn1,cn1,pd1,cd1,rfl,rfl,rfl⟩
        simp only [List.cons_append,List.nil_append]
        refine j_run it 3 rfl (by simp) ?_
        refine j_step rfl (x_alloc zo44 fun b4=>?_)
        refine j_step rfl (x_bst_all 0 rfl rfl rfl ld44 rfl rfl (by simp [Value.oneCell']) ?_)
        refine j_run it 1 rfl (by simp) ?_
        refine j_nf [.o (pL 252) 0,.c (pL 253),.c (pL 127)] rfl ?_
        refine j_step rfl (x_call [] rfl (c_codewrightlaw35_one) rfl ?_)
        rintro _ _ _ ⟨rfl,rfl,rfl⟩
        simp only [List.cons_append,List.nil_append]
        refine j_run it 5 rfl (by simp) ?_
        refine j_nf [.c (pL 253),.c (pL 127)] rfl ?_
        refine j_ifn rfl rfl (fun h4=>by exfalso;omega) (fun h4=>?_)
        refine j_nf [.c (pL 254),.c (pL 255)] rfl ?_
        (apply j_drawK it mx 22;(· rfl);(· rfl))
        (apply lxk_run 1;(· rfl);(· simp))
        (apply lxk_eq;(· rfl);(· exact d_x fun _=>x_trueN it rfl (by trivial) (by omega) dk_eq))
        (apply lxk_run 3;(· rfl);(· simp))
        (apply lxk_run 5;(· rfl);(· simp))
        (apply lxk_run 9;(· rfl);(· simp))
        (apply lxk_run 3;(· rfl);(· simp))
        refine lxk_end rfl ?_
        simp only [List.map_cons,List.map_nil,List.cons_append,List.nil_append]
        refine j_run it 1 rfl (by simp) ?_
        refine j_nf [.c (pL 255)] rfl ?_
        refine j_giv [] rfl rfl rfl ⟨rfl,rfl,rfl⟩
end Go.Proofs.Ythahejfpdhcpiaa
