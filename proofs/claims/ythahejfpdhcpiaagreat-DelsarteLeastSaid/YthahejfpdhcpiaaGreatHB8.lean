/-
The least bound: what the optimum of the program of the bound says. The program's Value and Accept. What accepted solutions say: weak duality, the lemma of Farkas, rays, slackness, one kind and one value. The document's inverse; points along a ray. Sure and Hamming of the document.
-/
import Derived.Test.YthahejfpdhcpiaaGreatHB7
set_option linter.unusedVariables false
set_option linter.unusedSimpArgs false
namespace Go.Proofs.YthahejfpdhcpiaaGreat
open Go Go.Fw
set_option maxRecDepth 100000
set_option linter.unusedVariables false
set_option linter.unusedSimpArgs false
set_option maxHeartbeats 4000000
theorem rs_head (n : Nat) (f : Nat → Rat) : rs (n + 1) f = f 0 + rs n (fun i=>f (i + 1)):=by
 induction n with
 | zero=>rw [rs,rs,rs];grind
 | succ n ih=>rw [rs,ih,rs];grind
theorem pgC_len (n d : Nat) : (pgC n d).length = n + 1 - d:=by simp [pgC]
theorem pgA_len (q n d : Nat) : (pgA q n d).length = n:=by simp [pgA]
theorem pgB_len (q n : Nat) : (pgB q n).length = n:=by simp [pgB]
theorem pgC_at {n d j : Nat} (h : j < n + 1 - d) : cvOf (pgC n d) j = 1:=by
 rw [cvOf_at (z:=rt 1) (by rw [pgC,List.getElem?_replicate,if_pos h])];exact vq_rt 1
theorem pgB_at {q n h : Nat} (hh : h < n) : cvOf (pgB q n) h = ((kr ((q : Int) - 1) n (h + 1) 0 : Int) : Rat):=by
 rw [cvOf_at (z:=rt ((kr ((q : Int) - 1) n (h + 1) 0 : Int) : Rat)) (by rw [pgB,List.getElem?_map,List.getElem?_range hh];rfl)];exact vq_rt _
theorem pgA_at {q n d h j : Nat} (hh : h < n) (hj : j < n + 1 - d) : mvOf (pgA q n d) h j = -((kr ((q : Int) - 1) n (h + 1) (d + j) : Int) : Rat):=by
 rw [mvOf,pgA,List.getD_eq_getElem?_getD,List.getElem?_map,List.getElem?_range hh]
 show cvOf (pgRow q n d h) j = _
 rw [cvOf_at (z:=rt (-((kr ((q : Int) - 1) n (h + 1) (d + j) : Int) : Rat))) (by rw [pgRow,List.getElem?_map,List.getElem?_range hj];rfl)];exact vq_rt _
theorem valF_head {q n x : Nat} {f : List Rt} (h : fQ f 0 = 1) : valF q n (fQ f) x = 1 + rs n (fun k=>fQ f (k + 1) * ((kr ((q : Int) - 1) n (k + 1) x : Int) : Rat)):=by
 rw [valF,rs_head,h,kr_zero,Rat.one_mul];rfl
theorem cert_pt {q n d : Nat} {g : List Rt} (hg : accP q n d g) {x u : Nat → Rat} (hx : ∀ j,j < n + 1 - d → 0 ≤ x j) (hu : ∀ h,h < n → rs (n + 1 - d) (fun j=>mvOf (pgA q n d) h j * x j) ≤ u h) : rs (n + 1 - d) (fun j=>x j) ≤ rs n (fun h=>fQ g (h + 1) * u h):=by
 obtain ⟨_,h0,hp,hv⟩:=hg
 have e1 : rs (n + 1 - d) (fun j=>x j) ≤ rs (n + 1 - d) (fun j=>x j * rs n (fun h=>fQ g (h + 1) * mvOf (pgA q n d) h j)):=rs_le fun j hj=>by
  have h1:=hv (d + j) (by omega) (by omega)
  rw [valF_head h0] at h1
  have h2 : rs n (fun h=>fQ g (h + 1) * mvOf (pgA q n d) h j) = -rs n (fun k=>fQ g (k + 1) * ((kr ((q : Int) - 1) n (k + 1) (d + j) : Int) : Rat)):=by
   have : -rs n (fun k=>fQ g (k + 1) * ((kr ((q : Int) - 1) n (k + 1) (d + j) : Int) : Rat)) = (-1) * rs n (fun k=>fQ g (k + 1) * ((kr ((q : Int) - 1) n (k + 1) (d + j) : Int) : Rat)):=by grind
   rw [this,← rs_mul]
   exact rs_congr fun h hh=>by rw [pgA_at hh hj];grind
  rw [h2]
  have h3:=hx j hj
  have h4:=Rat.mul_nonneg h3 (show 0 ≤ -rs n (fun k=>fQ g (k + 1) * ((kr ((q : Int) - 1) n (k + 1) (d + j) : Int) : Rat)) - 1 by grind)
  grind
 refine Rat.le_trans e1 ?_
 have e2 : rs (n + 1 - d) (fun j=>x j * rs n (fun h=>fQ g (h + 1) * mvOf (pgA q n d) h j)) = rs n (fun h=>fQ g (h + 1) * rs (n + 1 - d) (fun j=>mvOf (pgA q n d) h j * x j)):=by
  rw [rs_congr (g:=fun j=>rs n (fun h=>fQ g (h + 1) * (mvOf (pgA q n d) h j * x j))) fun j _=>by rw [← rs_mul];exact rs_congr fun h _=>by grind,rs_swap]
  exact rs_congr fun h _=>rs_mul _ _ _
 rw [e2]
 refine rs_le fun h hh=>?_
 have h1:=hu h hh
 have h2:=Rat.mul_nonneg (pos_at hp (h + 1)) (show 0 ≤ u h - rs (n + 1 - d) (fun j=>mvOf (pgA q n d) h j * x j) by grind)
 grind
def leastP (q n d : Nat) (f : List Rt) : Prop:=accP q n d f ∧ ∀ g,accP q n d g → valF q n (fQ f) 0 ≤ valF q n (fQ g) 0
theorem fQ_cons (y : Nat → Rat) {n h : Nat} (hh : h < n) : fQ (rt 1::rl n y) (h + 1) = y h:=by
 rw [fQ,List.getD_eq_getElem?_getD,List.getElem?_cons_succ,rl_get hh];exact vq_rt _
theorem bnd_least {q n d : Nat} {kind : Int} {X Y R : List Rt} (hq : 2 ≤ q) (h1 : 1 ≤ d) (h2 : d ≤ n) (s : SolR (n + 1 - d) n (mvOf (pgA q n d)) (cvOf (pgB q n)) (cvOf (pgC n d)) kind X Y R) : leastP q n d (rt 1::Y):=by
 cases s with
 | inf y y1 y2 y3 =>
  exfalso
  refine Rat.not_lt.2 ?_ y3
  have e : rs n (fun _=>(0 : Rat)) ≤ rs n (fun h=>cvOf (pgB q n) h * y h):=rs_le fun h hh=>by
   rw [pgB_at hh,kr_first]
   exact Rat.mul_nonneg (Rat.intCast_nonneg.2 (Int.mul_nonneg (by omega) (Int.pow_nonneg (by omega)))) (y1 h hh)
  rwa [rs_zero] at e
 | unb x r x1 x2 r1 r2 r3 =>
  exfalso
  have h:=cert_pt (sing_acc hq h1 h2).1 (u:=fun _=>0) r1 r2
  rw [rs_congr (g:=fun _=>0) fun h _=>Rat.mul_zero _,rs_zero] at h
  rw [rs_congr (g:=fun k=>r k) fun k hk=>by rw [pgC_at hk,Rat.one_mul]] at r3
  exact Rat.not_lt.2 h r3
 | opt x y x1 x2 y1 y2 v =>
  have f0 : fQ (rt 1::rl n y) 0 = 1:=vq_rt 1
  have val : ∀ i,valF q n (fQ (rt 1::rl n y)) i = 1 + rs n (fun k=>y k * ((kr ((q : Int) - 1) n (k + 1) i : Int) : Rat)):=fun i=>by
   rw [valF_head f0,rs_congr fun k hk=>by rw [fQ_cons y hk]]
  refine ⟨⟨by simp [rl],f0,?_,fun i hi hin=>?_⟩,fun g hg=>?_⟩
  ·rw [posB,List.all_eq_true]
   intro r hr
   refine decide_eq_true ?_
   rcases List.mem_cons.1 hr with rfl | hr
   ·rw [vq_rt];decide
   ·obtain ⟨k,hk,rfl⟩:=List.mem_map.1 hr
    rw [vq_rt];exact y1 k (List.mem_range.1 hk)
  ·obtain ⟨j,rfl⟩ : ∃ j,i = d + j:=⟨i - d,by omega⟩
   have h:=y2 j (by omega)
   rw [pgC_at (by omega)] at h
   rw [val]
   have e : rs n (fun h=>y h * mvOf (pgA q n d) h j) = (-1) * rs n (fun k=>y k * ((kr ((q : Int) - 1) n (k + 1) (d + j) : Int) : Rat)):=by
    rw [← rs_mul]
    exact rs_congr fun h hh=>by rw [pgA_at hh (by omega)];grind
   rw [e] at h
   grind
  ·have h:=cert_pt hg x1 x2
   rw [rs_congr (g:=fun k=>x k) fun k hk=>by rw [pgC_at hk,Rat.one_mul]] at v
   rw [val,valF_head hg.2.1]
   rw [v] at h
   rw [rs_congr (g:=fun k=>y k * ((kr ((q : Int) - 1) n (k + 1) 0 : Int) : Rat)) fun k hk=>by rw [pgB_at hk,Rat.mul_comm],rs_congr (n:=n) (f:=fun h=>fQ g (h + 1) * cvOf (pgB q n) h) (g:=fun k=>fQ g (k + 1) * ((kr ((q : Int) - 1) n (k + 1) 0 : Int) : Rat)) fun k hk=>by rw [pgB_at hk]] at h
   grind
theorem kr_small {q n k x : Nat} (hq : 2 ≤ q) (hq2 : q ≤ 256) (hn : n ≤ 8) (hx : x ≤ n) : (kr ((q : Int) - 1) n k x).natAbs < 4294967296 ^ 3:=by
 have h:=kr_abs (a:=(q : Int) - 1) (A:=255) (by omega) (by decide) hx k
 have h2 : (255 + 1) ^ n ≤ (255 + 1) ^ 8:=Nat.pow_le_pow_right (by decide) hn
 have h3 : (255 + 1) ^ 8 < 4294967296 ^ 3:=by decide
 omega
theorem kr_okS {q n k x : Nat} (hq : 2 ≤ q) (hq2 : q ≤ 256) (hn : n ≤ 8) (hx : x ≤ n) : okR 3 (rt ((kr ((q : Int) - 1) n k x : Int) : Rat)):=by
 obtain ⟨h1,h2⟩:=rt_int_len (kr_small (k:=k) hq hq2 hn hx)
 exact ⟨limbs_lt _,limbs_lt _,h1,by omega⟩
theorem kr_okN {q n k x : Nat} (hq : 2 ≤ q) (hq2 : q ≤ 256) (hn : n ≤ 8) (hx : x ≤ n) : okR 3 (rt (-((kr ((q : Int) - 1) n k x : Int) : Rat))):=by
 have h:=kr_small (k:=k) hq hq2 hn hx
 obtain ⟨h1,h2⟩:=rt_int_len (z:=-kr ((q : Int) - 1) n k x) (m:=3) (by omega)
 rw [Rat.intCast_neg] at h1 h2
 exact ⟨limbs_lt _,limbs_lt _,h1,by omega⟩
theorem pgC_ok {n d : Nat} : ∀ r ∈ pgC n d,okR 3 r:=fun r hr=>by
 rw [(List.mem_replicate.1 hr).2]
 exact okR_rt (bd_one (by decide))
theorem pgB_ok {q n : Nat} (hq : 2 ≤ q) (hq2 : q ≤ 256) (hn : n ≤ 8) : ∀ r ∈ pgB q n,okR 3 r:=fun r hr=>by
 obtain ⟨k,_,rfl⟩:=List.mem_map.1 hr
 exact kr_okS hq hq2 hn (Nat.zero_le _)
theorem pgA_ok {q n d : Nat} (hq : 2 ≤ q) (hq2 : q ≤ 256) (hn : n ≤ 8) (h2 : d ≤ n) : ∀ row ∈ pgA q n d,row.length = (pgC n d).length ∧ ∀ r ∈ row,okR 3 r:=fun row hrow=>by
 obtain ⟨k,_,rfl⟩:=List.mem_map.1 hrow
 refine ⟨by simp [pgRow,pgC],fun r hr=>?_⟩
 obtain ⟨i,hi,rfl⟩:=List.mem_map.1 hr
 exact kr_okN hq hq2 hn (by have:=List.mem_range.1 hi;omega)
abbrev BoundE (q n d : Nat) : Value → List Fact → List Blk → Prop:=fun v Φ β=>∃ (f : List Rt) (r : Rt) (pn : Option Addr) (cn : Nat) (pd : Option Addr) (cd : Nat) (pf : Option Addr) (cf : Nat),leastP q n d f ∧ r = rt (valF q n (fQ f) 0) ∧ (∀ x ∈ f,okR 250000 x) ∧
 v = .tuple #[.agg #[.bool r.1,.slice pn r.2.1.length cn,.slice pd r.2.2.length cd],.slice pf (n + 1) cf,.int .i64 0] ∧ Φ = [slF U32 pn r.2.1.length cn r.2.1,slF U32 pd r.2.2.length cd r.2.2,slF RatE pf (n + 1) cf f] ∧ β = []
theorem S_delsarte_Bound {q n d : Nat} (hq : 2 ≤ q) (hq2 : q ≤ 256) (hn : n ≤ 8) (h5 : 1 ≤ d) (h6 : d ≤ n) : Ctr Tryz.prog 6 [.int .i64 q,.int .i64 n,.int .i64 d] [] [] (BoundE q n d):=by
 refine Ctr_of_j' (F:=F_delsarte_Bound) rfl fun Cx=>?_
 have hn64 : n ≤ 64:=by omega
 have l1:=pgC_len n d
 have l2:=pgA_len q n d
 have l3:=pgB_len q n
 have hc : checkOf (pgC n d,pgA q n d,pgB q n) = 0:=by
  rw [checkOf,if_neg (by simp only [l1,l2,l3];omega),if_neg (by simp only [l2,l3,ne_eq,not_true];exact fun h=>h),if_pos]
  rw [List.all_eq_true]
  intro row hr
  rw [(pgA_ok hq hq2 hn h6 row hr).1]
  exact beq_self_eq_true _
 have hsz : szP' 3 (pgA q n d).length ≤ 250000:=Nat.le_trans (szP'_mono (e:=8) (by omega)) (by decide)
 have c_simplex_Solve:=fun {p1 pM p3 : Option Addr} {c1 c2 c3 : Nat}=>S_simplex_Solve (p1:=p1) (pM:=pM) (p3:=p3) (c1:=c1) (c2:=c2) (c3:=c3) (K:=3) (C:=pgC n d) (B:=pgB q n) (M:=pgA q n d) hc (by omega) (by omega) (by omega) (by decide) (by decide) (by omega) pgC_ok (pgB_ok hq hq2 hn) (pgA_ok hq hq2 hn h6)
 refine j_nf [_,_] rfl ?_
 refine j_step rfl (x_alloc zo26 fun b1=>?_)
 refine j_run it 2 rfl (by simp) ?_
 refine j_nf [_,_] rfl ?_
 refine j_run it 3 rfl (by simp) ?_
 refine j_step rfl (x_call [] rfl (S_delsarte_Program (by omega) (by omega) (by omega) (by omega) (by omega)) rfl ?_)
 rintro _ _ _ ⟨p11,c11,p21,c21,p31,c31,rfl,rfl,rfl⟩
 simp only [List.cons_append,List.nil_append]
 refine j_run it 3 rfl (by simp) ?_
 refine j_step rfl (x_alloc zo41 fun b2=>?_)
 refine j_step rfl (x_bst_all 0 rfl rfl rfl ld41 rfl rfl (by simp [Value.oneCell']) ?_)
 refine j_run it 1 rfl (by simp) ?_
 refine j_nf [_,_,_] rfl ?_
 refine j_run it 2 rfl (by simp) ?_
 refine j_nf [_,_] rfl ?_
 refine j_ifn rfl rfl (fun h1=>by exfalso;omega) (fun h1=>?_)
 refine j_nf [_,_] rfl ?_
 refine j_step rfl (x_bld_all 0 rfl rfl ld41 rfl ?_)
 refine j_step rfl (x_call [0,1,2] rfl (c_simplex_Solve) rfl ?_)
 rintro _ _ _ ⟨k1,X1,Y1,R1,px1,nx1,cx1,py1,ny1,cy1,pr1,nr1,cr1,rfl,h2,h3,rfl,rfl⟩
 simp only [List.cons_append,List.nil_append]
 simp only [decide_true]
 have hs : SolR (n + 1 - d) n (mvOf (pgA q n d)) (cvOf (pgB q n)) (cvOf (pgC n d)) k1 X1 Y1 R1:=by
  have h:=h2
  rwa [l1,l2] at h
 have hL:=bnd_least hq h5 h6 hs
 refine j_len 1 rfl fun e5 _ _=>?_
 have hf:=hL.1.1
 rw [List.length_cons] at hf
 obtain rfl : ny1 = n:=by omega
 rw [rt_one] at hL
 have hr : rangeP (q : Int) (ny1 : Int) (d : Int):=⟨by omega,by omega,by omega,by omega,by omega,by omega⟩
 obtain ⟨eE,eR⟩:=dac_nat hr ((false,[1],[1])::Y1)
 obtain ⟨g1,g2⟩:=accD_yes hL.1
 rw [g1] at eE
 rw [g2] at eR
 have oF : ∀ r ∈ (((false,[1],[1]) : Rt)::Y1),okR 250000 r:=fun r hr=>by
  rcases List.mem_cons.1 hr with rfl | hr
  ·rw [← rt_one];exact okR_rt (bd_one (by decide))
  ·exact ok_mono (h3 r (List.mem_append_right _ (List.mem_append_left _ hr))) hsz
 have c_delsarte_Accept:=fun {pa : Option Addr} {ca : Nat}=>S_delsarte_AcceptN (q:=(q : Int)) (n:=(ny1 : Int)) (d:=(d : Int)) (pa:=pa) (nf:=1 + ny1) (ca:=ca) (K:=250000) (f:=(false,[1],[1])::Y1) (by decide) (by decide) (fun _=>by rw [Int.toNat_natCast];omega) oF eR eE
 refine j_run it 3 rfl (by simp) ?_
 refine j_step rfl (x_alloc zo45 fun b3=>?_)
 refine j_step rfl (x_bst_all 0 rfl rfl rfl ld45 rfl rfl (by simp [Value.oneCell']) ?_)
 refine j_run it 1 rfl (by simp) ?_
 refine j_nf [_,_,_] rfl ?_
 refine j_run it 2 rfl (by simp) ?_
 refine j_nf [_,_] rfl ?_
 refine j_ifn rfl rfl (fun h4=>by exfalso;omega) (fun h4=>?_)
 refine j_nf [_,_] rfl ?_
 (apply j_drawKB it mx 0 5;(· rfl);(· rfl);(· rfl))
 (apply lxk_rq;(· rfl);(· exact d_x fun _=>x_call [] rfl (S_delsarte_one) rfl (by rintro _ _ _ ⟨pn1,cn1,pd1,cd1,rfl,rfl,rfl⟩;exact (dk_rq 0 1 rfl rfl)));intro pn1 cn1 pd1 cd1)
 (apply lxk_slL;(· rfl);(· exact d_x fun _=>x_lit sl27 zo27e rfl rfl rfl rfl (by decide) (by decide) rfl fun b4=>dk_L (dk_all (E:=RatE) [[Value.bool (false,[1],[1]).fst,Value.slice pn1 (false,[1],[1]).snd.fst.length cn1,Value.slice pd1 (false,[1],[1]).snd.snd.length cd1]] [((false,[1],[1]).fst,(false,[1],[1]).snd.fst,(false,[1],[1]).snd.snd)] (fun w A hG=>(allrd_cons (rd_rt (hG _ (fact_mem (n:=0) rfl)) (hG _ (fact_mem (n:=1) rfl))) allrd_nil)) rfl rfl rfl (by first | decide | exact Nat.le_of_ble_eq_true rfl)));intro pa1)
 (apply lxk_eq;(· rfl);(· exact d_x fun _=>x_field rfl fd45_2 dk_eq))
 (apply lxk_eq;(· rfl);(· exact d_bld 0 rfl rfl ld27 rfl))
 (apply lxk_appLi 0 4;(· rfl);(· rfl);(· rfl);(· rfl);(· rfl);(· exact sl27);(· exact zo27e);(· rfl);(· (first | omega | (simp only [List.length_cons,List.length_nil];omega)));(· exact by27e);(· (first | omega | (simp only [List.length_cons,List.length_nil];omega)));intro pa2 cap1 b4 cs1)
 refine lxk_endB rfl ?_
 (rotate_left;rfl;rotate_right)
 simp only [List.append_nil,List.append_assoc,List.map_cons,List.map_nil,List.cons_append,List.nil_append,List.drop_zero]
 (refine j_pubZ 0 0 (by first | rfl | exact (List.append_nil _).symm) rfl (by show (1 + ny1) * 56 ≤ 140737488355328;omega) ?_;simp only [List.take_succ_cons,List.take_zero,List.cons_append,List.nil_append,List.append_nil])
 refine j_run it 1 rfl (by simp) ?_
 refine j_nf [_,_] rfl ?_
 refine j_run it 4 rfl (by simp) ?_
 refine j_step rfl (x_call [0] rfl (c_delsarte_Accept) rfl ?_)
 rintro _ _ _ ⟨pn2,cn2,pd2,cd2,rfl,rfl,rfl⟩
 simp only [List.cons_append,List.nil_append]
 simp only [decide_true]
 refine j_run it 3 rfl (by simp) ?_
 refine j_step rfl (x_alloc zo26 fun b5=>?_)
 refine j_step rfl (x_bst_all 0 rfl rfl rfl ld26 rfl rfl (by simp [Value.oneCell']) ?_)
 refine j_run it 1 rfl (by simp) ?_
 refine j_nf [_,_,_] rfl ?_
 refine j_run it 2 rfl (by simp) ?_
 refine j_nf [_,_] rfl ?_
 refine j_ifn rfl rfl (fun h7=>by exfalso;omega) (fun h7=>?_)
 refine j_nf [_,_] rfl ?_
 refine j_step rfl (x_bld_all 0 rfl rfl ld26 rfl ?_)
 refine j_run it 1 rfl (by simp) ?_
 refine j_step rfl (x_bst_all 3 rfl rfl rfl ld26 rfl rfl (by simp [Value.oneCell']) ?_)
 refine j_run it 2 rfl (by simp) ?_
 refine j_nf [_] rfl ?_
 rw [Nat.add_comm 1 ny1]
 refine j_givC [0,1,2] rfl (.agg 3 rfl rfl ld26 rfl (.tmp rfl (.tmp rfl .nil))) rfl ⟨(false,[1],[1])::Y1,_,_,_,_,_,_,_,hL,rfl,oF,rfl,rfl,rfl⟩
section
variable {kind : Int} {C B X Y R : List Rt} {M : List (List Rt)}
end
open Go Go.Fw
set_option maxRecDepth 100000
set_option linter.unusedVariables false
set_option linter.unusedSimpArgs false
set_option maxHeartbeats 4000000
end Go.Proofs.YthahejfpdhcpiaaGreat
