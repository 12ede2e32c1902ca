/-
The program's Distances. The distances of a linear code are its weights.
-/
import Derived.Test.YtlelanmgijhjfaaLinear4
set_option linter.unusedVariables false
set_option linter.unusedSimpArgs false
namespace Go.Proofs.Ytlelanmgijhjfaa
open Go Go.Fw
set_option maxRecDepth 100000
set_option linter.unusedVariables false
set_option linter.unusedSimpArgs false
set_option maxHeartbeats 4000000
def disR (W : List (List Int)) (n : Nat) : List Rt:=(List.range (n + 1)).map fun d=>rt (mkRat ((cntN W W.length 0 d : Nat) : Int) W.length)
def disL (q : Int) (W : List (List Int)) : List Rt:=if wordsE q W = 0 then disR W (W.getD 0 default).length else []
theorem S_delsarte_Distances {q : Int} {pa : Option Addr} {n ca : Nat} {W : List (List Int)} (hW : W.length ≤ 1000) {L : List Rt} {e : Int} (hL : disL q W = L) (he : wordsE q W = e) : Ctr Try.prog 27 [.int .i64 q,.slice pa n ca] [] [slF (encSl I64) pa n ca W] (SvE RatE L.length L e):=by
 subst hL;subst he
 refine Ctr_of_j' (F:=F_delsarte_Distances) rfl fun C=>?_
 refine j_len 0 rfl fun hn hb _=>?_
 subst hn
 have bad : ∀ {e : Int},wordsE q W = e → e ≠ 0 → disL q W = []:=fun h h2=>if_neg (by rw [h];exact h2)
 by_cases h1 : q < 2 ∨ 256 < q
 ·have e : wordsE q W = 6:=if_pos h1
  rw [bad e (by decide),e]
  by_cases h2 : q < 2
  ·refine j_nf [_,_] rfl ?_
   refine j_run it 2 rfl (by simp) ?_
   refine j_nf [_,_,_,_] rfl ?_
   refine j_run it 3 rfl (by simp) ?_
   refine j_split_dec (t:=26) rfl (fun h3=>?_) (fun h3=>by exfalso;omega)
   refine j_run it 4 rfl (by simp) ?_
   refine j_nf [_,_,_] rfl ?_
   refine j_true rfl rfl ?_
   refine j_nf [_,_,_,_] rfl ?_
   refine j_run it 2 rfl (by simp) ?_
   refine j_nf [_,_,_] rfl ?_
   refine j_add (slF RatE none 0 0 []) (fun w A _=>slF_nil _ _ _ _ _) ?_
   refine j_giv [0] rfl rfl rfl ⟨_,_,rfl,rfl,rfl⟩
  ·refine j_nf [_,_] rfl ?_
   refine j_run it 2 rfl (by simp) ?_
   refine j_nf [_,_,_,_] rfl ?_
   refine j_run it 3 rfl (by simp) ?_
   refine j_split_dec (t:=26) rfl (fun h3=>by exfalso;omega) (fun h3=>?_)
   refine j_run it 4 rfl (by simp) ?_
   refine j_nf [_,_,_] rfl ?_
   refine j_if rfl rfl (fun h4=>?_) (fun h4=>by exfalso;omega)
   refine j_nf [_,_,_,_] rfl ?_
   refine j_run it 2 rfl (by simp) ?_
   refine j_nf [_,_,_] rfl ?_
   refine j_add (slF RatE none 0 0 []) (fun w A _=>slF_nil _ _ _ _ _) ?_
   refine j_giv [0] rfl rfl rfl ⟨_,_,rfl,rfl,rfl⟩
 by_cases h2 : W.length = 0
 ·have e : wordsE q W = 11:=by rw [wordsE,if_neg h1,if_pos h2]
  rw [bad e (by decide),e]
  refine j_nf [_,_] rfl ?_
  refine j_run it 2 rfl (by simp) ?_
  refine j_nf [_,_,_,_] rfl ?_
  refine j_run it 3 rfl (by simp) ?_
  refine j_split_dec (t:=26) rfl (fun h3=>by exfalso;omega) (fun h3=>?_)
  refine j_run it 4 rfl (by simp) ?_
  refine j_nf [_,_,_] rfl ?_
  refine j_if rfl rfl (fun h4=>by exfalso;omega) (fun h4=>?_)
  refine j_nf [_,_,_,_] rfl ?_
  refine j_run it 1 rfl (by simp) ?_
  refine j_step rfl (x_len sl25 rfl ?_)
  refine j_run it 2 rfl (by simp) ?_
  refine j_nf [_,_,_] rfl ?_
  refine j_if rfl rfl (fun h5=>?_) (fun h5=>by exfalso;omega)
  refine j_nf [_,_,_,_] rfl ?_
  refine j_run it 2 rfl (by simp) ?_
  refine j_nf [_,_,_] rfl ?_
  refine j_add (slF RatE none 0 0 []) (fun w A _=>slF_nil _ _ _ _ _) ?_
  refine j_giv [0] rfl rfl rfl ⟨_,_,rfl,rfl,rfl⟩
 have h0 : 0 < W.length:=by omega
 have hz0 : W[0]? = some (W.getD 0 default):=getD_at h0
 refine j_nf [_,_] rfl ?_
 refine j_run it 2 rfl (by simp) ?_
 refine j_nf [_,_,_,_] rfl ?_
 refine j_run it 3 rfl (by simp) ?_
 refine j_split_dec (t:=26) rfl (fun h3=>by exfalso;omega) (fun h3=>?_)
 refine j_run it 4 rfl (by simp) ?_
 refine j_nf [_,_,_] rfl ?_
 refine j_if rfl rfl (fun h4=>by exfalso;omega) (fun h4=>?_)
 refine j_nf [_,_,_,_] rfl ?_
 refine j_run it 1 rfl (by simp) ?_
 refine j_step rfl (x_len sl25 rfl ?_)
 refine j_run it 2 rfl (by simp) ?_
 refine j_nf [_,_,_] rfl ?_
 refine j_if rfl rfl (fun h5=>by exfalso;omega) (fun h5=>?_)
 refine j_nf [_,_,_,_] rfl ?_
 refine j_run it 1 rfl (by simp) ?_
 refine j_step rfl (x_idx 0 0 rfl rfl rfl sl25 (by omega) (by omega) fun z1 hz1 b1 o1=>?_)
 refine j_step rfl (x_ld_sl 0 rfl rfl ld22 fun pa1 ca1=>?_)
 refine j_step rfl (x_len sl22 rfl ?_)
 refine j_run it 2 rfl (by simp) ?_
 refine j_split_dec (t:=40) rfl (fun h6=>?_) (fun h6=>?_)
 ·obtain rfl : z1 = W.getD 0 default:=Option.some.inj (hz1.symm.trans hz0)
  have e : wordsE q W = 4:=by rw [wordsE,if_neg h1,if_neg h2,if_pos (.inl (by omega))]
  rw [bad e (by decide),e]
  refine j_run it 7 rfl (by simp) ?_
  refine j_nf [_,_,_] rfl ?_
  refine j_true rfl rfl ?_
  refine j_nf [_,_,_,_] rfl ?_
  refine j_run it 2 rfl (by simp) ?_
  refine j_nf [_,_,_] rfl ?_
  refine j_add (slF RatE none 0 0 []) (fun w A _=>slF_nil _ _ _ _ _) ?_
  refine j_giv [0] rfl rfl rfl ⟨_,_,rfl,rfl,rfl⟩
 ·obtain rfl : z1 = W.getD 0 default:=Option.some.inj (hz1.symm.trans hz0)
  refine j_run it 1 rfl (by simp) ?_
  refine j_gstep rfl rfl (x_idx 2 0 rfl rfl rfl sl25 (by omega) (by omega) fun z1 hz2 b2 o2=>?_)
  refine j_gstep rfl rfl (x_ld_sl 0 rfl rfl ld22 fun pa2 ca2=>?_)
  refine j_gstep rfl rfl (x_len sl22 rfl ?_)
  refine j_run it 3 rfl (by simp) ?_
  refine j_nf [_,_,_] rfl ?_
  refine j_if rfl rfl (fun h7=>?_) (fun h7=>?_)
  ·obtain rfl : z1 = W.getD 0 default:=Option.some.inj (hz2.symm.trans hz0)
   have e : wordsE q W = 4:=by rw [wordsE,if_neg h1,if_neg h2,if_pos (.inr (by omega))]
   rw [bad e (by decide),e]
   refine j_nf [_,_,_,_] rfl ?_
   refine j_run it 2 rfl (by simp) ?_
   refine j_nf [_,_,_] rfl ?_
   refine j_add (slF RatE none 0 0 []) (fun w A _=>slF_nil _ _ _ _ _) ?_
   refine j_giv [0] rfl rfl rfl ⟨_,_,rfl,rfl,rfl⟩
  ·obtain rfl : z1 = W.getD 0 default:=Option.some.inj (hz2.symm.trans hz0)
   have eS : wordsE q W = scanW q (W.getD 0 default).length W:=by rw [wordsE,if_neg h1,if_neg h2,if_neg (by omega)]
   have hl1 : ¬ (W.getD 0 default).length < 1:=by omega
   have hl2 : (W.getD 0 default).length ≤ 64:=by omega
   refine j_nf [_,_] rfl ?_
   refine j_run it 1 rfl (by simp) ?_
   refine j_step rfl (x_idx 4 0 rfl rfl rfl sl25 (by omega) (by omega) fun z1 hz3 b3 o3=>?_)
   refine j_step rfl (x_ld_sl 0 rfl rfl ld22 fun pa3 ca3=>?_)
   refine j_step rfl (x_len sl22 rfl ?_)
   refine j_run it 1 rfl (by simp) ?_
   refine j_nf [_,_,_] rfl ?_
   refine j_run it 1 rfl (by simp) ?_
   refine j_step rfl (x_len sl25 rfl ?_)
   refine j_run it 1 rfl (by simp) ?_
   refine j_nf [_,_,_] rfl ?_
   obtain rfl : z1 = W.getD 0 default:=Option.some.inj (hz3.symm.trans hz0)
   refine j_loopG (X:=Nat) [0,1,6,51,52] [0,1,2,3,4,5,6] (fun k=>[(53,.int .i64 k)]) (fun _=>[]) (fun _=>[]) (fun k=>k ≤ W.length ∧ scanW q (W.getD 0 default).length (W.take k) = 0) (fun k=>W.length - k) 0 [] rfl rfl rfl ⟨Nat.zero_le _,rfl⟩ (by repeat (first | exact Fr.sub_nil _ | refine Fr.sub_cons rfl ?_)) rfl rfl ?_
   rintro k ⟨hk,hp⟩ ih
   simp only [List.cons_append,List.nil_append] at hk hp ih ⊢
   by_cases hkl : k < W.length
   ·have hzk:=getD_at hkl
    refine j_nf [_,_,_,_,_] rfl ?_
    refine j_run it 1 rfl (by simp) ?_
    refine j_nf [_,_,_,_,_] rfl ?_
    refine j_if rfl rfl (fun h8=>?_) (fun h8=>by exfalso;omega)
    refine j_nf [_,_,_,_,_,_,_] rfl ?_
    refine j_step rfl (x_idx 6 (k) rfl rfl rfl sl25 rfl (by omega) fun z1 hz4 b4 o4=>?_)
    refine j_step rfl (x_ld_sl 0 rfl rfl ld22 fun pa4 ca4=>?_)
    refine j_run it 1 rfl (by simp) ?_
    refine j_nf [_,_,_,_,_,_,_,_] rfl ?_
    refine j_run it 1 rfl (by simp) ?_
    refine j_step rfl (x_len sl22 rfl ?_)
    refine j_run it 2 rfl (by simp) ?_
    refine j_nf [_,_,_,_,_,_,_] rfl ?_
    refine j_ifn rfl rfl (fun h9=>?_) (fun h9=>?_)
    ·obtain rfl : z1 = W.getD k default:=Option.some.inj (hz4.symm.trans hzk)
     have hl : (W.getD k default).length ≠ (W.getD 0 default).length:=by omega
     have e : wordsE q W = 3:=by rw [eS];exact scan_shape hzk hp hl
     rw [bad e (by decide),e]
     refine j_nf [_,_,_,_,_,_,_,_] rfl ?_
     refine j_run it 2 rfl (by simp) ?_
     refine j_nf [_,_,_,_,_,_,_] rfl ?_
     refine j_add (slF RatE none 0 0 []) (fun w A _=>slF_nil _ _ _ _ _) ?_
     refine j_giv [0] rfl rfl rfl ⟨_,_,rfl,rfl,rfl⟩
    ·obtain rfl : z1 = W.getD k default:=Option.some.inj (hz4.symm.trans hzk)
     have hl : (W.getD k default).length = (W.getD 0 default).length:=by omega
     refine j_nf [_,_,_,_,_,_,_] rfl ?_
     refine j_run it 1 rfl (by simp) ?_
     refine j_step rfl (x_len sl22 rfl ?_)
     refine j_run it 1 rfl (by simp) ?_
     refine j_nf [_,_,_,_,_,_,_] rfl ?_
     refine j_loopG (X:=Nat) [0,1,6,8,51,52,53,54,55,56,57,58,59,60,61,62] [0,1,2,3,4,5,6,7,8] (fun j=>[(63,.int .i64 j)]) (fun _=>[]) (fun _=>[]) (fun j=>j ≤ (W.getD k default).length ∧ okW q ((W.getD k default).take j) = true) (fun j=>(W.getD k default).length - j) 0 [] rfl rfl rfl ⟨Nat.zero_le _,rfl⟩ (by repeat (first | exact Fr.sub_nil _ | refine Fr.sub_cons rfl ?_)) rfl rfl ?_
     rintro j ⟨hj,hq⟩ ihj
     simp only [List.cons_append,List.nil_append] at hj hq ihj ⊢
     by_cases hjl : j < (W.getD k default).length
     ·refine j_nf [_,_,_,_,_,_,_,_,_] rfl ?_
      refine j_run it 1 rfl (by simp) ?_
      refine j_nf [_,_,_,_,_,_,_,_,_] rfl ?_
      refine j_if rfl rfl (fun h10=>?_) (fun h10=>by exfalso;omega)
      refine j_nf [_,_,_,_,_,_,_,_,_,_,_] rfl ?_
      refine j_step rfl (x_idx 0 (j) rfl rfl rfl sl22 rfl (by omega) fun z1 hz5 b5 o5=>?_)
      refine j_step rfl (x_ld_int 0 rfl rfl ld3 fun ⟨r1,r2⟩=>?_)
      refine j_run it 1 rfl (by simp) ?_
      refine j_nf [_,_,_,_,_,_,_,_,_,_,_] rfl ?_
      refine j_run it 3 rfl (by simp) ?_
      refine j_split_dec (t:=69) rfl (fun h11=>?_) (fun h11=>?_)
      ·have e : wordsE q W = 2:=by rw [eS];exact scan_elem hzk hp hl (okW_stop hz5 (by omega))
       rw [bad e (by decide),e]
       refine j_run it 4 rfl (by simp) ?_
       refine j_nf [_,_,_,_,_,_,_,_,_,_] rfl ?_
       refine j_true rfl rfl ?_
       refine j_nf [_,_,_,_,_,_,_,_,_,_,_] rfl ?_
       refine j_run it 2 rfl (by simp) ?_
       refine j_nf [_,_,_,_,_,_,_,_,_,_] rfl ?_
       refine j_add (slF RatE none 0 0 []) (fun w A _=>slF_nil _ _ _ _ _) ?_
       refine j_giv [0] rfl rfl rfl ⟨_,_,rfl,rfl,rfl⟩
      ·refine j_run it 4 rfl (by simp) ?_
       refine j_nf [_,_,_,_,_,_,_,_,_,_] rfl ?_
       refine j_if rfl rfl (fun h12=>?_) (fun h12=>?_)
       ·have e : wordsE q W = 2:=by rw [eS];exact scan_elem hzk hp hl (okW_stop hz5 (by omega))
        rw [bad e (by decide),e]
        refine j_nf [_,_,_,_,_,_,_,_,_,_,_] rfl ?_
        refine j_run it 2 rfl (by simp) ?_
        refine j_nf [_,_,_,_,_,_,_,_,_,_] rfl ?_
        refine j_add (slF RatE none 0 0 []) (fun w A _=>slF_nil _ _ _ _ _) ?_
        refine j_giv [0] rfl rfl rfl ⟨_,_,rfl,rfl,rfl⟩
       ·refine j_nf [_,_,_,_,_,_,_,_] rfl ?_
        refine j_run it 2 rfl ⟨trivial,⟨by omega,by omega⟩,trivial⟩ ?_
        refine j_nfn 1 [.lp (pL 125340),.blk 3,.blk 2,.c (pL 1959),.lp (pL 244),.blk 1,.c [1,1,1,1]] rfl ?_
        refine j_to [1,2,3,4,5,6,7,8,9] (by exact fra rfl) rfl rfl (ihj (j + 1) (by omega) ⟨by omega,okW_step hz5 hq (by omega)⟩)
     ·have ej : j = (W.getD k default).length:=by omega
      subst ej
      rw [List.take_length] at hq
      refine j_nf [_,_,_,_,_,_,_,_,_] rfl ?_
      refine j_run it 1 rfl (by simp) ?_
      refine j_nf [_,_,_,_,_,_,_,_,_] rfl ?_
      refine j_if rfl rfl (fun h10=>by exfalso;omega) (fun h10=>?_)
      refine j_nf [_,_,_,_] rfl ?_
      refine j_run it 2 rfl ⟨trivial,⟨by omega,by omega⟩,trivial⟩ ?_
      refine j_nfn 1 [.lp (pL 244),.blk 1,.c [1,1,1,1]] rfl ?_
      refine j_to [2,3,4,5,6,7,8] (by exact fra rfl) rfl rfl (ih (k + 1) (by omega) ⟨by omega,scan_step hzk hp hl hq⟩)
   ·obtain rfl : W.length = k:=by omega
    rw [List.take_length] at hp
    have hok:=scan_all hp
    have e : wordsE q W = 0:=eS.trans hp
    rw [disL,if_pos e,e]
    refine j_nf [_,_,_,_,_] rfl ?_
    refine j_run it 1 rfl (by simp) ?_
    refine j_nf [_,_,_,_,_] rfl ?_
    refine j_if rfl rfl (fun h8=>by exfalso;omega) (fun h8=>?_)
    refine j_nf [_,_] rfl ?_
    refine j_run it 2 rfl ⟨⟨by omega,by omega⟩,trivial,trivial⟩ ?_
    refine j_step rfl (x_make_nat (((W.getD 0 default).length) + 1) _ rfl rfl sl22 zo22e by22e (by omega) (by omega) (by omega) fun b4=>?_)
    refine j_run it 1 rfl (by simp) ?_
    refine j_nf [_,_,_] rfl ?_
    refine j_run it 1 rfl (by simp) ?_
    refine j_step rfl (x_len sl25 rfl ?_)
    refine j_run it 1 rfl (by simp) ?_
    refine j_nf [_,_,_] rfl ?_
    have hw : ∀ i,i < W.length → (wAt W i).length = (W.getD 0 default).length:=fun i hi=>(hok _ (List.mem_of_getElem? (getD_at hi))).1
    generalize hm : (W.getD 0 default).length = m at *
    have hrep : List.replicate (m + 1) 0 = (List.range (m + 1)).map (cntN W 0 0):=by
     refine List.ext_getElem? fun d=>?_
     by_cases hd : d < m + 1
     ·rw [List.getElem?_replicate,if_pos hd,List.getElem?_map,List.getElem?_range hd]
      show some 0 = some _
      rw [cntN_zero]
     ·rw [List.getElem?_eq_none (by simp;omega),List.getElem?_eq_none (by simp;omega)]
    rw [hrep]
    clear ih
    refine j_loopG (X:=Nat) [1,11,79,80] [0,1,2,3,4,5,6] (fun i=>[(81,.int .i64 i)]) (fun i=>[(some b4,3,natCells .i64 ((List.range (m + 1)).map (cntN W i 0)))]) (fun _=>[]) (fun i=>i ≤ W.length) (fun i=>W.length - i) 0 [] rfl rfl rfl (Nat.zero_le _) (by repeat (first | exact Fr.sub_nil _ | refine Fr.sub_cons rfl ?_)) rfl rfl ?_
    intro i hi ih
    simp only [List.cons_append,List.nil_append] at ih ⊢
    by_cases hil : i < W.length
    ·refine j_nf [_,_,_,_,_] rfl ?_
     refine j_run it 1 rfl (by simp) ?_
     refine j_nf [_,_,_,_,_] rfl ?_
     refine j_if rfl rfl (fun h9=>?_) (fun h9=>by exfalso;omega)
     refine j_nf [_,_,_,_,_,_,_] rfl ?_
     refine j_step rfl (x_idx 6 (i) rfl rfl rfl sl25 rfl (by omega) fun z1 hz4 b5 o4=>?_)
     refine j_step rfl (x_ld_sl 0 rfl rfl ld22 fun pa4 ca4=>?_)
     refine j_run it 1 rfl (by simp) ?_
     refine j_nf [_,_,_,_,_,_,_] rfl ?_
     refine j_run it 1 rfl (by simp) ?_
     refine j_step rfl (x_len sl25 rfl ?_)
     refine j_run it 1 rfl (by simp) ?_
     refine j_nf [_,_,_,_,_,_,_] rfl ?_
     have ez : z1 = wAt W i:=(getD_some (by assumption : W[i]? = some z1)).symm
     subst ez
     refine j_loopG (X:=Nat) [1,11,13,79,80,81,82,83,84,85,86] [0,1,2,3,4,5,6,7,8] (fun j=>[(87,.int .i64 j)]) (fun j=>[(some b4,3,natCells .i64 ((List.range (m + 1)).map (cntN W i j)))]) (fun _=>[]) (fun j=>j ≤ W.length) (fun j=>W.length - j) 0 [] rfl rfl rfl (Nat.zero_le _) (by repeat (first | exact Fr.sub_nil _ | refine Fr.sub_cons rfl ?_)) rfl rfl ?_
     intro j hj ihj
     simp only [List.cons_append,List.nil_append] at ihj ⊢
     by_cases hjl : j < W.length
     ·refine j_nf [_,_,_,_,_,_,_,_,_] rfl ?_
      refine j_run it 1 rfl (by simp) ?_
      refine j_nf [_,_,_,_,_,_,_,_,_] rfl ?_
      refine j_if rfl rfl (fun h10=>?_) (fun h10=>by exfalso;omega)
      refine j_nf [_,_,_,_,_,_,_,_,_,_,_] rfl ?_
      refine j_step rfl (x_idx 8 (j) rfl rfl rfl sl25 rfl (by omega) fun z1 hz5 b6 o5=>?_)
      refine j_step rfl (x_ld_sl 0 rfl rfl ld22 fun pa5 ca5=>?_)
      refine j_run it 1 rfl (by simp) ?_
      refine j_nf [_,_,_,_,_,_,_,_,_,_,_] rfl ?_
      refine j_run it 1 rfl (by simp) ?_
      refine j_nf [_,_,_,_,_,_,_,_,_,_,_,_] rfl ?_
      refine j_run it 1 rfl (by simp) ?_
      refine j_step rfl (x_len sl22 rfl ?_)
      refine j_run it 1 rfl (by simp) ?_
      refine j_nf [_,_,_,_,_,_,_,_,_,_,_,_] rfl ?_
      have ez : z1 = wAt W j:=(getD_some (by assumption : W[j]? = some z1)).symm
      subst ez
      have l1:=hw i hil
      have l2:=hw j hjl
      refine j_loopG (X:=Nat) [1,11,13,15,79,80,81,82,83,84,85,86,87,88,89,90,91,92] [0,1,2,3,4,5,6,7,8,9,10] (fun k=>[(93,.int .i64 k),(16,.int .i64 ((distP (wAt W i) (wAt W j) k : Nat) : Int))]) (fun _=>[(some b4,3,natCells .i64 ((List.range (m + 1)).map (cntN W i j)))]) (fun _=>[]) (fun k=>k ≤ m) (fun k=>m - k) 0 [] rfl rfl rfl (Nat.zero_le _) (by repeat (first | exact Fr.sub_nil _ | refine Fr.sub_cons rfl ?_)) rfl rfl ?_
      intro k hk ihk
      simp only [List.cons_append,List.nil_append] at ihk ⊢
      have hd:=distP_le (wAt W i) (wAt W j) k
      by_cases hkl : k < m
      ·by_cases he : (wAt W i).getD k default = (wAt W j).getD k default
       ·have e : distP (wAt W i) (wAt W j) (k + 1) = distP (wAt W i) (wAt W j) k:=by rw [distP,if_pos he];rfl
        refine j_nf [_,_,_,_,_,_,_,_,_,_,_,_,_,_] rfl ?_
        refine j_run it 1 rfl (by simp) ?_
        refine j_nf [_,_,_,_,_,_,_,_,_,_,_,_,_,_] rfl ?_
        refine j_if rfl rfl (fun h11=>?_) (fun h11=>by exfalso;omega)
        refine j_nf [_,_,_,_,_,_,_,_,_,_,_,_,_,_,_,_] rfl ?_
        refine j_run it 2 rfl (by simp) ?_
        refine j_nf [_,_,_,_,_,_,_,_,_,_,_,_,_,_,_,_] rfl ?_
        (apply j_drawK it mx 9;(· rfl);(· rfl))
        (apply lxk_run 2;(· rfl);(· simp))
        (apply lxk_pt;(· rfl);(· exact d_x fun _=>x_idx 2 (k) rfl rfl rfl sl22 rfl (by omega) fun z1 hz6 b7 o6=>(dk_ptD default hz6 0 rfl));intro b7 o6)
        (apply lxk_eq;(· rfl);(· exact d_x fun _=>x_ld_int 0 rfl rfl ld3 fun ⟨r1,r2⟩=>dk_eq))
        (apply lxk_run 2;(· rfl);(· simp))
        (apply lxk_pt;(· rfl);(· exact d_x fun _=>x_idx 0 (k) rfl rfl rfl sl22 rfl (by omega) fun z1 hz6 b8 o7=>(dk_ptD default hz6 0 rfl));intro b8 o7)
        (apply lxk_eq;(· rfl);(· exact d_x fun _=>x_ld_int 0 rfl rfl ld3 fun ⟨r1,r2⟩=>dk_eq))
        (apply lxk_run 1;(· rfl);(· simp))
        refine lxk_end rfl ?_
        simp only [List.map_cons,List.map_nil,List.cons_append,List.nil_append]
        refine j_nf [_,_,_,_,_,_,_,_,_,_,_,_,_,_,_] rfl ?_
        refine j_ifn rfl rfl (fun h12=>by exfalso;omega) (fun h12=>?_)
        refine j_nf [_,_,_,_,_,_,_,_,_,_,_,_,_] rfl ?_
        refine j_run it 2 rfl ⟨trivial,⟨by omega,by omega⟩,trivial⟩ ?_
        refine j_nfn 1 [.lp (pL 265499444),.blk 9,.c (pL 33187431),.blk 8,.c (pL 2074215),.lp (pL 259276),.blk 7,.blk 6,.c (pL 8103),.lp (pL 1012),.blk 5,.c (pL 127)] rfl ?_
        have ih':=ihk (k + 1) (by omega) (by omega)
        rw [e] at ih'
        refine j_to [2,3,4,5,6,7,8,9,10,11,12] (by exact fra rfl) rfl rfl (ih')
       ·have e : distP (wAt W i) (wAt W j) (k + 1) = distP (wAt W i) (wAt W j) k + 1:=by rw [distP,if_neg he]
        refine j_nf [_,_,_,_,_,_,_,_,_,_,_,_,_,_] rfl ?_
        refine j_run it 1 rfl (by simp) ?_
        refine j_nf [_,_,_,_,_,_,_,_,_,_,_,_,_,_] rfl ?_
        refine j_if rfl rfl (fun h11=>?_) (fun h11=>by exfalso;omega)
        refine j_nf [_,_,_,_,_,_,_,_,_,_,_,_,_,_,_,_] rfl ?_
        refine j_run it 2 rfl (by simp) ?_
        refine j_nf [_,_,_,_,_,_,_,_,_,_,_,_,_,_,_,_] rfl ?_
        (apply j_drawK it mx 9;(· rfl);(· rfl))
        (apply lxk_run 2;(· rfl);(· simp))
        (apply lxk_pt;(· rfl);(· exact d_x fun _=>x_idx 2 (k) rfl rfl rfl sl22 rfl (by omega) fun z1 hz6 b7 o6=>(dk_ptD default hz6 0 rfl));intro b7 o6)
        (apply lxk_eq;(· rfl);(· exact d_x fun _=>x_ld_int 0 rfl rfl ld3 fun ⟨r1,r2⟩=>dk_eq))
        (apply lxk_run 2;(· rfl);(· simp))
        (apply lxk_pt;(· rfl);(· exact d_x fun _=>x_idx 0 (k) rfl rfl rfl sl22 rfl (by omega) fun z1 hz6 b8 o7=>(dk_ptD default hz6 0 rfl));intro b8 o7)
        (apply lxk_eq;(· rfl);(· exact d_x fun _=>x_ld_int 0 rfl rfl ld3 fun ⟨r1,r2⟩=>dk_eq))
        (apply lxk_run 1;(· rfl);(· simp))
        refine lxk_end rfl ?_
        simp only [List.map_cons,List.map_nil,List.cons_append,List.nil_append]
        refine j_nf [_,_,_,_,_,_,_,_,_,_,_,_,_,_,_] rfl ?_
        refine j_ifn rfl rfl (fun h12=>?_) (fun h12=>by exfalso;omega)
        refine j_nf [_,_,_,_,_,_,_,_,_,_,_,_,_,_,_] rfl ?_
        refine j_run it 3 rfl ⟨trivial,⟨by omega,by omega⟩,trivial,trivial⟩ ?_
        refine j_nf [_,_,_,_,_,_,_,_,_,_,_,_,_] rfl ?_
        refine j_run it 2 rfl ⟨trivial,⟨by omega,by omega⟩,trivial⟩ ?_
        refine j_nfn 1 [.lp (pL 265499444),.blk 9,.c (pL 33187431),.blk 8,.c (pL 2074215),.lp (pL 259276),.blk 7,.blk 6,.c (pL 8103),.lp (pL 1012),.blk 5,.c (pL 127)] rfl ?_
        have ih':=ihk (k + 1) (by omega) (by omega)
        rw [e] at ih'
        refine j_to [2,3,4,5,6,7,8,9,10,11,12] (by exact fra rfl) rfl rfl (ih')
      ·obtain rfl : m = k:=by omega
       have ed : distP (wAt W i) (wAt W j) m = dist (wAt W i) (wAt W j):=by rw [← distP_all _ _ (by omega),l1]
       rw [ed] at hd ⊢
       have hz : ((List.range (m + 1)).map (cntN W i j))[dist (wAt W i) (wAt W j)]? = some (cntN W i j (dist (wAt W i) (wAt W j))):=by
        rw [List.getElem?_map,List.getElem?_range (by omega)];rfl
       have hle:=cntN_le W (dist (wAt W i) (wAt W j)) i j
       have hle2 : i * W.length ≤ 1000 * 1000:=Nat.mul_le_mul (by omega) hW
       refine j_nf [_,_,_,_,_,_,_,_,_,_,_,_,_,_] rfl ?_
       refine j_run it 1 rfl (by simp) ?_
       refine j_nf [_,_,_,_,_,_,_,_,_,_,_,_,_,_] rfl ?_
       refine j_if rfl rfl (fun h11=>by exfalso;omega) (fun h11=>?_)
       refine j_nf [_,_,_,_,_,_,_,_,_,_] rfl ?_
       refine j_run it 2 rfl (by simp) ?_
       refine j_step rfl (x_idx_own (dist (wAt W i) (wAt W j)) (dist (wAt W i) (wAt W j)) rfl rfl sl22 rfl (by omega) (Nat.mul_one _) ?_)
       refine j_step rfl (x_bld_nat 0 rfl rfl ld3 (by first | omega | (simp;omega)) fun z1 hz6=>?_) --ok
       have ez : z1 = cntN W i j (dist (wAt W i) (wAt W j)):=Option.some.inj ((by assumption : ((List.range (m + 1)).map (cntN W i j))[dist (wAt W i) (wAt W j)]? = some z1).symm.trans hz)
       subst ez
       refine j_run it 1 rfl ⟨⟨by omega,by omega⟩,trivial⟩ ?_
       refine j_step rfl (x_idx_own (dist (wAt W i) (wAt W j)) (dist (wAt W i) (wAt W j)) rfl rfl sl22 rfl (by omega) (Nat.mul_one _) ?_)
       refine j_step rfl (x_bst_nat 0 ((cntN W i j (dist (wAt W i) (wAt W j))) + 1) rfl rfl rfl ld3 (by first | rfl | omega) (by first | omega | (simp;omega)) ?_)
       refine j_nf [_,_,_,_,_,_,_,_] rfl ?_
       refine j_run it 2 rfl ⟨trivial,⟨by omega,by omega⟩,trivial⟩ ?_
       refine j_nfn 1 [.lp (pL 259276),.blk 7,.blk 6,.c (pL 8103),.lp (pL 1012),.blk 5,.c (pL 127)] rfl ?_
       rw [cntN_set W (m:=m + 1) (i:=i) (j:=j) (by omega)]
       refine j_to [2,3,4,5,6,7,8,9,10] (by exact fra rfl) rfl rfl (ihj (j + 1) (by omega) (by omega))
     ·obtain rfl : W.length = j:=by omega
      rw [show cntN W i W.length = cntN W (i + 1) 0 from funext fun d=>(cntN_next W i d).symm]
      refine j_nf [_,_,_,_,_,_,_,_,_] rfl ?_
      refine j_run it 1 rfl (by simp) ?_
      refine j_nf [_,_,_,_,_,_,_,_,_] rfl ?_
      refine j_if rfl rfl (fun h10=>by exfalso;omega) (fun h10=>?_)
      refine j_nf [_,_,_,_] rfl ?_
      refine j_run it 2 rfl ⟨trivial,⟨by omega,by omega⟩,trivial⟩ ?_
      refine j_nfn 1 [.lp (pL 1012),.blk 5,.c (pL 127)] rfl ?_
      refine j_to [2,3,4,5,6,7,8] (by exact fra rfl) rfl rfl (ih (i + 1) (by omega) (by omega))
    ·obtain rfl : W.length = i:=by omega
     refine j_nf [_,_,_,_,_] rfl ?_
     refine j_run it 1 rfl (by simp) ?_
     refine j_nf [_,_,_,_,_] rfl ?_
     refine j_if rfl rfl (fun h9=>by exfalso;omega) (fun h9=>?_)
     refine j_nf [_,_] rfl ?_
     refine j_run it 1 rfl (by simp) ?_
     refine j_nf [_,_,_] rfl ?_
     refine j_run it 1 rfl (by simp) ?_
     refine j_step rfl (x_len sl22 rfl ?_)
     refine j_run it 1 rfl (by simp) ?_
     refine j_nf [_,_,_] rfl ?_
     refine j_row0 RatE 60 ?_
     refine j_loopG (X:=Nat × Row) [1,116,117] [1,2,3,4,5,6,7] (fun x=>[(118,.int .i64 x.1),(18,.slice (ad x.2.bo) x.1 x.2.cap)]) (fun x=>[(x.2.bo,60,x.2.cs),(some b4,3,natCells .i64 ((List.range (m + 1)).map (cntN W W.length 0)))]) (fun x=>[rowF RatE x.2 x.1 ((List.range x.1).map fun d=>rt (mkRat ((cntN W W.length 0 d : Nat) : Int) W.length))])
      (fun x=>x.1 ≤ m + 1) (fun x=>m + 1 - x.1) (0,⟨none,0,[]⟩) [0] rfl rfl rfl (Nat.zero_le _) (by repeat (first | exact Fr.sub_nil _ | refine Fr.sub_cons rfl ?_)) rfl rfl ?_
     rintro ⟨d,r⟩ hd ihd
     simp only [List.cons_append,List.nil_append] at hd ihd ⊢
     by_cases hdl : d < m + 1
     ·have hz : ((List.range (m + 1)).map (cntN W W.length 0))[d]? = some (cntN W W.length 0 d):=by
       rw [List.getElem?_map,List.getElem?_range (by omega)];rfl
      have hle:=cntN_le W d W.length 0
      have hle2 : W.length * W.length ≤ 1000 * 1000:=Nat.mul_le_mul hW hW
      refine j_nf [_,_,_,_,_] rfl ?_
      refine j_run it 1 rfl (by simp) ?_
      refine j_nf [_,_,_,_,_] rfl ?_
      refine j_if rfl rfl (fun h10=>?_) (fun h10=>by exfalso;omega)
      refine j_nf [_,_,_,_,_,_,_] rfl ?_
      refine j_step rfl (x_idx_own (d) (d) rfl rfl sl22 rfl (by omega) (Nat.mul_one _) ?_)
      refine j_step rfl (x_bld_nat 1 rfl rfl ld3 (by first | omega | (simp;omega)) fun z1 hz4=>?_)
      refine j_run it 1 rfl (by simp) ?_
      refine j_nf [_,_,_,_,_,_,_] rfl ?_
      refine j_run it 2 rfl (by simp) ?_
      refine j_step rfl (x_len sl25 rfl ?_) --ok
      have ez : z1 = cntN W W.length 0 d:=Option.some.inj ((by assumption : ((List.range (m + 1)).map (cntN W W.length 0))[d]? = some z1).symm.trans hz)
      subst ez
      refine j_step rfl (x_call [] rfl (S_rational_Of (by omega) (by omega) (by omega)) rfl ?_)
      rintro _ _ _ ⟨pn1,cn1,pd1,cd1,rfl,rfl,rfl⟩
      simp only [List.cons_append,List.nil_append]
      refine j_run it 3 rfl (by simp) ?_
      refine j_step rfl (x_alloc zo60 fun b5=>?_)
      refine j_step rfl (x_bst_all 0 rfl rfl rfl ld60 rfl rfl (by simp [Value.oneCell']) ?_)
      refine j_run it 1 rfl (by simp) ?_
      refine j_nf [_,_,_,_,_,_] rfl ?_
      refine j_run it 1 rfl (by simp) ?_
      refine j_step rfl (x_bld_all 0 rfl rfl ld60 rfl ?_)
      refine j_step rfl (x_lit sl55 zo55e rfl rfl rfl rfl (by decide) (by decide) rfl fun b6=>?_)
      refine j_step rfl (x_appR (z:=((rt (mkRat (↑(cntN W W.length 0 d)) W.length)).fst,((rt (mkRat (↑(cntN W W.length 0 d)) W.length)).snd.fst,(rt (mkRat (↑(cntN W W.length 0 d)) W.length)).snd.snd))) 2 0 2 rfl rfl rfl rfl rfl sl55 zo55e rfl (fun w A hG=>(rd_pair (v1:=[Value.bool (rt (mkRat (↑(cntN W W.length 0 d)) W.length)).fst]) (rd_bool _) (rd_pair (v1:=[Value.slice pn1 (rt (mkRat (↑(cntN W W.length 0 d)) W.length)).snd.fst.length cn1]) (rd_of_slF (hG _ (fact_mem (n:=0) rfl))) (rd_of_slF (hG _ (fact_mem (n:=1) rfl)))))) (by omega) _ by55e (by omega) fun r1=>?_)
      refine j_run it 1 rfl (by simp) ?_
      refine j_nf [_,_,_,_] rfl ?_
      refine j_run it 2 rfl ⟨trivial,⟨by omega,by omega⟩,trivial⟩ ?_
      refine j_nfn 1 [.lp (pL 4084),.blk 11,.c (pL 511)] rfl ?_
      rw [← range_snoc fun d=>rt (mkRat ((cntN W W.length 0 d : Nat) : Int) W.length)]
      refine j_toM [true,false,false,true] [0,4,5,6,7,8,9,10] (by exact fra rfl) rfl rfl (ihd (d + 1,r1) (by dsimp only;omega) (by dsimp only;omega))
     ·obtain rfl : d = m + 1:=by omega
      refine j_nf [_,_,_,_,_] rfl ?_
      refine j_run it 1 rfl (by simp) ?_
      refine j_nf [_,_,_,_,_] rfl ?_
      refine j_if rfl rfl (fun h10=>by exfalso;omega) (fun h10=>?_)
      refine j_nf [_,_] rfl ?_
      refine j_run it 3 rfl (by simp) ?_
      refine j_nf [_] rfl ?_
      refine j_pubR 0 0 rfl rfl (by show (m + 1) * 56 ≤ 140737488355328;omega) ?_
      rw [show (disR W m).length = m + 1 by simp [disR]]
      refine j_giv [0] rfl rfl rfl ⟨_,_,rfl,rfl,rfl⟩
set_option maxHeartbeats 8000000
theorem lsum_wAt (g : List Int → Int) (L : List (List Int)) : ∀ k,k ≤ L.length → lsum (L.take k) g = sm k (fun b=>g (wAt L b))
 | 0,_=>rfl
 | k + 1,h=>by
  rw [show L.take (k + 1) = L.take k++[wAt L k] by rw [List.take_succ_eq_append_getElem (by omega),wAt,List.getD_eq_getElem?_getD,List.getElem?_eq_getElem (by omega)];rfl,lsum_app,lsum_wAt g L k (by omega),sm,lsum,lsum,Int.add_zero]
theorem sm_constD (c : Int) : ∀ n,sm n (fun _=>c) = n * c
 | 0=>by rw [sm];simp
 | n + 1=>by rw [sm,sm_constD c n,Int.natCast_add,Int.add_mul];simp
theorem cntN_lin {q n : Nat} {A M : Int → Int → Int} (F : FI q A M) {L : List (List Int)} (h : SpJ q n A M L) (d : Nat) : cntN L L.length 0 d = L.length * cwN L d:=by
 have e : (cntN L L.length 0 d : Int) = L.length * (cwN L d : Int):=by
  rw [cntN_all,cntD,← sm_constD]
  refine sm_congr fun i hi=>?_
  have hm : wAt L i ∈ L:=List.mem_of_getElem? (i:=i) (by rw [wAt,List.getD_eq_getElem?_getD,List.getElem?_eq_getElem hi];rfl)
  rw [← cntW_cw,← dist_wt F h hm d]
  have h2:=lsum_wAt (fun u=>if dist u (wAt L i) = d then 1 else 0) L L.length (Nat.le_refl _)
  rw [List.take_length] at h2
  rw [h2]
  exact sm_congr fun j _=>by rw [dist_symm]
 exact_mod_cast e
theorem mk_lin {a b : Nat} (hb : 0 < b) : mkRat ((b * a : Nat) : Int) b = ((a : Int) : Rat):=by
 have e : mkRat ((b * a : Nat) : Int) b = mkRat ((a : Int) * (b : Int)) (1 * b):=by rw [Nat.one_mul,Int.natCast_mul,Int.mul_comm]
 rw [e,Rat.mkRat_mul_right (by omega),Rat.mkRat_one]
theorem disR_lin {q n : Nat} {A M : Int → Int → Int} (F : FI q A M) {L : List (List Int)} (h : SpJ q n A M L) : disR L n = (List.range (n + 1)).map fun d=>rt ((cwN L d : Int) : Rat) :=
 List.map_congr_left fun d _=>by rw [cntN_lin F h d,mk_lin (List.length_pos_of_mem h.z)]
theorem scan_good {q : Int} {n : Nat} : ∀ {W : List (List Int)},(∀ w ∈ W,w.length = n ∧ okW q w = true) → scanW q n W = 0
 | [],_=>rfl
 | w::W,h=>by
  rw [scanW,if_neg (by have:=(h w (.head _)).1;omega),if_pos (h w (.head _)).2]
  exact scan_good fun x hx=>h x (.tail _ hx)
theorem getD_len {n : Nat} {L : List (List Int)} (hL : ∀ u ∈ L,u.length = n) (h : 0 < L.length) : (L.getD 0 default).length = n :=
 hL _ (List.mem_of_getElem? (i:=0) (by rw [List.getD_eq_getElem?_getD,List.getElem?_eq_getElem h];rfl))
theorem words_lin {q n : Nat} (hq2 : 2 ≤ q) (hq : q ≤ 256) (hn : 1 ≤ n) (hn2 : n ≤ 64) {L : List (List Int)} (h : ∀ u ∈ L,Wd q n u) (h0 : 0 < L.length) : wordsE q L = 0:=by
 have hl:=getD_len (fun u hu=>(h u hu).1) h0
 rw [wordsE,if_neg (by omega),if_neg (by omega),if_neg (by omega),hl]
 exact scan_good fun w hw=>⟨(h w hw).1,by
  have:=(h w hw).2
  unfold okW
  simp only [List.all_eq_true,decide_eq_true_eq]
  exact fun x hx=>this x hx⟩
open Classical in
theorem S_DelsarteLinear {P M : Int} {x nm cm nr cr : Nat} {md : List Int} {pm pr : Option Addr} {rows : List (List Int)} (hx : x < 256) :
  Ctr Try.prog 6 [.agg #[.int .i64 P,.int .i64 M,.slice pm nm cm],.int .u8 x,.slice pr nr cr] [] [slF I64 pm nm cm md,slF (encSl I64) pr nr cr rows] (Rv (.bool true) []):=by
 refine Ctr_of_j' (F:=F_codewrightlaw36_DelsarteLinear) rfl fun C=>?_
 refine j_len 1 rfl fun e1 hb1 _=>?_
 have hb1' : rows.length * 24 ≤ 140737488355328:=hb1
 subst e1
 have c_codewrightref04_Check:=fun {e : Int} he=>S_codewrightref04_Check (P:=P) (M:=M) (pm:=pm) (nm:=nm) (cm:=cm) (md:=md) (e:=e) he
 by_cases hc : chkF P M md
 case neg =>
  have hc1 : (1 : Int) = if chkF P M md then 0 else 1:=by rw [if_neg hc]
  refine j_nf [_,_] rfl ?_
  refine j_step rfl (x_box_agg rfl fun b1=>?_)
  refine j_run it 1 rfl (by simp) ?_
  refine j_nf [_,_] rfl ?_
  refine j_run it 5 rfl ⟨trivial,⟨by omega,by omega⟩,⟨by omega,by omega⟩,⟨by omega,by omega⟩,trivial,trivial⟩ ?_
  refine j_nf [_,_,_] rfl ?_
  refine j_step rfl (x_bld_all 0 rfl rfl ld24 rfl ?_)
  refine j_step rfl (x_call [0] rfl (c_codewrightref04_Check (by omega)) rfl ?_)
  rintro _ _ _ ⟨rfl,rfl,rfl⟩
  simp only [List.cons_append,List.nil_append]
  refine j_run it 6 rfl (by simp) ?_
  refine j_nf [_,_] rfl ?_
  refine j_true rfl rfl ?_
  refine j_nf [_,_,_] rfl ?_
  refine j_run it 1 rfl (by simp) ?_
  refine j_nf [_,_] rfl ?_
  refine j_giv [] rfl rfl rfl ⟨rfl,rfl,rfl⟩
 have hc0 : (0 : Int) = if chkF P M md then 0 else 1:=by rw [if_pos hc]
 obtain ⟨p,m,rfl,rfl,K⟩:=chk_ok hc
 by_cases h12 : rows.length ≤ 8
 case neg =>
  refine j_nf [_,_] rfl ?_
  refine j_step rfl (x_box_agg rfl fun b1=>?_)
  refine j_run it 1 rfl (by simp) ?_
  refine j_nf [_,_] rfl ?_
  refine j_run it 5 rfl ⟨trivial,⟨by omega,by omega⟩,⟨by omega,by omega⟩,⟨by omega,by omega⟩,trivial,trivial⟩ ?_
  refine j_nf [_,_,_] rfl ?_
  refine j_step rfl (x_bld_all 0 rfl rfl ld24 rfl ?_)
  refine j_step rfl (x_call [0] rfl (c_codewrightref04_Check (by omega)) rfl ?_)
  rintro _ _ _ ⟨rfl,rfl,rfl⟩
  simp only [List.cons_append,List.nil_append]
  refine j_run it 3 rfl (by simp) ?_
  refine j_split_ndec (t:=20) rfl (fun h1=>by exfalso;omega) (fun h1=>?_)
  refine j_gstep rfl rfl (x_len sl25 rfl ?_)
  refine j_run it 2 rfl (by simp) ?_
  refine j_nf [_,_] rfl ?_
  refine j_if rfl rfl (fun h2=>?_) (fun h2=>by exfalso;omega)
  refine j_nf [_,_,_] rfl ?_
  refine j_run it 1 rfl (by simp) ?_
  refine j_nf [_,_] rfl ?_
  refine j_giv [] rfl rfl rfl ⟨rfl,rfl,rfl⟩
 have en : (((x % 10 + 1 : Nat)) : Int) = (x : Int) % 10 + 1:=by omega
 have hn12 : x % 10 + 1 ≤ 10:=by omega
 have hn1 : 1 ≤ x % 10 + 1:=by omega
 refine j_nf [_,_] rfl ?_
 refine j_step rfl (x_box_agg rfl fun b1=>?_)
 refine j_run it 1 rfl (by simp) ?_
 refine j_nf [_,_] rfl ?_
 refine j_run it 5 rfl ⟨trivial,⟨by omega,by omega⟩,⟨by omega,by omega⟩,⟨by omega,by omega⟩,trivial,trivial⟩ ?_
 refine j_nf [_,_,_] rfl ?_
 refine j_step rfl (x_bld_all 0 rfl rfl ld24 rfl ?_)
 refine j_step rfl (x_call [0] rfl (c_codewrightref04_Check (by omega)) rfl ?_)
 rintro _ _ _ ⟨rfl,rfl,rfl⟩
 simp only [List.cons_append,List.nil_append]
 refine j_run it 3 rfl (by simp) ?_
 refine j_split_ndec (t:=20) rfl (fun h1=>by exfalso;omega) (fun h1=>?_)
 refine j_gstep rfl rfl (x_len sl25 rfl ?_)
 refine j_run it 2 rfl (by simp) ?_
 refine j_nf [_,_] rfl ?_
 refine j_if rfl rfl (fun h2=>by exfalso;omega) (fun h2=>?_)
 refine j_nf [_,_] rfl ?_
 refine j_step rfl (x_bld_all 0 rfl rfl ld24 rfl ?_)
 refine j_run it 2 rfl (by simp) ?_
 rw [← en]
 generalize x % 10 + 1 = n at *
 have F:=K.fi
 have hq2:=F.q2
 have hq:=K.q
 have e00 : ([] : List (List Int)).length = 0:=rfl
 have c_codewrightref24_Span:=S_codewrightref24_Span (nm:=nm) (cm:=cm) (pm:=pm) (n:=n) (most:=128) (nr:=rows.length) (cr:=cr) (pr:=pr) (rows:=rows) K (by omega) (by omega)
 have hord:=K.ord
 have c_codewrightref04_Order:=S_codewrightref04_Order (P:=(p : Int)) (M:=(m : Int)) (pm:=pm) (n:=nm) (c:=cm) hord
 have wR : ∀ r ∈ rows.map (rowW ((p ^ m : Nat) : Int) n),Wd (p ^ m) n r:=fun r hr=>by
  obtain ⟨l,_,rfl⟩:=List.mem_map.1 hr
  exact rowW_wd (by omega) l
 cases hA : spanS (p ^ m) 128 (aF p m) (mF p m md) (rows.map (rowW ((p ^ m : Nat) : Int) n)) [zW n] with
 | none =>
  rw [hA,spanE_none] at c_codewrightref24_Span
  refine j_step rfl (x_call [0,1] rfl (c_codewrightref24_Span) rfl ?_)
  rintro _ _ _ ⟨pa1,ca1,rfl,rfl,rfl⟩
  simp only [List.cons_append,List.nil_append]
  simp only [decide_true]
  refine j_run it 1 rfl (by simp) ?_
  refine j_nf [_,_,_] rfl ?_
  refine j_run it 1 rfl (by simp) ?_
  refine j_step rfl (x_len sl25 rfl ?_)
  refine j_run it 1 rfl (by simp) ?_
  refine j_nf [_,_] rfl ?_
  refine j_if rfl rfl (fun h3=>?_) (fun h3=>by exfalso;omega)
  refine j_nf [_,_,_] rfl ?_
  refine j_run it 1 rfl (by simp) ?_
  refine j_nf [_,_] rfl ?_
  refine j_giv [] rfl rfl rfl ⟨rfl,rfl,rfl⟩
 | some L =>
 rw [hA,spanE_some] at c_codewrightref24_Span
 have hL:=spJ_span F (spJ_start F n) wR hA
 have lL:=List.length_pos_of_mem hL.z
 have lL2 : L.length ≤ 128:=by
  exact spanS_le (by simp) hA
 have hw:=words_lin hq2 hq hn1 (show n ≤ 64 by omega) hL.wd lL
 have hdl:=getD_len (fun u hu=>(hL.wd u hu).1) lL
 have hdis : disL ((p ^ m : Nat) : Int) L = disR L n:=by rw [disL,if_pos hw,hdl]
 rw [disR_lin F hL] at hdis
 have wL : ∀ u ∈ L,u.length = n:=fun u hu=>(hL.wd u hu).1
 have l2 : ((List.range (n + 1)).map fun d=>rt ((cwN L d : Int) : Rat)).length = n + 1:=by simp
 have l3 : (cwL n L).length = n + 1:=by simp [cwL]
 have c_delsarte_Distances:=fun {pa : Option Addr} {ca : Nat}=>S_delsarte_Distances (pa:=pa) (n:=L.length) (ca:=ca) (W:=L) (by omega) hdis hw
 rw [l2] at c_delsarte_Distances
 have hbt : ∀ i,i < n + 1 → ((List.range (n + 1)).map fun d=>rt ((cwN L d : Int) : Rat)).getD i default = rt ((cwN L i : Int) : Rat):=fun i hi=>by
  rw [List.getD_eq_getElem?_getD,List.getElem?_map,List.getElem?_range hi];rfl
 generalize hLs : ((List.range (n + 1)).map fun d=>rt ((cwN L d : Int) : Rat)) = Ls at *
 have hqI : (2 : Int) ≤ ((p ^ m : Nat) : Int) ∧ ((p ^ m : Nat) : Int) ≤ 256:=by omega
 refine j_step rfl (x_call [0,1] rfl (c_codewrightref24_Span) rfl ?_)
 rintro _ _ _ ⟨pa1,ca1,rfl,rfl,rfl⟩
 simp only [List.cons_append,List.nil_append]
 simp only [decide_true]
 refine j_run it 1 rfl (by simp) ?_
 refine j_nf [_,_,_] rfl ?_
 refine j_run it 1 rfl (by simp) ?_
 refine j_step rfl (x_len sl25 rfl ?_)
 refine j_run it 1 rfl (by simp) ?_
 refine j_nf [_,_] rfl ?_
 refine j_if rfl rfl (fun h3=>by exfalso;omega) (fun h3=>?_)
 refine j_nf [_,_] rfl ?_
 refine j_step rfl (x_bld_all 0 rfl rfl ld24 rfl ?_)
 refine j_step rfl (x_call [] rfl (c_codewrightref04_Order) rfl ?_)
 rintro _ _ _ ⟨rfl,rfl,rfl⟩
 simp only [List.cons_append,List.nil_append]
 refine j_run it 1 rfl (by simp) ?_
 refine j_step rfl (x_call [0] rfl (c_delsarte_Distances) rfl ?_)
 rintro _ _ _ ⟨pa2,ca2,rfl,rfl,rfl⟩
 simp only [List.cons_append,List.nil_append]
 refine j_run it 5 rfl (by simp) ?_
 refine j_nf [_,_] rfl ?_
 refine j_run it 2 rfl (by simp) ?_
 refine j_step rfl (x_call [1] rfl (S_codewrightref24_Weights (by omega) (by omega)) rfl ?_)
 rintro _ _ _ ⟨pa3,ca3,rfl,rfl,rfl⟩
 simp only [List.cons_append,List.nil_append]
 refine j_run it 1 rfl (by simp) ?_
 refine j_nf [_,_,_] rfl ?_
 refine j_run it 4 rfl (by simp) ?_
 refine j_split_ndec (t:=44) rfl (fun h4=>by exfalso;omega) (fun h4=>?_)
 refine j_gstep rfl rfl (x_len sl55 rfl ?_)
 refine j_run it 1 rfl (by simp) ?_
 refine j_gstep rfl rfl (x_len sl33 rfl ?_)
 refine j_run it 2 rfl (by simp) ?_
 refine j_nf [_,_] rfl ?_
 refine j_ifn rfl rfl (fun h5=>by exfalso;omega) (fun h5=>?_)
 refine j_nf [_,_,_] rfl ?_
 refine j_run it 1 rfl (by simp) ?_
 refine j_nf [_,_,_] rfl ?_
 refine j_loopG (X:=Nat) [9,11] [0,1,2,3,4] (fun k=>[(12,.int .i64 (k : Int))]) (fun _=>[(some b1,24,[.int .i64 p,.int .i64 m,.slice pm nm cm])]) (fun _=>[]) (fun k=>k ≤ n + 1) (fun k=>n + 1 - k) 0 [] rfl rfl rfl (Nat.zero_le _) (by repeat (first | exact Fr.sub_nil _ | refine Fr.sub_cons rfl ?_)) rfl rfl ?_
 rintro k hk ih
 simp only [List.cons_append,List.nil_append] at hk ih ⊢
 by_cases hkl : k < n + 1
 ·have ih':=ih (k + 1) (by omega) (by omega)
  have hek : (cwL n L).getD k default = limbs (cwN L k):=cwL_at (by omega)
  have hnk : ((cwL n L).getD k default).length ≤ 1:=by rw [hek];exact limbs_length_le (by have:=cwN_le L k;omega)
  have hbk:=hbt k hkl
  rw [← val_limbs (cwN L k),← hek] at hbk
  refine j_nf [_,_,_,_,_,_] rfl ?_
  refine j_run it 2 rfl (by simp) ?_
  refine j_step rfl (x_len sl33 rfl ?_)
  refine j_run it 1 rfl (by simp) ?_
  refine j_nf [_,_,_,_,_] rfl ?_
  refine j_if rfl rfl (fun h6=>?_) (fun h6=>by exfalso;omega)
  refine j_nf [_,_,_,_,_,_,_] rfl ?_
  (apply j_drawK it mx 11;(· rfl);(· rfl))
  (apply lxk_run 2;(· rfl);(· simp))
  (apply lxk_pt;(· rfl);(· exact d_x fun _=>x_idx 1 (k) rfl rfl rfl sl55 rfl (by omega) fun z1 hz1 b2 o1=>(dk_ptD default hz1 0 rfl));intro b2 o1)
  (apply lxk_rq;(· rfl);(· exact d_x fun _=>x_ld_rt 0 rfl rfl ld60 fun pa4 ca4 pa5 ca5=>(dk_rq 0 1 rfl rfl));intro pn1 cn1 pd1 cd1)
  (apply lxk_run 2;(· rfl);(· simp))
  (apply lxk_pt;(· rfl);(· exact d_x fun _=>x_idx 0 (k) rfl rfl rfl sl33 rfl (by omega) fun z1 hz1 b3 o2=>(dk_ptD default hz1 0 rfl));intro b3 o2)
  (apply lxk_sl;(· rfl);(· exact d_x fun _=>x_ld_sl 0 rfl rfl ld29 fun pa4 ca4=>(dk_sl 0 rfl));intro pa4 ca4)
  (apply lxk_rq;(· rfl);(· exact d_x fun _=>x_call [0] rfl (S_codewrightref02_Nat (by omega)) rfl (by rintro _ _ _ ⟨pn2,cn2,pd2,cd2,rfl,rfl,rfl⟩;exact (dk_rq 0 1 rfl rfl)));intro pn2 cn2 pd2 cd2)
  simp only [vq_rt']
  (apply lxk_eq;(· rfl);(· exact d_x fun _=>x_call [4,5,0,1] rfl (S_codewrightref02_Same) rfl (by rintro _ _ _ ⟨rfl,rfl,rfl⟩;exact dk_eq)))
  simp only [vq_rt']
  (apply lxk_run 1;(· rfl);(· simp))
  refine lxk_end rfl ?_
  simp only [List.map_cons,List.map_nil,List.cons_append,List.nil_append]
  refine j_nf [_,_,_,_,_,_] rfl ?_
  refine j_ifn rfl rfl (fun h7=>?_) (fun h7=>?_)
  ·exact absurd hbk h7
  ·refine j_nf [_,_,_,_] rfl ?_
   refine j_run it 3 rfl ⟨trivial,⟨by omega,by omega⟩,trivial,trivial⟩ ?_
   refine j_nfn 1 [.lp (pL 8180),.blk 0,.c (pL 1023)] rfl ?_
   refine j_to [7,8,9,10,11] (by exact fra rfl) rfl rfl (ih')
 ·refine j_nf [_,_,_,_,_,_] rfl ?_
  refine j_run it 2 rfl (by simp) ?_
  refine j_step rfl (x_len sl33 rfl ?_)
  refine j_run it 1 rfl (by simp) ?_
  refine j_nf [_,_,_,_,_] rfl ?_
  refine j_if rfl rfl (fun h6=>by exfalso;omega) (fun h6=>?_)
  refine j_nf [_,_] rfl ?_
  refine j_run it 1 rfl (by simp) ?_
  refine j_nf [_] rfl ?_
  refine j_giv [] rfl rfl rfl ⟨rfl,rfl,rfl⟩
end Go.Proofs.Ytlelanmgijhjfaa
