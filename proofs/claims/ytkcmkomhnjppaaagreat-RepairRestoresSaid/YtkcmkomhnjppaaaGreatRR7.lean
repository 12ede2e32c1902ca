/-
Hitting trees: what the program's walk through one answers, and what an accepted one shows. Witnesses in plain words: words of the code that vanish at the helpers. The document's test whether a word is in a space. The program's walk through a hitting tree. The program's judgement on a hitting tree. The program's CheckProof. The law's function RepairSound: an accepted tree, and what the document says. Sets with one more position; branches, in the document. The hunt for a smallest set of helpers, in plain words. The hunt through the hitting trees of least witnesses, in the program. What remains of the helpers when each one that is not needed is left out. What a plan says, in plain words. Binary digits; powers by squaring; binomial coefficients. Short lists are put in order, in the library. Short lists are put in order by the library's Sort. The program's Plan. Lists compared, in the document. Equations solved, in the document. Entries picked and coefficients of repairs, in the document. The document's search for a smallest set of helpers. The document's Plan. Hitting trees in the document. The document's CheckProof. What Check answers; the document's Check. The program's Check; the law's function RepairChecks. Plans are right; the law's functions RepairPlans and RepairMinimal. The law's function RepairRestores: lost blocks are rebuilt.
-/
import Derived.Test.YtkcmkomhnjppaaaGreatRR6
set_option linter.unusedVariables false
set_option linter.unusedSimpArgs false
namespace Go.Proofs.YtkcmkomhnjppaaaGreat
open Go Go.Fw
set_option maxRecDepth 100000
set_option linter.unusedVariables false
set_option linter.unusedSimpArgs false
set_option maxHeartbeats 0
def gdB (p m : Nat) (md : List Int) (N : Nat) (rows : List (List Int)) (lost x s : List Int) : Bool:=decide (liE x N (p ^ m) = 0) && mbB p m md N rows x && !nzL s x && nzL lost x
def htGo (f : List Int → List Int → List (List Int) → Option (List (List Int))) (s z : List Int) : List Int → List Int → List (List Int) → Option (List (List Int))
 | _,[],t=>some t
 | pre,i::r,t=>match f (s++[i]) (z++pre) t with
  | none=>none
  | some t'=>htGo f s z (pre++[i]) r t'
def htT (p m : Nat) (md : List Int) (N : Nat) (rows : List (List Int)) (lost away : List Int) : Nat → List Int → List Int → List (List Int) → Option (List (List Int))
 | _,_,_,[]=>none
 | 0,s,_,x::t=>if gdB p m md N rows lost x s = true then some t else none
 | d + 1,s,z,x::t=>if gdB p m md N rows lost x s = true then htGo (htT p m md N rows lost away d) s z [] (brL lost away z x N) t else none
theorem nodup_bk : ∀ {l l' : List Int},l.Nodup → (∀ x ∈ l,x ∈ l') → l'.length ≤ l.length → ∀ x ∈ l',x ∈ l
 | [],l',_,_,h=>fun x hx=>by
  have : l' = []:=List.eq_nil_of_length_eq_zero (by simpa using h)
  rw [this] at hx;cases hx
 | a::l,l',hn,hs,h=>fun x hx=>by
  obtain ⟨h1,h2⟩:=List.nodup_cons.1 hn
  have ha:=hs a (.head _)
  by_cases e : x = a
  ·rw [e];exact .head _
  ·have hl : (l'.erase a).length = l'.length - 1:=List.length_erase_of_mem ha
   have:=nodup_bk (l:=l) (l':=l'.erase a) h2 (fun y hy=>(List.mem_erase_of_ne (fun (e : y = a)=>h1 (e ▸ hy))).2 (hs y (.tail _ hy))) (by rw [hl];simp only [List.length_cons] at h;omega) x ((List.mem_erase_of_ne e).2 hx)
   exact .tail _ this
theorem nzL_false {l w : List Int} : nzL l w = false ↔ ∀ x ∈ l,at0 w x.toNat = 0:=by
 rw [nzL,List.any_eq_false]
 exact ⟨fun h x hx=>by simpa using h x hx,fun h x hx=>by simpa using h x hx⟩
section
variable {p m N : Nat} {md lost away : List Int} {rows : List (List Int)}
theorem not_en (CC : Cok p m md N rows) (hlo : stP N lost) {x H : List Int} (hx : Wd (p ^ m) N x) (hm : mbB p m md N rows x = true) (h0 : ∀ h ∈ H,at0 x h.toNat = 0) (h1 : nzL lost x = true) : enB p m md rows lost H = false:=by
 have O:=fok_fn CC.K
 have hc:=O.rs_zero CC.mat hx (P:=(cnP p m md N rows).2) (zrB_iff.1 hm)
 obtain ⟨l,hl,hl1⟩:=List.any_eq_true.1 h1
 have hl1:=of_decide_eq_true hl1
 have hln:=hlo.1 l hl
 have hn:=O.not_enough (hs:=H.map Int.toNat) (lost:=lost.map Int.toNat) CC.mat rfl hc (fun j hj=>by
  obtain ⟨y,hy,rfl⟩:=List.mem_map.1 hj
  exact h0 y hy) (l:=l.toNat) (List.mem_map.2 ⟨l,hl,rfl⟩) (by omega) hl1
 have e : (H.map Int.toNat).map (colL rows) = coL rows H:=by rw [List.map_map];rfl
 rw [e] at hn
 rw [en_wt CC hlo,Option.isNone_eq_false_iff,Option.isSome_iff_ne_none]
 intro hw
 refine hn fun j hj r hr=>?_
 obtain ⟨y,hy,rfl⟩:=List.mem_map.1 hj
 exact wt_none.1 hw y hy r hr
theorem go_hit {f : List Int → List Int → List (List Int) → Option (List (List Int))} {s z H : List Int} : ∀ {rem pre : List Int} {t t' : List (List Int)},htGo f s z pre rem t = some t' → (∀ i ∈ pre,i ∉ H) → (∃ i ∈ rem,i ∈ H) →
  ∃ i pre' t1 t2,i ∈ rem ∧ i ∈ H ∧ (∀ j ∈ pre',j ∉ H) ∧ f (s++[i]) (z++pre') t1 = some t2
 | [],_,_,_,_,_,⟨i,hi,_⟩=>by cases hi
 | a::r,pre,t,t',h,hp,he=>by
  rw [htGo] at h
  split at h
  ·cases h
  ·rename_i t1 h1
   by_cases ha : a ∈ H
   ·exact ⟨a,pre,t,t1,.head _,ha,hp,h1⟩
   ·obtain ⟨i,pre',t2,t3,g1,g2,g3,g4⟩:=go_hit (rem:=r) h (fun i hi=>by
     rcases List.mem_append.1 hi with hi | hi
     ·exact hp i hi
     ·rw [List.mem_singleton.1 hi];exact ha) (by
     obtain ⟨i,hi,hH⟩:=he
     rcases List.mem_cons.1 hi with rfl | hi
     ·exact absurd hH ha
     ·exact ⟨i,hi,hH⟩)
    exact ⟨i,pre',t2,t3,.tail _ g1,g2,g3,g4⟩
theorem ht_sound (CC : Cok p m md N rows) (hlo : stP N lost) {H : List Int} (hH : stP N H) (hd : ∀ x ∈ H,x ∉ lost ∧ x ∉ away) : ∀ (d : Nat) (s z : List Int) (t t' : List (List Int)),htT p m md N rows lost away d s z t = some t' →
  (∀ x ∈ s,x ∈ H) → (∀ x ∈ z,x ∉ H) → H.length ≤ s.length + d → s.Nodup → enB p m md rows lost H = false:=by
 intro d
 induction d with
 | zero =>
  intro s z t t' h hs hz hl hn
  cases t with
  | nil=>rw [htT] at h;cases h
  | cons x t =>
   rw [htT] at h
   split at h
   ·rename_i hg
    simp only [gdB,Bool.and_eq_true,decide_eq_true_eq,Bool.not_eq_true'] at hg
    obtain ⟨⟨⟨g1,g2⟩,g3⟩,g4⟩:=hg
    exact not_en CC hlo (liE_of g1) g2 (fun y hy=>nzL_false.1 g3 y (nodup_bk hn hs (by omega) y hy)) g4
   ·cases h
 | succ d ih =>
  intro s z t t' h hs hz hl hn
  cases t with
  | nil=>rw [htT] at h;cases h
  | cons x t =>
   rw [htT] at h
   split at h
   ·rename_i hg
    simp only [gdB,Bool.and_eq_true,decide_eq_true_eq,Bool.not_eq_true'] at hg
    obtain ⟨⟨⟨g1,g2⟩,g3⟩,g4⟩:=hg
    by_cases he : ∃ i ∈ brL lost away z x N,i ∈ H
    ·obtain ⟨i,pre',t1,t2,k1,k2,k3,k4⟩:=go_hit h (fun i hi=>by cases hi) he
     refine ih (s++[i]) (z++pre') t1 t2 k4 (fun y hy=>?_) (fun y hy=>?_) (by rw [List.length_append,List.length_singleton];omega) ?_
     ·rcases List.mem_append.1 hy with hy | hy
      ·exact hs y hy
      ·rw [List.mem_singleton.1 hy];exact k2
     ·rcases List.mem_append.1 hy with hy | hy
      ·exact hz y hy
      ·exact k3 y hy
     ·rw [List.nodup_append]
      refine ⟨hn,(by simp),fun a ha b hb e=>?_⟩
      rw [List.mem_singleton] at hb
      subst hb
      subst e
      obtain ⟨j,rfl,_,hj,_⟩:=brL_mem.1 k1
      have:=nzL_false.1 g3 _ ha
      rw [Int.toNat_natCast] at this
      exact hj this
    ·refine not_en CC hlo (liE_of g1) g2 (fun y hy=>Classical.byContradiction fun h0=>he ⟨y,?_,hy⟩) g4
     have hy2:=hH.1 y hy
     have e : ((y.toNat : Nat) : Int) = y:=by omega
     refine brL_mem.2 ⟨y.toNat,e.symm,by omega,h0,?_,?_,?_⟩
     ·rw [e];exact (hd y hy).1
     ·rw [e];exact (hd y hy).2
     ·rw [e];exact fun hz'=>hz y hz' hy
   ·cases h
end
open Go Go.Fw
set_option maxRecDepth 100000
set_option linter.unusedVariables false
set_option linter.unusedSimpArgs false
set_option maxHeartbeats 0
abbrev srL (N : Nat) (s : List Int) : List Int:=othL N [othL N [s]]
theorem srL_mem {N : Nat} {s : List Int} {x : Int} : x ∈ srL N s ↔ (0 ≤ x ∧ x < N) ∧ x ∈ s:=by
 rw [srL,othL_mem]
 refine and_congr_right fun hx=>⟨fun h=>?_,fun h l hl h2=>?_⟩
 ·have h1:=h _ (.head _)
  rw [othL_mem] at h1
  refine Classical.byContradiction fun h2=>h1 ⟨hx,fun l hl=>?_⟩
  rw [List.mem_singleton.1 hl];exact h2
 ·rw [List.mem_singleton.1 hl,othL_mem] at h2
  exact h2.2 s (.head _) h
theorem cmbF_in {q n : Nat} {A M : Int → Int → Int} {G : List (List Int)} : ∀ {x : List Int} {R : List (List Int)} {u : List Int},(∀ a ∈ x,0 ≤ a ∧ a < q) → (∀ r ∈ R,r ∈ G) → Cmb q A M n G u → Cmb q A M n G (cmbF A M x R u)
 | [],_,_,_,_,h=>h
 | _::_,[],_,_,_,h=>h
 | a::x,r::R,u,hx,hR,h=>by
  refine cmbF_in (x:=x) (R:=R) (fun b hb=>hx b (.tail _ hb)) (fun b hb=>hR b (.tail _ hb)) ?_
  split
  ·exact h
  ·exact .add (hR r (.head _)) (hx a (.head _)).1 (hx a (.head _)).2 h
section
variable {p m N : Nat} {md lost away : List Int} {rows : List (List Int)}
theorem mb_of (CC : Cok p m md N rows) {w : List Int} (h : Cmb (p ^ m) (liftI (fA p m)) (liftI (fM p (fpo m md))) N rows w) : mbB p m md N rows w = true:=by
 obtain ⟨hR,hl⟩:=CC.red
 exact zrB_iff.2 ((fok_fn CC.K).rs_nil hR hl h)
theorem cn_mem {A M : Int → Int → Int} {N V : Int → Int} {n : Nat} {rows : List (List Int)} {w : List Int} (h : w ∈ (cnE A M N V n rows).1) : w ∈ (elimL A M N V n 0 0 rows).1:=List.mem_of_mem_take h
theorem FO.cn_cmb {q n : Nat} {A M : Int → Int → Int} {N V : Int → Int} (O : FO q A M N V) {rows : List (List Int)} (hM : Mat q n rows) {w : List Int} (h : w ∈ (cnE A M N V n rows).1) : Cmb q A M n rows w:=O.elim_cmb n 0 0 (Nat.zero_le _) hM w (cn_mem h)
theorem FO.wi_cmb {q n : Nat} {A M : Int → Int → Int} {N V : Int → Int} (O : FO q A M N V) {gen h : List (List Int)} (hG : Mat q n gen) (hh : Mat q gen.length h) {w : List Int} (hw : w ∈ wiL A M N V n gen h) : Cmb q A M n gen w:=by
 refine O.cmb_trans hG (rows':=woL A M N V n gen h) (fun r hr=>?_) (O.cn_cmb (O.wo_mat hG hh) hw)
 obtain ⟨x,hx,rfl⟩:=List.mem_map.1 hr
 exact cmbF_in ((O.nu hh).1 x hx).2 (fun r hr=>hr) .zero
theorem wi_cmb (CC : Cok p m md N rows) {hs w : List Int} (h : w ∈ wiP p m md N rows hs) : Cmb (p ^ m) (liftI (fA p m)) (liftI (fM p (fpo m md))) N rows w:=(fok_fn CC.K).wi_cmb CC.mat (hs_mat CC hs) h
theorem wi_zero (CC : Cok p m md N rows) {hs w : List Int} (hh : ∀ x ∈ hs,0 ≤ x ∧ x < (N : Int)) (h : w ∈ wiP p m md N rows hs) : ∀ x ∈ hs,at0 w x.toNat = 0:=fun x hx=>by
 have O:=fok_fn CC.K
 refine ((O.wi CC.mat (hs_mat CC hs)).2 x.toNat (by have:=hh x hx;omega)).2 (fun y hy hs=>?_) w h
 exact hs _ (List.mem_map.2 ⟨x,hx,rfl⟩)
theorem wt_word (CC : Cok p m md N rows) {s w : List Int} (h : wtP p m md N rows lost (srL N s) = some w) (hs : ∀ x ∈ s,0 ≤ x ∧ x < (N : Int)) : Wd (p ^ m) N w ∧ gdB p m md N rows lost w s = true ∧ ∀ x ∈ s,at0 w x.toNat = 0:=by
 have h1:=List.find?_some h
 have h2:=List.mem_of_find?_eq_some h
 have hw:=wi_wd CC (srL N s) w h2
 have h0 : ∀ x ∈ s,at0 w x.toNat = 0:=fun x hx=>wi_zero CC (fun y hy=>(srL_mem.1 hy).1) h2 x (srL_mem.2 ⟨hs x hx,hx⟩)
 refine ⟨hw,?_,h0⟩
 rw [gdB,decide_eq_true (liE_ok hw),mb_of CC (wi_cmb CC h2),nzL_false.2 h0]
 exact h1
end
open Go Go.Fw
set_option maxRecDepth 100000
set_option linter.unusedVariables false
set_option linter.unusedSimpArgs false
set_option maxHeartbeats 0
section
variable {p m N n c nm cm nx cx : Nat} {pm ps px : Option Addr} {md x : List Int} {rows : List (List Int)}
end
open Go Go.Fw
set_option maxRecDepth 100000
set_option linter.unusedVariables false
set_option linter.unusedSimpArgs false
set_option maxHeartbeats 0
section
variable {p m N : Nat} {md lost away : List Int} {rows : List (List Int)}
end
open Go Go.Fw
set_option maxRecDepth 100000
set_option linter.unusedVariables false
set_option linter.unusedSimpArgs false
set_option maxHeartbeats 0
def prB (p m : Nat) (md : List Int) (N : Nat) (rows : List (List Int)) (lost away : List Int) (w : Int) (t : List (List Int)) : Bool:=if w < 0 then decide ((t.length : Int) = 0) else (match htT p m md N rows lost away w.toNat [] [] t with
 | none=>false
 | some t'=>decide ((t'.length : Int) = 0))
section
variable {p m N nm cm n c nl cl na ca nt ct : Nat} {md lost away : List Int} {rows t : List (List Int)} {pm ps pl pa pt : Option Addr} {w : Int}
end
open Go Go.Fw
set_option maxRecDepth 100000
set_option linter.unusedVariables false
set_option linter.unusedSimpArgs false
set_option maxHeartbeats 0
section
variable {P M N w e : Int} {nm cm n c nl cl na ca nt ct : Nat} {md lost away : List Int} {rows t : List (List Int)} {pm ps pl pa pt : Option Addr}
end
open Go Go.Fw
set_option maxRecDepth 100000
set_option linter.unusedVariables false
set_option linter.unusedSimpArgs false
set_option maxHeartbeats 0
section
variable {P M N w : Int} {n c nm cm nl cl na ca nh ch nt ct : Nat} {pm ps pl pa ph pt : Option Addr} {md lost away hs : List Int} {rows t : List (List Int)}
end
open Go Go.Fw
set_option maxRecDepth 100000
set_option linter.unusedVariables false
set_option linter.unusedSimpArgs false
set_option maxHeartbeats 0
section
variable {ps : Option Addr} {n c : Nat} {s : List Int} {y : Int}
end
section
variable {pw pl pa pz : Option Addr} {nw cw nl cl na ca nz cz' : Nat} {w lost away z : List Int}
end
open Go Go.Fw
set_option maxRecDepth 100000
set_option linter.unusedVariables false
set_option linter.unusedSimpArgs false
set_option maxHeartbeats 0
def apI (l : List Int) (i : Int) : List Int:=l++[i]
def huGo (add : List Int → Int → List Int) (f : List Int → List Int → Nat × List (List Int) → (Nat × List (List Int)) × Option (Option (List Int))) (s z : List Int) : List Int → List Int → Nat × List (List Int) → (Nat × List (List Int)) × Option (Option (List Int))
 | _,[],x=>(x,none)
 | pre,i::r,x=>match f (add s i) (z++pre) x with
  | (x',some o)=>(x',some o)
  | (x',none)=>huGo add f s z (pre++[i]) r x'
def huT (add : List Int → Int → List Int) (wt : List Int → Option (List Int)) (br : List Int → List Int → List Int) : Nat → List Int → List Int → Nat × List (List Int) → (Nat × List (List Int)) × Option (Option (List Int))
 | 0,s,z,x=>match x.1 with
  | 0=>(x,some none)
  | k + 1=>match wt s with
   | none=>((k,x.2),some (some s))
   | some w=>((k,x.2++[w]),none)
 | d + 1,s,z,x=>match x.1 with
  | 0=>(x,some none)
  | k + 1=>match wt s with
   | none=>((k,x.2),some (some s))
   | some w=>huGo add (huT add wt br d) s z [] (br z w) (k,x.2++[w])
section
variable {n : Int} {wt : List Int → Option (List Int)} {br : List Int → List Int → List Int}
theorem hu_le {add : List Int → Int → List Int} : ∀ (d : Nat) (s z : List Int) (x : Nat × List (List Int)),(huT add wt br d s z x).1.1 ≤ x.1 ∧ (huT add wt br d s z x).1.2.length + (huT add wt br d s z x).1.1 ≤ x.2.length + x.1:=by
 intro d
 induction d with
 | zero =>
  intro s z x
  rw [huT]
  cases hx : x.1 with
  | zero=>exact ⟨by dsimp only;omega,by dsimp only;omega⟩
  | succ k =>
   dsimp only
   cases wt s with
   | none=>exact ⟨by dsimp only;omega,by dsimp only;omega⟩
   | some w=>exact ⟨by dsimp only;omega,by dsimp only;rw [List.length_append,List.length_singleton];omega⟩
 | succ d ih =>
  intro s z x
  rw [huT]
  cases hx : x.1 with
  | zero=>exact ⟨by dsimp only;omega,by dsimp only;omega⟩
  | succ k =>
   dsimp only
   cases wt s with
   | none=>exact ⟨by dsimp only;omega,by dsimp only;omega⟩
   | some w =>
    dsimp only
    have e : (k,x.2++[w]).1 ≤ k + 1 ∧ (k,x.2++[w]).2.length + (k,x.2++[w]).1 ≤ x.2.length + (k + 1):=⟨by dsimp only;omega,by dsimp only;rw [List.length_append,List.length_singleton];omega⟩
    generalize br z w = L at *
    generalize ([] : List Int) = pre
    generalize (k,x.2++[w]) = y at *
    induction L generalizing pre y with
    | nil=>exact e
    | cons i L ihL =>
     rw [huGo]
     have h:=ih (add s i) (z++pre) y
     split
     ·rename_i x' o hx'
      rw [hx'] at h
      dsimp only at h ⊢
      exact ⟨by omega,by omega⟩
     ·rename_i x' hx'
      rw [hx'] at h
      dsimp only at h
      exact ihL _ _ ⟨by omega,by omega⟩
theorem hu_tree {p m N : Nat} {md lost away : List Int} {rows : List (List Int)} (hg : ∀ s w,(∀ x ∈ s,0 ≤ x ∧ x < (N : Int)) → wt s = some w → gdB p m md N rows lost w s = true) : ∀ (d : Nat) (s z : List Int) (x x' : Nat × List (List Int)),(∀ x ∈ s,0 ≤ x ∧ x < (N : Int)) → huT apI wt (fun z w=>brL lost away z w N) d s z x = (x',none) → ∃ U,x'.2 = x.2++U ∧ ∀ t,htT p m md N rows lost away d s z (U++t) = some t:=by
 intro d
 induction d with
 | zero =>
  intro s z x x' hr h
  rw [huT] at h
  cases hx : x.1 with
  | zero=>rw [hx] at h;cases h
  | succ k =>
   rw [hx] at h
   dsimp only at h
   cases hw : wt s with
   | none=>rw [hw] at h;cases h
   | some w =>
    rw [hw] at h
    cases h
    exact ⟨[w],rfl,fun t=>by rw [List.singleton_append,htT,if_pos (hg s w hr hw)]⟩
 | succ d ih =>
  intro s z x x' hr h
  rw [huT] at h
  cases hx : x.1 with
  | zero=>rw [hx] at h;cases h
  | succ k =>
   rw [hx] at h
   dsimp only at h
   cases hw : wt s with
   | none=>rw [hw] at h;cases h
   | some w =>
    rw [hw] at h
    dsimp only at h
    have key : ∀ (L pre : List Int) (y : Nat × List (List Int)),(∀ x ∈ L,0 ≤ x ∧ x < (N : Int)) → huGo apI (huT apI wt (fun z w=>brL lost away z w N) d) s z pre L y = (x',none) → ∃ U,x'.2 = y.2++U ∧ ∀ t,htGo (htT p m md N rows lost away d) s z pre L (U++t) = some t:=by
     intro L
     induction L with
     | nil=>intro pre y _ h;cases h;exact ⟨[],by simp,fun t=>rfl⟩
     | cons i L ihL =>
      intro pre y hL h
      rw [huGo] at h
      split at h
      ·cases h
      ·rename_i y' hy'
       obtain ⟨U,hU,hU2⟩:=ih _ _ _ _ (fun x hx=>by
        rcases List.mem_append.1 hx with hx | hx
        ·exact hr x hx
        ·rw [List.mem_singleton.1 hx];exact hL i (.head _)) hy'
       obtain ⟨V,hV,hV2⟩:=ihL _ _ (fun x hx=>hL x (.tail _ hx)) h
       refine ⟨U++V,by rw [hV,hU,List.append_assoc],fun t=>?_⟩
       rw [htGo,List.append_assoc,show htT p m md N rows lost away d (s++[i]) (z++pre) _ = _ from hU2 (V++t)]
       exact hV2 t
    obtain ⟨U,hU,hU2⟩:=key _ _ _ (fun x hx=>by
     obtain ⟨i,rfl,hi,_⟩:=brL_mem.1 hx
     exact ⟨by omega,by omega⟩) h
    refine ⟨w::U,by rw [hU];simp,fun t=>?_⟩
    rw [List.cons_append,htT,if_pos (hg s w hr hw)]
    exact hU2 t
theorem hu_found {Q : Int → Prop} (hb : ∀ s z w,wt s = some w → ∀ y ∈ br z w,y ∉ s ∧ Q y) : ∀ (d : Nat) (s z : List Int) (x x' : Nat × List (List Int)) (s' : List Int),huT apI wt br d s z x = (x',some (some s')) → s.Nodup → wt s' = none ∧ s'.length ≤ s.length + d ∧ s'.Nodup ∧ ∀ y ∈ s',y ∈ s ∨ Q y:=by
 intro d
 induction d with
 | zero =>
  intro s z x x' s' h hn
  rw [huT] at h
  cases hx : x.1 with
  | zero=>rw [hx] at h;cases h
  | succ k =>
   rw [hx] at h
   dsimp only at h
   cases hw : wt s with
   | none=>rw [hw] at h;cases h;exact ⟨hw,by omega,hn,fun y hy=>.inl hy⟩
   | some w=>rw [hw] at h;cases h
 | succ d ih =>
  intro s z x x' s' h hn
  rw [huT] at h
  cases hx : x.1 with
  | zero=>rw [hx] at h;cases h
  | succ k =>
   rw [hx] at h
   dsimp only at h
   cases hw : wt s with
   | none=>rw [hw] at h;cases h;exact ⟨hw,by omega,hn,fun y hy=>.inl hy⟩
   | some w =>
    rw [hw] at h
    dsimp only at h
    have hb':=hb s z w hw
    generalize br z w = L at *
    generalize ([] : List Int) = pre at h
    generalize (k,x.2++[w]) = y at h
    induction L generalizing pre y with
    | nil=>cases h
    | cons i L ihL =>
     rw [huGo] at h
     split at h
     ·rename_i y' o hy'
      cases h
      obtain ⟨hi,hq⟩:=hb' i (.head _)
      obtain ⟨h1,h2,h3,h4⟩:=ih _ _ _ _ _ hy' (by
       rw [apI,List.nodup_append]
       exact ⟨hn,(by simp),fun a ha b hb e=>by rw [List.mem_singleton] at hb;subst hb;subst e;exact hi ha⟩)
      refine ⟨h1,by rw [apI,List.length_append,List.length_singleton] at h2;omega,h3,fun y hy=>?_⟩
      rcases h4 y hy with h | h
      ·rcases List.mem_append.1 h with h | h
       ·exact .inl h
       ·rw [List.mem_singleton.1 h];exact .inr hq
      ·exact .inr h
     ·exact ihL (fun y hy=>hb' y (.tail _ hy)) _ _ h
end
open Go Go.Fw
set_option maxRecDepth 100000
set_option linter.unusedVariables false
set_option linter.unusedSimpArgs false
set_option maxHeartbeats 0
section
variable {add : List Int → Int → List Int} {wt : List Int → Option (List Int)} {br : List Int → List Int → List Int} {d k : Nat} {s z w : List Int} {T : List (List Int)}
theorem huT_out : huT add wt br d s z (0,T) = ((0,T),some none):=by cases d <;> rfl
theorem huT_none (h : wt s = none) : huT add wt br d s z (k + 1,T) = ((k,T),some (some s)):=by cases d <;> (rw [huT];dsimp only;rw [h])
theorem huT_leaf (h : wt s = some w) : huT add wt br 0 s z (k + 1,T) = ((k,T++[w]),none):=by rw [huT];dsimp only;rw [h]
theorem huT_go (h : wt s = some w) : huT add wt br (d + 1) s z (k + 1,T) = huGo add (huT add wt br d) s z [] (br z w) (k,T++[w]):=by rw [huT];dsimp only;rw [h]
end
theorem win_issueS {P : Program} {F : Fun P} {C : Cx} {S : List It} {R : Value → World → Prop} {β : List Blk} {Γ : List Fact} {it : List (TypeId × IntKind)} {p : List Nat} {σ : Fr} {i : Nat} (hit : IntTys P it) {A : List Nat} {m : Nat} {o : Oper} {dd : Tmp} {u : Value} {q : Prop} (ho : nth (opsOf (sub p F.B)) i = some o) (hg : o.guard = none) (hd : o.dst = some dd) (hlt : Nat.blt dd F.fn.ntmps = true) (hp : pev it σ o.op = some (u,q)) (hq : q)
  (hw : WIN F C p A m (i + 1) S (putF (some dd) u σ) β Γ R) (hL : LateAll it F.fn.ntmps (opsOf (sub p F.B)) A σ (A.filter fun j=>Nat.blt j i)) (hi : memB i A = true:=by rfl) : WIN F C p A (m + 1) i S σ β Γ R:=by
 have hiA:=memB_iff.1 hi
 intro pend sched hpA hnd hI w hO hG
 have hil : i < (opsOf (sub p F.B)).length:=by
  rw [nth_eq] at ho
  exact (List.getElem?_eq_some_iff.1 ho).1
 have hoarr : (opsOf (sub p F.B)).toArray[i]? = some o:=by
  rw [nth_eq] at ho
  simpa using ho
 have hdj : dstAt (opsOf (sub p F.B)) i = some dd:=by simp [dstAt,ho,hd]
 have ee : i + (m + 1) = i + 1 + m:=by omega
 -- issued
 have issued : ∀ (pend l : List Nat) (a : Act),(∀ j ∈ pend,j ∈ A ∧ j < i) → pend.Nodup → Inter (opsOf (sub p F.B)) A (i + 1 + m) (i::pend) (i + 1) l → a.tmps.size = F.fn.ntmps → a.defers = [] →
   (∀ t v,(∀ j ∈ pend,dstAt (opsOf (sub p F.B)) j ≠ some t) → Fr.get t σ = some v → a.tmps[t]? = some v) → At F (.inRegion (opsOf (sub p F.B)).toArray l::S.map (It.item F.B)) a w R:=by
  intro pend l a hpA hnd hI hsz hdf hfr
  refine hw (i::pend) l (fun j hj=>?_) (List.nodup_cons.2 ⟨fun h=>by have:=(hpA i h).2;omega,hnd⟩) hI w hO hG a hsz hdf fun t x hno hx=>?_
  ·rcases List.mem_cons.1 hj with rfl | hj
   ·exact ⟨hiA,by omega⟩
   ·exact ⟨(hpA j hj).1,by have:=(hpA j hj).2;omega⟩
  ·have hne : dd ≠ t:=fun e=>hno i (.head _) (by rw [hdj,e])
   simp only [putF,Fr.get] at hx
   have hb : Nat.beq dd t = false:=by
    cases hb : Nat.beq dd t with
    | true=>exact absurd (Nat.eq_of_beq_eq_true hb) hne
    | false=>rfl
   rw [hb] at hx
   exact hfr t x (fun j hj=>hno j (.tail _ hj)) hx
 have key : ∀ n (pend sched : List Nat),pend.length = n → (∀ j ∈ pend,j ∈ A ∧ j < i) → pend.Nodup → Inter (opsOf (sub p F.B)) A (i + (m + 1)) pend i sched → ∀ a : Act,a.tmps.size = F.fn.ntmps → a.defers = [] →
   (∀ t v,(∀ j ∈ pend,dstAt (opsOf (sub p F.B)) j ≠ some t) → Fr.get t σ = some v → a.tmps[t]? = some v) → At F (.inRegion (opsOf (sub p F.B)).toArray sched::S.map (It.item F.B)) a w R:=by
  intro n
  induction n with
  | zero =>
   intro pend sched hl hpA hnd hI a hsz hdf hfr
   have : pend = []:=List.eq_nil_of_length_eq_zero hl
   subst this
   cases hI with
   | done =>
    have er : List.range' i ((opsOf (sub p F.B)).length - i) = i::List.range' (i + 1) ((opsOf (sub p F.B)).length - (i + 1)):=by
     have e : (opsOf (sub p F.B)).length - i = ((opsOf (sub p F.B)).length - (i + 1)) + 1:=by omega
     rw [e,List.range'_succ]
    rw [er]
    have hfit : Fits F.fn.ntmps σ a:=⟨hsz,hdf,fun t v hv=>hfr t v (fun j hj=>by cases hj) hv⟩
    have hpe:=pev_sound (P:=P) hit (ty:=o.type) hp hq w a.eval fun x v hv=>hfit.eval hv
    have hdlt : dd < a.tmps.size:=by rw [hsz];exact Nat.le_of_ble_eq_true hlt
    refine At_op hoarr (by simp [Region.wanted,hg]) (post:=fun v w'=>v = u ∧ w' = w) (by rw [execOp_bare,hpe];exact ⟨rfl,rfl⟩) ?_
    rintro v w' ⟨rfl,rfl⟩
    rw [hd]
    refine hw [] _ (fun j hj=>by cases hj) List.nodup_nil .done w' hO hG _ (by simp [Act.put,hsz]) (by simp [Act.put,hdf]) fun t x _ hx=>?_
    simp only [putF,Fr.get] at hx
    by_cases e : dd = t
    ·subst e
     rw [Nat.beq_refl] at hx
     rw [← Option.some.inj hx]
     simp [Act.put,hdlt]
    ·have hb : Nat.beq dd t = false:=by
      cases hb : Nat.beq dd t with
      | true=>exact absurd (Nat.eq_of_beq_eq_true hb) e
      | false=>rfl
     rw [hb] at hx
     simp only [Act.put]
     rw [Array.getElem?_setIfInBounds_ne e]
     exact hfr t x (fun j hj=>by cases hj) hx
   | pend hj _ _=>cases hj
   | tail _ _ h _=>exact absurd hiA h
   | issue _ _ _ hI'=>rw [ee] at hI';exact issued [] _ a hpA hnd hI' hsz hdf hfr
  | succ n ih =>
   intro pend sched hl hpA hnd hI a hsz hdf hfr
   cases hI with
   | done=>simp at hl
   | pend hj hdp hI' =>
    exact win_late hit hL hpA hj hdp hsz hdf hfr fun a' h1 h2 h3=>ih _ _ (by rw [List.length_erase_of_mem hj];omega) (fun j' hj'=>hpA j' (List.mem_of_mem_erase hj')) (hnd.erase _) hI' a' h1 h2 h3
   | tail _ _ h _=>exact absurd hiA h
   | issue _ _ _ hI'=>rw [ee] at hI';exact issued pend _ a hpA hnd hI' hsz hdf hfr
 exact fun a=>key _ pend sched rfl hpA hnd hI a
theorem x_app0 {P : Program} {C : Cx} {σ : Fr} {β : List Blk} {Γ : List Fact} {ty : TypeId} {K : Value → List Blk → List Fact → Prop} {t e : TypeId} {x y : Operand} {pa py : Option Addr} {n ca cy sz : Nat} (hx : ev σ x = some (.slice pa n ca)) (hy : ev σ y = some (.slice py 0 cy)) (hT : slTy P t = some (e,sz)) (hle : n ≤ ca) (h : K (.slice pa n ca) β Γ) :
  Jop P C (.call { callee:=.builtin .append,args:=#[x,y],argTypes:=#[t,t] }) ty σ β Γ K:=fun w hO hG=>by
 obtain ⟨hu,i,hi,_⟩:=slTy_some hT
 exact Ex_append hx hy (run_append_zero hu hi hle) ⟨_,_,h,hO,hG⟩
section
variable {p m N nm cm n c nl cl nh ch : Nat} {pm ps pl ph : Option Addr} {md lost hs w : List Int} {rows : List (List Int)}
theorem S_wt_none (CC : Cok p m md N rows) (hlo : stP N lost) (h : wtP p m md N rows lost (srL N hs) = none) : Ctr Tryz.prog 49 [.agg #[.int .i64 p,.int .i64 m,.slice pm nm cm,.int .i64 N,.slice ps n c],.slice pl nl cl,.slice ph nh ch] [] [slF I64 pm nm cm md,slF (encSl I64) ps n c rows,slF I64 pl nl cl lost,slF I64 ph nh ch hs] (Rv (.slice none 0 0) []) :=
 (S_repair_witnessS CC hlo).mono fun C w v Φ β' ⟨pa,k,ca,hv,hΦ,hβ,h1,h2⟩ hO _=>by
  obtain rfl:=h1.2 h
  obtain ⟨rfl,rfl⟩:=h2 h
  exact ⟨_,_,⟨hv,rfl,rfl⟩,hβ ▸ hO,fun g hg=>by cases hg⟩
theorem S_wt_some (CC : Cok p m md N rows) (hlo : stP N lost) (h : wtP p m md N rows lost (srL N hs) = some w) : Ctr Tryz.prog 49 [.agg #[.int .i64 p,.int .i64 m,.slice pm nm cm,.int .i64 N,.slice ps n c],.slice pl nl cl,.slice ph nh ch] [] [slF I64 pm nm cm md,slF (encSl I64) ps n c rows,slF I64 pl nl cl lost,slF I64 ph nh ch hs] (fun v Φ β=>∃ pa k ca,v = .slice pa k ca ∧ Φ = [slF I64 pa k ca w] ∧ β = []) :=
 (S_repair_witnessS CC hlo).mono fun C w' v Φ β' ⟨pa,k,ca,hv,hΦ,hβ,h1,h2⟩ hO hF=>by
  refine ⟨_,_,⟨pa,k,ca,hv,rfl,rfl⟩,hβ ▸ hO,fun g hg=>?_⟩
  obtain rfl:=List.mem_singleton.1 hg
  have h3:=hF _ (hΦ ▸ List.mem_singleton.2 rfl)
  rw [h] at h3
  exact hβ ▸ h3
end
abbrev NoA (Hb : Nat → Row → Nat → Blk) (k : Nat) (T : List (List Int)) (g : Bool) : Value → List Fact → List Blk → Prop:=fun v Φ β=>∃ r : Row,v = .tuple #[.slice none 0 0,.bool g] ∧ Φ = [rowF (encSl I64) r T.length T] ∧ β = [Hb k r T.length,(r.bo,22,r.cs)]
abbrev NoS (Hb : Nat → Row → Nat → Blk) (k : Nat) (T : List (List Int)) (l : List Int) : Value → List Fact → List Blk → Prop:=fun v Φ β=>∃ (r : Row) (b2 c2 : Nat) (cs2 : List Value),v = .tuple #[.slice (some ⟨b2,0,none⟩) l.length c2,.bool true] ∧ Φ = [rowF (encSl I64) r T.length T,rowF I64 ⟨some b2,c2,cs2⟩ l.length l] ∧ β = [Hb k r T.length,(r.bo,22,r.cs),(some b2,3,cs2)]
def NoQ (Hb : Nat → Row → Nat → Blk) (x : (Nat × List (List Int)) × Option (Option (List Int))) : Value → List Fact → List Blk → Prop :=
 match x.2 with
 | none=>NoA Hb x.1.1 x.1.2 false
 | some none=>NoA Hb x.1.1 x.1.2 true
 | some (some l)=>NoS Hb x.1.1 x.1.2 l
section
variable {p m N : Nat} {md lost away : List Int} {rows : List (List Int)}
abbrev huP (p m N : Nat) (md lost away : List Int) (rows : List (List Int)) : Nat → List Int → List Int → Nat × List (List Int) → (Nat × List (List Int)) × Option (Option (List Int)):=huT apI (fun s=>wtP p m md N rows lost (srL N s)) (fun z w=>brL lost away z w N)
theorem S_repair_hunt__node (CC : Cok p m md N rows) (hlo : stP N lost) : ∀ (d : Nat) {s z : List Int} {k : Nat} {T : List (List Int)} {b nm cm n c nl cl na ca ns cs nz cz' W : Nat} {pm ps pl pa pS pz : Option Addr} {r : Row},
  W = s.length + d → W ≤ 1000 → z.length + 100 * d ≤ 200000 → s.length ≤ 1000 → (∀ x ∈ s,0 ≤ x ∧ x < (N : Int)) → T.length + k ≤ 100000 →
  Ctr Tryz.prog 51 [.pointer (some ⟨b,0,none⟩),.slice pS ns cs,.slice pz nz cz'] [(some b,83,[.int .i64 p,.int .i64 m,.slice pm nm cm,.int .i64 N,.slice ps n c,.slice pl nl cl,.slice pa na ca,.int .i64 W,.int .i64 (k : Nat),.slice (ad r.bo) T.length r.cap]),(r.bo,22,r.cs)]
   [slF I64 pm nm cm md,slF (encSl I64) ps n c rows,slF I64 pl nl cl lost,slF I64 pa na ca away,slF I64 pS ns cs s,slF I64 pz nz cz' z,rowF (encSl I64) r T.length T]
   (NoQ (fun k r t=>(some b,83,[.int .i64 p,.int .i64 m,.slice pm nm cm,.int .i64 N,.slice ps n c,.slice pl nl cl,.slice pa na ca,.int .i64 W,.int .i64 (k : Nat),.slice (ad r.bo) t r.cap])) (huP p m N md lost away rows d s z (k,T))):=by
 intro d
 induction d using Nat.strongRecOn with
 | ind d ihd =>
 intro s z k T b nm cm n c nl cl na ca ns cs nz cz' W pm ps pl pa pS pz r hW hW2 hz hsl hs hT
 refine Ctr_of_j' (F:=F_repair_hunt__node) rfl fun C=>?_
 refine j_len 4 rfl fun hn _ _=>?_
 subst hn
 refine j_len 5 rfl fun hn _ _=>?_
 subst hn
 have h64:=CC.n64
 cases k with
 | zero =>
  rw [show huP p m N md lost away rows d s z (0,T) = ((0,T),some none) from huT_out]
  refine wk 12 cz ?_
  intro h1
  refine j_givK 2 [0,1] [6] rfl (.tmp rfl (.tmp rfl .nil)) rfl rfl rfl ⟨r,rfl,rfl,rfl⟩
 | succ k =>
  have hk : ((k + 1 : Nat) : Int) - 1 = (k : Int):=by omega
  cases hw : wtP p m md N rows lost (srL N s) with
  | none =>
   rw [show huP p m N md lost away rows d s z (k + 1,T) = ((k,T),some (some s)) from huT_none hw]
   have c_repair_witness:=fun {nm cm n c nl cl nh ch : Nat} {pm ps pl ph : Option Addr}=>S_wt_none (nm:=nm) (cm:=cm) (n:=n) (c:=c) (nl:=nl) (cl:=cl) (nh:=nh) (ch:=ch) (pm:=pm) (ps:=ps) (pl:=pl) (ph:=ph) CC hlo hw
   by_cases hs0 : s.length = 0
   ·obtain rfl:=List.length_eq_zero_iff.1 hs0
    refine wk 21 (ct @c_repair_witness cz) ?_
    intro h1
    refine j_step rfl (x_eqnilN sl22 rfl rfl ?_)
    refine wk 5 cz ?_
    intro b1
    refine j_step rfl (x_app0 rfl rfl sl22 (Nat.zero_le _) ?_)
    refine wk 2 cz ?_ --ok
    (apply j_rowlit (E:=encInt IntKind.i64 8) (n:=0) (cs:=[]) [] [] 0 (fun w A hG=>allrd_nil);(· rfl);(· rfl);(· rfl);(· rfl);(· decide))
    refine j_givK 3 [1,2,0] [7,0] rfl (.tmp rfl (.tmp rfl .nil)) rfl rfl rfl ⟨r,b1,0,[],rfl,rfl,?_⟩
    rw [hk]
    rfl
   ·have hs1 : 0 < s.length:=by omega
    refine wk 21 (ct @c_repair_witness cz) ?_
    intro h1
    refine j_step rfl (x_eqnilN sl22 rfl rfl ?_)
    refine wk 5 cz ?_
    intro b1
    (apply j_rowlit (E:=encInt IntKind.i64 8) (n:=0) (cs:=[]) [] [] 0 (fun w A hG=>allrd_nil);(· rfl);(· rfl);(· rfl);(· rfl);(· decide))
    refine j_step rfl (x_appS 0 0 5 rfl rfl rfl rfl rfl sl22 zo22e rfl (by omega) _ by22e (by omega) fun r1=>?_)
    refine wk 2 cz ?_ --ok
    refine j_rowB 0 rfl (by omega) fun b2 c2 cs2 hr1=>?_
    subst hr1
    refine j_givK 3 [1,2,0] [8,0] rfl (.tmp rfl (.tmp rfl .nil)) rfl rfl rfl ⟨r,b2,c2,cs2,?_,?_,?_⟩
    ·show Value.tuple #[.slice (some ⟨b2,0,none⟩) (0 + s.length) c2,.bool true] = _
     rw [Nat.zero_add]
    ·show [rowF (encSl I64) r T.length T,rowF I64 ⟨some b2,c2,cs2⟩ (0 + s.length) ([]++s)] = _
     rw [Nat.zero_add,List.nil_append]
    ·rw [hk]
     rfl
  | some w =>
   have c_repair_witness:=fun {nm cm n c nl cl nh ch : Nat} {pm ps pl ph : Option Addr}=>S_wt_some (nm:=nm) (cm:=cm) (n:=n) (c:=c) (nl:=nl) (cl:=cl) (nh:=nh) (ch:=ch) (pm:=pm) (ps:=ps) (pl:=pl) (ph:=ph) CC hlo hw
   obtain ⟨hww,_,hw0⟩:=wt_word CC hw hs
   have hwl:=hww.1
   have hn1:=CC.n1
   refine j_nf [_,_] rfl ?_
   refine j_run it 2 rfl (by simp) ?_
   refine j_nf [_,_,_] rfl ?_
   refine j_run it 2 rfl (by simp) ?_
   refine j_step rfl (x_field rfl fd83_4 ?_)
   refine j_step rfl (x_bld 0 rfl rfl ld3 rfl ?_)
   refine j_run it 1 rfl (by simp) ?_
   refine j_nf [_,_] rfl ?_
   refine j_if rfl rfl (fun h1=>by exfalso;omega) (fun h1=>?_)
   refine j_nf [_,_] rfl ?_
   refine j_run it 2 rfl (by simp) ?_
   refine j_step rfl (x_field rfl fd83_4 ?_)
   refine j_step rfl (x_bld 0 rfl rfl ld3 rfl ?_)
   refine j_run it 2 rfl ⟨trivial,⟨by omega,by omega⟩,trivial⟩ ?_
   refine j_step rfl (x_field rfl fd83_4 ?_)
   refine j_step rfl (x_bst1 0 rfl rfl rfl rfl ld3 rfl (Nat.le_of_ble_eq_true rfl) ?_)
   refine j_nf [_,_] rfl ?_
   (apply j_drawK it mx 10;(· rfl);(· rfl))
   (apply lxk_run 2;(· rfl);(· simp))
   (apply lxk_eq;(· rfl);(· exact d_x fun _=>x_field rfl fd83_0 dk_eq))
   (apply lxk_eq;(· rfl);(· exact d_bld_agg 0 rfl rfl ld27 rfl rfl))
   (apply lxk_run 2;(· rfl);(· simp))
   (apply lxk_eq;(· rfl);(· exact d_x fun _=>x_field rfl fd83_1 dk_eq))
   (apply lxk_eq;(· rfl);(· exact d_bld 0 rfl rfl ld22 rfl))
   (apply lxk_run 1;(· rfl);(· simp))
   (apply lxk_fa (val:=(fun g=>Value.slice (g 0).fst (g 1).snd.fst (g 2).snd.fst)) (f:=(fun g=>[slF I64 (g 0).fst (g 1).snd.fst (g 2).snd.fst w]));(· rfl);(· exact d_x fun _=>x_call [0,1,2,4] rfl (c_repair_witness) rfl (by rintro _ _ _ ⟨pag0,kg1,cag2,rfl,rfl,rfl⟩;exact fun _ _ _ hG=>⟨(fun | 0=>(pag0,0,0,[]) | 1=>(none,kg1,0,[]) | 2=>(none,cag2,0,[]) | _=>default),rfl,fun g hg=>drop_own (hG _ (List.mem_append_left _ hg))⟩));intro g1;dsimp only [List.map_cons,List.map_nil])
   refine lxk_end rfl ?_
   simp only [List.map_cons,List.map_nil,List.cons_append,List.nil_append]
   refine j_run it 1 rfl (by simp) ?_
   refine j_nf [_,_,_] rfl ?_
   refine j_run it 1 rfl (by simp) ?_ --ok
   generalize (g1 0).1 = pw at *
   generalize (g1 1).2.1 = nw at *
   generalize (g1 2).2.1 = cw at *
   refine j_len 0 rfl fun hn _ _=>?_
   subst hn
   refine j_slsome 0 rfl (by omega) fun b1 o1 hpa=>?_
   subst hpa
   have hTl : (T++[w]).length = T.length + 1:=by rw [List.length_append];rfl
   cases d with
   | zero =>
    rw [show huP p m N md lost away rows 0 s z (k + 1,T) = ((k,T++[w]),none) from huT_leaf hw]
    have hWs : s.length = W:=by omega
    refine j_step rfl (x_eqnilS sl22 rfl rfl ?_)
    refine wk 8 cz ?_
    intro b2
    refine j_step rfl (x_appR (z:=w) 2 0 7 rfl rfl rfl rfl rfl sl25 zo25e rfl (fun w A hG=>(rd_of_slF (hG _ (fact_mem (n:=0) rfl)))) (by omega) _ by25e (by omega) fun r1=>?_)
    refine wk 15 cz ?_
    intro h2 --ok
    refine j_givK 3 [2,0] [0] rfl (.tmp rfl (.tmp rfl .nil)) rfl rfl rfl ⟨r1,rfl,?_,?_⟩
    ·show [rowF (encSl I64) r1 (T.length + 1) (T++[w])] = _
     rw [hTl]
    ·rw [hk,← hTl]
     rfl
   | succ d =>
    have hWs : s.length ≠ W:=by omega
    have c_repair_branches:=fun {pw pl pa pz : Option Addr} {nw cw nl cl na ca nz cz' : Nat}=>(S_repair_branches (pw:=pw) (pl:=pl) (pa:=pa) (pz:=pz) (nw:=nw) (cw:=cw) (nl:=nl) (cl:=cl) (na:=na) (ca:=ca) (nz:=nz) (cz':=cz') (w:=w) (lost:=lost) (away:=away) (z:=z) (by omega)).pubR (by have:=brL_le (lost:=lost) (away:=away) (z:=z) (w:=w) (n:=w.length);show _ * 8 ≤ 140737488355328;omega)
    refine j_step rfl (x_eqnilS sl22 rfl rfl ?_)
    refine wk 8 cz ?_
    intro b2
    refine j_step rfl (x_appR (z:=w) 2 0 7 rfl rfl rfl rfl rfl sl25 zo25e rfl (fun w A hG=>(rd_of_slF (hG _ (fact_mem (n:=0) rfl)))) (by omega) _ by25e (by omega) fun r1=>?_)
    refine wk 20 (ct @c_repair_branches cz) ?_
    intro h2 pa1 ca1 --ok
    rw [show huP p m N md lost away rows (d + 1) s z (k + 1,T) = huGo apI (huP p m N md lost away rows d) s z [] (brL lost away z w N) (k,T++[w]) from huT_go hw]
    rw [hwl]
    have hLl:=brL_le (lost:=lost) (away:=away) (z:=z) (w:=w) (n:=N)
    have hLm:=fun x=>brL_mem (lost:=lost) (away:=away) (z:=z) (w:=w) (n:=N) (x:=x)
    generalize brL lost away z w N = L at *
    simp only [List.cons_append,List.nil_append]
    refine j_loopG (X:=Nat × Row × Nat × List (List Int)) [0,1,2,9,69,70] [0,1,2,3,4,5,6,7,8,9] (fun x=>[(71,.int .i64 (x.1 : Int))]) (fun x=>[(x.2.1.bo,22,x.2.1.cs),(some b2,22,[.slice (some ⟨b1,o1,none⟩) N cw]),(some b,83,[.int .i64 p,.int .i64 m,.slice pm nm cm,.int .i64 N,.slice ps n c,.slice pl nl cl,.slice pa na ca,.int .i64 W,.int .i64 (x.2.2.1 : Nat),.slice (ad x.2.1.bo) x.2.2.2.length x.2.1.cap])]) (fun x=>[rowF (encSl I64) x.2.1 x.2.2.2.length x.2.2.2]) (fun v=>v.1 ≤ L.length ∧ v.2.2.2.length + v.2.2.1 ≤ 100000 ∧ huGo apI (huP p m N md lost away rows d) s z [] L (k,T++[w]) = huGo apI (huP p m N md lost away rows d) s z (L.take v.1) (L.drop v.1) (v.2.2.1,v.2.2.2)) (fun v=>L.length - v.1) (0,r1,k,T++[w]) [1] rfl rfl rfl ⟨Nat.zero_le _,by show (T++[w]).length + k ≤ 100000;omega,rfl⟩ (by repeat (first | exact Fr.sub_nil _ | refine Fr.sub_cons rfl ?_)) ?_ ?_ ?_
    ·rw [hk,← hTl]
     rfl
    ·rw [← hTl]
     rfl
    rintro ⟨i,r2,k2,T2⟩ ⟨hi,hTk,hg⟩ ih
    simp only [List.cons_append,List.nil_append] at hi hTk hg ih ⊢
    by_cases hil : i < L.length
    ·obtain ⟨y,at_y⟩ : ∃ y,L[i]? = some y:=⟨_,List.getElem?_eq_getElem hil⟩
     have hy:=List.mem_of_getElem? at_y
     have hLr : ∀ y ∈ L,0 ≤ y ∧ y < (N : Int):=fun y hy=>by
      obtain ⟨i,rfl,hi,_⟩:=(hLm y).1 hy
      exact ⟨by omega,by omega⟩
     have e1 : (s++[y]).length = s.length + 1:=by simp
     have e2 : (z++L.take i).length = z.length + i:=by rw [List.length_append,List.length_take];omega
     have hz3 : z.length ≤ 200000:=by omega
     have hs3 : s.length ≤ 1000:=by omega
     have c_repair_with:=fun {ps px : Option Addr} {n c k d : Nat} {l x : List Int} (hl : (l++x).length ≤ 1000000)=>(S_repair_with (ps:=ps) (px:=px) (n:=n) (c:=c) (k:=k) (d:=d) hl).pubR (by show _ * 8 ≤ 140737488355328;omega)
     have e3 : L.drop i = y::L.drop (i + 1):=by
      rw [List.drop_eq_getElem_cons hil];rw [List.getElem?_eq_getElem hil] at at_y;rw [Option.some.inj at_y]
     have e4 : L.take (i + 1) = L.take i++[y]:=by rw [List.take_add_one,at_y];rfl
     rw [e3,huGo] at hg
     refine wk 7 cz ?_
     intro h3 b3 o2 hz1
     refine j_step rfl (x_ld_int 0 rfl rfl ld3 fun ⟨r3,r4⟩=>?_)
     refine wk 2 cz ?_
     refine j_selT 3 [2,0,1] rfl rfl ?_
     simp only [List.cons_append,List.nil_append,List.drop_succ_cons,List.drop_zero]
     (apply j_drawKW (x0:=none) it mx 0 10 [12,13,14] 5;(· rfl);(· rfl);(· rfl);(· decide))
     simp only [List.drop_zero]
     (apply lxk_run 3;(· rfl);(· simp))
     (apply lxk_sl;(· rfl);(· exact d_x fun _=>x_lit sl22 zo22e rfl rfl rfl rfl (by decide) (by decide) rfl fun b4=>dk_all (E:=I64) [[Value.int IntKind.i64 y]] [y] (fun w A hG=>(allrd_cons ⟨rfl,by first | assumption | (simp only [InR];omega)⟩ allrd_nil)) rfl rfl rfl (by first | decide | exact Nat.le_of_ble_eq_true rfl));intro pa2 ca2)
     (apply lxk_sl;(· rfl);(· exact d_x fun _=>x_call [10,0] rfl (c_repair_with (by omega)) rfl (by rintro _ _ _ ⟨pa3,ca3,rfl,rfl,rfl⟩;exact (dk_sl 0 rfl)));intro pa3 ca3)
     (apply lxk_run 3;(· rfl);(· simp))
     (apply lxk_sl;(· rfl);(· exact d_x fun _=>x_slice_h 2 (i) rfl rfl rfl sl22 (by omega) (by omega) (dk_sl 0 rfl));intro pa4 ca4)
     (apply lxk_sl;(· rfl);(· exact d_x fun _=>x_call [13,0] rfl (c_repair_with (by omega)) rfl (by rintro _ _ _ ⟨pa5,ca5,rfl,rfl,rfl⟩;exact (dk_sl 0 rfl)));intro pa5 ca5) --ok
     refine lxk_endW rfl ?_
     rotate_left
     rfl
     simp only [List.map_nil,List.map_cons,List.cons_append,List.nil_append]
     have hle : (huP p m N md lost away rows d (apI s y) (z++L.take i) (k2,T2)).1.1 ≤ k2 ∧ (huP p m N md lost away rows d (apI s y) (z++L.take i) (k2,T2)).1.2.length + (huP p m N md lost away rows d (apI s y) (z++L.take i) (k2,T2)).1.1 ≤ T2.length + k2:=hu_le d _ _ _
     refine win_step it rfl rfl True.intro (x_callN 2 [9,10,11,12,2,0,5] rfl rfl (ihd d (Nat.lt_succ_self d) (s:=s++[y]) (z:=z++L.take i) (k:=k2) (T:=T2) (W:=W) (by omega) hW2 (by omega) (by omega) (fun v hv=>by
      rcases List.mem_append.1 hv with hv | hv
      ·exact hs v hv
      ·rw [List.mem_singleton.1 hv];exact hLr y hy) (by omega)) rfl ?_)
     intro v Φ β' hQ
     rw [show s++[y] = apI s y from rfl] at hQ
     generalize huP p m N md lost away rows d (apI s y) (z++L.take i) (k2,T2) = x at hQ hg hle
     obtain ⟨⟨k3,T3⟩,o⟩:=x
     dsimp only at hg hle
     cases o with
     | none =>
      obtain ⟨r3,rfl,rfl,rfl⟩:=hQ
      simp only [List.drop_succ_cons,List.drop_zero,List.cons_append,List.nil_append]
      refine win_step it rfl rfl True.intro (x_pv it rfl True.intro ?_)
      refine win_issueS it rfl rfl rfl rfl rfl True.intro ?_ True.intro
      refine win_issueS it rfl rfl rfl rfl rfl True.intro ?_ ⟨⟨_,_,_,_,rfl,rfl,rfl,rfl,rfl,rfl,True.intro⟩,True.intro⟩
      refine win_issueS it rfl rfl rfl rfl rfl True.intro ?_ ⟨⟨_,_,_,_,rfl,rfl,rfl,rfl,rfl,rfl,True.intro⟩,⟨_,_,_,_,rfl,rfl,rfl,rfl,rfl,rfl,True.intro⟩,True.intro⟩
      refine win_end it ⟨⟨_,_,_,_,rfl,rfl,rfl,rfl,rfl,rfl,True.intro⟩,⟨_,_,_,_,rfl,rfl,rfl,rfl,rfl,rfl,True.intro⟩,⟨_,_,_,_,rfl,rfl,rfl,rfl,rfl,rfl,True.intro⟩,True.intro⟩ ?_
      simp only [putF]
      refine wk 8 cz ?_
      refine j_toX [1,2,0] [0,7,8,9,10,11,12,13,14,15,16] (by exact fra rfl) rfl rfl rfl (ih (i + 1,r3,k3,T3) (by dsimp only;omega) ⟨by dsimp only;omega,by dsimp only;omega,hg.trans (by rw [e4])⟩)
     | some o =>
     cases o with
     | none =>
      obtain ⟨r3,rfl,rfl,rfl⟩:=hQ
      simp only [List.drop_succ_cons,List.drop_zero,List.cons_append,List.nil_append]
      refine win_step it rfl rfl True.intro (x_pv it rfl True.intro ?_)
      refine win_issueS it rfl rfl rfl rfl rfl True.intro ?_ True.intro
      refine win_issueS it rfl rfl rfl rfl rfl True.intro ?_ ⟨⟨_,_,_,_,rfl,rfl,rfl,rfl,rfl,rfl,True.intro⟩,True.intro⟩
      refine win_issueS it rfl rfl rfl rfl rfl True.intro ?_ ⟨⟨_,_,_,_,rfl,rfl,rfl,rfl,rfl,rfl,True.intro⟩,⟨_,_,_,_,rfl,rfl,rfl,rfl,rfl,rfl,True.intro⟩,True.intro⟩
      refine win_end it ⟨⟨_,_,_,_,rfl,rfl,rfl,rfl,rfl,rfl,True.intro⟩,⟨_,_,_,_,rfl,rfl,rfl,rfl,rfl,rfl,True.intro⟩,⟨_,_,_,_,rfl,rfl,rfl,rfl,rfl,rfl,True.intro⟩,True.intro⟩ ?_
      simp only [putF]
      simp only [hg]
      refine wk 8 cz ?_
      refine j_givK 3 [0,1] [0] rfl (.tmp rfl (.tmp rfl .nil)) rfl rfl rfl ⟨r3,rfl,rfl,rfl⟩
     | some l =>
      obtain ⟨r3,b4,c4,cs4,rfl,rfl,rfl⟩:=hQ
      simp only [List.drop_succ_cons,List.drop_zero,List.cons_append,List.nil_append]
      refine win_step it rfl rfl True.intro (x_pv it rfl True.intro ?_)
      refine win_issueS it rfl rfl rfl rfl rfl True.intro ?_ True.intro
      refine win_issueS it rfl rfl rfl rfl rfl True.intro ?_ ⟨⟨_,_,_,_,rfl,rfl,rfl,rfl,rfl,rfl,True.intro⟩,True.intro⟩
      refine win_issueS it rfl rfl rfl rfl rfl True.intro ?_ ⟨⟨_,_,_,_,rfl,rfl,rfl,rfl,rfl,rfl,True.intro⟩,⟨_,_,_,_,rfl,rfl,rfl,rfl,rfl,rfl,True.intro⟩,True.intro⟩
      refine win_end it ⟨⟨_,_,_,_,rfl,rfl,rfl,rfl,rfl,rfl,True.intro⟩,⟨_,_,_,_,rfl,rfl,rfl,rfl,rfl,rfl,True.intro⟩,⟨_,_,_,_,rfl,rfl,rfl,rfl,rfl,rfl,True.intro⟩,True.intro⟩ ?_
      simp only [putF]
      simp only [hg]
      refine wk 8 cz ?_
      refine j_givK 4 [0,1,2] [0,1] rfl (.tmp rfl (.tmp rfl .nil)) rfl rfl rfl ⟨r3,b4,c4,cs4,rfl,rfl,rfl⟩
    ·obtain rfl : i = L.length:=by omega
     rw [List.take_length,List.drop_length,huGo] at hg
     simp only [hg]
     refine wk 7 cz ?_
     intro h3
     refine j_givK 3 [2,0] [0] rfl (.tmp rfl (.tmp rfl .nil)) rfl rfl rfl ⟨r2,rfl,rfl,rfl⟩
end
open Go Go.Fw
set_option maxRecDepth 100000
set_option linter.unusedVariables false
set_option linter.unusedSimpArgs false
set_option maxHeartbeats 0
def fewGo (en : List Int → Bool) : Nat → List Int → List Int
 | 0,l=>l
 | i + 1,l=>if en (l.take i++l.drop (i + 1)) = true then fewGo en i (l.take i++l.drop (i + 1)) else fewGo en i l
theorem st_less {n : Nat} {l : List Int} (h : stP n l) (i : Nat) : stP n (l.take i++l.drop (i + 1)):=by
 have hs : (l.take i++l.drop (i + 1)).Sublist l:=by
  conv=>rhs;rw [← List.take_append_drop i l]
  refine List.Sublist.append (List.Sublist.refl _) ?_
  rw [show l.drop (i + 1) = (l.drop i).drop 1 by rw [List.drop_drop]]
  exact List.drop_sublist _ _
 exact ⟨fun x hx=>h.1 x (hs.subset hx),h.2.sublist hs⟩
theorem fewGo_st {n : Nat} {en : List Int → Bool} : ∀ {i : Nat} {l : List Int},stP n l → stP n (fewGo en i l)
 | 0,_,h=>h
 | i + 1,l,h=>by
  rw [fewGo]
  split
  ·exact fewGo_st (st_less h i)
  ·exact fewGo_st h
theorem fewGo_sub {en : List Int → Bool} : ∀ {i : Nat} {l : List Int} {x : Int},x ∈ fewGo en i l → x ∈ l
 | 0,_,_,h=>h
 | i + 1,l,x,h=>by
  rw [fewGo] at h
  split at h
  ·rcases List.mem_append.1 (fewGo_sub h) with h | h
   ·exact List.mem_of_mem_take h
   ·exact List.mem_of_mem_drop h
  ·exact fewGo_sub h
theorem fewGo_en {en : List Int → Bool} : ∀ {i : Nat} {l : List Int},en l = true → en (fewGo en i l) = true
 | 0,_,h=>h
 | i + 1,l,h=>by
  rw [fewGo]
  split
  ·rename_i h2
   exact fewGo_en h2
  ·exact fewGo_en h
abbrev enP (p m : Nat) (md : List Int) (N : Nat) (rows : List (List Int)) (lost : List Int) (s : List Int) : Bool:=(wtP p m md N rows lost s).isNone
section
variable {p m N nm cm n c nl cl nh ch na ca : Nat} {pm ps pl ph pa : Option Addr} {md lost hs away : List Int} {rows : List (List Int)}
abbrev SzI (l : List Int) : Value → List Fact → List Blk → Prop:=fun v Φ β=>∃ (pa : Option Addr) (k ca : Nat),v = .slice pa k ca ∧ Φ = [slF I64 pa k ca l] ∧ β = []
theorem S_repair_spare (CC : Cok p m md N rows) (hlo : stP N lost) (hst : stP N hs) : Ctr Tryz.prog 53 [.agg #[.int .i64 p,.int .i64 m,.slice pm nm cm,.int .i64 N,.slice ps n c],.slice pl nl cl,.slice ph nh ch] [] [slF I64 pm nm cm md,slF (encSl I64) ps n c rows,slF I64 pl nl cl lost,slF I64 ph nh ch hs] (SzI (fewGo (enP p m md N rows lost) hs.length hs)):=by
 refine Ctr_of_j' (F:=F_repair_spare) rfl fun C=>?_
 refine j_len 3 rfl fun hn _ _=>?_
 subst hn
 have h64:=CC.n64
 have hn1:=CC.n1
 have hl2:=st_len hst
 refine wk 8 cz ?_
 intro b1
 simp only [List.cons_append,List.nil_append]
 refine j_loopG (X:=Nat × Option Addr × Nat × Nat × List Int) [1,3,6] [0,1,2,3] (fun x=>[(7,.int .i64 ((x.1 : Int) - 1)),(2,.slice x.2.1 x.2.2.1 x.2.2.2.1)]) (fun _=>_) (fun x=>[slF I64 x.2.1 x.2.2.1 x.2.2.2.1 x.2.2.2.2]) (fun x=>x.1 ≤ x.2.2.2.2.length ∧ stP N x.2.2.2.2 ∧ fewGo (enP p m md N rows lost) hs.length hs = fewGo (enP p m md N rows lost) x.1 x.2.2.2.2) (fun x=>x.1) (hs.length,ph,hs.length,ch,hs) [3] rfl rfl rfl ⟨Nat.le_refl _,hst,rfl⟩ (by repeat (first | exact Fr.sub_nil _ | refine Fr.sub_cons rfl ?_)) rfl rfl ?_
 rintro ⟨i,px,kx,cx,l⟩ ⟨hi,hls,hg⟩ ih
 simp only [List.cons_append,List.nil_append] at hi hls hg ih ⊢
 refine j_len 0 rfl fun hn _ _=>?_
 subst hn
 have hll:=st_len hls
 cases i with
 | zero =>
  rw [hg,fewGo]
  clear ih
  refine wk 7 cz ?_
  intro h1
  refine j_giv [0] rfl rfl rfl ⟨_,_,_,rfl,rfl,rfl⟩
 | succ i =>
  have ei : ((i + 1 : Nat) : Int) - 1 = (i : Int):=by omega
  rw [ei]
  have hls2:=st_less hls i
  have ef : [l.take i,l.drop (i + 1)].flatten = l.take i++l.drop (i + 1):=by simp
  have el : (l.take i++l.drop (i + 1)).length = l.length - 1:=by rw [List.length_append,List.length_take,List.length_drop];omega
  have c_slices_Concat___int_int_:=fun {ps : Option Addr} {n c : Nat}=>(S_slices_Concat___int_int_ (ps:=ps) (n:=n) (c:=c) (ls:=[l.take i,l.drop (i + 1)]) (by rw [ef,el];omega)).pubR (by rw [ef,el];show _ * 8 ≤ 140737488355328;omega)
  rw [ef] at c_slices_Concat___int_int_
  have e0 : srL N (l.take i++l.drop (i + 1)) = l.take i++l.drop (i + 1):=oth_oth hls2
  cases hw : wtP p m md N rows lost (l.take i++l.drop (i + 1)) with
  | none =>
   rw [fewGo,if_pos (by show (wtP p m md N rows lost _).isNone = true;rw [hw];rfl)] at hg
   have c_repair_witness:=fun {nm cm n c nl cl nh ch : Nat} {pm ps pl ph : Option Addr}=>S_wt_none (nm:=nm) (cm:=cm) (n:=n) (c:=c) (nl:=nl) (cl:=cl) (nh:=nh) (ch:=ch) (pm:=pm) (ps:=ps) (pl:=pl) (ph:=ph) (hs:=l.take i++l.drop (i + 1)) CC hlo (by rw [e0];exact hw)
   refine wk 5 cz ?_
   intro h1
   (apply j_drawK it mx 9;(· rfl);(· rfl))
   (apply lxk_run 2;(· rfl);(· simp))
   (apply lxk_sl;(· rfl);(· exact d_x fun _=>x_slice_h 0 (i) rfl rfl rfl sl22 (by omega) (by omega) (dk_sl 0 rfl));intro pa1 ca1)
   (apply lxk_run 3;(· rfl);(· exact ⟨⟨by omega,by omega⟩,trivial,trivial,trivial⟩))
   (apply lxk_sl;(· rfl);(· exact d_x fun _=>x_slice_l 0 ((i) + 1) rfl rfl rfl sl22 (by omega) (by omega) fun pa2=>(dk_sl 0 rfl));intro pa2 ca2)
   (apply lxk_sl;(· rfl);(· exact d_x fun _=>x_lit sl25 zo25e rfl rfl rfl rfl (by decide) (by decide) rfl fun b2=>dk_all (E:=(encSl (I64))) [[Value.slice pa1 i ca1],[Value.slice pa2 (l.length - (i + 1)) ca2]] [List.take i l,List.drop (i + 1) l] (fun w A hG=>(allrd_cons (rd_of_slF (hG _ (fact_mem (n:=1) rfl))) (allrd_cons (rd_of_slF (hG _ (fact_mem (n:=0) rfl))) allrd_nil))) rfl rfl rfl (by first | decide | exact Nat.le_of_ble_eq_true rfl));intro pa3 ca3)
   (apply lxk_sl;(· rfl);(· exact d_x fun _=>x_call [0] rfl (c_slices_Concat___int_int_) rfl (by rintro _ _ _ ⟨pa4,ca4,rfl,rfl,rfl⟩;exact (dk_sl 0 rfl)));intro pa4 ca4)
   refine lxk_end rfl ?_
   simp only [List.map_cons,List.map_nil,List.cons_append,List.nil_append]
   refine wk 5 (ct @c_repair_witness cz) ?_
   refine j_step rfl (x_eqnilN sl22 rfl rfl ?_)
   refine wk 7 cz ?_
   exact tw (ih (i,pa4,(l.take i++l.drop (i + 1)).length,ca4,l.take i++l.drop (i + 1)) (by dsimp only;omega) ⟨by dsimp only;omega,hls2,hg⟩)
  | some w =>
   rw [fewGo,if_neg (by show ¬ (wtP p m md N rows lost _).isNone = true;rw [hw];simp)] at hg
   have c_repair_witness:=fun {nm cm n c nl cl nh ch : Nat} {pm ps pl ph : Option Addr}=>S_wt_some (nm:=nm) (cm:=cm) (n:=n) (c:=c) (nl:=nl) (cl:=cl) (nh:=nh) (ch:=ch) (pm:=pm) (ps:=ps) (pl:=pl) (ph:=ph) (w:=w) (hs:=l.take i++l.drop (i + 1)) CC hlo (by rw [e0];exact hw)
   have hwl:=(wi_wd CC _ w (List.mem_of_find?_eq_some hw)).1
   refine j_nf [_,_,_,_,_,_] rfl ?_
   refine j_run it 2 rfl (by simp) ?_
   refine j_nf [_,_,_,_,_] rfl ?_
   refine j_if rfl rfl (fun h1=>?_) (fun h1=>by exfalso;omega)
   refine j_nf [_,_,_,_,_,_,_] rfl ?_
   (apply j_drawK it mx 9;(· rfl);(· rfl))
   (apply lxk_run 2;(· rfl);(· simp))
   (apply lxk_sl;(· rfl);(· exact d_x fun _=>x_slice_h 0 (i) rfl rfl rfl sl22 (by omega) (by omega) (dk_sl 0 rfl));intro pa1 ca1)
   (apply lxk_run 3;(· rfl);(· exact ⟨⟨by omega,by omega⟩,trivial,trivial,trivial⟩))
   (apply lxk_sl;(· rfl);(· exact d_x fun _=>x_slice_l 0 ((i) + 1) rfl rfl rfl sl22 (by omega) (by omega) fun pa2=>(dk_sl 0 rfl));intro pa2 ca2)
   (apply lxk_sl;(· rfl);(· exact d_x fun _=>x_lit sl25 zo25e rfl rfl rfl rfl (by decide) (by decide) rfl fun b2=>dk_all (E:=(encSl (I64))) [[Value.slice pa1 i ca1],[Value.slice pa2 (l.length - (i + 1)) ca2]] [List.take i l,List.drop (i + 1) l] (fun w A hG=>(allrd_cons (rd_of_slF (hG _ (fact_mem (n:=1) rfl))) (allrd_cons (rd_of_slF (hG _ (fact_mem (n:=0) rfl))) allrd_nil))) rfl rfl rfl (by first | decide | exact Nat.le_of_ble_eq_true rfl));intro pa3 ca3)
   (apply lxk_sl;(· rfl);(· exact d_x fun _=>x_call [0] rfl (c_slices_Concat___int_int_) rfl (by rintro _ _ _ ⟨pa4,ca4,rfl,rfl,rfl⟩;exact (dk_sl 0 rfl)));intro pa4 ca4)
   refine lxk_end rfl ?_
   simp only [List.map_cons,List.map_nil,List.cons_append,List.nil_append]
   refine j_run it 1 rfl (by simp) ?_
   refine j_nf [_,_,_,_,_,_,_] rfl ?_
   refine j_step rfl (x_bld_all 0 rfl rfl ld27 rfl ?_)
   refine j_run it 2 rfl (by simp) ?_
   refine j_step rfl (x_call [5,6,7,0] rfl (c_repair_witness) rfl ?_)
   rintro _ _ _ ⟨pa5,k1,ca5,rfl,rfl,rfl⟩
   simp only [List.cons_append,List.nil_append] --ok
   refine j_len 0 rfl fun hn _ _=>?_
   subst hn
   refine j_slsome 0 rfl (by omega) fun b1 o1 hpa=>?_
   subst hpa
   refine j_step rfl (x_eqnilS sl22 rfl rfl ?_)
   refine wk 5 cz ?_
   exact tw (ih (i,px,l.length,cx,l) (by dsimp only;omega) ⟨by dsimp only;omega,hls,hg⟩)
theorem S_codewrightref53_Available (hN : N ≤ 1000000) : Ctr Tryz.prog 61 [.int .i64 N,.slice pl nl cl,.slice pa na ca] [] [slF I64 pl nl cl lost,slF I64 pa na ca away] (RwI (othL N [lost,away]).length (othL N [lost,away])):=by
 refine Ctr_of_j' (F:=F_codewrightref53_Available) rfl fun C=>?_
 have hle : ∀ k,(othL k [lost,away]).length ≤ k:=fun k=>by rw [othL,List.length_map];have:=List.length_filter_le (othB [lost,away]) (List.range k);rwa [List.length_range] at this
 refine wk 8 cz ?_
 intro b1
 (apply j_rowlit (E:=encInt IntKind.i64 8) (n:=0) (cs:=[]) [] [] 0 (fun w A hG=>allrd_nil);(· rfl);(· rfl);(· rfl);(· rfl);(· decide))
 refine j_loopG (X:=Nat × Row) [0,1,2,6] [0,1,2] (fun x=>[(8,.int .i64 (x.1 : Int)),(7,.slice (ad x.2.bo) (othL x.1 [lost,away]).length x.2.cap)]) (fun x=>[(x.2.bo,3,x.2.cs)]) (fun x=>[rowF I64 x.2 (othL x.1 [lost,away]).length (othL x.1 [lost,away])]) (fun x=>x.1 ≤ N) (fun x=>N - x.1) (0,⟨some b1,0,[]⟩) [0] rfl rfl rfl (Nat.zero_le _) (by repeat (first | exact Fr.sub_nil _ | refine Fr.sub_cons rfl ?_)) rfl rfl ?_
 rintro ⟨k,r⟩ hk ih
 simp only [List.cons_append,List.nil_append] at hk ih ⊢
 by_cases h9 : k < N
 ·have hk1:=hle k
  have ih':=fun r=>ih (k + 1,r)
  simp only [othL_succ] at ih'
  have hB : othB [lost,away] k = (!decide ((k : Int) ∈ lost) && !decide ((k : Int) ∈ away)):=by simp [othB]
  have c_codewrightref53_In:=fun {ps : Option Addr} {n c : Nat} {x : Int} {l : List Int} {res : Bool} (hr : decide (x ∈ l) = res)=>S_codewrightref53_In (ps:=ps) (n:=n) (c:=c) (x:=x) (l:=l) hr
  rw [hB] at ih'
  cases h1 : decide ((k : Int) ∈ lost) with
  | true =>
   rw [h1,Bool.not_true,Bool.false_and,if_neg (by simp),List.append_nil] at ih'
   refine wk 13 (ct @c_codewrightref53_In cz) ?_
   intro h2
   exact tw (ih' r (by omega) (by omega))
  | false =>
  cases h2 : decide ((k : Int) ∈ away) with
  | true =>
   rw [h1,h2,Bool.not_true,Bool.and_false,if_neg (by simp),List.append_nil] at ih'
   refine wk 15 (ct @c_codewrightref53_In (ct @c_codewrightref53_In cz)) ?_
   intro h3
   exact tw (ih' r (by omega) (by omega))
  | false =>
   rw [h1,h2,Bool.not_false,Bool.true_and,if_pos rfl] at ih'
   simp only [List.length_append,List.length_singleton] at ih'
   refine wk 15 (ct @c_codewrightref53_In (ct @c_codewrightref53_In cz)) ?_
   intro h3 b2
   refine j_step rfl (x_appR (z:=(↑k : Int)) 1 0 0 rfl rfl rfl rfl rfl sl22 zo22e rfl (fun w A hG=>(rd_int (by first | (simp only [InR];omega) | (simp [InR];done)))) (by omega) _ by22e (by omega) fun r1=>?_)
   refine wk 4 cz ?_
   refine j_toM [true,false] [0,2,3,4] (by exact fra rfl) rfl rfl (ih' r1 (by omega) (by omega))
 ·obtain rfl : k = N:=by omega
  refine wk 7 cz ?_
  intro h1
  refine j_givK 1 [0] [0] rfl (.tmp rfl .nil) rfl rfl rfl ⟨r,rfl,rfl,rfl⟩
end
open Go Go.Fw
set_option maxRecDepth 100000
set_option linter.unusedVariables false
set_option linter.unusedSimpArgs false
set_option maxHeartbeats 0
def plR (H : Nat → (Nat × List (List Int)) × Option (Option (List Int))) (sr : List Int → List Int) (few : List Int) : Nat → Nat → List (List Int) → List Int × Bool × List (List Int)
 | 0,_,_=>(few,false,[])
 | f + 1,w,pf=>match (H w).2 with
  | none=>plR H sr few f (w + 1) (H w).1.2
  | some none=>(few,false,[])
  | some (some s)=>(sr s,true,pf)
theorem srL_len {N : Nat} {s : List Int} (hs : ∀ x ∈ s,0 ≤ x ∧ x < (N : Int)) (hn : s.Nodup) : (srL N s).length = s.length:=by
 have h : (srL N s).Nodup:=(othL_st N _).2.imp fun h=>by omega
 refine List.Perm.length_eq ((List.perm_ext_iff_of_nodup h hn).2 fun x=>?_)
 rw [srL_mem]
 exact ⟨fun h=>h.2,fun h=>⟨hs x h,h⟩⟩
theorem srL_pm {N : Nat} {s : List Int} (hs : ∀ x ∈ s,0 ≤ x ∧ x < (N : Int)) (hn : s.Nodup) : (srL N s).Perm s:=by
 have h : (srL N s).Nodup:=(othL_st N _).2.imp fun h=>by omega
 refine (List.perm_ext_iff_of_nodup h hn).2 fun x=>?_
 rw [srL_mem]
 exact ⟨fun h=>h.2,fun h=>⟨hs x h,h⟩⟩
section
variable {p m N : Nat} {md lost away : List Int} {rows : List (List Int)}
abbrev huW (p m N : Nat) (md lost away : List Int) (rows : List (List Int)) (w : Nat) : (Nat × List (List Int)) × Option (Option (List Int)):=huP p m N md lost away rows w [] [] (4096,[])
theorem br_new (CC : Cok p m md N rows) {s z w : List Int} (h : wtP p m md N rows lost (srL N s) = some w) : ∀ y ∈ brL lost away z w N,y ∉ s ∧ ((0 ≤ y ∧ y < (N : Int)) ∧ y ∉ lost ∧ y ∉ away):=fun y hy=>by
 obtain ⟨i,rfl,hi,h0,h1,h2,_⟩:=brL_mem.1 hy
 refine ⟨fun hs=>h0 ?_,⟨by omega,by omega⟩,h1,h2⟩
 have:=wi_zero CC (fun y hy=>(srL_mem.1 hy).1) (List.mem_of_find?_eq_some h) (i : Int) (srL_mem.2 ⟨⟨by omega,by omega⟩,hs⟩)
 rwa [Int.toNat_natCast] at this
theorem hunt_tree (CC : Cok p m md N rows) {w : Nat} (h : (huW p m N md lost away rows w).2 = none) : htT p m md N rows lost away w [] [] (huW p m N md lost away rows w).1.2 = some []:=by
 obtain ⟨U,hU,hU2⟩:=hu_tree (p:=p) (m:=m) (N:=N) (md:=md) (lost:=lost) (away:=away) (rows:=rows) (wt:=fun s=>wtP p m md N rows lost (srL N s)) (fun s x hs hx=>(wt_word CC hx hs).2.1) w [] [] (4096,[]) (huW p m N md lost away rows w).1 (fun x hx=>by cases hx) (by rw [← h])
 have h2:=hU2 []
 rw [List.append_nil] at h2
 rw [hU]
 exact h2
theorem tree_bars (CC : Cok p m md N rows) (hlo : stP N lost) {w : Nat} {t t' : List (List Int)} (h : htT p m md N rows lost away w [] [] t = some t') {H : List Int} (hH : stP N H) (hd : ∀ x ∈ H,x ∉ lost ∧ x ∉ away) (hl : H.length ≤ w) : enP p m md N rows lost H = false:=by
 have:=ht_sound CC hlo hH hd w [] [] t t' h (fun x hx=>by cases hx) (fun x hx=>by cases hx) (by rw [List.length_nil];omega) List.nodup_nil
 rwa [en_wt CC hlo] at this
theorem hunt_ends (CC : Cok p m md N rows) (hlo : stP N lost) (hall : enP p m md N rows lost (othL N [lost,away]) = true) {w : Nat} (hw : (othL N [lost,away]).length ≤ w) : (huW p m N md lost away rows w).2 ≠ none:=fun h=>by
 have:=tree_bars CC hlo (hunt_tree CC h) (othL_st N [lost,away]) (fun x hx=>by
  have:=(othL_mem.1 hx).2
  exact ⟨this lost (.head _),this away (.tail _ (.head _))⟩) hw
 rw [hall] at this;cases this
theorem hunt_set (CC : Cok p m md N rows) {w : Nat} {s : List Int} (h : (huW p m N md lost away rows w).2 = some (some s)) : wtP p m md N rows lost (srL N s) = none ∧ s.length ≤ w ∧ s.Nodup ∧ ∀ y ∈ s,(0 ≤ y ∧ y < (N : Int)) ∧ y ∉ lost ∧ y ∉ away:=by
 obtain ⟨h1,h2,h3,h4⟩:=hu_found (wt:=fun s=>wtP p m md N rows lost (srL N s)) (br:=fun z w=>brL lost away z w N) (Q:=fun y=>(0 ≤ y ∧ y < (N : Int)) ∧ y ∉ lost ∧ y ∉ away) (fun s z x hx=>br_new CC hx) w [] [] (4096,[]) (huW p m N md lost away rows w).1 s (by rw [← h]) List.nodup_nil
 exact ⟨h1,by simpa using h2,h3,fun y hy=>(h4 y hy).resolve_left (fun h=>by cases h)⟩
abbrev plP (p m N : Nat) (md lost away : List Int) (rows : List (List Int)) : Nat → Nat → List (List Int) → List Int × Bool × List (List Int):=plR (huW p m N md lost away rows) (srL N) (fewGo (enP p m md N rows lost) (othL N [lost,away]).length (othL N [lost,away]))
structure PlOk (p m N : Nat) (md lost away : List Int) (rows : List (List Int)) (x : List Int × Bool × List (List Int)) : Prop where
 st : stP N x.1
 sub : ∀ y ∈ x.1,y ∉ lost ∧ y ∉ away
 en : enP p m md N rows lost x.1 = true
 pr : x.2.1 = true → prB p m md N rows lost away ((x.1.length : Int) - 1) x.2.2 = true
theorem few_ok (hall : enP p m md N rows lost (othL N [lost,away]) = true) {k : Nat} : PlOk p m N md lost away rows (fewGo (enP p m md N rows lost) k (othL N [lost,away]),false,[]) :=
 ⟨fewGo_st (othL_st N _),fun y hy=>by
  have:=(othL_mem.1 (fewGo_sub hy)).2
  exact ⟨this lost (.head _),this away (.tail _ (.head _))⟩,fewGo_en hall,fun h=>by cases h⟩
theorem pl_ok (CC : Cok p m md N rows) (hlo : stP N lost) (hall : enP p m md N rows lost (othL N [lost,away]) = true) : ∀ (f w : Nat) (pf : List (List Int)),((w = 0 ∧ pf = []) ∨ ∃ v,w = v + 1 ∧ htT p m md N rows lost away v [] [] pf = some []) → PlOk p m N md lost away rows (plP p m N md lost away rows f w pf)
 | 0,_,_,_=>few_ok hall
 | f + 1,w,pf,h=>by
  rw [plP,plR]
  split
  ·rename_i hn
   exact pl_ok CC hlo hall f (w + 1) _ (.inr ⟨w,rfl,hunt_tree CC hn⟩)
  ·exact few_ok hall
  ·rename_i s hs
   obtain ⟨h1,h2,h3,h4⟩:=hunt_set CC hs
   have hl:=srL_len (fun y hy=>(h4 y hy).1) h3
   have hsub : ∀ y ∈ srL N s,y ∉ lost ∧ y ∉ away:=fun y hy=>(h4 y (srL_mem.1 hy).2).2
   have hen : enP p m md N rows lost (srL N s) = true:=by show (wtP p m md N rows lost (srL N s)).isNone = true;rw [h1];rfl
   refine ⟨othL_st N _,hsub,hen,fun _=>?_⟩
   show prB p m md N rows lost away (((srL N s).length : Int) - 1) pf = true
   rw [hl,prB]
   rcases h with ⟨rfl,rfl⟩ | ⟨v,rfl,hv⟩
   ·rw [if_pos (by omega)];rfl
   ·have hw : s.length = v + 1:=by
     refine Classical.byContradiction fun hne=>?_
     have:=tree_bars CC hlo hv (othL_st N _) hsub (by rw [hl];omega)
     rw [hen] at this;cases this
    rw [if_neg (by omega),show ((s.length : Int) - 1).toNat = v by omega,hv];rfl
end
set_option maxRecDepth 100000
set_option linter.unusedVariables false
set_option linter.unusedSimpArgs false
def blen (n : Nat) : Nat:=if _h : n = 0 then 0 else blen (n / 2) + 1
termination_by n
decreasing_by omega
theorem blen_zero : blen 0 = 0:=by rw [blen];rfl
theorem blen_pos {n : Nat} (h : n ≠ 0) : blen n = blen (n / 2) + 1:=by rw [blen,dif_neg h]
def blenF : Nat → Nat → Nat
 | 0,_=>0
 | f + 1,n=>if n = 0 then 0 else blenF f (n / 2) + 1
theorem blenF_eq (f : Nat) : ∀ n,n < 2 ^ f → blenF f n = blen n:=by
 induction f with
 | zero => intro n h; have : n = 0 := by simpa using h
           subst this; rw [blen_zero]; rfl
 | succ f ih =>
  intro n h
  rw [blenF]
  by_cases h0 : n = 0
  ·subst h0;rw [if_pos rfl,blen_zero]
  ·rw [if_neg h0,blen_pos h0,ih _ (by rw [Nat.pow_succ] at h;omega)]
theorem blen_le {n k : Nat} (h : n < 2 ^ k) : blen n ≤ k:=by
 induction k generalizing n with
 | zero => have : n = 0 := by simpa using h
           subst this; rw [blen_zero]; omega
 | succ k ih =>
  by_cases h0 : n = 0
  ·subst h0;rw [blen_zero];omega
  ·rw [blen_pos h0];have:=ih (n:=n / 2) (by rw [Nat.pow_succ] at h;omega);omega
def tabOk (s : ByteArray) : Bool:=(List.range 256).all fun n=>match s[n]? with
 | some b=>b.toNat == blenF 8 n
 | none=>false
theorem tab_get {s : ByteArray} (h : tabOk s = true) {n : Nat} (hn : n < 256) : s[n]? = some (UInt8.ofNat (blen n)):=by
 unfold tabOk at h
 have:=List.all_eq_true.1 h n (List.mem_range.2 hn)
 cases hs : s[n]? with
 | none=>rw [hs] at this;simp at this
 | some b =>
  rw [hs] at this
  simp only [beq_iff_eq] at this
  rw [blenF_eq 8 n (by simpa using hn)] at this
  rw [← this];simp
open Go Go.Fw
set_option maxHeartbeats 0
def swp (L : List Int) (j : Nat) : List Int:=(L.set j (at0 L (j - 1))).set (j - 1) (at0 L j)
theorem at0_get {L : List Int} {i : Nat} (h : i < L.length) : at0 L i = L[i]:=by rw [at0,List.getD_eq_getElem?_getD,List.getElem?_eq_getElem h];rfl
theorem swp_perm {L : List Int} {j : Nat} (h0 : 0 < j) (hj : j < L.length) : (swp L j).Perm L:=by
 rw [swp,at0_get hj,at0_get (show j - 1 < L.length by omega)]
 exact List.set_set_perm hj (by omega)
theorem swp_at {L : List Int} {j a : Nat} (h0 : 0 < j) (hj : j < L.length) : at0 (swp L j) a = if a = j - 1 then at0 L j else if a = j then at0 L (j - 1) else at0 L a:=by
 rw [swp,at0,List.getD_eq_getElem?_getD,List.getElem?_set,List.length_set,List.getElem?_set]
 by_cases h1 : j - 1 = a
 ·rw [if_pos h1,if_pos (by omega),if_pos h1.symm];rfl
 ·rw [if_neg h1,if_neg (show ¬ a = j - 1 from fun e=>h1 e.symm)]
  by_cases h2 : j = a
  ·rw [if_pos h2,if_pos hj,if_pos h2.symm];rfl
  ·rw [if_neg h2,if_neg (show ¬ a = j from fun e=>h2 e.symm),at0,List.getD_eq_getElem?_getD]
def srtP (L : List Int) (i j : Nat) : Prop:=∀ a b,a < b → b ≤ i → b ≠ j → at0 L a ≤ at0 L b
theorem srt_step {L : List Int} {i j : Nat} (h : srtP L i j) (h0 : 0 < j) (hj : j < L.length) (hji : j ≤ i) (hx : at0 L j < at0 L (j - 1)) : srtP (swp L j) i (j - 1):=fun a b hab hb hn=>by
 rw [swp_at h0 hj,swp_at h0 hj,if_neg hn]
 have g:=fun a b=>h a b
 by_cases hbj : b = j
 ·rw [if_pos hbj]
  by_cases ha : a = j - 1
  ·rw [if_pos ha];omega
  ·rw [if_neg ha,if_neg (by omega)];exact h a (j - 1) (by omega) (by omega) (by omega)
 ·rw [if_neg hbj]
  by_cases ha : a = j - 1
  ·rw [if_pos ha];exact h j b (by omega) hb hbj
  ·rw [if_neg ha]
   by_cases ha2 : a = j
   ·rw [if_pos ha2];exact h (j - 1) b (by omega) hb hbj
   ·rw [if_neg ha2];exact h a b hab hb hbj
theorem srt_stop {L : List Int} {i j : Nat} (h : srtP L i j) (hx : j = 0 ∨ ¬ at0 L j < at0 L (j - 1)) : srtP L i (i + 1):=fun a b hab hb _=>by
 by_cases hbj : b = j
 ·subst hbj
  rcases hx with hx | hx
  ·omega
  ·by_cases ha : a = b - 1
   ·subst ha;omega
   ·have:=h a (b - 1) (by omega) (by omega) (by omega);omega
 ·exact h a b hab hb hbj
theorem srt_end {L K l : List Int} (hp : L.Perm l) (h : ∀ a b,a < b → b < L.length → at0 L a ≤ at0 L b) (hK : K.Pairwise (· < ·)) (hKl : K.Perm l) : L = K:=by
 have hLK : L.Perm K:=hp.trans hKl.symm
 have hn : L.Nodup:=hLK.nodup_iff.2 (hK.imp fun h=>by omega)
 refine st_ext ?_ hK fun x=>hLK.mem_iff
 rw [List.pairwise_iff_getElem]
 intro i j hi hj hij
 have h1:=h i j hij hj
 rw [at0_get hi,at0_get hj] at h1
 have h2 : L[i] ≠ L[j]:=fun e=>by
  have:=(List.getElem_inj hn).1 e;omega
 omega
theorem S_cmp_isNaN_int_ {x : Int} : Ctr Tryz.prog 174 [.int .i64 x] [] [] (Rv (.bool false) []):=by
 refine Ctr_of_j' (F:=F_cmp_isNaN_int_) rfl fun C=>?_
 have hd : (!decide (x = x)) = false:=by simp
 refine wk 5 cz ?_
 rw [hd]
 exact ge
theorem S_cmp_Less_int_ {x y : Int} : Ctr Tryz.prog 142 [.int .i64 x,.int .i64 y] [] [] (Rv (.bool (decide (x < y))) []):=by
 refine Ctr_of_j' (F:=F_cmp_Less_int_) rfl fun C=>?_
 refine wk 7 (ct @S_cmp_isNaN_int_ cz) ?_
 exact ge
theorem S_bits_Len64 {x : Nat} (hx : x < 256) : Ctr Tryz.prog 146 [.int .u64 x] [] [] (Rv (.int .i64 (blen x)) []):=by
 refine Ctr_of_j' (F:=F_bits_Len64) rfl fun C=>?_
 refine j_nf [_,_] rfl ?_
 refine j_run it 1 rfl (by simp) ?_
 refine j_nf [_,_,_] rfl ?_
 refine j_run it 2 rfl (by simp) ?_
 refine j_nf [_,_] rfl ?_
 refine j_if rfl rfl (fun h1=>by exfalso;omega) (fun h1=>?_)
 refine j_nf [_,_,_] rfl ?_
 refine j_run it 2 rfl (by simp) ?_
 refine j_nf [_,_] rfl ?_
 refine j_if rfl rfl (fun h2=>by exfalso;omega) (fun h2=>?_)
 refine j_nf [_,_,_] rfl ?_
 refine j_run it 2 rfl (by simp) ?_
 refine j_nf [_,_] rfl ?_
 refine j_if rfl rfl (fun h3=>by exfalso;omega) (fun h3=>?_)
 refine j_nf [_,_] rfl ?_
 refine j_run it 3 rfl ⟨⟨by omega,by omega⟩,trivial,trivial,trivial⟩ ?_ --ok
 refine j_step rfl (x_char x rfl rfl rfl rfl (tab_get (by decide +kernel) hx) ?_)
 have h8:=blen_le (n:=x) (k:=8) (by simpa using hx)
 have e : (UInt8.ofNat (blen x)).toNat = blen x:=by
  simp only [UInt8.toNat_ofNat'];omega
 rw [e]
 refine wk 2 cz ?_
 rw [show (0 : Int) + ((blen x : Nat) : Int) = ((blen x : Nat) : Int) by omega]
 exact ge
theorem S_bits_Len {x : Nat} (hx : x < 256) : Ctr Tryz.prog 103 [.int .u64 x] [] [] (Rv (.int .i64 (blen x)) []):=by
 refine Ctr_of_j' (F:=F_bits_Len) rfl fun C=>?_
 refine wk 9 (ct @S_bits_Len64 cz) ?_
 exact ge
section
variable {b cap n : Nat} {cs : List Value} {l K : List Int}
theorem S_slices_insertionSortOrdered_int_ (hn : n ≤ 1000) (hr : ∀ x ∈ l,0 ≤ x ∧ x < 1000000) (hl : l.length = n) (hK : K.Pairwise (· < ·)) (hp : K.Perm l) :
  Ctr Tryz.prog 136 [.slice (some ⟨b,0,none⟩) n cap,.int .i64 0,.int .i64 n] [(some b,3,cs)] [rowF I64 ⟨some b,cap,cs⟩ n l]
   (fun v Φ β=>∃ cs',v = .tuple #[] ∧ Φ = [rowF I64 ⟨some b,cap,cs'⟩ n K] ∧ β = [(some b,3,cs')]):=by
 refine Ctr_of_j' (F:=F_slices_insertionSortOrdered_int_) rfl fun C=>?_
 refine wk 3 cz ?_
 refine j_loopG (X:=Nat × List Value × List Int) [0,1,2] [0] (fun x=>[(6,.int .i64 (x.1 : Int))]) (fun x=>[(some b,3,x.2.1)]) (fun x=>[rowF I64 ⟨some b,cap,x.2.1⟩ n x.2.2]) (fun x=>1 ≤ x.1 ∧ x.1 ≤ n + 1 ∧ x.2.2.Perm l ∧ ∀ u v,u < v → v < x.1 → at0 x.2.2 u ≤ at0 x.2.2 v) (fun x=>n + 1 - x.1) (1,cs,l) [0] rfl rfl rfl ⟨Nat.le_refl _,by dsimp only;omega,List.Perm.refl _,fun u v h1 h2=>by dsimp only at h2;omega⟩ (by repeat (first | exact Fr.sub_nil _ | refine Fr.sub_cons rfl ?_)) rfl rfl ?_
 rintro ⟨i,cs,L⟩ ⟨hi1,hi,hpL,ho⟩ ih
 simp only [List.cons_append,List.nil_append] at hi1 hi hpL ho ih ⊢
 by_cases hin : i < n
 ·refine wk 7 cz ?_
  intro h1
  refine j_loopG (X:=Nat × List Value × List Int) [0,1,2,6,10,11,12,15] [0,1] (fun x=>[(7,.int .i64 (x.1 : Int))]) (fun x=>[(some b,3,x.2.1)]) (fun x=>[rowF I64 ⟨some b,cap,x.2.1⟩ n x.2.2]) (fun x=>x.1 ≤ i ∧ x.2.2.Perm l ∧ srtP x.2.2 i x.1) (fun x=>x.1) (i,cs,L) [0] rfl rfl rfl ⟨Nat.le_refl _,hpL,fun u v h1 h2 h3=>ho u v h1 (by omega)⟩ (by repeat (first | exact Fr.sub_nil _ | refine Fr.sub_cons rfl ?_)) rfl rfl ?_
  rintro ⟨j,cs,L⟩ ⟨hji,hpL,ho⟩ ihj
  simp only [List.cons_append,List.nil_append] at hji hpL ho ihj ⊢
  have hLl : L.length = n:=hpL.length_eq.trans hl
  have stop : (j = 0 ∨ ¬ at0 L j < at0 L (j - 1)) → ∀ u v,u < v → v < i + 1 → at0 L u ≤ at0 L v:=fun h u v h1 h2=>srt_stop ho h u v h1 (by omega) (by omega)
  by_cases hj0 : 0 < j
  ·have at_u : L[j]? = some (at0 L j):=by rw [at0_get (show j < L.length by omega)];exact List.getElem?_eq_getElem _
   have at_v : L[j - 1]? = some (at0 L (j - 1)):=by rw [at0_get (show j - 1 < L.length by omega)];exact List.getElem?_eq_getElem _
   have hsw : (L.set j (at0 L (j - 1))).set (j - 1) (at0 L j) = swp L j:=rfl
   by_cases hx : at0 L j < at0 L (j - 1)
   ·have ihj':=fun cs=>ihj (j - 1,cs,swp L j) (by dsimp only;omega) ⟨by dsimp only;omega,(swp_perm hj0 (by omega)).trans hpL,srt_step ho hj0 (by omega) hji hx⟩
    dsimp only at ihj'
    rw [← hsw] at ihj'
    obtain ⟨u0,u1⟩:=hr _ (hpL.mem_iff.1 (List.mem_of_getElem? at_u))
    obtain ⟨v0,v1⟩:=hr _ (hpL.mem_iff.1 (List.mem_of_getElem? at_v))
    generalize at0 L j = u at *
    generalize at0 L (j - 1) = v at *
    refine wk 5 (ct @S_cmp_Less_int_ cz) ?_
    intro h2
    (apply j_drawKW (x0:=none) it mx 0 15 [2,3,4] 1;(· rfl);(· rfl);(· rfl);(· decide))
    simp only [List.drop_zero]
    (apply lxk_run 5;(· rfl);(· exact ⟨⟨by omega,by omega⟩,trivial,trivial,trivial,trivial,trivial⟩))
    (apply lxk_run 2;(· rfl);(· simp))
    (apply lxk_eq (v:=Value.int IntKind.i64 ((((j) - 1 : Nat)) : Int));(· rfl);(· exact d_x fun _=>x_asN it _ rfl ⟨by omega,by omega⟩ (by omega) dk_eq))
    simp only [Nat.add_sub_cancel]
    (apply lxk_eq;(· rfl);(· exact d_x fun _=>x_idx_own (j - 1) (j - 1) rfl rfl sl22 rfl (by omega) (Nat.mul_one _) dk_eq))
    (apply lxk_eq;(· rfl);(· exact d_ldR_int 0 0 (j - 1) rfl rfl rfl ld3 rfl (by assumption)))
    (apply lxk_run 2;(· rfl);(· simp))
    (apply lxk_eq;(· rfl);(· exact d_x fun _=>x_idx_own (j) (j) rfl rfl sl22 rfl (by omega) (Nat.mul_one _) dk_eq))
    (apply lxk_eq;(· rfl);(· exact d_ldR_int 0 0 (j) rfl rfl rfl ld3 rfl (by assumption)))
    (apply lxk_eq;(· rfl);(· exact d_x fun _=>x_idx_own (j) (j) rfl rfl sl22 rfl (by omega) (Nat.mul_one _) dk_eq)) --ok
    refine lxk_endW rfl ?_
    rotate_left
    rfl
    simp only [List.map_nil,List.nil_append]
    refine win_step it rfl rfl ⟨⟨_,_,_,_,rfl,rfl,rfl,rfl,rfl,rfl,(by first | trivial | (repeat' first | exact trivial | apply And.intro | omega))⟩,⟨⟨_,_,_,_,rfl,rfl,rfl,rfl,rfl,rfl,(by first | trivial | (repeat' first | exact trivial | apply And.intro | omega))⟩,⟨⟨_,_,_,_,rfl,rfl,rfl,rfl,rfl,rfl,(by first | trivial | (repeat' first | exact trivial | apply And.intro | omega))⟩,trivial⟩⟩⟩ (x_stR (vs:=[Value.int IntKind.i64 v]) (z:=(v : Int)) 0 0 (j) rfl rfl rfl rfl rfl ld3 (Nat.mul_one _).symm (by omega) (fun w A hG=>(rd_int (by first | (simp only [InR];omega) | (simp [InR];done)))) fun cs1=>?_)
    refine win_end it ⟨⟨_,_,_,_,rfl,rfl,rfl,rfl,rfl,rfl,(by first | trivial | (repeat' first | exact trivial | apply And.intro | omega))⟩,⟨⟨_,_,_,_,rfl,rfl,rfl,rfl,rfl,rfl,(by first | trivial | (repeat' first | exact trivial | apply And.intro | omega))⟩,⟨⟨_,_,_,_,rfl,rfl,rfl,rfl,rfl,rfl,(by first | trivial | (repeat' first | exact trivial | apply And.intro | omega))⟩,trivial⟩⟩⟩ ?_
    refine wk 1 cz ?_
    refine j_step rfl (x_stR (vs:=[Value.int IntKind.i64 u]) (z:=(u : Int)) 0 0 (j - 1) rfl rfl rfl rfl rfl ld3 (Nat.mul_one _).symm (by omega) (fun w A hG=>(rd_int (by first | (simp only [InR];omega) | (simp [InR];done)))) fun cs2=>?_)
    refine wk 3 cz ?_
    exact tw (ihj' cs2)
   ·have stop':=stop (.inr hx)
    generalize at0 L j = u at *
    generalize at0 L (j - 1) = v at *
    refine wk 7 (ct @S_cmp_Less_int_ cz) ?_
    intro h2
    exact tw (ih (i + 1,cs,L) (by dsimp only;omega) ⟨by dsimp only;omega,by dsimp only;omega,hpL,stop'⟩)
  ·refine wk 7 cz ?_
   exact tw (ih (i + 1,cs,L) (by dsimp only;omega) ⟨by dsimp only;omega,by dsimp only;omega,hpL,stop (.inl (by omega))⟩)
 ·obtain rfl : L = K:=srt_end hpL (fun u v h1 h2=>ho u v h1 (by have:=hpL.length_eq;omega)) hK hp
  clear ih
  refine wk 5 cz ?_
  intro h1
  refine j_gives_end [0] rfl rfl ⟨cs,rfl,rfl,rfl⟩
end
open Go Go.Fw
set_option maxRecDepth 100000
set_option linter.unusedVariables false
set_option linter.unusedSimpArgs false
set_option maxHeartbeats 0
section
variable {b cap n : Nat} {cs : List Value} {l K : List Int} {k : Int}
abbrev SrQ (b cap n : Nat) (K : List Int) : Value → List Fact → List Blk → Prop:=fun v Φ β=>∃ cs',v = .tuple #[] ∧ Φ = [rowF I64 ⟨some b,cap,cs'⟩ n K] ∧ β = [(some b,3,cs')]
theorem S_slices_pdqsortOrdered_int_ (hn : n ≤ 12) (hr : ∀ x ∈ l,0 ≤ x ∧ x < 1000000) (hl : l.length = n) (hK : K.Pairwise (· < ·)) (hp : K.Perm l) :
  Ctr Tryz.prog 102 [.slice (some ⟨b,0,none⟩) n cap,.int .i64 0,.int .i64 n,.int .i64 k] [(some b,3,cs)] [rowF I64 ⟨some b,cap,cs⟩ n l] (SrQ b cap n K):=by
 refine Ctr_of_j' (F:=F_slices_pdqsortOrdered_int_) rfl fun C=>?_
 have c_slices_insertionSortOrdered_int_:=fun {cs : List Value}=>S_slices_insertionSortOrdered_int_ (b:=b) (cap:=cap) (n:=n) (cs:=cs) (l:=l) (K:=K) (by omega) hr hl hK hp
 refine wk 5 cz ?_
 refine j_loopG (X:=Nat) [0] [0] (fun _=>[(1,.int .i64 0),(2,.int .i64 n)]) (fun _=>_) (fun _=>[]) (fun _=>True) (fun i=>i) 0 [] rfl rfl rfl trivial (by repeat (first | exact Fr.sub_nil _ | refine Fr.sub_cons rfl ?_)) rfl rfl ?_
 rintro i hi ih
 simp only [List.cons_append,List.nil_append] at hi ih ⊢
 refine wk 10 (ct @c_slices_insertionSortOrdered_int_ cz) ?_
 intro h1 cs'1
 refine j_gives [0] rfl rfl rfl ⟨_,rfl,rfl,rfl⟩
theorem S_slices_Sort___int_int_ (hn : n ≤ 12) (hr : ∀ x ∈ l,0 ≤ x ∧ x < 1000000) (hl : l.length = n) (hK : K.Pairwise (· < ·)) (hp : K.Perm l) :
  Ctr Tryz.prog 52 [.slice (some ⟨b,0,none⟩) n cap] [(some b,3,cs)] [rowF I64 ⟨some b,cap,cs⟩ n l] (SrQ b cap n K):=by
 refine Ctr_of_j' (F:=F_slices_Sort___int_int_) rfl fun C=>?_
 have c_slices_pdqsortOrdered_int_:=fun {cs : List Value} {k : Int}=>S_slices_pdqsortOrdered_int_ (b:=b) (cap:=cap) (n:=n) (cs:=cs) (l:=l) (K:=K) (k:=k) hn hr hl hK hp
 refine wk 9 (ct @S_bits_Len (ct @c_slices_pdqsortOrdered_int_ cz)) ?_
 intro cs'1
 refine j_gives_end [0] rfl rfl ⟨_,rfl,rfl,rfl⟩
end
open Go Go.Fw
set_option maxRecDepth 100000
set_option linter.unusedVariables false
set_option linter.unusedSimpArgs false
set_option maxHeartbeats 0
noncomputable def plE (P M : Int) (md : List Int) (N : Int) (rows : List (List Int)) (lost away : List Int) : Int :=
 if ckE P M md N rows ≠ 0 then ckE P M md N rows else if ¬ (stP N lost ∧ stP N away) then 5 else if enP P.toNat M.toNat md N.toNat rows lost (othL N.toNat [lost,away]) = false then 19 else 0
abbrev PlQ (e : Int) (lo hs : List Int) (co : List (List Int)) (f : Bool) (t : List (List Int)) : Value → List Fact → List Blk → Prop:=fun v Φ β=>∃ (p1 p2 p3 p4 : Option Addr) (k1 k2 k3 k4 c1 c2 c3 c4 : Nat),v = .tuple #[.agg #[.slice p1 k1 c1,.slice p2 k2 c2,.slice p3 k3 c3,.bool f,.slice p4 k4 c4],.int .i64 e] ∧ Φ = [slF I64 p1 k1 c1 lo,slF I64 p2 k2 c2 hs,slF (encSl I64) p3 k3 c3 co,slF (encSl I64) p4 k4 c4 t] ∧ β = []
theorem plE_rng (P M : Int) (md : List Int) (N : Int) (rows : List (List Int)) (lost away : List Int) : 0 ≤ plE P M md N rows lost away ∧ plE P M md N rows lost away ≤ 100:=by
 have:=ckE_rng P M md N rows
 rw [plE]
 split
 ·omega
 ·repeat' split
  all_goals omega
section
variable {P M N : Int} {nm cm n c nl cl na ca : Nat} {pm ps pl pa : Option Addr} {md lost away : List Int} {rows : List (List Int)}
theorem S_repair_Plan_err (hN : InR .i64 N) {e : Int} (h : plE P M md N rows lost away = e) (he : e ≠ 0) : Ctr Tryz.prog 19 [.agg #[.int .i64 P,.int .i64 M,.slice pm nm cm,.int .i64 N,.slice ps n c],.slice pl nl cl,.slice pa na ca] [] [slF I64 pm nm cm md,slF (encSl I64) ps n c rows,slF I64 pl nl cl lost,slF I64 pa na ca away] (PlQ e [] [] [] false []):=by
 refine Ctr_of_j' (F:=F_repair_Plan) rfl fun C=>?_
 refine j_len 2 rfl fun hn _ _=>?_
 subst hn
 refine j_len 3 rfl fun hn _ _=>?_
 subst hn
 have hr:=ckE_rng P M md N rows
 have c_code_Check:=fun {pm ps : Option Addr} {nm cm n c : Nat}=>S_code_Check (P:=P) (M:=M) (pm:=pm) (ps:=ps) (nm:=nm) (cm:=cm) (n:=n) (c:=c) (md:=md) (rows:=rows) hN rfl
 have c_repair_set:=fun {ps : Option Addr} {nn c : Nat} {n : Int} {l : List Int} {res : Bool} (hr : decide (stP n l) = res)=>S_repair_set (ps:=ps) (nn:=nn) (c:=c) (n:=n) (l:=l) hr
 rw [plE] at h
 by_cases hc : ckE P M md N rows = 0
 ·rw [if_neg (fun e=>e hc)] at h
  rw [hc] at c_code_Check
  by_cases h1 : stP N lost
  ·by_cases h2 : stP N away
   ·rw [if_neg (fun e=>e ⟨h1,h2⟩)] at h
    obtain ⟨p,m,N,rfl,rfl,rfl,CC⟩:=ck_of hc
    have h64:=CC.n64
    have hn1:=CC.n1
    have hst:=othL_st N [lost,away]
    simp only [Int.toNat_natCast] at h
    have c_repair_others:=fun {ps : Option Addr} {nn c : Nat}=>S_repair_others (ps:=ps) (nn:=nn) (c:=c) (n:=N) (ls:=[lost,away]) (by omega)
    have hle:=st_len hst
    have e0 : srL N (othL N [lost,away]) = othL N [lost,away]:=oth_oth hst
    cases hw : wtP p m md N rows lost (othL N [lost,away]) with
    | none =>
     rw [if_neg (by show ¬ (wtP p m md N rows lost _).isNone = false;rw [hw];simp)] at h
     exact absurd h.symm he
    | some w =>
     rw [if_pos (by show (wtP p m md N rows lost _).isNone = false;rw [hw];rfl)] at h
     subst h
     have hwl:=(wi_wd CC _ w (List.mem_of_find?_eq_some hw)).1
     have c_repair_witness:=fun {nm cm n c nl cl nh ch : Nat} {pm ps pl ph : Option Addr}=>S_wt_some (nm:=nm) (cm:=cm) (n:=n) (c:=c) (nl:=nl) (cl:=cl) (nh:=nh) (ch:=ch) (pm:=pm) (ps:=ps) (pl:=pl) (ph:=ph) (w:=w) (hs:=othL N [lost,away]) CC h1 (by rw [e0];exact hw)
     have hd1:=decide_eq_true h1
     have hd2:=decide_eq_true h2
     generalize othL N [lost,away] = all at *
     refine j_nf [_,_] rfl ?_
     refine j_step rfl (x_box_agg rfl fun b1=>?_)
     refine j_step rfl (x_alloc zo40 fun b2=>?_)
     refine j_run it 1 rfl (by simp) ?_
     refine j_nf [_,_,_] rfl ?_
     refine j_step rfl (x_bld_all 1 rfl rfl ld27 rfl ?_)
     refine j_step rfl (x_call [0,1] rfl (c_code_Check) rfl ?_)
     rintro _ _ _ ⟨rfl,rfl,rfl⟩
     simp only [List.cons_append,List.nil_append]
     refine j_run it 1 rfl (by simp) ?_
     refine j_nf [_,_,_] rfl ?_
     refine j_run it 2 rfl (by simp) ?_
     refine j_nf [_,_] rfl ?_
     refine j_ifn rfl rfl (fun h3=>by exfalso;omega) (fun h3=>?_)
     refine j_nf [_,_,_] rfl ?_
     refine j_run it 1 rfl (by simp) ?_
     refine j_step rfl (x_field rfl fd27_1 ?_)
     refine j_step rfl (x_bld 1 rfl rfl ld3 rfl ?_)
     refine j_step rfl (x_call [2] rfl (c_repair_set (by omega)) rfl ?_)
     rintro _ _ _ ⟨rfl,rfl,rfl⟩
     simp only [List.cons_append,List.nil_append]
     simp only [decide_true]
     refine j_run it 3 rfl (by simp) ?_
     refine j_gstep rfl rfl (x_field rfl fd27_1 ?_)
     refine j_gstep rfl rfl (x_bld 1 rfl rfl ld3 rfl ?_)
     refine j_gstep rfl rfl (x_call [3] rfl (c_repair_set (by omega)) rfl ?_)
     rintro _ _ _ ⟨rfl,rfl,rfl⟩
     simp only [List.cons_append,List.nil_append]
     refine j_run it 2 rfl (by simp) ?_
     refine j_nf [_,_] rfl ?_
     refine j_false rfl rfl ?_
     refine j_nf [_,_] rfl ?_
     refine j_step rfl (x_field rfl fd27_1 ?_)
     refine j_step rfl (x_bld 1 rfl rfl ld3 rfl ?_)
     refine j_run it 2 rfl (by simp) ?_
     refine j_step rfl (x_lit sl25 zo25e rfl rfl rfl rfl (by decide) (by decide) rfl fun b3=>?_)
     refine j_pub_all (E:=(encSl (I64))) (n:=2) [[Value.slice pl lost.length cl],[Value.slice pa away.length ca]] [lost,away] 0 (fun w A hG=>(allrd_cons (rd_of_slF (hG _ (fact_mem (n:=2) rfl))) (allrd_cons (rd_of_slF (hG _ (fact_mem (n:=3) rfl))) allrd_nil))) rfl rfl rfl rfl (by first | decide | exact Nat.le_of_ble_eq_true rfl) (by first | decide | exact Nat.le_of_ble_eq_true rfl) ?_
     refine j_step rfl (x_call [0] rfl (c_repair_others) rfl ?_)
     rintro _ _ _ ⟨r1,rfl,rfl,rfl⟩
     simp only [List.cons_append,List.nil_append]
     refine j_run it 1 rfl (by simp) ?_
     refine j_nf [_,_,_] rfl ?_
     refine j_step rfl (x_bld_all 2 rfl rfl ld27 rfl ?_)
     refine j_run it 2 rfl (by simp) ?_
     refine j_pubR 0 0 rfl rfl (by show (all.length) * 8 ≤ 140737488355328;omega) ?_
     refine j_step rfl (x_call [3,4,5,0] rfl (c_repair_witness) rfl ?_)
     rintro _ _ _ ⟨pa1,k1,ca1,rfl,rfl,rfl⟩
     simp only [List.cons_append,List.nil_append] --ok
     refine j_len 0 rfl fun hn _ _=>?_
     subst hn
     refine j_slsome 0 rfl (by omega) fun b1 o1 hpa=>?_
     subst hpa
     refine j_step rfl (x_nenilS sl22 rfl rfl ?_)
     refine wk 7 cz ?_
     refine j_add (slF (encSl I64) none 0 0 []) (fun w A _=>slF_nil _ w A none 0) ?_
     refine j_add (slF I64 none 0 0 []) (fun w A _=>slF_nil _ w A none 0) ?_
     refine j_givC [0,0,1,1] rfl (.agg 0 rfl rfl ld40 rfl (.tmp rfl .nil)) rfl ⟨none,none,none,none,0,0,0,0,0,0,0,0,rfl,rfl,rfl⟩
   ·rw [if_pos (fun e=>h2 e.2)] at h
    subst h
    have hd1:=decide_eq_true h1
    have hd2:=decide_eq_false h2
    refine wk 29 (ct @c_code_Check (ct @c_repair_set (ct @c_repair_set cz))) ?_
    intro b1 b2 h3
    refine j_add (slF (encSl I64) none 0 0 []) (fun w A _=>slF_nil _ w A none 0) ?_
    refine j_add (slF I64 none 0 0 []) (fun w A _=>slF_nil _ w A none 0) ?_
    refine j_givC [0,0,1,1] rfl (.agg 0 rfl rfl ld40 rfl (.tmp rfl .nil)) rfl ⟨none,none,none,none,0,0,0,0,0,0,0,0,rfl,rfl,rfl⟩
  ·rw [if_pos (fun e=>h1 e.1)] at h
   subst h
   have hd1:=decide_eq_false h1
   refine wk 25 (ct @c_code_Check (ct @c_repair_set cz)) ?_
   intro b1 b2 h2
   refine j_add (slF (encSl I64) none 0 0 []) (fun w A _=>slF_nil _ w A none 0) ?_
   refine j_add (slF I64 none 0 0 []) (fun w A _=>slF_nil _ w A none 0) ?_
   refine j_givC [0,0,1,1] rfl (.agg 0 rfl rfl ld40 rfl (.tmp rfl .nil)) rfl ⟨none,none,none,none,0,0,0,0,0,0,0,0,rfl,rfl,rfl⟩
 ·rw [if_pos hc] at h
  rw [h] at c_code_Check hr
  refine wk 18 (ct @c_code_Check cz) ?_
  intro b1 b2 h1
  refine j_add (slF (encSl I64) none 0 0 []) (fun w A _=>slF_nil _ w A none 0) ?_
  refine j_add (slF I64 none 0 0 []) (fun w A _=>slF_nil _ w A none 0) ?_
  refine j_givC [0,0,1,1] rfl (.agg 0 rfl rfl ld40 rfl (.tmp rfl .nil)) rfl ⟨none,none,none,none,0,0,0,0,0,0,0,0,rfl,rfl,rfl⟩
end
section
variable {p m N nm cm n c nl cl na ca : Nat} {pm ps pl pa : Option Addr} {md lost away : List Int} {rows : List (List Int)}
theorem S_repair_Plan_ok (CC : Cok p m md N rows) (hN : N ≤ 12) (hlo : stP N lost) (haw : stP N away) (hall : enP p m md N rows lost (othL N [lost,away]) = true) {hs : List Int} {f : Bool} {pf : List (List Int)} (hP : plP p m N md lost away rows (N + 1) 0 [] = (hs,f,pf)) : Ctr Tryz.prog 19 [.agg #[.int .i64 p,.int .i64 m,.slice pm nm cm,.int .i64 N,.slice ps n c],.slice pl nl cl,.slice pa na ca] [] [slF I64 pm nm cm md,slF (encSl I64) ps n c rows,slF I64 pl nl cl lost,slF I64 pa na ca away] (PlQ 0 lost hs (coP p m md rows lost hs) f pf):=by
 refine Ctr_of_j' (F:=F_repair_Plan) rfl fun C=>?_
 refine j_len 2 rfl fun hn _ _=>?_
 subst hn
 refine j_len 3 rfl fun hn _ _=>?_
 subst hn
 have h64:=CC.n64
 have hn1:=CC.n1
 have ok:=pl_ok CC hlo hall (N + 1) 0 [] (.inl ⟨rfl,rfl⟩)
 rw [hP] at ok
 have hB : coB p m md rows lost hs = true:=by rw [co_en CC hlo,en_wt CC hlo];exact ok.en
 have hpe : pairE p m md N rows lost hs = 0:=by
  rw [pairE,if_neg (fun e=>e CC.ck),if_neg (fun e=>e ⟨hlo,ok.st⟩),if_neg]
  rw [List.any_eq_true]
  rintro ⟨x,h1,h2⟩
  exact (ok.sub x (of_decide_eq_true h2)).1 h1
 have c_repair_Combine:=fun {n c nm cm nl cl nh ch : Nat} {pm ps pl ph : Option Addr}=>S_repair_Combine (pm:=pm) (nm:=nm) (cm:=cm) (ps:=ps) (n:=n) (c:=c) (pl:=pl) (nl:=nl) (cl:=cl) (ph:=ph) (nh:=nh) (ch:=ch) CC hpe hlo ok.st hB
 simp only [if_true] at c_repair_Combine
 have hck : ckE p m md N rows = 0:=CC.ck
 have c_code_Check:=fun {pm ps : Option Addr} {nm cm n c : Nat}=>S_code_Check (P:=p) (M:=m) (pm:=pm) (ps:=ps) (nm:=nm) (cm:=cm) (n:=n) (c:=c) (md:=md) (rows:=rows) (N:=N) (by simp only [InR];omega) hck
 have c_repair_set:=fun {ps : Option Addr} {nn c : Nat} {n : Int} {l : List Int} {res : Bool} (hr : decide (stP n l) = res)=>S_repair_set (ps:=ps) (nn:=nn) (c:=c) (n:=n) (l:=l) hr
 have hst:=othL_st N [lost,away]
 have c_repair_others:=fun {ps : Option Addr} {nn c : Nat}=>S_repair_others (ps:=ps) (nn:=nn) (c:=c) (n:=N) (ls:=[lost,away]) (by omega)
 have hle:=st_len hst
 have hl1:=st_len hlo
 have e0 : srL N (othL N [lost,away]) = othL N [lost,away]:=oth_oth hst
 have c_repair_witness:=fun {nm cm n c nl cl nh ch : Nat} {pm ps pl ph : Option Addr}=>S_wt_none (nm:=nm) (cm:=cm) (n:=n) (c:=c) (nl:=nl) (cl:=cl) (nh:=nh) (ch:=ch) (pm:=pm) (ps:=ps) (pl:=pl) (ph:=ph) (hs:=othL N [lost,away]) CC hlo (by rw [e0];exact Option.isNone_iff_eq_none.1 hall)
 have c_slices_Clone___int_int_:=fun {ps : Option Addr} {cs : Nat}=>(S_slices_Clone___int_int_ (ps:=ps) (n:=lost.length) (cs:=cs) (l:=lost)).pubR (by show _ * 8 ≤ 140737488355328;omega)
 have hd1:=decide_eq_true hlo
 have hd2:=decide_eq_true haw
 refine j_nf [_,_] rfl ?_
 refine j_step rfl (x_box_agg rfl fun b1=>?_)
 refine j_step rfl (x_alloc zo40 fun b2=>?_)
 refine j_run it 1 rfl (by simp) ?_
 refine j_nf [_,_,_] rfl ?_
 refine j_step rfl (x_bld_all 1 rfl rfl ld27 rfl ?_)
 refine j_step rfl (x_call [0,1] rfl (c_code_Check) rfl ?_)
 rintro _ _ _ ⟨rfl,rfl,rfl⟩
 simp only [List.cons_append,List.nil_append]
 refine j_run it 1 rfl (by simp) ?_
 refine j_nf [_,_,_] rfl ?_
 refine j_run it 2 rfl (by simp) ?_
 refine j_nf [_,_] rfl ?_
 refine j_ifn rfl rfl (fun h1=>by exfalso;omega) (fun h1=>?_)
 refine j_nf [_,_,_] rfl ?_
 refine j_run it 1 rfl (by simp) ?_
 refine j_step rfl (x_field rfl fd27_1 ?_)
 refine j_step rfl (x_bld 1 rfl rfl ld3 rfl ?_)
 refine j_step rfl (x_call [2] rfl (c_repair_set (by omega)) rfl ?_)
 rintro _ _ _ ⟨rfl,rfl,rfl⟩
 simp only [List.cons_append,List.nil_append]
 simp only [decide_true]
 refine j_run it 3 rfl (by simp) ?_
 refine j_gstep rfl rfl (x_field rfl fd27_1 ?_)
 refine j_gstep rfl rfl (x_bld 1 rfl rfl ld3 rfl ?_)
 refine j_gstep rfl rfl (x_call [3] rfl (c_repair_set (by omega)) rfl ?_)
 rintro _ _ _ ⟨rfl,rfl,rfl⟩
 simp only [List.cons_append,List.nil_append]
 refine j_run it 2 rfl (by simp) ?_
 refine j_nf [_,_] rfl ?_
 refine j_false rfl rfl ?_
 refine j_nf [_,_] rfl ?_
 refine j_step rfl (x_field rfl fd27_1 ?_)
 refine j_step rfl (x_bld 1 rfl rfl ld3 rfl ?_)
 refine j_run it 2 rfl (by simp) ?_
 refine j_step rfl (x_lit sl25 zo25e rfl rfl rfl rfl (by decide) (by decide) rfl fun b3=>?_)
 refine j_pub_all (E:=(encSl (I64))) (n:=2) [[Value.slice pl lost.length cl],[Value.slice pa away.length ca]] [lost,away] 0 (fun w A hG=>(allrd_cons (rd_of_slF (hG _ (fact_mem (n:=2) rfl))) (allrd_cons (rd_of_slF (hG _ (fact_mem (n:=3) rfl))) allrd_nil))) rfl rfl rfl rfl (by first | decide | exact Nat.le_of_ble_eq_true rfl) (by first | decide | exact Nat.le_of_ble_eq_true rfl) ?_
 refine j_step rfl (x_call [0] rfl (c_repair_others) rfl ?_)
 rintro _ _ _ ⟨r1,rfl,rfl,rfl⟩
 simp only [List.cons_append,List.nil_append]
 refine j_run it 1 rfl (by simp) ?_
 refine j_nf [_,_,_] rfl ?_
 refine j_step rfl (x_bld_all 2 rfl rfl ld27 rfl ?_)
 refine j_run it 2 rfl (by simp) ?_
 refine j_pubR 0 0 rfl rfl (by show ((othL N [lost,away]).length) * 8 ≤ 140737488355328;omega) ?_
 refine j_step rfl (x_call [3,4,5,0] rfl (c_repair_witness) rfl ?_)
 rintro _ _ _ ⟨rfl,rfl,rfl⟩
 simp only [List.cons_append,List.nil_append]
 refine j_step rfl (x_nenilN sl22 rfl rfl ?_)
 refine j_nf [_,_] rfl ?_
 refine j_false rfl rfl ?_
 refine j_nf [_,_] rfl ?_
 refine j_run it 1 rfl (by simp) ?_
 refine j_step rfl (x_call [5] rfl (c_slices_Clone___int_int_) rfl ?_)
 rintro _ _ _ ⟨pa1,ca1,rfl,rfl,rfl⟩
 simp only [List.cons_append,List.nil_append]
 refine j_step rfl (x_build (cs:=[Value.slice pa1 lost.length ca1,Value.slice none 0 0,Value.slice none 0 0,Value.bool false,Value.slice none 0 0]) st40 zo40 rfl rfl ?_)
 refine j_step rfl (x_alloc zo40 fun b4=>?_)
 refine j_step rfl (x_bst_all 0 rfl rfl rfl ld40 rfl rfl (by simp [Value.oneCell']) ?_)
 refine j_nf [_,_] rfl ?_
 refine j_run it 1 rfl (by simp) ?_
 refine j_nf [_,_,_] rfl ?_
 refine j_run it 1 rfl (by simp) ?_
 refine j_nf [_,_,_] rfl ?_
 simp only [setB,List.set_cons_zero,List.eraseIdx_cons_zero,List.eraseIdx_cons_succ,List.cons_append,List.nil_append]
 refine j_add (slF I64 none 0 0 []) (fun w A _=>slF_nil _ w A none 0) ?_
 refine j_add (slF (encSl I64) none 0 0 []) (fun w A _=>slF_nil _ w A none 0) ?_
 refine j_loopG (X:=Nat × Option Addr × Nat × Nat × List (List Int)) [1,2,3,6,7,9,10] [0,1,2,3,4,5,6,7,8,9] (fun x=>[(12,.int .i64 (x.1 : Int)),(11,.slice x.2.1 x.2.2.1 x.2.2.2.1)]) (fun _=>_) (fun x=>[slF (encSl I64) x.2.1 x.2.2.1 x.2.2.2.1 x.2.2.2.2]) (fun x=>x.1 ≤ (othL N [lost,away]).length ∧ plP p m N md lost away rows (N + 1) 0 [] = plP p m N md lost away rows (N + 1 - x.1) x.1 x.2.2.2.2) (fun x=>N + 1 - x.1) (0,none,0,0,[]) [0] rfl rfl rfl ⟨Nat.zero_le _,rfl⟩ (by repeat (first | exact Fr.sub_nil _ | refine Fr.sub_cons rfl ?_)) rfl rfl ?_
 rintro ⟨w,pp,kp,cp,t⟩ ⟨hw,hg⟩ ih
 simp only [List.cons_append,List.nil_append] at hw hg ih ⊢
 rw [hP,show N + 1 - w = (N - w) + 1 by omega,plP,plR] at hg
 have c_repair_hunt__node:=fun {b : Nat}=>S_repair_hunt__node CC hlo (away:=away) w (s:=[]) (z:=[]) (k:=4096) (T:=[]) (W:=w) (b:=b) (pm:=pm) (nm:=nm) (cm:=cm) (ps:=ps) (n:=n) (c:=c) (pl:=pl) (nl:=lost.length) (cl:=cl) (pa:=pa) (na:=away.length) (ca:=ca) (r:=⟨none,0,[]⟩) (pS:=none) (ns:=0) (cs:=0) (pz:=none) (nz:=0) (cz':=0) (by simp) (by omega) (by simp;omega) (by simp) (by simp) (by simp)
 have hen:=hunt_ends CC hlo hall (w:=w)
 have hset:=fun {s : List Int}=>hunt_set (lost:=lost) (away:=away) CC (w:=w) (s:=s)
 obtain ⟨⟨⟨k',T'⟩,o⟩,hH⟩ : ∃ x,huP p m N md lost away rows w [] [] (4096,[]) = x:=⟨_,rfl⟩
 rw [show huW p m N md lost away rows w = ((k',T'),o) from hH] at hg hen hset
 simp only [hH,List.length_nil] at c_repair_hunt__node
 dsimp only at hg hen hset
 have hTl : T'.length + k' ≤ 0 + 4096:=by have:=(hu_le (add:=apI) (wt:=fun s=>wtP p m md N rows lost (srL N s)) (br:=fun z w=>brL lost away z w N) w [] [] (4096,[])).2;rw [show huT apI (fun s=>wtP p m md N rows lost (srL N s)) (fun z w=>brL lost away z w N) w [] [] (4096,[]) = ((k',T'),o) from hH] at this;exact this
 cases o with
 | none =>
  have hw2 : w < (othL N [lost,away]).length:=by
   refine Classical.byContradiction fun h=>hen (by omega) rfl
  simp only [NoQ] at c_repair_hunt__node
  refine j_nf [_,_,_,_,_,_,_] rfl ?_
  refine j_step rfl (x_bld_all 2 rfl rfl ld27 rfl ?_)
  refine j_run it 3 rfl (by simp) ?_
  refine j_step rfl (x_build (cs:=[Value.int IntKind.i64 ↑p,Value.int IntKind.i64 ↑m,Value.slice pm nm cm,Value.int IntKind.i64 ↑N,Value.slice ps n c,Value.slice pl lost.length cl,Value.slice pa away.length ca,Value.int IntKind.i64 ↑w,Value.int IntKind.i64 4096,Value.slice none 0 0]) st83 zo83 rfl rfl ?_)
  refine j_step rfl (x_alloc zo83 fun b5=>?_)
  refine j_step rfl (x_bst_all 0 rfl rfl rfl ld83 rfl rfl (by simp [Value.oneCell']) ?_)
  refine j_nf [_,_,_,_,_,_,_] rfl ?_
  refine j_row0 (encSl I64) 22 ?_
  refine j_selB [1,0,2,3,4] rfl rfl ?_
  refine wk 13 (ct @c_repair_hunt__node cz) ?_
  intro r2
  simp only [List.length_cons,List.length_nil,List.drop_succ_cons,List.drop_zero,List.cons_append,List.nil_append]
  refine j_pubR 1 0 rfl rfl (by show T'.length * 24 ≤ 140737488355328;omega) ?_
  refine j_toM [false,true,true,true] [0,4,5,6,7,8,9,10,11,12,13] (by exact fra rfl) rfl rfl (ih (w + 1,ad r2.bo,T'.length,r2.cap,T') (by dsimp only;omega) ⟨by dsimp only;omega,by dsimp only;rw [show N + 1 - (w + 1) = N - w by omega];exact hP.trans hg⟩)
 | some o =>
 clear ih
 cases o with
 | none =>
  obtain ⟨rfl,rfl,rfl⟩ : hs = fewGo (enP p m md N rows lost) (othL N [lost,away]).length (othL N [lost,away]) ∧ f = false ∧ pf = []:=by simpa using hg
  simp only [NoQ] at c_repair_hunt__node
  have c_repair_spare:=fun {nm cm n c nl cl nh ch : Nat} {pm ps pl ph : Option Addr}=>S_repair_spare (nm:=nm) (cm:=cm) (n:=n) (c:=c) (nl:=nl) (cl:=cl) (nh:=nh) (ch:=ch) (pm:=pm) (ps:=ps) (pl:=pl) (ph:=ph) CC hlo hst
  generalize hfw : fewGo (enP p m md N rows lost) (othL N [lost,away]).length (othL N [lost,away]) = hs at *
  refine j_nf [_,_,_,_,_,_,_] rfl ?_
  refine j_step rfl (x_bld_all 2 rfl rfl ld27 rfl ?_)
  refine j_run it 3 rfl (by simp) ?_
  refine j_step rfl (x_build (cs:=[Value.int IntKind.i64 ↑p,Value.int IntKind.i64 ↑m,Value.slice pm nm cm,Value.int IntKind.i64 ↑N,Value.slice ps n c,Value.slice pl lost.length cl,Value.slice pa away.length ca,Value.int IntKind.i64 ↑w,Value.int IntKind.i64 4096,Value.slice none 0 0]) st83 zo83 rfl rfl ?_)
  refine j_step rfl (x_alloc zo83 fun b5=>?_)
  refine j_step rfl (x_bst_all 0 rfl rfl rfl ld83 rfl rfl (by simp [Value.oneCell']) ?_)
  refine j_nf [_,_,_,_,_,_,_] rfl ?_
  refine j_row0 (encSl I64) 22 ?_
  refine j_selB [1,0,2,3,4] rfl rfl ?_
  refine wk 8 (ct @c_repair_hunt__node cz) ?_
  intro r2
  refine j_step rfl (x_nenilN sl22 rfl rfl ?_)
  refine wk 22 (ct @c_repair_spare (ct @c_repair_Combine cz)) ?_
  intro pa2 k1 ca2 pb1 cb1
  refine j_givC [7,1,0,5] rfl (.agg 3 rfl rfl ld40 rfl (.tmp rfl .nil)) rfl ⟨_,_,_,_,_,_,_,_,_,_,_,_,rfl,rfl,rfl⟩
 | some l =>
  obtain ⟨rfl,rfl,rfl⟩ : hs = srL N l ∧ f = true ∧ pf = t:=by simpa using hg
  obtain ⟨h1,h2,h3,h4⟩:=hset rfl
  have hsl:=srL_len (fun y hy=>(h4 y hy).1) h3
  simp only [NoQ] at c_repair_hunt__node
  have c_slices_Sort___int_int_:=fun {b cap : Nat} {cs : List Value}=>S_slices_Sort___int_int_ (b:=b) (cap:=cap) (n:=l.length) (cs:=cs) (l:=l) (K:=srL N l) (by omega) (fun x hx=>by have:=(h4 x hx).1;omega) rfl ok.st.2 (srL_pm (fun y hy=>(h4 y hy).1) h3)
  generalize srL N l = hs at *
  refine j_nf [_,_,_,_,_,_,_] rfl ?_
  refine j_step rfl (x_bld_all 2 rfl rfl ld27 rfl ?_)
  refine j_run it 3 rfl (by simp) ?_
  refine j_step rfl (x_build (cs:=[Value.int IntKind.i64 ↑p,Value.int IntKind.i64 ↑m,Value.slice pm nm cm,Value.int IntKind.i64 ↑N,Value.slice ps n c,Value.slice pl lost.length cl,Value.slice pa away.length ca,Value.int IntKind.i64 ↑w,Value.int IntKind.i64 4096,Value.slice none 0 0]) st83 zo83 rfl rfl ?_)
  refine j_step rfl (x_alloc zo83 fun b5=>?_)
  refine j_step rfl (x_bst_all 0 rfl rfl rfl ld83 rfl rfl (by simp [Value.oneCell']) ?_)
  refine j_nf [_,_,_,_,_,_,_] rfl ?_
  refine j_row0 (encSl I64) 22 ?_
  refine j_selB [1,0,2,3,4] rfl rfl ?_
  refine wk 8 (ct @c_repair_hunt__node cz) ?_
  intro r2 b21 c21 cs21
  refine j_step rfl (x_nenilS sl22 rfl rfl ?_)
  refine wk 18 (ct @c_slices_Sort___int_int_ cz) ?_
  intro cs'1
  simp only [List.length_cons,List.length_nil,List.drop_succ_cons,List.drop_zero,List.cons_append,List.nil_append,List.eraseIdx_cons_zero,List.eraseIdx_cons_succ,setB,List.set_cons_succ,List.set_cons_zero]
  refine j_pubRb 0 0 rfl rfl (by show l.length * 8 ≤ 140737488355328;omega) ?_
  refine wk 9 (ct @c_repair_Combine cz) ?_
  intro pb1 cb1
  refine j_givC [9,1,0,6] rfl (.agg 3 rfl rfl ld40 rfl (.tmp rfl .nil)) rfl ⟨_,_,_,_,_,_,_,_,_,_,_,_,rfl,rfl,rfl⟩
end
open Go Go.Fw
set_option maxRecDepth 100000
set_option linter.unusedVariables false
set_option linter.unusedSimpArgs false
set_option maxHeartbeats 0
section
variable {P : Program} {F : Fun P} {C : Cx} {S : List It} {R : Value → World → Prop} {β : List Blk} {Γ : List Fact} {it : List (TypeId × IntKind)} {L : List Oper} {pt : List (List Nat)} {p : List Nat} {σ κ : Fr} {fs : List (Nat × Fact)} {al : List Blk} {i : Nat}
end
open Go Go.Fw
set_option maxRecDepth 100000
set_option linter.unusedVariables false
set_option linter.unusedSimpArgs false
set_option maxHeartbeats 0
section
variable {add : List Int → Int → List Int} {f : List Int → List Int → Nat × List (List Int) → (Nat × List (List Int)) × Option (Option (List Int))}
end
section
variable {p m N : Nat} {md lost away : List Int} {rows : List (List Int)}
end
open Go Go.Fw
set_option maxRecDepth 100000
set_option linter.unusedVariables false
set_option linter.unusedSimpArgs false
set_option maxHeartbeats 0
section
variable {P M N : Int} {nm cm n c nl cl na ca : Nat} {pm ps pl pa : Option Addr} {md lost away : List Int} {rows : List (List Int)}
theorem setsB2 {P M N : Int} {md l k : List Int} {rows : List (List Int)} : setsE P M md N rows [l,k] = if ckE P M md N rows ≠ 0 then ckE P M md N rows else if stP N l ∧ stP N k then 0 else 5:=by
 rw [setsE]
 congr 1
 by_cases h2 : stP N l ∧ stP N k
 ·rw [if_pos h2,if_pos fun x hx=>?_]
  rcases List.mem_cons.1 hx with rfl | hx
  ·exact h2.1
  ·rw [List.mem_singleton.1 hx];exact h2.2
 ·rw [if_neg h2,if_neg fun h=>h2 ⟨h _ (.head _),h _ (.tail _ (.head _))⟩]
theorem S_codewrightref53_PlanArgs (hN : InR .i64 N) {e : Int} (h : plE P M md N rows lost away = e) : Ctr Tryz.prog 24 [.agg #[.int .i64 P,.int .i64 M,.slice pm nm cm,.int .i64 N,.slice ps n c],.slice pl nl cl,.slice pa na ca] [] [slF I64 pm nm cm md,slF (encSl I64) ps n c rows,slF I64 pl nl cl lost,slF I64 pa na ca away] (Rv (.int .i64 e) []):=by
 refine Ctr_of_j' (F:=F_codewrightref53_PlanArgs) rfl fun C=>?_
 refine j_len 2 rfl fun hn _ _=>?_
 subst hn
 refine j_len 3 rfl fun hn _ _=>?_
 subst hn
 have hr:=ckE_rng P M md N rows
 have c_codewrightref53_Sets:=fun {pm ps pl : Option Addr} {nm cm n c nl cl : Nat}=>S_codewrightref53_Sets (pm:=pm) (ps:=ps) (nm:=nm) (cm:=cm) (n:=n) (c:=c) (pl:=pl) (nl:=nl) (cl:=cl) (P:=P) (M:=M) (N:=N) (md:=md) (rows:=rows) (ls:=[lost,away]) hN rfl
 rw [setsB2] at c_codewrightref53_Sets
 rw [plE] at h
 by_cases hc : ckE P M md N rows = 0
 ·rw [if_neg (fun e=>e hc)] at h c_codewrightref53_Sets
  by_cases h1 : stP N lost ∧ stP N away
  ·rw [if_neg (fun e=>e h1)] at h
   rw [if_pos h1] at c_codewrightref53_Sets
   obtain ⟨p,m,N,rfl,rfl,rfl,CC⟩:=ck_of hc
   have h64:=CC.n64
   have hst:=othL_st N [lost,away]
   have hle:=st_len hst
   simp only [Int.toNat_natCast] at h
   have c_codewrightref53_Available:=fun {pl pa : Option Addr} {nl cl na ca : Nat}=>(S_codewrightref53_Available (N:=N) (pl:=pl) (nl:=nl) (cl:=cl) (pa:=pa) (na:=na) (ca:=ca) (lost:=lost) (away:=away) (by omega)).pubR (by show _ * 8 ≤ 140737488355328;omega)
   have c_codewrightref53_Enough:=fun {n c nm cm nl cl nh ch : Nat} {pm ps pl ph : Option Addr}=>S_codewrightref53_Enough (pm:=pm) (nm:=nm) (cm:=cm) (ps:=ps) (n:=n) (c:=c) (pl:=pl) (nl:=nl) (cl:=cl) (ph:=ph) (nh:=nh) (ch:=ch) CC h1.1 hst
   rw [en_wt CC h1.1] at c_codewrightref53_Enough
   have hd:=decide_eq_true (show (0 : Int) = 0 from rfl)
   cases hE : enP p m md N rows lost (othL N [lost,away]) with
   | false =>
    rw [if_pos (by rw [hE])] at h
    subst h
    rw [show (wtP p m md N rows lost (othL N [lost,away])).isNone = false from hE] at c_codewrightref53_Enough
    refine wk 7 cz ?_
    intro b1 b2
    refine j_pub_all (E:=(encSl (I64))) (n:=2) [[Value.slice pl lost.length cl],[Value.slice pa away.length ca]] [lost,away] 0 (fun w A hG=>(allrd_cons (rd_of_slF (hG _ (fact_mem (n:=2) rfl))) (allrd_cons (rd_of_slF (hG _ (fact_mem (n:=3) rfl))) allrd_nil))) rfl rfl rfl rfl (by first | decide | exact Nat.le_of_ble_eq_true rfl) (by first | decide | exact Nat.le_of_ble_eq_true rfl) ?_
    refine wk 11 (ct @c_codewrightref53_Sets (ct @c_codewrightref53_Available (ct @c_codewrightref53_Enough cz))) ?_
    intro pa1 ca1
    exact ge
   | true =>
    rw [if_neg (by rw [hE];simp)] at h
    subst h
    rw [show (wtP p m md N rows lost (othL N [lost,away])).isNone = true from hE] at c_codewrightref53_Enough
    refine wk 7 cz ?_
    intro b1 b2
    refine j_pub_all (E:=(encSl (I64))) (n:=2) [[Value.slice pl lost.length cl],[Value.slice pa away.length ca]] [lost,away] 0 (fun w A hG=>(allrd_cons (rd_of_slF (hG _ (fact_mem (n:=2) rfl))) (allrd_cons (rd_of_slF (hG _ (fact_mem (n:=3) rfl))) allrd_nil))) rfl rfl rfl rfl (by first | decide | exact Nat.le_of_ble_eq_true rfl) (by first | decide | exact Nat.le_of_ble_eq_true rfl) ?_
    refine wk 9 (ct @c_codewrightref53_Sets (ct @c_codewrightref53_Available (ct @c_codewrightref53_Enough cz))) ?_
    intro pa1 ca1
    exact ge
  ·rw [if_pos h1] at h
   rw [if_neg h1] at c_codewrightref53_Sets
   subst h
   refine wk 7 cz ?_
   intro b1 b2
   refine j_pub_all (E:=(encSl (I64))) (n:=2) [[Value.slice pl lost.length cl],[Value.slice pa away.length ca]] [lost,away] 0 (fun w A hG=>(allrd_cons (rd_of_slF (hG _ (fact_mem (n:=2) rfl))) (allrd_cons (rd_of_slF (hG _ (fact_mem (n:=3) rfl))) allrd_nil))) rfl rfl rfl rfl (by first | decide | exact Nat.le_of_ble_eq_true rfl) (by first | decide | exact Nat.le_of_ble_eq_true rfl) ?_
   refine wk 9 (ct @c_codewrightref53_Sets cz) ?_
   exact ge
 ·rw [if_pos hc] at h c_codewrightref53_Sets
  rw [h] at hr c_codewrightref53_Sets hc
  refine wk 7 cz ?_
  intro b1 b2
  refine j_pub_all (E:=(encSl (I64))) (n:=2) [[Value.slice pl lost.length cl],[Value.slice pa away.length ca]] [lost,away] 0 (fun w A hG=>(allrd_cons (rd_of_slF (hG _ (fact_mem (n:=2) rfl))) (allrd_cons (rd_of_slF (hG _ (fact_mem (n:=3) rfl))) allrd_nil))) rfl rfl rfl rfl (by first | decide | exact Nat.le_of_ble_eq_true rfl) (by first | decide | exact Nat.le_of_ble_eq_true rfl) ?_
  refine wk 9 (ct @c_codewrightref53_Sets cz) ?_
  exact ge
end
section
variable {n1 c1 n2 c2 n3 c3 n4 c4 m1 d1 m2 d2 m3 d3 m4 d4 : Nat} {p1 p2 p3 p4 q1 q2 q3 q4 : Option Addr} {lo hs : List Int} {co t : List (List Int)} {f : Bool}
end
section
variable {p m N nm cm n c nl cl na ca : Nat} {pm ps pl pa : Option Addr} {md lost away : List Int} {rows : List (List Int)}
end
open Go Go.Fw
set_option maxRecDepth 100000
set_option linter.unusedVariables false
set_option linter.unusedSimpArgs false
set_option maxHeartbeats 0
section
variable {P : Program} {C : Cx} {σ : Fr} {β : List Blk} {Γ : List Fact} {ty : TypeId} {K : Value → List Blk → List Fact → Prop}
end
section
variable {p m N : Nat} {md lost away : List Int} {rows : List (List Int)}
end
open Go Go.Fw
set_option maxRecDepth 100000
set_option linter.unusedVariables false
set_option linter.unusedSimpArgs false
set_option maxHeartbeats 0
section
variable {P M N w e : Int} {nm cm n c nl cl na ca nt ct : Nat} {md lost away : List Int} {rows t : List (List Int)} {pm ps pl pa pt : Option Addr}
end
open Go Go.Fw
set_option maxRecDepth 100000
set_option linter.unusedVariables false
set_option linter.unusedSimpArgs false
set_option maxHeartbeats 0
section
variable {P M N e : Int} {nm cm n c na ca nl cl nh ch nc cc np cp : Nat} {md away lost hs : List Int} {rows coef t : List (List Int)} {f : Bool} {pm ps pa pl ph pc pp : Option Addr}
end
open Go Go.Fw
set_option maxRecDepth 100000
set_option linter.unusedVariables false
set_option linter.unusedSimpArgs false
set_option maxHeartbeats 0
section
variable {P M N e : Int} {nm cm n c na ca nl cl nh ch nc cc np cp : Nat} {md away lost hs : List Int} {rows coef t : List (List Int)} {f : Bool} {pm ps pa pl ph pc pp : Option Addr}
end
open Go Go.Fw
set_option maxRecDepth 100000
set_option linter.unusedVariables false
set_option linter.unusedSimpArgs false
set_option maxHeartbeats 0
section
variable {p m N : Nat} {md lost away hs : List Int} {rows t : List (List Int)}
theorem co_len : (coP p m md rows lost hs).length = lost.length:=List.length_map _
theorem co_wd (CC : Cok p m md N rows) (hs : List Int) (l : Nat) : Wd (p ^ m) hs.length (slX hs.length (eqP p m md rows hs l)):=by
 have h0:=(fok_fo CC.K).q2
 have h:=(fok_fo CC.K).elim (m:=hs.length) (auL_mat (hp_mat (by omega) CC.mat hs) (wd_col (show 0 < p ^ m by omega) CC.mat l).2)
 exact (fok_fo CC.K).slX_wd h.1 h.2.1
theorem co_sh (CC : Cok p m md N rows) : shB lost hs (coP p m md rows lost hs) = true:=shB_iff.2 ⟨co_len,fun r hr=>by
 obtain ⟨l,_,rfl⟩:=List.mem_map.1 hr
 rw [(co_wd CC hs l.toNat).1]⟩
theorem co_el (CC : Cok p m md N rows) : elB (coP p m md rows lost hs) (p ^ m) = true:=elB_iff.2 fun r hr=>by
 obtain ⟨l,_,rfl⟩:=List.mem_map.1 hr
 exact (co_wd CC hs l.toNat).2
end
section
variable {P M N : Int} {n c nm cm nl cl na ca nh ch nx cx : Nat} {pm ps pl pa ph px : Option Addr} {md lost away hs msg : List Int} {rows : List (List Int)}
theorem S_codewrightlaw53_short {b : Bool} (hN : InR .i64 N) (h : (ckE P M md N rows ≠ 0 ∧ b = true) ∨ (ckE P M md N rows = 0 ∧ b = decide (N ≤ 10))) : Ctr Tryz.prog 18 [.agg #[.int .i64 P,.int .i64 M,.slice pm nm cm,.int .i64 N,.slice ps n c]] [] [slF I64 pm nm cm md,slF (encSl I64) ps n c rows] (Rv (.bool b) []):=by
 refine Ctr_of_j' (F:=F_codewrightlaw53_short) rfl fun C=>?_
 have hr:=ckE_rng P M md N rows
 have c_codewrightref12_Check:=fun {pm ps : Option Addr} {nm cm n c : Nat}=>S_codewrightref12_Check (P:=P) (M:=M) (pm:=pm) (ps:=ps) (nm:=nm) (cm:=cm) (n:=n) (c:=c) (md:=md) (rows:=rows) hN rfl
 rcases h with ⟨h1,rfl⟩ | ⟨h1,rfl⟩
 ·generalize ckE P M md N rows = e at *
  refine wk 11 (ct @c_codewrightref12_Check cz) ?_
  intro b1 h2
  exact ge
 ·rw [h1] at c_codewrightref12_Check
  refine wk 12 (ct @c_codewrightref12_Check cz) ?_
  intro b1 h2
  exact ge
end
open Go Go.Fw
set_option maxRecDepth 100000
set_option linter.unusedVariables false
set_option linter.unusedSimpArgs false
set_option maxHeartbeats 0
def blL (w hs : List Int) : List (List Int):=hs.map fun h=>[at0 w h.toNat]
theorem bl_len {w hs : List Int} : (blL w hs).length = hs.length:=List.length_map _
theorem bl_mat {q N : Nat} {w hs : List Int} (hq : 0 < q) (hw : Wd q N w) : Mat q 1 (blL w hs):=fun r hr=>by
 obtain ⟨h,_,rfl⟩:=List.mem_map.1 hr
 exact ⟨rfl,fun x hx=>by rw [List.mem_singleton.1 hx];exact wd_at hq hw _⟩
section
variable {p m N : Nat} {md lost away hs w msg : List Int} {rows t : List (List Int)}
theorem bl_get {j : Nat} {h : Int} (e : hs[j]? = some h) : (blL w hs)[j]? = some [at0 w h.toNat]:=by rw [blL,List.getElem?_map,e];rfl
theorem acb_bl (CC : Cok p m md N rows) (hw : Wd (p ^ m) N w) {c : List Int} (hc : Wd (p ^ m) hs.length c) : ∀ (j : Nat),j ≤ hs.length → acbP p m md 1 c (blL w hs) j = [dotL (liftI (fA p m)) (liftI (fM p (fpo m md))) (c.take j) ((piL w hs).take j)]
 | 0,_=>by rw [acbP,List.take_zero,List.take_zero];rfl
 | j + 1,h=>by
  have O:=fok_fn CC.K
  have hq:=O.q2
  have hpW : Wd (p ^ m) hs.length (piL w hs):=⟨List.length_map _,fun x hx=>by
   obtain ⟨k,_,rfl⟩:=List.mem_map.1 hx
   exact wd_at (by omega) hw _⟩
  obtain ⟨y,at_y⟩ : ∃ y,hs[j]? = some y:=⟨_,List.getElem?_eq_getElem (by omega)⟩
  obtain ⟨a,at_a⟩ : ∃ a,c[j]? = some a:=⟨_,List.getElem?_eq_getElem (by rw [hc.1];omega)⟩
  have hgy : (piL w hs)[j]? = some (at0 w y.toNat):=by rw [piL,List.getElem?_map,at_y];rfl
  obtain ⟨a0,a1⟩:=hc.2 a (List.mem_of_getElem? at_a)
  obtain ⟨v0,v1⟩:=wd_at (show 0 < p ^ m by omega) hw y.toNat
  obtain ⟨d0,d1⟩:=O.fi.dlt (wd_take hc (show j ≤ hs.length by omega)) (wd_take hpW (show j ≤ hs.length by omega))
  rw [acbP,acb_bl CC hw hc j (by omega),gd_at at_a,gd_at (bl_get at_y),List.take_add_one,List.take_add_one,at_a,hgy,Option.toList_some,Option.toList_some,O.dot_snoc (wd_take hc (show j ≤ hs.length by omega)) (wd_take hpW (show j ≤ hs.length by omega)) a0 a1 v0 v1]
  have hr : Wd (p ^ m) 1 [at0 w y.toNat]:=⟨rfl,fun x hx=>by rw [List.mem_singleton.1 hx];exact ⟨v0,v1⟩⟩
  have hu : Wd (p ^ m) 1 [dotL (liftI (fA p m)) (liftI (fM p (fpo m md))) (c.take j) ((piL w hs).take j)]:=⟨rfl,fun x hx=>by rw [List.mem_singleton.1 hx];exact ⟨d0,d1⟩⟩
  obtain ⟨e0,e1⟩:=O.fi.ml _ _ a0 a1 v0 v1
  obtain ⟨s0,s1⟩:=O.fi.al _ _ d0 d1 e0 e1
  refine wd_at_ext (O.fi.axw a0 a1 hr hu) ⟨rfl,fun x hx=>by rw [List.mem_singleton.1 hx];exact ⟨s0,s1⟩⟩ fun i hi=>?_
  obtain rfl : i = 0:=by omega
  rw [O.axp_at a0 a1 hr hu]
  rfl
theorem bl_ap (CC : Cok p m md N rows) (hB : coB p m md rows lost hs = true) (hx : Wd (p ^ m) rows.length msg) : apR p m md (coP p m md rows lost hs) (blL (cbP p m md N msg rows) hs) 0 = lost.map fun l=>if hs = [] then [] else [at0 (cbP p m md N msg rows) l.toNat]:=by
 have O:=fok_fn CC.K
 have hw : Wd (p ^ m) N (cbP p m md N msg rows):=O.cmb_wd hx.2 CC.mat
 rw [apR,if_pos rfl,coP,List.map_map]
 refine List.map_congr_left fun l hl=>?_
 by_cases h0 : hs = []
 ·rw [if_pos h0];subst h0;rfl
 ·rw [if_neg h0]
  obtain ⟨y,ys,rfl⟩:=List.exists_cons_of_ne_nil h0
  have h:=acb_bl (hs:=y::ys) CC hw (co_wd CC (y::ys) l.toNat) (y::ys).length (Nat.le_refl _)
  rw [List.take_of_length_le (by rw [(co_wd CC (y::ys) l.toNat).1];exact Nat.le_refl _),List.take_of_length_le (by rw [piL,List.length_map];exact Nat.le_refl _),co_word CC hB hl hx] at h
  rw [← h,bl_len]
  rfl
theorem pl_st (CC : Cok p m md N rows) (h : plE p m md N rows lost away = 0) : True ∧ stP N lost ∧ stP N away ∧ enP p m md N rows lost (othL N [lost,away]) = true:=by
 rw [plE,if_neg (fun e=>e CC.ck)] at h
 by_cases h1 : stP (N : Int) lost ∧ stP (N : Int) away
 ·rw [if_neg (fun e=>e h1)] at h
  simp only [Int.toNat_natCast] at h
  cases hE : enP p m md N rows lost (othL N [lost,away]) with
  | false=>rw [if_pos (by rw [hE])] at h;omega
  | true=>exact ⟨trivial,h1.1,h1.2,rfl⟩
 ·rw [if_pos h1] at h;omega
theorem bl_ae (CC : Cok p m md N rows) (hw : Wd (p ^ m) N w) : apE lost hs (coP p m md rows lost hs) (blL w hs) (p ^ m) = 0:=by
 have O:=fok_fn CC.K
 have hq:=O.q2
 have hM:=bl_mat (hs:=hs) (show 0 < p ^ m by omega) hw
 rw [apE,if_pos (co_sh CC),if_pos (by rw [bl_len]),if_pos,if_pos (co_el CC),if_pos]
 ·exact elB_iff.2 fun r hr=>(hM r hr).2
 ·refine wdB_iff.2 fun r hr=>?_
  rw [(hM r hr).1]
  cases hs with
  | nil=>cases hr
  | cons y ys=>rfl
end
section
variable {p m N nm cm n c nl cl na ca nh ch nx cx k11 c11 k21 c21 k31 c31 k41 c41 b1 b2 b3 cb1 : Nat} {pm ps pl pa ph px pb1 p11 p21 p31 p41 : Option Addr} {md lost hh w : List Int} {co pf : List (List Int)} {f : Bool}
theorem RR_loop {C : Cx} (K : Fok p m md) (hlo : stP N lost) (hst : stP N hh) (hn12 : N ≤ 12) (hw : Wd (p ^ m) N w) (hAE : apE lost hh co (blL w hh) (p ^ m) = 0) (hAR : apR p m md co (blL w hh) 0 = lost.map fun l=>if hh = [] then [] else [at0 w l.toNat]) (hz : hh = [] → ∀ l ∈ lost,at0 w l.toNat = 0) :
  J F_codewrightlaw53_RepairRestores C [It.c (pL 8186),It.blk 0,It.c (pL 2047)] [(9,.int .i64 0),(8,.slice (some ⟨b3,0,none⟩) 0 0),(1,.pointer (some ⟨b1,0,none⟩)),(3,.slice pb1 N cb1),(5,.pointer (some ⟨b2,0,none⟩))]
   [(some b3,22,[]),(some b2,40,[.slice p11 k11 c11,.slice p21 k21 c21,.slice p31 k31 c31,.bool f,.slice p41 k41 c41]),(some b1,46,[.int .i64 p,.int .i64 m,.slice pm nm cm,.int .i64 N,.slice ps n c,.slice pl lost.length cl,.slice pa na ca,.slice ph nh ch,.slice px nx cx])]
   [slF I64 p11 k11 c11 lost,slF I64 p21 k21 c21 hh,slF (encSl I64) p31 k31 c31 co,slF (encSl I64) p41 k41 c41 pf,slF I64 pb1 N cb1 w,slF I64 pm nm cm md,slF I64 pl lost.length cl lost] (Gives C (Rv (.bool true) [])):=by
 refine j_len 1 rfl fun hn _ _=>?_
 subst hn
 have hq:=K.q
 have hwl:=hw.1
 have hl1:=st_len hlo
 have hl2:=st_len hst
 have hBl : (blL w hh).length = hh.length:=bl_len
 have hBg:=fun {j : Nat} {h : Int} (e : hh[j]? = some h)=>bl_get (w:=w) e
 have hbw : ((blL w hh).getD 0 []).length ≤ 1000000:=by
  cases hh with
  | nil=>exact Nat.zero_le _
  | cons y ys=>show (1 : Nat) ≤ 1000000;omega
 have c_repair_Apply:=fun {nm cm nh ch nl cl nc cc np cp nb cb : Nat} {pm pl ph pc pp pb : Option Addr}=>S_repair_Apply (nm:=nm) (cm:=cm) (nh:=nh) (ch:=ch) (nl:=nl) (cl:=cl) (nc:=nc) (cc:=cc) (np:=np) (cp:=cp) (nb:=nb) (cb:=cb) (f:=f) (pm:=pm) (pl:=pl) (ph:=ph) (pc:=pc) (pp:=pp) (pb:=pb) K hbw (by omega) hAE
 rw [hAR] at c_repair_Apply
 have hRl : (lost.map fun l=>if hh = [] then [] else [at0 w l.toNat]).length = lost.length:=List.length_map _
 have hRg : ∀ (i : Nat) (l : Int),lost[i]? = some l → (lost.map fun l=>if hh = [] then [] else [at0 w l.toNat])[i]? = some (if hh = [] then [] else [at0 w l.toNat]):=fun i l h=>by rw [List.getElem?_map,h];rfl
 generalize (lost.map fun l=>if hh = [] then [] else [at0 w l.toNat]) = R at *
 generalize blL w hh = B at *
 clear hAR hAE hbw
 (apply j_rowlit (E:=encSl I64) (n:=0) (cs:=[]) [] [] 0 (fun w A hG=>allrd_nil);(· rfl);(· rfl);(· rfl);(· rfl);(· decide))
 refine j_loopG (X:=Nat × Row) [1,3,5] [0,1,2,3,4,5,6,7] (fun x=>[(9,.int .i64 (x.1 : Int)),(8,.slice (ad x.2.bo) x.1 x.2.cap)]) (fun x=>(x.2.bo,22,x.2.cs)::_) (fun x=>[rowF (encSl I64) x.2 x.1 (B.take x.1)]) (fun x=>x.1 ≤ hh.length) (fun x=>hh.length - x.1) (0,⟨some b3,0,[]⟩) [0] rfl rfl rfl (Nat.zero_le _) (by repeat (first | exact Fr.sub_nil _ | refine Fr.sub_cons rfl ?_)) rfl rfl ?_
 rintro ⟨j,r⟩ hj ih
 simp only [List.cons_append,List.nil_append] at hj ih ⊢
 by_cases hjl : j < hh.length
 ·obtain ⟨h,at_h⟩ : ∃ h,hh[j]? = some h:=⟨_,List.getElem?_eq_getElem hjl⟩
  obtain ⟨h0,h1⟩:=hst.1 h (List.mem_of_getElem? at_h)
  have at_v : w[h.toNat]? = some (at0 w h.toNat):=by rw [at0,List.getD_eq_getElem?_getD,List.getElem?_eq_getElem (by omega)];rfl
  have ih':=fun r=>ih (j + 1,r) (by dsimp only;omega) (by dsimp only;omega)
  dsimp only at ih'
  simp only [List.take_add_one,hBg at_h,Option.toList_some] at ih'
  obtain ⟨v0,v1⟩:=wd_at (show 0 < p ^ m by have:=(fok_fn K).q2;omega) hw h.toNat
  generalize at0 w h.toNat = v at *
  clear ih
  refine j_nf [_,_,_,_,_,_] rfl ?_
  refine j_run it 1 rfl (by simp) ?_
  refine j_step rfl (x_field rfl fd40_1 ?_)
  refine j_step rfl (x_bld 1 rfl rfl ld22 rfl ?_)
  refine j_step rfl (x_len sl22 rfl ?_)
  refine j_run it 1 rfl (by simp) ?_
  refine j_nf [_,_,_,_,_] rfl ?_
  refine j_if rfl rfl (fun h2=>?_) (fun h2=>by exfalso;omega)
  refine j_nf [_,_,_,_,_,_,_,_] rfl ?_
  refine j_step rfl (x_field rfl fd40_1 ?_)
  refine j_step rfl (x_bld 1 rfl rfl ld22 rfl ?_)
  refine j_run it 1 rfl (by simp) ?_
  refine j_step rfl (x_idx 3 (j) rfl rfl rfl sl22 rfl (by omega) fun z1 hz1 b4 o1=>?_)
  obtain rfl : _ = z1:=Option.some.inj (at_h.symm.trans hz1)
  refine j_step rfl (x_ld_int 0 rfl rfl ld3 fun ⟨r1,r2⟩=>?_)
  refine j_run it 2 rfl (by simp) ?_
  refine j_split_dec (t:=67) rfl (fun h3=>by exfalso;omega) (fun h3=>?_)
  refine j_gstep rfl rfl (x_field rfl fd40_1 ?_)
  refine j_gstep rfl rfl (x_bld 1 rfl rfl ld22 rfl ?_)
  refine j_run it 1 rfl (by simp) ?_
  refine j_gstep rfl rfl (x_idx 4 (j) rfl rfl rfl sl22 rfl (by omega) fun z1 hz2 b5 o2=>?_)
  obtain rfl : _ = z1:=Option.some.inj (at_h.symm.trans hz2)
  refine j_gstep rfl rfl (x_ld_int 0 rfl rfl ld3 fun ⟨r3,r4⟩=>?_)
  refine j_run it 1 rfl (by simp) ?_
  refine j_gstep rfl rfl (x_len sl22 rfl ?_)
  refine j_run it 2 rfl (by simp) ?_
  refine j_nf [_,_,_,_,_,_,_] rfl ?_
  refine j_if rfl rfl (fun h4=>by exfalso;omega) (fun h4=>?_)
  refine j_nf [_,_,_,_,_,_] rfl ?_
  refine j_run it 2 rfl (by simp) ?_
  refine j_step rfl (x_field rfl fd40_1 ?_)
  refine j_step rfl (x_bld 1 rfl rfl ld22 rfl ?_)
  refine j_run it 1 rfl (by simp) ?_
  refine j_step rfl (x_idx 5 (j) rfl rfl rfl sl22 rfl (by omega) fun z1 hz3 b6 o3=>?_)
  obtain rfl : _ = z1:=Option.some.inj (at_h.symm.trans hz3)
  refine j_step rfl (x_ld_int 0 rfl rfl ld3 fun ⟨r5,r6⟩=>?_)
  refine j_step rfl (x_idx 9 ((h : Int).toNat) rfl rfl rfl sl22 (by omega) (by omega) fun z1 hz4 b7 o4=>?_)
  obtain rfl : _ = z1:=Option.some.inj (at_v.symm.trans hz4)
  refine j_step rfl (x_ld_int 0 rfl rfl ld3 fun ⟨r7,r8⟩=>?_)
  refine j_step rfl (x_lit sl22 zo22e rfl rfl rfl rfl (by decide) (by decide) rfl fun b8=>?_)
  refine j_step rfl (x_lit sl25 zo25e rfl rfl rfl rfl (by decide) (by decide) rfl fun b9=>?_) --ok
  refine j_pub_all (E:=I64) (n:=1) [[.int .i64 v]] [v] 1 (fun w A hG=>allrd_cons ⟨rfl,by simp only [InR];omega⟩ allrd_nil) rfl rfl rfl rfl (by decide) (by decide) ?_
  refine j_step rfl (x_appR (z:=[v]) 1 0 5 rfl rfl rfl rfl rfl sl25 zo25e rfl (fun w A hG=>(rd_of_slF (hG _ (fact_mem (n:=0) rfl)))) (by omega) _ by25e (by omega) fun r9=>?_)
  refine wk 4 cz ?_
  refine j_toM [true,false,true,true] [0,7,8,9,10,11,12,13,14] (by exact fra rfl) rfl rfl (ih' r9)
 ·obtain rfl : j = hh.length:=by omega
  clear ih
  rw [List.take_of_length_le (by omega)]
  refine j_pubR 0 0 rfl rfl (by show hh.length * 24 ≤ 140737488355328;omega) ?_
  simp only [List.eraseIdx_cons_zero,List.eraseIdx_cons_succ]
  refine wk 29 (ct @c_repair_Apply cz) ?_
  intro h1 pb2 cb2 h2 h3
  simp only [List.cons_append,List.nil_append]
  refine j_loopG (X:=Nat) [1,3,5,10] [0,1,2,3,4,5,6,7,8,9,10] (fun i=>[(12,.int .i64 (i : Int))]) (fun _=>_) (fun _=>[]) (fun i=>i ≤ lost.length) (fun i=>lost.length - i) 0 [] rfl rfl rfl (Nat.zero_le _) (by repeat (first | exact Fr.sub_nil _ | refine Fr.sub_cons rfl ?_)) rfl rfl ?_
  rintro i hi ih
  simp only [List.cons_append,List.nil_append] at hi ih ⊢
  by_cases hil : i < lost.length
  ·obtain ⟨l,at_l⟩ : ∃ l,lost[i]? = some l:=⟨_,List.getElem?_eq_getElem hil⟩
   obtain ⟨l0,l1⟩:=hlo.1 l (List.mem_of_getElem? at_l)
   have gl:=gd_at at_l
   have at_v : w[l.toNat]? = some (at0 w l.toNat):=by rw [at0,List.getD_eq_getElem?_getD,List.getElem?_eq_getElem (by omega)];rfl
   have gr:=gd_at (hRg i l at_l)
   by_cases h0 : hh = []
   ·have hv:=hz h0 l (List.mem_of_getElem? at_l)
    rw [hv] at at_v
    have h0' : hh.length = 0:=by rw [h0];rfl
    clear hz hRg hBg
    refine wk 20 cz ?_
    intro h4 h5 b4 o1 hz1
    refine j_gstep rfl rfl (x_ld_int 0 rfl rfl ld3 fun ⟨r1,r2⟩=>?_)
    refine wk 1 cz ?_
    intro b5 o2 hz2
    refine j_gstep rfl rfl (x_ld_int 0 rfl rfl ld3 fun ⟨r3,r4⟩=>?_)
    refine wk 10 cz ?_
    intro h6
    exact tw (ih (i + 1) (by omega) (by omega))
   ·have h0' : 0 < hh.length:=by
     cases hh with
     | nil=>exact absurd rfl h0
     | cons y ys=>simp
    rw [if_neg h0] at gr
    have gr1 : (R.getD i default).length = 1:=by rw [gr];rfl
    have gr2 : (R.getD i default).getD 0 default = w.getD (lost.getD i default).toNat default:=by rw [gr,gl];rfl
    clear hz hRg hBg gr
    refine wk 19 cz ?_
    intro h4 h5
    (apply j_drawK it mx 29;(· rfl);(· rfl))
    (apply lxk_eq;(· rfl);(· exact d_x fun _=>x_field rfl fd40_1 dk_eq))
    (apply lxk_eq;(· rfl);(· exact d_bld 0 rfl rfl ld22 rfl))
    (apply lxk_eq;(· rfl);(· exact d_x fun _=>x_len sl22 rfl dk_eq))
    (apply lxk_eq;(· rfl);(· exact d_x fun _=>x_true it rfl (by trivial) (by omega) dk_eq))
    (apply lxk_run 3;(· rfl);(· simp))
    (apply lxk_pt;(· rfl);(· exact d_x fun _=>x_idx 0 (i) rfl rfl rfl sl25 rfl (by omega) fun z1 hz1 b4 o1=>(dk_ptD default hz1 0 rfl));intro b4 o1)
    (apply lxk_sl;(· rfl);(· exact d_x fun _=>x_ld_sl 0 rfl rfl ld22 fun pa1 ca1=>(dk_sl 0 rfl));intro pa1 ca1)
    (apply lxk_eq;(· rfl);(· exact d_x fun _=>x_len sl22 rfl dk_eq))
    (apply lxk_eq;(· rfl);(· exact d_x fun _=>x_falseN it rfl (by trivial) (by omega) dk_eq))
    (apply lxk_run 3;(· rfl);(· simp))
    (apply lxk_pt;(· rfl);(· exact d_x fun _=>x_idx 2 (i) rfl rfl rfl sl25 rfl (by omega) fun z1 hz1 b5 o2=>(dk_ptD default hz1 0 rfl));intro b5 o2)
    (apply lxk_sl;(· rfl);(· exact d_x fun _=>x_ld_sl 0 rfl rfl ld22 fun pa2 ca2=>(dk_sl 0 rfl));intro pa2 ca2)
    (apply lxk_pt;(· rfl);(· exact d_x fun _=>x_idx 0 0 rfl rfl rfl sl22 (by omega) (by omega) fun z1 hz1 b6 o3=>(dk_ptD default hz1 0 rfl));intro b6 o3)
    (apply lxk_eq;(· rfl);(· exact d_x fun _=>x_ld_int 0 rfl rfl ld3 fun ⟨r1,r2⟩=>dk_eq))
    (apply lxk_run 1;(· rfl);(· simp))
    (apply lxk_eq;(· rfl);(· exact d_x fun _=>x_field rfl fd46_1 dk_eq))
    (apply lxk_eq;(· rfl);(· exact d_bld 1 rfl rfl ld22 rfl))
    (apply lxk_run 1;(· rfl);(· simp))
    (apply lxk_pt;(· rfl);(· exact d_x fun _=>x_idx 12 (i) rfl rfl rfl sl22 rfl (by omega) fun z1 hz1 b7 o4=>(dk_ptD default hz1 0 rfl));intro b7 o4)
    (apply lxk_eq;(· rfl);(· exact d_x fun _=>x_ld_int 0 rfl rfl ld3 fun ⟨r1,r2⟩=>dk_eq))
    (apply lxk_pt;(· rfl);(· exact d_x fun _=>x_idx 11 ((lost.getD i default : Int).toNat) rfl rfl rfl sl22 (by omega) (by omega) fun z1 hz1 b8 o5=>(dk_ptD default hz1 0 rfl));intro b8 o5)
    (apply lxk_eq;(· rfl);(· exact d_x fun _=>x_ld_int 0 rfl rfl ld3 fun ⟨r1,r2⟩=>dk_eq))
    (apply lxk_eq;(· rfl);(· exact d_x fun _=>x_falseN it rfl (by trivial) (by omega) dk_eq))
    (apply lxk_run 2;(· rfl);(· simp))
    refine lxk_end rfl ?_
    simp only [List.map_cons,List.map_nil,List.cons_append,List.nil_append]
    refine wk 5 cz ?_
    exact tw (ih (i + 1) (by omega) (by omega))
  ·clear ih hz hRg hBg
   refine wk 11 cz ?_
   intro h4
   exact ge
end
section
variable {P M N : Int} {n c nm cm nl cl na ca nh ch nx cx : Nat} {pm ps pl pa ph px : Option Addr} {md lost away hs msg : List Int} {rows : List (List Int)}
theorem S_RepairRestores (hN : InR .i64 N) : Ctr Tryz.prog 7 [.agg #[.int .i64 P,.int .i64 M,.slice pm nm cm,.int .i64 N,.slice ps n c,.slice pl nl cl,.slice pa na ca,.slice ph nh ch,.slice px nx cx]] [] [slF I64 pm nm cm md,slF (encSl I64) ps n c rows,slF I64 pl nl cl lost,slF I64 pa na ca away,slF I64 ph nh ch hs,slF I64 px nx cx msg] (Rv (.bool true) []):=by
 refine Ctr_of_j' (F:=F_codewrightlaw53_RepairRestores) rfl fun C=>?_
 refine j_len 2 rfl fun hn _ _=>?_
 subst hn
 have c_codewrightlaw53_alive:=S_codewrightlaw53_alive
 have hrs:=ckE_rng P M md N rows
 by_cases hc : ckE P M md N rows = 0
 ·obtain ⟨p,m,N,rfl,rfl,rfl,CC⟩:=ck_of hc
  by_cases hN10 : N ≤ 10
  ·have c_codewrightlaw53_short:=fun {pm ps : Option Addr} {nm cm n c : Nat}=>S_codewrightlaw53_short (b:=true) (P:=p) (M:=m) (pm:=pm) (ps:=ps) (nm:=nm) (cm:=cm) (n:=n) (c:=c) (md:=md) (rows:=rows) hN (.inr ⟨hc,(decide_eq_true (by omega)).symm⟩)
   by_cases hx : liE msg rows.length (p ^ m) = 0
   ·have hx:=liE_iff.1 hx
    have c_codewrightref12_Encode:=fun {n c nm cm nx cx : Nat} {pm ps px : Option Addr}=>S_codewrightref12_Encode_ok (n:=n) (c:=c) (nm:=nm) (cm:=cm) (nx:=nx) (cx:=cx) (pm:=pm) (ps:=ps) (px:=px) CC hx
    obtain ⟨e,he⟩ : ∃ e,plE p m md N rows lost away = e:=⟨_,rfl⟩
    have hr:=plE_rng p m md N rows lost away
    rw [he] at hr
    have c_codewrightref53_PlanArgs:=fun {nm cm n c nl cl na ca : Nat} {pm ps pl pa : Option Addr}=>S_codewrightref53_PlanArgs (nm:=nm) (cm:=cm) (n:=n) (c:=c) (nl:=nl) (cl:=cl) (na:=na) (ca:=ca) (pm:=pm) (ps:=ps) (pl:=pl) (pa:=pa) hN he
    by_cases h0 : e = 0
    ·subst h0
     obtain ⟨-,hlo,haw,hall⟩:=pl_st CC he
     obtain ⟨⟨hh,f,pf⟩,hP⟩ : ∃ x,plP p m N md lost away rows (N + 1) 0 [] = x:=⟨_,rfl⟩
     have ok:=pl_ok CC hlo hall (N + 1) 0 [] (.inl ⟨rfl,rfl⟩)
     rw [hP] at ok
     have hst : stP N hh:=ok.st
     have hB : coB p m md rows lost hh = true:=by rw [co_en CC hlo,en_wt CC hlo];exact ok.en
     have c_repair_Plan:=fun {nm cm n c nl cl na ca : Nat} {pm ps pl pa : Option Addr}=>S_repair_Plan_ok (nm:=nm) (cm:=cm) (n:=n) (c:=c) (nl:=nl) (cl:=cl) (na:=na) (ca:=ca) (pm:=pm) (ps:=ps) (pl:=pl) (pa:=pa) CC (by omega) hlo haw hall hP
     have hwW : Wd (p ^ m) N (cbP p m md N msg rows):=(fok_fn CC.K).cmb_wd hx.2 CC.mat
     have hAR:=bl_ap CC hB hx
     have hAE:=bl_ae (lost:=lost) (hs:=hh) CC hwW
     have hl1:=st_len hlo
     have hl2:=st_len hst
     have hz0 : hh = [] → ∀ l ∈ lost,at0 (cbP p m md N msg rows) l.toNat = 0:=fun h l hl=>by
      have:=co_word CC hB hl hx
      subst h
      exact this.symm
     generalize coP p m md rows lost hh = co at *
     generalize cbP p m md N msg rows = w at *
     have hwl:=hwW.1
     refine wk 61 (ct @c_codewrightlaw53_alive (ct @c_codewrightlaw53_short (ct @c_codewrightref12_Encode (ct @c_repair_Plan (ct @c_codewrightref53_PlanArgs cz))))) ?_
     intro b1 pb1 cb1 h1 p11 p21 p31 p41 k11 k21 k31 k41 c11 c21 c31 c41 b2 h2 h3 b3
     simp only [setB,List.set_cons_zero,List.eraseIdx_cons_zero,List.cons_append,List.nil_append]
     exact tw (RR_loop CC.K hlo hst (by omega) hwW hAE hAR hz0)
    ·have c_repair_Plan:=fun {nm cm n c nl cl na ca : Nat} {pm ps pl pa : Option Addr}=>S_repair_Plan_err (nm:=nm) (cm:=cm) (n:=n) (c:=c) (nl:=nl) (cl:=cl) (na:=na) (ca:=ca) (pm:=pm) (ps:=ps) (pl:=pl) (pa:=pa) hN he h0
     have hd:=decide_eq_true (show e = e from rfl)
     refine wk 54 (ct @c_codewrightlaw53_alive (ct @c_codewrightlaw53_short (ct @c_codewrightref12_Encode (ct @c_repair_Plan (ct @c_codewrightref53_PlanArgs cz))))) ?_
     intro b1 pb1 cb1 h1 p11 p21 p31 p41 k11 k21 k31 k41 c11 c21 c31 c41 b2 h2
     rw [hd]
     exact ge
   ·have c_codewrightref12_Encode:=fun {n c nm cm nx cx : Nat} {pm ps px : Option Addr}=>S_codewrightref12_Encode_bad (n:=n) (c:=c) (nm:=nm) (cm:=cm) (nx:=nx) (cx:=cx) (pm:=pm) (ps:=ps) (px:=px) CC rfl hx
    generalize liE msg rows.length (p ^ m) = e at *
    refine wk 29 (ct @c_codewrightlaw53_alive (ct @c_codewrightlaw53_short (ct @c_codewrightref12_Encode cz))) ?_
    intro b1 h1
    exact ge
  ·have c_codewrightlaw53_short:=fun {pm ps : Option Addr} {nm cm n c : Nat}=>S_codewrightlaw53_short (b:=false) (P:=p) (M:=m) (pm:=pm) (ps:=ps) (nm:=nm) (cm:=cm) (n:=n) (c:=c) (md:=md) (rows:=rows) hN (.inr ⟨hc,(decide_eq_false (by omega)).symm⟩)
   refine wk 18 (ct @c_codewrightlaw53_alive (ct @c_codewrightlaw53_short cz)) ?_
   intro b1
   exact ge
 ·have c_codewrightlaw53_short:=fun {pm ps : Option Addr} {nm cm n c : Nat}=>S_codewrightlaw53_short (b:=true) (P:=P) (M:=M) (pm:=pm) (ps:=ps) (nm:=nm) (cm:=cm) (n:=n) (c:=c) (md:=md) (rows:=rows) hN (.inl ⟨hc,rfl⟩)
  have c_codewrightref12_Encode:=fun {n c nm cm nx cx : Nat} {pm ps px : Option Addr}=>S_codewrightref12_Encode_err (P:=P) (M:=M) (N:=N) (md:=md) (rows:=rows) (msg:=msg) (n:=n) (c:=c) (nm:=nm) (cm:=cm) (nx:=nx) (cx:=cx) (pm:=pm) (ps:=ps) (px:=px) hN rfl hc
  generalize ckE P M md N rows = e at *
  refine wk 29 (ct @c_codewrightlaw53_alive (ct @c_codewrightlaw53_short (ct @c_codewrightref12_Encode cz))) ?_
  intro b1 h1
  exact ge
end
end Go.Proofs.YtkcmkomhnjppaaaGreat
