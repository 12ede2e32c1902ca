/-
Hitting trees: what the program's walk through one answers, and what an accepted one shows. Lists put behind one another, in the library. The program's walk through a hitting tree. The program's judgement on a hitting tree. The program's CheckProof. The law's function RepairSound: an accepted tree, and what the document says. The document's fields: sums of products; rows of elements. The document's test whether a word is in a space. Sets with one more position; branches, in the document. Hitting trees in the document. The document's CheckProof. What Check answers; the document's Check. The program's Check; the law's function RepairChecks. A word of the span of a reduced matrix leaves nothing. Witnesses in plain words: words of the code that vanish at the helpers. The hunt for a smallest set of helpers, in plain words. The hunt through the hitting trees of least witnesses, in the program. What remains of the helpers when each one that is not needed is left out. What a plan says, in plain words. Binary digits; powers by squaring; binomial coefficients. Short lists are put in order, in the library. Short lists are put in order by the library's Sort. The program's Plan. Lists compared, in the document. Equations solved, in the document. Entries picked and coefficients of repairs, in the document. The document's search for a smallest set of helpers. The document's Plan. Plans are right; the law's functions RepairPlans and RepairMinimal.
-/
import Derived.Test.YtkcmkomhnjppaaaGreatRP6
set_option linter.unusedVariables false
set_option linter.unusedSimpArgs false
namespace Go.Proofs.YtkcmkomhnjppaaaGreat
open Go Go.Fw
set_option maxRecDepth 100000
set_option linter.unusedVariables false
set_option linter.unusedSimpArgs false
set_option maxHeartbeats 0
def gdB (p m : Nat) (md : List Int) (N : Nat) (rows : List (List Int)) (lost x s : List Int) : Bool:=decide (liE x N (p ^ m) = 0) && mbB p m md N rows x && !nzL s x && nzL lost x
def htGo (f : List Int → List Int → List (List Int) → Option (List (List Int))) (s z : List Int) : List Int → List Int → List (List Int) → Option (List (List Int))
 | _,[],t=>some t
 | pre,i::r,t=>match f (s++[i]) (z++pre) t with
  | none=>none
  | some t'=>htGo f s z (pre++[i]) r t'
def htT (p m : Nat) (md : List Int) (N : Nat) (rows : List (List Int)) (lost away : List Int) : Nat → List Int → List Int → List (List Int) → Option (List (List Int))
 | _,_,_,[]=>none
 | 0,s,_,x::t=>if gdB p m md N rows lost x s = true then some t else none
 | d + 1,s,z,x::t=>if gdB p m md N rows lost x s = true then htGo (htT p m md N rows lost away d) s z [] (brL lost away z x N) t else none
theorem nodup_bk : ∀ {l l' : List Int},l.Nodup → (∀ x ∈ l,x ∈ l') → l'.length ≤ l.length → ∀ x ∈ l',x ∈ l
 | [],l',_,_,h=>fun x hx=>by
  have : l' = []:=List.eq_nil_of_length_eq_zero (by simpa using h)
  rw [this] at hx;cases hx
 | a::l,l',hn,hs,h=>fun x hx=>by
  obtain ⟨h1,h2⟩:=List.nodup_cons.1 hn
  have ha:=hs a (.head _)
  by_cases e : x = a
  ·rw [e];exact .head _
  ·have hl : (l'.erase a).length = l'.length - 1:=List.length_erase_of_mem ha
   have:=nodup_bk (l:=l) (l':=l'.erase a) h2 (fun y hy=>(List.mem_erase_of_ne (fun (e : y = a)=>h1 (e ▸ hy))).2 (hs y (.tail _ hy))) (by rw [hl];simp only [List.length_cons] at h;omega) x ((List.mem_erase_of_ne e).2 hx)
   exact .tail _ this
theorem nzL_false {l w : List Int} : nzL l w = false ↔ ∀ x ∈ l,at0 w x.toNat = 0:=by
 rw [nzL,List.any_eq_false]
 exact ⟨fun h x hx=>by simpa using h x hx,fun h x hx=>by simpa using h x hx⟩
section
variable {p m N : Nat} {md lost away : List Int} {rows : List (List Int)}
theorem not_en (CC : Cok p m md N rows) (hlo : stP N lost) {x H : List Int} (hx : Wd (p ^ m) N x) (hm : mbB p m md N rows x = true) (h0 : ∀ h ∈ H,at0 x h.toNat = 0) (h1 : nzL lost x = true) : enB p m md rows lost H = false:=by
 have O:=fok_fn CC.K
 have hc:=O.rs_zero CC.mat hx (P:=(cnP p m md N rows).2) (zrB_iff.1 hm)
 obtain ⟨l,hl,hl1⟩:=List.any_eq_true.1 h1
 have hl1:=of_decide_eq_true hl1
 have hln:=hlo.1 l hl
 have hn:=O.not_enough (hs:=H.map Int.toNat) (lost:=lost.map Int.toNat) CC.mat rfl hc (fun j hj=>by
  obtain ⟨y,hy,rfl⟩:=List.mem_map.1 hj
  exact h0 y hy) (l:=l.toNat) (List.mem_map.2 ⟨l,hl,rfl⟩) (by omega) hl1
 have e : (H.map Int.toNat).map (colL rows) = coL rows H:=by rw [List.map_map];rfl
 rw [e] at hn
 rw [en_wt CC hlo,Option.isNone_eq_false_iff,Option.isSome_iff_ne_none]
 intro hw
 refine hn fun j hj r hr=>?_
 obtain ⟨y,hy,rfl⟩:=List.mem_map.1 hj
 exact wt_none.1 hw y hy r hr
theorem go_hit {f : List Int → List Int → List (List Int) → Option (List (List Int))} {s z H : List Int} : ∀ {rem pre : List Int} {t t' : List (List Int)},htGo f s z pre rem t = some t' → (∀ i ∈ pre,i ∉ H) → (∃ i ∈ rem,i ∈ H) →
  ∃ i pre' t1 t2,i ∈ rem ∧ i ∈ H ∧ (∀ j ∈ pre',j ∉ H) ∧ f (s++[i]) (z++pre') t1 = some t2
 | [],_,_,_,_,_,⟨i,hi,_⟩=>by cases hi
 | a::r,pre,t,t',h,hp,he=>by
  rw [htGo] at h
  split at h
  ·cases h
  ·rename_i t1 h1
   by_cases ha : a ∈ H
   ·exact ⟨a,pre,t,t1,.head _,ha,hp,h1⟩
   ·obtain ⟨i,pre',t2,t3,g1,g2,g3,g4⟩:=go_hit (rem:=r) h (fun i hi=>by
     rcases List.mem_append.1 hi with hi | hi
     ·exact hp i hi
     ·rw [List.mem_singleton.1 hi];exact ha) (by
     obtain ⟨i,hi,hH⟩:=he
     rcases List.mem_cons.1 hi with rfl | hi
     ·exact absurd hH ha
     ·exact ⟨i,hi,hH⟩)
    exact ⟨i,pre',t2,t3,.tail _ g1,g2,g3,g4⟩
theorem ht_sound (CC : Cok p m md N rows) (hlo : stP N lost) {H : List Int} (hH : stP N H) (hd : ∀ x ∈ H,x ∉ lost ∧ x ∉ away) : ∀ (d : Nat) (s z : List Int) (t t' : List (List Int)),htT p m md N rows lost away d s z t = some t' →
  (∀ x ∈ s,x ∈ H) → (∀ x ∈ z,x ∉ H) → H.length ≤ s.length + d → s.Nodup → enB p m md rows lost H = false:=by
 intro d
 induction d with
 | zero =>
  intro s z t t' h hs hz hl hn
  cases t with
  | nil=>rw [htT] at h;cases h
  | cons x t =>
   rw [htT] at h
   split at h
   ·rename_i hg
    simp only [gdB,Bool.and_eq_true,decide_eq_true_eq,Bool.not_eq_true'] at hg
    obtain ⟨⟨⟨g1,g2⟩,g3⟩,g4⟩:=hg
    exact not_en CC hlo (liE_of g1) g2 (fun y hy=>nzL_false.1 g3 y (nodup_bk hn hs (by omega) y hy)) g4
   ·cases h
 | succ d ih =>
  intro s z t t' h hs hz hl hn
  cases t with
  | nil=>rw [htT] at h;cases h
  | cons x t =>
   rw [htT] at h
   split at h
   ·rename_i hg
    simp only [gdB,Bool.and_eq_true,decide_eq_true_eq,Bool.not_eq_true'] at hg
    obtain ⟨⟨⟨g1,g2⟩,g3⟩,g4⟩:=hg
    by_cases he : ∃ i ∈ brL lost away z x N,i ∈ H
    ·obtain ⟨i,pre',t1,t2,k1,k2,k3,k4⟩:=go_hit h (fun i hi=>by cases hi) he
     refine ih (s++[i]) (z++pre') t1 t2 k4 (fun y hy=>?_) (fun y hy=>?_) (by rw [List.length_append,List.length_singleton];omega) ?_
     ·rcases List.mem_append.1 hy with hy | hy
      ·exact hs y hy
      ·rw [List.mem_singleton.1 hy];exact k2
     ·rcases List.mem_append.1 hy with hy | hy
      ·exact hz y hy
      ·exact k3 y hy
     ·rw [List.nodup_append]
      refine ⟨hn,(by simp),fun a ha b hb e=>?_⟩
      rw [List.mem_singleton] at hb
      subst hb
      subst e
      obtain ⟨j,rfl,_,hj,_⟩:=brL_mem.1 k1
      have:=nzL_false.1 g3 _ ha
      rw [Int.toNat_natCast] at this
      exact hj this
    ·refine not_en CC hlo (liE_of g1) g2 (fun y hy=>Classical.byContradiction fun h0=>he ⟨y,?_,hy⟩) g4
     have hy2:=hH.1 y hy
     have e : ((y.toNat : Nat) : Int) = y:=by omega
     refine brL_mem.2 ⟨y.toNat,e.symm,by omega,h0,?_,?_,?_⟩
     ·rw [e];exact (hd y hy).1
     ·rw [e];exact (hd y hy).2
     ·rw [e];exact fun hz'=>hz y hz' hy
   ·cases h
end
open Go Go.Fw
set_option maxRecDepth 100000
set_option linter.unusedVariables false
set_option linter.unusedSimpArgs false
set_option maxHeartbeats 0
theorem S_slices_Grow___int_int_ {n : Nat} (hn : n ≤ 1000000) : Ctr Tryz.prog 147 [.slice none 0 0,.int .i64 n] [] [] (RwI 0 []):=by
 refine Ctr_of_j' (F:=F_slices_Grow___int_int_) rfl fun C=>?_
 refine wk 99 cz ?_
 intro h1
 refine j_step rfl (x_cap (tb.slT rfl) rfl ?_)
 rcases Nat.eq_zero_or_pos n with h0 | h0
 ·subst h0
  refine wk 99 cz ?_
  intro h2
  refine j_row0 I64 3 ?_
  refine j_givK 1 [0] [0] rfl (.tmp rfl .nil) rfl rfl rfl ⟨⟨none,0,[]⟩,rfl,rfl,rfl⟩
 ·refine wk 99 cz ?_
  intro h2
  refine j_step rfl (x_cap (tb.slT rfl) rfl ?_)
  refine j_step rfl (x_slice_nil rfl rfl (tb.slT rfl) ?_)
  refine j_run it 1 rfl (by simp) ?_
  refine j_recast (t:=21) ((n : Nat) : Int) rfl (by omega) ?_
  refine j_step rfl (x_mkroom rfl rfl (tb.slT rfl) (it _ _ rfl) (tb.zoT rfl) rfl (tb.byt rfl) h0 (by omega) (by omega) fun b cap cs hc1 hc2 hc3=>?_)
  refine wk 99 cz ?_
  refine j_step rfl (x_slice_h_own 0 rfl rfl (tb.slT rfl) rfl (by omega) (by omega) ?_)
  refine wk 99 cz ?_
  refine j_room (E:=I64) 0 rfl hc2 (by rw [hc3];exact (Nat.mul_one _).symm) ?_
  refine j_givK 1 [0] [0] rfl (.tmp rfl .nil) rfl rfl rfl ⟨⟨some b,cap,cs⟩,rfl,rfl,rfl⟩
theorem S_slices_Concat___int_int_ {ps : Option Addr} {n c : Nat} {ls : List (List Int)} (hn : ls.flatten.length ≤ 1000000) : Ctr Tryz.prog 104 [.slice ps n c] [] [slF (encSl I64) ps n c ls] (RwI ls.flatten.length ls.flatten):=by
 refine Ctr_of_j' (F:=F_slices_Concat___int_int_) rfl fun C=>?_
 refine j_len 0 rfl fun hn1 hb _=>?_
 subst hn1
 have hb' : ls.length * 24 ≤ 140737488355328:=hb
 have hle : ∀ k,(ls.take k).flatten.length ≤ ls.flatten.length:=fun k=>by
  rw [← List.take_append_drop k ls,List.flatten_append,List.length_append,List.take_append_drop];omega
 have hsn : ∀ k l,ls[k]? = some l → (ls.take (k + 1)).flatten = (ls.take k).flatten++l:=fun k l h=>by
  rw [List.take_add_one,h,List.flatten_append];simp
 refine wk 99 cz ?_
 refine j_loopG (X:=Nat) [0,2,9,10] [0] (fun i=>[(11,.int .i64 (i : Int)),(3,.int .i64 ((ls.take i).flatten.length : Int))]) (fun _=>[]) (fun _=>[]) (fun i=>i ≤ ls.length) (fun i=>ls.length - i) 0 [] rfl rfl rfl (Nat.zero_le _) (by repeat (first | exact Fr.sub_nil _ | refine Fr.sub_cons rfl ?_)) rfl rfl ?_
 rintro i hi ih
 simp only [List.cons_append,List.nil_append] at hi ih ⊢
 by_cases hil : i < ls.length
 ·obtain ⟨l,at_l⟩ : ∃ l,ls[i]? = some l:=⟨_,List.getElem?_eq_getElem hil⟩
  have h2:=hle (i + 1)
  have ih':=ih (i + 1) (by omega) (by omega)
  rw [hsn i l at_l,List.length_append] at h2 ih'
  refine wk 19 cz ?_
  intro h1 b1 o1 hz1 pa1 ca1 h3
  exact tw (ih')
 ·obtain rfl : i = ls.length:=by omega
  rw [List.take_length] at *
  refine wk 2 cz ?_
  have c_slices_Grow___int_int_:=S_slices_Grow___int_int_ hn
  refine wk 11 (ct @c_slices_Grow___int_int_ cz) ?_
  intro h1 r1
  simp only [List.cons_append,List.nil_append]
  refine j_loopG (X:=Nat × Row) [2,25,26] [0,1] (fun x=>[(27,.int .i64 (x.1 : Int)),(6,.slice (ad x.2.bo) (ls.take x.1).flatten.length x.2.cap)]) (fun x=>[(x.2.bo,3,x.2.cs)]) (fun x=>[rowF I64 x.2 (ls.take x.1).flatten.length (ls.take x.1).flatten]) (fun x=>x.1 ≤ ls.length) (fun x=>ls.length - x.1) (0,r1) [0] rfl rfl rfl (Nat.zero_le _) (by repeat (first | exact Fr.sub_nil _ | refine Fr.sub_cons rfl ?_)) rfl rfl ?_
  rintro ⟨i,r⟩ hi ih2
  simp only [List.cons_append,List.nil_append] at hi ih2 ⊢
  by_cases hil : i < ls.length
  ·obtain ⟨l,at_l⟩ : ∃ l,ls[i]? = some l:=⟨_,List.getElem?_eq_getElem hil⟩
   have h2:=hle (i + 1)
   have ih':=fun r=>ih2 (i + 1,r) (by dsimp only;omega) (by dsimp only;omega)
   dsimp only at ih'
   simp only [hsn i l at_l,List.length_append] at h2 ih'
   refine wk 10 cz ?_
   intro h3 b1 o1 hz1 pa1 ca1
   refine j_step rfl (x_appS 0 2 0 rfl rfl rfl rfl rfl sl22 zo22e rfl (by omega) _ by22e (by omega) fun r2=>?_)
   refine wk 4 cz ?_
   exact tw (ih' r2)
  ·obtain rfl : i = ls.length:=by omega
   simp only [List.take_length] at *
   refine wk 7 cz ?_
   intro h2
   refine j_givK 1 [0] [0] rfl (.tmp rfl .nil) rfl rfl rfl ⟨r,rfl,rfl,rfl⟩
theorem S_repair_with {ps px : Option Addr} {n c k d : Nat} {l x : List Int} (hl : (l++x).length ≤ 1000000) : Ctr Tryz.prog 101 [.slice ps n c,.slice px k d] [] [slF I64 ps n c l,slF I64 px k d x] (RwI (l++x).length (l++x)):=by
 refine Ctr_of_j' (F:=F_repair_with) rfl fun C=>?_
 have e : [l,x].flatten = l++x:=by simp
 have c_slices_Concat___int_int_:=fun {ps : Option Addr} {n c : Nat}=>S_slices_Concat___int_int_ (ps:=ps) (n:=n) (c:=c) (ls:=[l,x]) (by rw [e];exact hl)
 rw [e] at c_slices_Concat___int_int_
 refine wk 5 cz ?_
 intro b1
 refine j_pub_all (E:=(encSl (I64))) (n:=2) [[Value.slice ps n c],[Value.slice px k d]] [l,x] 0 (fun w A hG=>(allrd_cons (rd_of_slF (hG _ (fact_mem (n:=0) rfl))) (allrd_cons (rd_of_slF (hG _ (fact_mem (n:=1) rfl))) allrd_nil))) rfl rfl rfl rfl (by first | decide | exact Nat.le_of_ble_eq_true rfl) (by first | decide | exact Nat.le_of_ble_eq_true rfl) ?_
 refine wk 3 (ct @c_slices_Concat___int_int_ cz) ?_
 intro r1
 refine j_givK 1 [0] [0] rfl (.tmp rfl .nil) rfl rfl rfl ⟨r1,rfl,rfl,rfl⟩
abbrev HtB (b : Bool) (t : List (List Int)) : Value → List Fact → List Blk → Prop:=fun v Φ β=>∃ (pa : Option Addr) (k ca : Nat),v = .tuple #[.slice pa k ca,.bool b] ∧ Φ = [slF (encSl I64) pa k ca t] ∧ β = []
abbrev HtQ (o : Option (List (List Int))) : Value → List Fact → List Blk → Prop:=fun v Φ β=>∃ (pa : Option Addr) (k ca : Nat),v = .tuple #[.slice pa k ca,.bool o.isSome] ∧ Φ = [slF (encSl I64) pa k ca (o.getD [])] ∧ β = []
theorem htT_cons {p m N : Nat} {md lost away : List Int} {rows : List (List Int)} {d : Nat} {s z x : List Int} {t : List (List Int)} : htT p m md N rows lost away d s z (x::t) = if gdB p m md N rows lost x s = true then (match d with
  | 0=>some t
  | d + 1=>htGo (htT p m md N rows lost away d) s z [] (brL lost away z x N) t) else none:=by
 cases d <;> rw [htT]
theorem htT_nil {p m N : Nat} {md lost away : List Int} {rows : List (List Int)} {d : Nat} {s z : List Int} : htT p m md N rows lost away d s z [] = none:=by
 cases d <;> rw [htT]
section
variable {p m N : Nat} {md lost away : List Int} {rows : List (List Int)}
theorem S_repair_hits (CC : Cok p m md N rows) (hlo : stP N lost) : ∀ (d : Nat) {nm cm n c nl cl na ca ns cs nz cz' nt ct' W : Nat} {pm ps pl pa pS pz pt : Option Addr} {s z : List Int} {t : List (List Int)},
  W = s.length + d → W ≤ 1000 → z.length + 100 * d ≤ 200000 → (∀ x ∈ s,0 ≤ x ∧ x < (N : Int)) →
  Ctr Tryz.prog 74 [.agg #[.int .i64 p,.int .i64 m,.slice pm nm cm,.int .i64 N,.slice ps n c],.slice pl nl cl,.slice pa na ca,.int .i64 W,.slice pS ns cs,.slice pz nz cz',.slice pt nt ct'] []
   [slF I64 pm nm cm md,slF (encSl I64) ps n c rows,slF I64 pl nl cl lost,slF I64 pa na ca away,slF I64 pS ns cs s,slF I64 pz nz cz' z,slF (encSl I64) pt nt ct' t] (HtQ (htT p m md N rows lost away d s z t)):=by
 intro d
 induction d using Nat.strongRecOn with
 | ind d ihd =>
 intro nm cm n c nl cl na ca ns cs nz cz' nt ct' W pm ps pl pa pS pz pt s z t hW hW2 hz hs
 refine Ctr_of_j' (F:=F_repair_hits) rfl fun C=>?_
 refine j_len 4 rfl fun hn hb1 _=>?_
 subst hn
 refine j_len 6 rfl fun hn hb2 _=>?_
 subst hn
 have h64:=CC.n64
 refine j_add (slF (encSl I64) none 0 0 []) (fun w A _=>slF_nil _ w A none 0) ?_
 cases t with
 | nil =>
  have e0 : ([] : List (List Int)).length = 0:=rfl
  rw [htT_nil]
  refine wk 12 cz ?_
  intro b1 h1
  refine j_giv [0] rfl rfl rfl ⟨_,_,_,rfl,rfl,rfl⟩
 | cons x t =>
  have e0 : (x::t).length = t.length + 1:=rfl
  have at_x : (x::t)[0]? = some x:=rfl
  rw [htT_cons]
  by_cases he : liE x N (p ^ m) = 0
  ·have hx:=liE_of he
   have c_code_Has:=fun {nm cm n c nx cx : Nat} {pm ps px : Option Addr}=>S_code_Has_ok (nm:=nm) (cm:=cm) (n:=n) (c:=c) (nx:=nx) (cx:=cx) (pm:=pm) (ps:=ps) (px:=px) CC hx
   cases hm : mbB p m md N rows x with
   | false =>
    rw [hm] at c_code_Has
    rw [if_neg (by simp [gdB,hm])]
    refine wk 26 (ct @c_code_Has cz) ?_
    intro b1 h1 b2 o1 hz1 pa1 ca1
    refine j_giv [2] rfl rfl rfl ⟨_,_,_,rfl,rfl,rfl⟩
   | true =>
    rw [hm] at c_code_Has
    have hs' : ∀ y ∈ s,0 ≤ y ∧ y < (x.length : Int):=fun y hy=>by rw [hx.1];exact hs y hy
    have hl' : ∀ y ∈ lost,0 ≤ y ∧ y < (x.length : Int):=fun y hy=>by rw [hx.1];exact hlo.1 y hy
    have c_repair_nonzero : ∀ {pa pb : Option Addr} {na ca nb cb : Nat} {k : List Int} {b : Bool} (hk : ∀ y ∈ k,0 ≤ y ∧ y < (x.length : Int)) (hb : nzL k x = b),Ctr Tryz.prog 99 [.slice pb nb cb,.slice pa na ca] [] [slF I64 pb nb cb x,slF I64 pa na ca k] (Rv (.bool b) []):=fun hk hb=>hb ▸ S_repair_nonzero hk
    cases h1 : nzL s x with
    | true =>
     rw [if_neg (by simp [gdB,h1])]
     refine wk 28 (ct @c_code_Has (ct @c_repair_nonzero cz)) ?_
     intro b1 h2 b2 o1 hz1 pa1 ca1
     refine j_giv [2] rfl rfl rfl ⟨_,_,_,rfl,rfl,rfl⟩
    | false =>
     cases h2 : nzL lost x with
     | false =>
      rw [if_neg (by simp [gdB,h2])]
      refine wk 30 (ct @c_code_Has (ct @c_repair_nonzero (ct @c_repair_nonzero cz))) ?_
      intro b1 h3 b2 o1 hz1 pa1 ca1
      refine j_giv [2] rfl rfl rfl ⟨_,_,_,rfl,rfl,rfl⟩
     | true =>
      rw [if_pos (by simp [gdB,he,hm,h1,h2])]
      cases d with
      | zero =>
       simp only [Nat.add_zero] at hW
       refine wk 29 (ct @c_code_Has (ct @c_repair_nonzero (ct @c_repair_nonzero cz))) ?_
       intro b1 h3 b2 o1 hz1 pa1 ca1
       refine j_step rfl (x_slice_l 9 1 rfl rfl rfl sl25 (by omega) (by omega) fun pa2=>?_)
       refine wk 10 cz ?_
       intro h4
       refine j_giv [0] rfl rfl rfl ⟨_,_,_,rfl,rfl,rfl⟩
      | succ d =>
       have hbl : (brL lost away z x x.length).length ≤ x.length:=brL_le
       have hx1:=hx.1
       have c_repair_branches:=fun {pw pl pa pz : Option Addr} {nw cw nl cl na ca nz cz' : Nat}=>(S_repair_branches (pw:=pw) (pl:=pl) (pa:=pa) (pz:=pz) (nw:=nw) (cw:=cw) (nl:=nl) (cl:=cl) (na:=na) (ca:=ca) (nz:=nz) (cz':=cz') (w:=x) (lost:=lost) (away:=away) (z:=z) (by omega)).pubR (by show _ * 8 ≤ 140737488355328;omega)
       rw [hx1] at c_repair_branches hbl
       generalize hL : brL lost away z x N = L at *
       have hLr : ∀ y ∈ L,0 ≤ y ∧ y < (N : Int):=fun y hy=>by
        rw [← hL] at hy
        obtain ⟨i,rfl,hi,_⟩:=brL_mem.1 hy
        exact ⟨by omega,by omega⟩
       refine wk 29 (ct @c_code_Has (ct @c_repair_nonzero (ct @c_repair_nonzero cz))) ?_
       intro b1 h3 b2 o1 hz1 pa1 ca1
       refine j_step rfl (x_slice_l 9 1 rfl rfl rfl sl25 (by omega) (by omega) fun pa2=>?_)
       refine wk 16 (ct @c_repair_branches cz) ?_
       intro h4 pa3 ca2
       simp only [List.cons_append,List.nil_append]
       refine j_loopG (X:=Nat × Option Addr × Nat × Nat × List (List Int)) [1,2,3,4,5,7,19,64,65] [0,1,2,3,4,5,6,7,8,9,10,11] (fun z=>[(66,.int .i64 (z.1 : Int)),(6,.slice z.2.1 z.2.2.1 z.2.2.2.1)]) (fun _=>_) (fun z=>[slF (encSl I64) z.2.1 z.2.2.1 z.2.2.2.1 z.2.2.2.2]) (fun v=>v.1 ≤ L.length ∧ htGo (htT p m md N rows lost away d) s z [] L t = htGo (htT p m md N rows lost away d) s z (L.take v.1) (L.drop v.1) v.2.2.2.2) (fun v=>L.length - v.1) (0,pa2,(x::t).length - 1,ct' - 1,t) [1] rfl rfl rfl ⟨Nat.zero_le _,rfl⟩ (by repeat (first | exact Fr.sub_nil _ | refine Fr.sub_cons rfl ?_)) rfl rfl ?_
       rintro ⟨i,pu,ku,cu,tr⟩ ⟨hi,hg⟩ ih
       simp only [List.cons_append,List.nil_append] at hi hg ih ⊢
       refine j_len 0 rfl fun hn hb3 _=>?_
       subst hn
       by_cases hil : i < L.length
       ·obtain ⟨y,at_y⟩ : ∃ y,L[i]? = some y:=⟨_,List.getElem?_eq_getElem hil⟩
        have hy:=List.mem_of_getElem? at_y
        have e1 : (s++[y]).length = s.length + 1:=by simp
        have e2 : (z++L.take i).length = z.length + i:=by rw [List.length_append,List.length_take];omega
        have hz3 : z.length ≤ 200000:=by omega
        have hs3 : s.length ≤ 1000:=by omega
        have c_repair_hits:=fun {nm cm n c nl cl na ca ns cs nz cz' nt ct' : Nat} {pm ps pl pa pS pz pt : Option Addr}=>ihd d (Nat.lt_succ_self d) (nm:=nm) (cm:=cm) (n:=n) (c:=c) (nl:=nl) (cl:=cl) (na:=na) (ca:=ca) (ns:=ns) (cs:=cs) (nz:=nz) (cz':=cz') (nt:=nt) (ct':=ct') (W:=W) (pm:=pm) (ps:=ps) (pl:=pl) (pa:=pa) (pS:=pS) (pz:=pz) (pt:=pt) (s:=s++[y]) (z:=z++L.take i) (t:=tr) (by omega) hW2 (by omega) (fun v hv=>by
         rcases List.mem_append.1 hv with hv | hv
         ·exact hs v hv
         ·rw [List.mem_singleton.1 hv];exact hLr y hy)
        have c_repair_with:=fun {ps px : Option Addr} {n c k d : Nat} {l x : List Int} (hl : (l++x).length ≤ 1000000)=>(S_repair_with (ps:=ps) (px:=px) (n:=n) (c:=c) (k:=k) (d:=d) hl).pubR (by show _ * 8 ≤ 140737488355328;omega)
        have e3 : L.drop i = y::L.drop (i + 1):=by
         rw [List.drop_eq_getElem_cons hil];rw [List.getElem?_eq_getElem hil] at at_y;rw [Option.some.inj at_y]
        have e4 : L.take (i + 1) = L.take i++[y]:=by rw [List.take_add_one,at_y];rfl
        rw [e3,htGo] at hg
        cases ho : htT p m md N rows lost away d (s++[y]) (z++L.take i) tr with
        | none =>
         rw [ho] at hg
         have hh : HtQ (htT p m md N rows lost away d (s++[y]) (z++L.take i) tr) = HtB false []:=by rw [ho];rfl
         rw [hh] at c_repair_hits
         simp only [hg]
         refine wk 7 cz ?_
         intro h5 b3 o2 hz2
         refine j_step rfl (x_ld_int 0 rfl rfl ld3 fun ⟨r1,r2⟩=>?_)
         refine wk 4 cz ?_
         (apply j_drawK it mx 19;(· rfl);(· rfl))
         (apply lxk_eq;(· rfl);(· exact d_bld_all 0 rfl rfl ld27 rfl))
         (apply lxk_run 5;(· rfl);(· simp))
         (apply lxk_sl;(· rfl);(· exact d_x fun _=>x_lit sl22 zo22e rfl rfl rfl rfl (by decide) (by decide) rfl fun b4=>dk_all (E:=I64) [[Value.int IntKind.i64 y]] [y] (fun w A hG=>(allrd_cons ⟨rfl,by first | assumption | (simp only [InR];omega)⟩ allrd_nil)) rfl rfl rfl (by first | decide | exact Nat.le_of_ble_eq_true rfl));intro pa4 ca3)
         (apply lxk_sl;(· rfl);(· exact d_x fun _=>x_call [12,0] rfl (c_repair_with (by omega)) rfl (by rintro _ _ _ ⟨pa5,ca4,rfl,rfl,rfl⟩;exact (dk_sl 0 rfl)));intro pa5 ca4)
         (apply lxk_run 3;(· rfl);(· simp))
         (apply lxk_sl;(· rfl);(· exact d_x fun _=>x_slice_h 2 (i) rfl rfl rfl sl22 (by omega) (by omega) (dk_sl 0 rfl));intro pa6 ca5)
         (apply lxk_sl;(· rfl);(· exact d_x fun _=>x_call [15,0] rfl (c_repair_with (by omega)) rfl (by rintro _ _ _ ⟨pa7,ca6,rfl,rfl,rfl⟩;exact (dk_sl 0 rfl)));intro pa7 ca6)
         (apply lxk_run 1;(· rfl);(· simp))
         (apply lxk_fa (val:=(fun g=>Value.tuple #[Value.slice (g 0).fst (g 1).snd.fst (g 2).snd.fst,Value.bool false])) (f:=(fun g=>[slF (encSl I64) (g 0).fst (g 1).snd.fst (g 2).snd.fst []]));(· rfl);(· exact d_x fun _=>x_call [11,12,13,14,2,0,5] rfl (c_repair_hits) rfl (by rintro _ _ _ ⟨pag0,kg1,cag2,rfl,rfl,rfl⟩;exact fun _ _ _ hG=>⟨(fun | 0=>(pag0,0,0,[]) | 1=>(none,kg1,0,[]) | 2=>(none,cag2,0,[]) | _=>default),rfl,fun g hg=>drop_own (hG _ (List.mem_append_left _ hg))⟩));intro g1;dsimp only [List.map_cons,List.map_nil])
         (apply lxk_pv [86] (fun vs=>vs.getD 0 undef) (v:=Value.tuple #[Value.slice (g1 0).fst (g1 1).snd.fst (g1 2).snd.fst,Value.bool false]);(· rfl);(· rfl);(· rfl);(· rfl);(· exact d_x fun _=>x_pv it rfl (by trivial) dk_eq))
         (apply lxk_pv [71] (fun vs=>match vs.getD 0 undef with | .tuple a=>a.getD 0 undef | _=>undef) (v:=Value.slice (g1 0).fst (g1 1).snd.fst (g1 2).snd.fst);(· rfl);(· rfl);(· rfl);(· rfl);(· exact d_x fun _=>x_pv it rfl (by trivial) dk_eq))
         (apply lxk_eq;(· rfl);(· exact d_x fun _=>x_pv it rfl (by trivial) dk_eq))
         (apply lxk_pv [87] (fun vs=>vs.getD 0 undef) (v:=Value.slice (g1 0).fst (g1 1).snd.fst (g1 2).snd.fst);(· rfl);(· rfl);(· rfl);(· rfl);(· exact d_x fun _=>x_pv it rfl (by trivial) dk_eq))
         refine lxk_end rfl ?_
         simp only [List.map_cons,List.map_nil,List.cons_append,List.nil_append]
         refine wk 8 cz ?_
         refine j_giv [11] rfl rfl rfl ⟨_,_,_,rfl,rfl,rfl⟩
        | some t' =>
         rw [ho] at hg
         have hh : HtQ (htT p m md N rows lost away d (s++[y]) (z++L.take i) tr) = HtB true t':=by rw [ho];rfl
         rw [hh] at c_repair_hits
         refine wk 7 cz ?_
         intro h5 b3 o2 hz2
         refine j_step rfl (x_ld_int 0 rfl rfl ld3 fun ⟨r1,r2⟩=>?_)
         refine wk 4 cz ?_
         (apply j_drawK it mx 19;(· rfl);(· rfl))
         (apply lxk_eq;(· rfl);(· exact d_bld_all 0 rfl rfl ld27 rfl))
         (apply lxk_run 5;(· rfl);(· simp))
         (apply lxk_sl;(· rfl);(· exact d_x fun _=>x_lit sl22 zo22e rfl rfl rfl rfl (by decide) (by decide) rfl fun b4=>dk_all (E:=I64) [[Value.int IntKind.i64 y]] [y] (fun w A hG=>(allrd_cons ⟨rfl,by first | assumption | (simp only [InR];omega)⟩ allrd_nil)) rfl rfl rfl (by first | decide | exact Nat.le_of_ble_eq_true rfl));intro pa4 ca3)
         (apply lxk_sl;(· rfl);(· exact d_x fun _=>x_call [12,0] rfl (c_repair_with (by omega)) rfl (by rintro _ _ _ ⟨pa5,ca4,rfl,rfl,rfl⟩;exact (dk_sl 0 rfl)));intro pa5 ca4)
         (apply lxk_run 3;(· rfl);(· simp))
         (apply lxk_sl;(· rfl);(· exact d_x fun _=>x_slice_h 2 (i) rfl rfl rfl sl22 (by omega) (by omega) (dk_sl 0 rfl));intro pa6 ca5)
         (apply lxk_sl;(· rfl);(· exact d_x fun _=>x_call [15,0] rfl (c_repair_with (by omega)) rfl (by rintro _ _ _ ⟨pa7,ca6,rfl,rfl,rfl⟩;exact (dk_sl 0 rfl)));intro pa7 ca6)
         (apply lxk_run 1;(· rfl);(· simp))
         (apply lxk_fa (val:=(fun g=>Value.tuple #[Value.slice (g 0).fst (g 1).snd.fst (g 2).snd.fst,Value.bool true])) (f:=(fun g=>[slF (encSl I64) (g 0).fst (g 1).snd.fst (g 2).snd.fst t']));(· rfl);(· exact d_x fun _=>x_call [11,12,13,14,2,0,5] rfl (c_repair_hits) rfl (by rintro _ _ _ ⟨pag0,kg1,cag2,rfl,rfl,rfl⟩;exact fun _ _ _ hG=>⟨(fun | 0=>(pag0,0,0,[]) | 1=>(none,kg1,0,[]) | 2=>(none,cag2,0,[]) | _=>default),rfl,fun g hg=>drop_own (hG _ (List.mem_append_left _ hg))⟩));intro g1;dsimp only [List.map_cons,List.map_nil])
         (apply lxk_pv [86] (fun vs=>vs.getD 0 undef) (v:=Value.tuple #[Value.slice (g1 0).fst (g1 1).snd.fst (g1 2).snd.fst,Value.bool true]);(· rfl);(· rfl);(· rfl);(· rfl);(· exact d_x fun _=>x_pv it rfl (by trivial) dk_eq))
         (apply lxk_pv [71] (fun vs=>match vs.getD 0 undef with | .tuple a=>a.getD 0 undef | _=>undef) (v:=Value.slice (g1 0).fst (g1 1).snd.fst (g1 2).snd.fst);(· rfl);(· rfl);(· rfl);(· rfl);(· exact d_x fun _=>x_pv it rfl (by trivial) dk_eq))
         (apply lxk_eq;(· rfl);(· exact d_x fun _=>x_pv it rfl (by trivial) dk_eq))
         (apply lxk_pv [87] (fun vs=>vs.getD 0 undef) (v:=Value.slice (g1 0).fst (g1 1).snd.fst (g1 2).snd.fst);(· rfl);(· rfl);(· rfl);(· rfl);(· exact d_x fun _=>x_pv it rfl (by trivial) dk_eq))
         refine lxk_end rfl ?_
         simp only [List.map_cons,List.map_nil,List.cons_append,List.nil_append]
         refine wk 8 cz ?_
         exact tw (ih (i + 1,(g1 0).1,(g1 1).2.1,(g1 2).2.1,t') (by dsimp only;omega) ⟨by dsimp only;omega,hg.trans (by rw [e4])⟩)
       ·obtain rfl : i = L.length:=by omega
        rw [List.take_length,List.drop_length,htGo] at hg
        simp only [hg]
        refine wk 7 cz ?_
        intro h5
        refine j_giv [0] rfl rfl rfl ⟨_,_,_,rfl,rfl,rfl⟩
  ·have c_code_Has:=fun {nm cm n c nx cx : Nat} {pm ps px : Option Addr}=>S_code_Has_bad (nm:=nm) (cm:=cm) (n:=n) (c:=c) (nx:=nx) (cx:=cx) (pm:=pm) (ps:=ps) (px:=px) CC (x:=x) rfl he
   rw [if_neg (by simp [gdB,he])]
   refine wk 30 (ct @c_code_Has cz) ?_
   intro b1 h1 b2 o1 hz1 pa1 ca1 h2
   refine j_giv [2] rfl rfl rfl ⟨_,_,_,rfl,rfl,rfl⟩
end
open Go Go.Fw
set_option maxRecDepth 100000
set_option linter.unusedVariables false
set_option linter.unusedSimpArgs false
set_option maxHeartbeats 0
def prB (p m : Nat) (md : List Int) (N : Nat) (rows : List (List Int)) (lost away : List Int) (w : Int) (t : List (List Int)) : Bool:=if w < 0 then decide ((t.length : Int) = 0) else (match htT p m md N rows lost away w.toNat [] [] t with
 | none=>false
 | some t'=>decide ((t'.length : Int) = 0))
section
variable {p m N nm cm n c nl cl na ca nt ct : Nat} {md lost away : List Int} {rows t : List (List Int)} {pm ps pl pa pt : Option Addr} {w : Int}
theorem S_repair_proves (CC : Cok p m md N rows) (hlo : stP N lost) (hw : w ≤ 1000) (h0 : -1 ≤ w) : Ctr Tryz.prog 31 [.agg #[.int .i64 p,.int .i64 m,.slice pm nm cm,.int .i64 N,.slice ps n c],.slice pl nl cl,.slice pa na ca,.int .i64 w,.slice pt nt ct] []
   [slF I64 pm nm cm md,slF (encSl I64) ps n c rows,slF I64 pl nl cl lost,slF I64 pa na ca away,slF (encSl I64) pt nt ct t] (Rv (.bool (prB p m md N rows lost away w t)) []):=by
 refine Ctr_of_j' (F:=F_repair_proves) rfl fun C=>?_
 refine j_len 4 rfl fun hn hb2 _=>?_
 subst hn
 rw [prB]
 by_cases hn : w < 0
 ·rw [if_pos hn]
  refine wk 12 cz ?_
  intro b1 h1
  exact ge
 ·rw [if_neg hn]
  obtain ⟨W,rfl⟩:=Int.eq_ofNat_of_zero_le (by omega : 0 ≤ w)
  rw [Int.toNat_natCast]
  refine j_add (slF I64 none 0 0 []) (fun w A _=>slF_nil _ w A none 0) ?_
  cases ho : htT p m md N rows lost away W [] [] t with
  | none =>
   have c_repair_hits:=fun {nm cm n c nl cl na ca ns cs nz cz' nt ct' : Nat} {pm ps pl pa pS pz pt : Option Addr}=>S_repair_hits CC hlo (away:=away) W (nm:=nm) (cm:=cm) (n:=n) (c:=c) (nl:=nl) (cl:=cl) (na:=na) (ca:=ca) (ns:=ns) (cs:=cs) (nz:=nz) (cz':=cz') (nt:=nt) (ct':=ct') (W:=W) (pm:=pm) (ps:=ps) (pl:=pl) (pa:=pa) (pS:=pS) (pz:=pz) (pt:=pt) (s:=[]) (z:=[]) (t:=t) (by simp) (by omega) (by simp only [List.length_nil];omega) (fun v hv=>by cases hv)
   have hh : HtQ (htT p m md N rows lost away W [] [] t) = HtB false []:=by rw [ho];rfl
   rw [hh] at c_repair_hits
   refine wk 10 cz ?_
   intro b1 h1
   refine j_step rfl (x_call [1,2,3,4,0,0,5] rfl (c_repair_hits) rfl ?_)
   rintro _ _ _ ⟨pa1,k1,ca1,rfl,rfl,rfl⟩
   simp only [List.cons_append,List.nil_append]
   refine wk 4 cz ?_
   exact ge
  | some t' =>
   have c_repair_hits:=fun {nm cm n c nl cl na ca ns cs nz cz' nt ct' : Nat} {pm ps pl pa pS pz pt : Option Addr}=>S_repair_hits CC hlo (away:=away) W (nm:=nm) (cm:=cm) (n:=n) (c:=c) (nl:=nl) (cl:=cl) (na:=na) (ca:=ca) (ns:=ns) (cs:=cs) (nz:=nz) (cz':=cz') (nt:=nt) (ct':=ct') (W:=W) (pm:=pm) (ps:=ps) (pl:=pl) (pa:=pa) (pS:=pS) (pz:=pz) (pt:=pt) (s:=[]) (z:=[]) (t:=t) (by simp) (by omega) (by simp only [List.length_nil];omega) (fun v hv=>by cases hv)
   have hh : HtQ (htT p m md N rows lost away W [] [] t) = HtB true t':=by rw [ho];rfl
   rw [hh] at c_repair_hits
   refine wk 10 cz ?_
   intro b1 h1
   refine j_step rfl (x_call [1,2,3,4,0,0,5] rfl (c_repair_hits) rfl ?_)
   rintro _ _ _ ⟨pa1,k1,ca1,rfl,rfl,rfl⟩
   simp only [List.cons_append,List.nil_append]
   refine wk 6 cz ?_
   refine j_len 0 rfl fun hn2 _ _=>?_
   subst hn2
   exact ge
end
open Go Go.Fw
set_option maxRecDepth 100000
set_option linter.unusedVariables false
set_option linter.unusedSimpArgs false
set_option maxHeartbeats 0
section
variable {P M N w e : Int} {nm cm n c nl cl na ca nt ct : Nat} {md lost away : List Int} {rows t : List (List Int)} {pm ps pl pa pt : Option Addr}
end
open Go Go.Fw
set_option maxRecDepth 100000
set_option linter.unusedVariables false
set_option linter.unusedSimpArgs false
set_option maxHeartbeats 0
section
variable {P M N w : Int} {n c nm cm nl cl na ca nh ch nt ct : Nat} {pm ps pl pa ph pt : Option Addr} {md lost away hs : List Int} {rows t : List (List Int)}
end
open Go Go.Fw
set_option maxRecDepth 100000
set_option linter.unusedVariables false
set_option linter.unusedSimpArgs false
set_option maxHeartbeats 0
abbrev aF (p m : Nat) : Int → Int → Int:=liftI (fA p m)
abbrev mF (p m : Nat) (md : List Int) : Int → Int → Int:=liftI (fM p (fpo m md))
theorem dot_snoc {q : Nat} {A M : Int → Int → Int} (F : FI q A M) : ∀ {n : Nat} {u v : List Int} {x y : Int},Wd q n u → Wd q n v → 0 ≤ x → x < q → 0 ≤ y → y < q → dotL A M (u++[x]) (v++[y]) = A (dotL A M u v) (M x y)
 | 0,u,v,x,y,hu,hv,x0,x1,y0,y1=>by
  rw [List.length_eq_zero_iff.1 hu.1,List.length_eq_zero_iff.1 hv.1]
  obtain ⟨m0,m1⟩:=F.ml x y x0 x1 y0 y1
  show A (M x y) 0 = A 0 (M x y)
  exact F.ac _ _ m0 m1 (Int.le_refl 0) F.z
 | n + 1,[],_,_,_,h,_,_,_,_,_=>by have:=h.1;simp at this
 | n + 1,_::_,[],_,_,_,h,_,_,_,_=>by have:=h.1;simp at this
 | n + 1,a::u,b::v,x,y,hu,hv,x0,x1,y0,y1=>by
  obtain ⟨a0,a1⟩:=hu.2 a (.head _)
  obtain ⟨b0,b1⟩:=hv.2 b (.head _)
  have hu' : Wd q n u:=⟨by simpa using hu.1,fun z hz=>hu.2 z (.tail _ hz)⟩
  have hv' : Wd q n v:=⟨by simpa using hv.1,fun z hz=>hv.2 z (.tail _ hz)⟩
  obtain ⟨m0,m1⟩:=F.ml a b a0 a1 b0 b1
  obtain ⟨k0,k1⟩:=F.ml x y x0 x1 y0 y1
  obtain ⟨d0,d1⟩:=F.dlt hu' hv'
  show A (M a b) (dotL A M (u++[x]) (v++[y])) = A (A (M a b) (dotL A M u v)) (M x y)
  rw [dot_snoc F hu' hv' x0 x1 y0 y1,F.aa _ _ _ m0 m1 d0 d1 k0 k1]
theorem wd_take {q n k : Nat} {u : List Int} (h : Wd q n u) (hk : k ≤ n) : Wd q k (u.take k):=⟨by rw [List.length_take,h.1];omega,fun x hx=>h.2 x (List.mem_of_mem_take hx)⟩
section
variable {p m N n c nm cm nx cx : Nat} {pm ps px : Option Addr} {md x : List Int} {rows : List (List Int)}
end
open Go Go.Fw
set_option maxRecDepth 100000
set_option linter.unusedVariables false
set_option linter.unusedSimpArgs false
set_option maxHeartbeats 0
def inS (s : List Int) (y : Int) : List Int:=s.takeWhile (fun x=>decide (x < y))++[y]++s.filter (fun x=>decide (y < x))
theorem inS_tail {s : List Int} {y : Int} (hs : s.Pairwise (· < ·)) (hy : y ∉ s) : s.takeWhile (fun x=>decide (x < y))++s.filter (fun x=>decide (y < x)) = s:=by
 induction s with
 | nil=>rfl
 | cons a s ih =>
  obtain ⟨h1,h2⟩:=List.pairwise_cons.1 hs
  have hya : y ≠ a:=fun e=>hy (e ▸ .head _)
  by_cases h : a < y
  ·rw [List.takeWhile_cons_of_pos (by simpa using h),List.filter_cons_of_neg (by simp;omega),List.cons_append,ih h2 fun h=>hy (.tail _ h)]
  ·rw [List.takeWhile_cons_of_neg (by simpa using h),List.nil_append,List.filter_eq_self.2]
   intro x hx
   rcases List.mem_cons.1 hx with rfl | hx
   ·simp;omega
   ·have:=h1 x hx;simp;omega
theorem inS_perm {s : List Int} {y : Int} (hs : s.Pairwise (· < ·)) (hy : y ∉ s) : (inS s y).Perm (s++[y]):=by
 rw [inS,List.append_assoc,List.singleton_append]
 refine (List.perm_middle).trans ?_
 rw [inS_tail hs hy]
 exact (List.perm_append_singleton y s).symm
theorem tw_lt {s : List Int} {y : Int} : ∀ x ∈ s.takeWhile (fun x=>decide (x < y)),x < y:=by
 induction s with
 | nil=>intro x h;cases h
 | cons a s ih =>
  intro x hx
  by_cases h : a < y
  ·rw [List.takeWhile_cons_of_pos (by simpa using h)] at hx
   rcases List.mem_cons.1 hx with rfl | hx
   ·exact h
   ·exact ih x hx
  ·rw [List.takeWhile_cons_of_neg (by simpa using h)] at hx;cases hx
theorem inS_st {n : Int} {s : List Int} {y : Int} (hs : stP n s) (h0 : 0 ≤ y) (h1 : y < n) : stP n (inS s y):=by
 have hf : ∀ x ∈ s.filter (fun x=>decide (y < x)),y < x:=fun x hx=>by simpa using (List.mem_filter.1 hx).2
 refine ⟨fun x hx=>?_,?_⟩
 ·rw [inS,List.mem_append,List.mem_append,List.mem_singleton] at hx
  rcases hx with (hx | rfl) | hx
  ·exact hs.1 x ((List.takeWhile_sublist _).mem hx)
  ·exact ⟨h0,h1⟩
  ·exact hs.1 x ((List.mem_filter.1 hx).1)
 ·rw [inS,List.pairwise_append,List.pairwise_append]
  refine ⟨⟨hs.2.sublist (List.takeWhile_sublist _),List.pairwise_singleton _ _,fun a ha b hb=>?_⟩,hs.2.filter _,fun a ha b hb=>?_⟩
  ·rw [List.mem_singleton.1 hb];exact tw_lt a ha
  ·have hb':=hf b hb
   rcases List.mem_append.1 ha with ha | ha
   ·have:=tw_lt a ha;omega
   ·rw [List.mem_singleton.1 ha];exact hb'
theorem tw_take {s : List Int} {y : Int} {i : Nat} (h : ∀ x ∈ s.take i,x < y) (he : i = s.length ∨ ∃ z,s[i]? = some z ∧ ¬ z < y) : s.takeWhile (fun x=>decide (x < y)) = s.take i:=by
 induction s generalizing i with
 | nil=>rw [List.takeWhile_nil,List.take_nil]
 | cons a s ih =>
  cases i with
  | zero =>
   rcases he with he | ⟨z,hz,hn⟩
   ·simp at he
   ·cases hz
    rw [List.takeWhile_cons_of_neg (by simpa using hn),List.take_zero]
  | succ i =>
   rw [List.take_succ_cons] at h ⊢
   rw [List.takeWhile_cons_of_pos (by simpa using h a (.head _)),ih (fun x hx=>h x (.tail _ hx)) (by
    rcases he with he | ⟨z,hz,hn⟩
    ·left;simpa using he
    ·right;exact ⟨z,by simpa using hz,hn⟩)]
section
variable {ps : Option Addr} {n c : Nat} {s : List Int} {y : Int}
theorem S_codewrightref53_with (hs : s.length ≤ 1000000) (y0 : 0 ≤ y) (y1 : y < 1000000) : Ctr Tryz.prog 114 [.slice ps n c,.int .i64 y] [] [slF I64 ps n c s] (RwI (inS s y).length (inS s y)):=by
 refine Ctr_of_j' (F:=F_codewrightref53_with) rfl fun C=>?_
 refine j_len 0 rfl fun hn _ _=>?_
 subst hn
 have key : ∀ (i : Nat) (r : Row),i ≤ s.length → s.takeWhile (fun x=>decide (x < y)) = s.take i → J F_codewrightref53_with C [.o [1,1,1,0] 0,.c [1,1,1,1]] [(5,.slice (ad r.bo) i r.cap),(0,.slice ps s.length c),(1,.int .i64 y)] [(r.bo,3,r.cs)] [rowF I64 r i (s.take i),slF I64 ps s.length c s] (Gives C (RwI (inS s y).length (inS s y))):=by
  intro i r hi htw
  refine wk 2 cz ?_
  intro b1
  refine j_step rfl (x_appR (z:=(y : Int)) 1 0 0 rfl rfl rfl rfl rfl sl22 zo22e rfl (fun w A hG=>(rd_int (by first | (simp only [InR];omega) | (simp [InR];done)))) (by omega) _ by22e (by omega) fun r1=>?_)
  refine wk 4 cz ?_
  have hle : ∀ k,(s.take i++[y]++(s.take k).filter (fun x=>decide (y < x))).length ≤ i + 1 + k:=fun k=>by
   have:=List.length_filter_le (fun x=>decide (y < x)) (s.take k)
   rw [List.length_take] at this
   rw [List.length_append,List.length_append,List.length_take,List.length_singleton];omega
  simp only [List.eraseIdx_cons_succ,List.eraseIdx_cons_zero]
  refine j_loopG (X:=Nat × Row × Nat × List Int) [0,1] [0,1,2] (fun x=>[(7,.int .i64 (x.1 : Int)),(5,.slice (ad x.2.1.bo) x.2.2.1 x.2.1.cap)]) (fun x=>(x.2.1.bo,3,x.2.1.cs)::_) (fun x=>[rowF I64 x.2.1 x.2.2.1 x.2.2.2]) (fun x=>x.1 ≤ s.length ∧ x.2.2.1 = x.2.2.2.length ∧ x.2.2.2 = s.take i++[y]++(s.take x.1).filter (fun x=>decide (y < x))) (fun x=>s.length - x.1) (0,r1,i + 1,s.take i++[y]) [0] rfl rfl rfl ⟨Nat.zero_le _,by simp;omega,by simp⟩ (by repeat (first | exact Fr.sub_nil _ | refine Fr.sub_cons rfl ?_)) rfl rfl ?_
  rintro ⟨k,r,n,L⟩ ⟨hk,hn,hL⟩ ih
  simp only [List.cons_append,List.nil_append] at hk hn hL ih ⊢
  have hlk:=hle k
  rw [← hL,← hn] at hlk
  by_cases hkl : k < s.length
  ·obtain ⟨x,at_x⟩ : ∃ x,s[k]? = some x:=⟨_,List.getElem?_eq_getElem hkl⟩
   by_cases hxy : y < x
   ·refine wk 9 cz ?_
    intro h1 b2 o1 hz1
    refine j_step rfl (x_ld_int 0 rfl rfl ld3 fun ⟨r2,r3⟩=>?_)
    refine wk 6 cz ?_
    intro h2 b3 o2 hz2
    refine j_step rfl (x_ld_int 0 rfl rfl ld3 fun ⟨r4,r5⟩=>?_)
    refine wk 1 cz ?_
    intro b4
    refine j_step rfl (x_appR (z:=(x : Int)) 1 0 2 rfl rfl rfl rfl rfl sl22 zo22e rfl (fun w A hG=>(rd_int (by first | (simp only [InR];omega) | (simp [InR];done)))) (by omega) _ by22e (by omega) fun r6=>?_)
    refine wk 4 cz ?_
    refine j_toM [true,false,true] [0,4,5,6] (by exact fra rfl) rfl rfl (ih (k + 1,r6,n + 1,L++[x]) (by dsimp only;omega) ⟨by dsimp only;omega,by rw [hn,List.length_append];rfl,by
     dsimp only
     rw [List.take_add_one,at_x,List.filter_append,Option.toList_some,List.filter_cons_of_pos (by simpa using hxy),List.filter_nil,← List.append_assoc,← hL]⟩)
   ·refine wk 9 cz ?_
    intro h1 b2 o1 hz1
    refine j_step rfl (x_ld_int 0 rfl rfl ld3 fun ⟨r2,r3⟩=>?_)
    refine wk 6 cz ?_
    intro h2
    exact tw (ih (k + 1,r,n,L) (by dsimp only;omega) ⟨by dsimp only;omega,hn,by
     dsimp only
     rw [List.take_add_one,at_x,List.filter_append,Option.toList_some,List.filter_cons_of_neg (by simpa using hxy),List.filter_nil,List.append_nil,← hL]⟩)
  ·obtain rfl : k = s.length:=by omega
   rw [List.take_length,← htw] at hL
   have hI : inS s y = L:=hL.symm
   rw [hI,← hn]
   clear ih
   refine wk 9 cz ?_
   intro h1
   refine j_givK 2 [0] [0] rfl (.tmp rfl .nil) rfl rfl rfl ⟨r,rfl,rfl,rfl⟩
 refine wk 8 cz ?_
 intro b1
 (apply j_rowlit (E:=I64) (n:=0) (cs:=[]) [] [] 0 (fun w A hG=>allrd_nil);(· rfl);(· rfl);(· rfl);(· rfl);(· decide))
 refine j_loopG (X:=Nat × Row) [0,1,4] [0,1] (fun x=>[(6,.int .i64 (x.1 : Int)),(5,.slice (ad x.2.bo) x.1 x.2.cap)]) (fun x=>(x.2.bo,3,x.2.cs)::_) (fun x=>[rowF I64 x.2 x.1 (s.take x.1)]) (fun x=>x.1 ≤ s.length ∧ ∀ z ∈ s.take x.1,z < y) (fun x=>s.length - x.1) (0,⟨some b1,0,[]⟩) [0] rfl rfl rfl ⟨Nat.zero_le _,fun z h=>by simp at h⟩ (by repeat (first | exact Fr.sub_nil _ | refine Fr.sub_cons rfl ?_)) rfl rfl ?_
 rintro ⟨i,r⟩ ⟨hi,hlt⟩ ih
 simp only [List.cons_append,List.nil_append] at hi hlt ih ⊢
 by_cases hil : i < s.length
 ·obtain ⟨x,at_x⟩ : ∃ x,s[i]? = some x:=⟨_,List.getElem?_eq_getElem hil⟩
  by_cases hxy : x < y
  ·have ih':=fun r=>ih (i + 1,r) (by dsimp only;omega) ⟨by dsimp only;omega,by
    dsimp only
    rw [List.take_add_one,at_x]
    intro z hz
    rcases List.mem_append.1 hz with hz | hz
    ·exact hlt z hz
    ·rw [Option.toList_some,List.mem_singleton] at hz;omega⟩
   dsimp only at ih'
   simp only [List.take_add_one,at_x,Option.toList_some] at ih'
   refine wk 8 cz ?_
   intro h1 b2 o1 hz1
   refine j_gstep rfl rfl (x_ld_int 0 rfl rfl ld3 fun ⟨r1,r2⟩=>?_)
   refine wk 6 cz ?_
   intro h2 b3 o2 hz2
   refine j_step rfl (x_ld_int 0 rfl rfl ld3 fun ⟨r3,r4⟩=>?_)
   refine wk 1 cz ?_
   intro b4
   refine j_step rfl (x_appR (z:=(x : Int)) 1 0 2 rfl rfl rfl rfl rfl sl22 zo22e rfl (fun w A hG=>(rd_int (by first | (simp only [InR];omega) | (simp [InR];done)))) (by omega) _ by22e (by omega) fun r5=>?_)
   refine wk 4 cz ?_
   refine j_toM [true,false] [0,4,5] (by exact fra rfl) rfl rfl (ih' r5)
  ·refine wk 8 cz ?_
   intro h1 b2 o1 hz1
   refine j_gstep rfl rfl (x_ld_int 0 rfl rfl ld3 fun ⟨r1,r2⟩=>?_)
   refine wk 4 cz ?_
   intro h2
   exact tw (key i r hi (tw_take hlt (.inr ⟨x,at_x,hxy⟩)))
 ·obtain rfl : i = s.length:=by omega
  refine wk 10 cz ?_
  intro h1
  exact tw (key s.length r hi (tw_take hlt (.inl rfl)))
end
section
variable {pw pl pa pz : Option Addr} {nw cw nl cl na ca nz cz' : Nat} {w lost away z : List Int}
theorem S_codewrightref53_Hits (hw : w.length ≤ 1000000) : Ctr Tryz.prog 113 [.slice pw nw cw,.slice pl nl cl,.slice pa na ca,.slice pz nz cz'] [] [slF I64 pw nw cw w,slF I64 pl nl cl lost,slF I64 pa na ca away,slF I64 pz nz cz' z] (RwI (brL lost away z w w.length).length (brL lost away z w w.length)):=by
 refine Ctr_of_j' (F:=F_codewrightref53_Hits) rfl fun C=>?_
 refine j_len 0 rfl fun hn _ _=>?_
 subst hn
 refine wk 8 cz ?_
 intro b1
 (apply j_rowlit (E:=I64) (n:=0) (cs:=[]) [] [] 0 (fun w A hG=>allrd_nil);(· rfl);(· rfl);(· rfl);(· rfl);(· decide))
 refine j_loopG (X:=Nat × Row) [0,1,2,3,8] [0,1,2,3,4] (fun x=>[(10,.int .i64 (x.1 : Int)),(9,.slice (ad x.2.bo) (brL lost away z w x.1).length x.2.cap)]) (fun x=>(x.2.bo,3,x.2.cs)::_) (fun x=>[rowF I64 x.2 (brL lost away z w x.1).length (brL lost away z w x.1)]) (fun x=>x.1 ≤ w.length) (fun x=>w.length - x.1) (0,⟨some b1,0,[]⟩) [0] rfl rfl rfl (Nat.zero_le _) (by repeat (first | exact Fr.sub_nil _ | refine Fr.sub_cons rfl ?_)) rfl rfl ?_
 rintro ⟨i,r⟩ hi ih
 simp only [List.cons_append,List.nil_append] at hi ih ⊢
 have hle:=brL_le (lost:=lost) (away:=away) (z:=z) (w:=w) (n:=i)
 by_cases hil : i < w.length
 ·obtain ⟨y,at_y⟩ : ∃ y,w[i]? = some y:=⟨_,List.getElem?_eq_getElem hil⟩
  have ey : at0 w i = y:=by rw [at0,List.getD_eq_getElem?_getD,at_y];rfl
  have ih':=fun r=>ih (i + 1,r) (by dsimp only;omega) (by dsimp only;omega)
  dsimp only at ih'
  rw [brL_succ,brB,ey] at ih'
  by_cases h0 : y = 0
  ·rw [decide_eq_true h0] at ih'
   simp only [Bool.not_true,Bool.false_and,if_neg (show ¬ (false = true) by decide),List.append_nil] at ih'
   refine j_nf [_,_,_,_,_,_] rfl ?_
   refine j_run it 2 rfl (by simp) ?_
   refine j_step rfl (x_len sl22 rfl ?_)
   refine j_run it 1 rfl (by simp) ?_
   refine j_nf [_,_,_,_,_] rfl ?_
   refine j_if rfl rfl (fun h1=>?_) (fun h1=>by exfalso;omega)
   refine j_nf [_,_,_,_,_,_,_] rfl ?_
   refine j_run it 2 rfl (by simp) ?_
   refine j_step rfl (x_idx 2 (i) rfl rfl rfl sl22 rfl (by omega) fun z1 hz1 b2 o1=>?_)
   obtain rfl : _ = z1:=Option.some.inj (at_y.symm.trans hz1)
   refine j_step rfl (x_ld_int 0 rfl rfl ld3 fun ⟨r1,r2⟩=>?_)
   refine j_run it 2 rfl (by simp) ?_
   refine j_split_ndec (t:=23) rfl (fun h2=>by exfalso;omega) (fun h2=>?_)
   refine j_run it 17 rfl (by simp) ?_
   refine j_nf [_,_,_,_,_,_] rfl ?_
   refine j_false rfl rfl ?_
   refine j_nf [_,_,_,_] rfl ?_
   refine j_run it 3 rfl ⟨trivial,⟨by omega,by omega⟩,trivial,trivial⟩ ?_
   refine j_nfn 1 [.lp (pL 116),.blk 0,.c [1,1,1]] rfl ?_
   exact tw (ih' r)
  rw [decide_eq_false h0] at ih'
  cases hA : decide ((i : Int) ∈ lost) with
  | true =>
   rw [hA] at ih'
   simp only [Bool.not_true,Bool.not_false,Bool.and_false,Bool.false_and,if_neg (show ¬ (false = true) by decide),List.append_nil] at ih'
   refine wk 13 cz ?_
   intro h1 b2 o1 hz1 _ r1 r2
   refine j_split_ndec (t:=23) rfl (fun h2=>?_) (fun h2=>by exfalso;omega)
   refine wk 8 (ct @S_codewrightref53_In cz) ?_
   exact tw (ih' r)
  | false =>
   cases hB : decide ((i : Int) ∈ away) with
   | true =>
    rw [hA,hB] at ih'
    simp only [Bool.not_true,Bool.not_false,Bool.and_false,Bool.false_and,if_neg (show ¬ (false = true) by decide),List.append_nil] at ih'
    refine wk 13 cz ?_
    intro h1 b2 o1 hz1 _ r1 r2
    refine j_split_ndec (t:=23) rfl (fun h2=>?_) (fun h2=>by exfalso;omega)
    refine wk 10 (ct @S_codewrightref53_In (ct @S_codewrightref53_In cz)) ?_
    exact tw (ih' r)
   | false =>
    cases hC : decide ((i : Int) ∈ z) with
    | true =>
     rw [hA,hB,hC] at ih'
     simp only [Bool.not_true,Bool.not_false,Bool.and_false,if_neg (show ¬ (false = true) by decide),List.append_nil] at ih'
     refine wk 13 cz ?_
     intro h1 b2 o1 hz1 _ r1 r2
     refine j_split_ndec (t:=23) rfl (fun h2=>?_) (fun h2=>by exfalso;omega)
     refine wk 12 (ct @S_codewrightref53_In (ct @S_codewrightref53_In (ct @S_codewrightref53_In cz))) ?_
     exact tw (ih' r)
    | false =>
     rw [hA,hB,hC] at ih'
     simp only [Bool.not_false,Bool.and_true,if_pos,List.length_append,List.length_singleton] at ih'
     refine wk 13 cz ?_
     intro h1 b2 o1 hz1 _ r1 r2
     refine j_split_ndec (t:=23) rfl (fun h2=>?_) (fun h2=>by exfalso;omega)
     refine wk 12 (ct @S_codewrightref53_In (ct @S_codewrightref53_In (ct @S_codewrightref53_In cz))) ?_
     intro b3
     refine j_step rfl (x_appR (z:=(↑i : Int)) 1 0 1 rfl rfl rfl rfl rfl sl22 zo22e rfl (fun w A hG=>(rd_int (by first | (simp only [InR];omega) | (simp [InR];done)))) (by omega) _ by22e (by omega) fun r3=>?_)
     refine wk 4 cz ?_
     refine j_toM [true,false] [0,3,4,5,6,7] (by exact fra rfl) rfl rfl (ih' r3)
 ·obtain rfl : i = w.length:=by omega
  refine wk 9 cz ?_
  intro h1
  refine j_givK 1 [0] [0] rfl (.tmp rfl .nil) rfl rfl rfl ⟨r,rfl,rfl,rfl⟩
end
open Go Go.Fw
set_option maxRecDepth 100000
set_option linter.unusedVariables false
set_option linter.unusedSimpArgs false
set_option maxHeartbeats 0
section
variable {P : Program} {C : Cx} {σ : Fr} {β : List Blk} {Γ : List Fact} {ty : TypeId} {K : Value → List Blk → List Fact → Prop}
end
section
variable {p m N : Nat} {md lost away : List Int} {rows : List (List Int)}
end
open Go Go.Fw
set_option maxRecDepth 100000
set_option linter.unusedVariables false
set_option linter.unusedSimpArgs false
set_option maxHeartbeats 0
section
variable {P M N w e : Int} {nm cm n c nl cl na ca nt ct : Nat} {md lost away : List Int} {rows t : List (List Int)} {pm ps pl pa pt : Option Addr}
end
open Go Go.Fw
set_option maxRecDepth 100000
set_option linter.unusedVariables false
set_option linter.unusedSimpArgs false
set_option maxHeartbeats 0
def cfP (p m : Nat) (md lost hs : List Int) (coef rows : List (List Int)) : Prop:=∀ i,i < lost.length → ∀ g ∈ rows,dotL (aF p m) (mF p m md) (coef.getD i default) (piL g hs) = at0 g (lost.getD i default).toNat
open Classical in
noncomputable def chE (P M : Int) (md : List Int) (N : Int) (rows : List (List Int)) (away lost hs : List Int) (coef : List (List Int)) (f : Bool) (t : List (List Int)) : Int :=
 if ckE P M md N rows ≠ 0 then ckE P M md N rows else if ¬ (stP N lost ∧ stP N hs ∧ stP N away) then 5 else if (hs.any fun x=>decide (x ∈ lost)) = true ∨ (hs.any fun x=>decide (x ∈ away)) = true then 10 else
 if shB lost hs coef = false then 3 else if elB coef (P.toNat ^ M.toNat) = false then 2 else if ¬ cfP P.toNat M.toNat md lost hs coef rows then 13 else
 if f = true ∧ prB P.toNat M.toNat md N.toNat rows lost away ((hs.length : Int) - 1) t = false then 13 else 0
section
variable {P M N e : Int} {nm cm n c na ca nl cl nh ch nc cc np cp : Nat} {md away lost hs : List Int} {rows coef t : List (List Int)} {f : Bool} {pm ps pa pl ph pc pp : Option Addr}
end
open Go Go.Fw
set_option maxRecDepth 100000
set_option linter.unusedVariables false
set_option linter.unusedSimpArgs false
set_option maxHeartbeats 0
theorem S_repair_meetR {pa pb : Option Addr} {na ca nb cb : Nat} {k l : List Int} {res : Bool} (hr : (k.any fun x=>decide (x ∈ l)) = res) : Ctr Tryz.prog 38 [.slice pa na ca,.slice pb nb cb] [] [slF I64 pa na ca k,slF I64 pb nb cb l] (Rv (.bool res) []):=hr ▸ S_repair_meet
section
variable {P M N e : Int} {nm cm n c na ca nl cl nh ch nc cc np cp : Nat} {md away lost hs : List Int} {rows coef t : List (List Int)} {f : Bool} {pm ps pa pl ph pc pp : Option Addr}
theorem S_repair_Check (hN : InR .i64 N) (h : chE P M md N rows away lost hs coef f t = e) : Ctr Tryz.prog 16 [.agg #[.int .i64 P,.int .i64 M,.slice pm nm cm,.int .i64 N,.slice ps n c],.slice pa na ca,.agg #[.slice pl nl cl,.slice ph nh ch,.slice pc nc cc,.bool f,.slice pp np cp]] []
   [slF I64 pm nm cm md,slF (encSl I64) ps n c rows,slF I64 pa na ca away,slF I64 pl nl cl lost,slF I64 ph nh ch hs,slF (encSl I64) pc nc cc coef,slF (encSl I64) pp np cp t] (Rv (.int .i64 e) []):=by
 refine Ctr_of_j' (F:=F_repair_Check) rfl fun C=>?_
 refine j_len 1 rfl fun hn hb1 _=>?_
 subst hn
 refine j_len 3 rfl fun hn _ _=>?_
 subst hn
 refine j_len 4 rfl fun hn _ _=>?_
 subst hn
 refine j_len 5 rfl fun hn hb2 _=>?_
 subst hn
 have hb1' : rows.length * 24 ≤ 140737488355328:=hb1
 have hb2' : coef.length * 24 ≤ 140737488355328:=hb2
 have c_code_Check:=fun {pm ps : Option Addr} {nm cm n c : Nat}=>S_code_Check (P:=P) (M:=M) (pm:=pm) (ps:=ps) (nm:=nm) (cm:=cm) (n:=n) (c:=c) (md:=md) (rows:=rows) hN rfl
 have hr:=ckE_rng P M md N rows
 rw [chE] at h
 by_cases hc : ckE P M md N rows = 0
 ·rw [if_neg (fun e=>e hc)] at h
  rw [hc] at c_code_Check
  obtain ⟨p,m,N,rfl,rfl,rfl,CC⟩:=ck_of hc
  have h64:=CC.n64
  have hq:=CC.K.q
  have q2:=(fok_fn CC.K).q2
  have p2:=CC.K.p2
  have m1:=CC.K.m1
  have F:=CC.K.fi
  have c_repair_meet:=fun {pa pb : Option Addr} {na ca nb cb : Nat} {k l : List Int} {res : Bool} (hr : (k.any fun x=>decide (x ∈ l)) = res)=>S_repair_meetR (pa:=pa) (pb:=pb) (na:=na) (ca:=ca) (nb:=nb) (cb:=cb) hr
  have c_field_New:=fun {pm : Option Addr} {nm cm : Nat}=>S_field_New_ok (pm:=pm) (nm:=nm) (cm:=cm) CC.K
  by_cases h1 : stP N lost ∧ stP N hs ∧ stP N away
  ·rw [if_neg (fun e=>e h1)] at h
   obtain ⟨hlo,hhs,haw⟩:=h1
   have hd1:=decide_eq_true hlo
   have hd2:=decide_eq_true hhs
   have hd3:=decide_eq_true haw
   cases h2 : (hs.any fun x=>decide (x ∈ lost)) with
   | true =>
    rw [h2,if_pos (.inl rfl)] at h
    subst h
    refine wk 48 (ct @c_code_Check (ct @c_field_New (ct @S_repair_set (ct @S_repair_set (ct @S_repair_set (ct @c_repair_meet cz)))))) ?_
    intro b1 b2 h1 b3 pg1 cg1 pe1 ce1 pl1 cl1
    exact ge
   | false =>
   cases h3 : (hs.any fun x=>decide (x ∈ away)) with
   | true =>
    rw [h3,if_pos (.inr rfl)] at h
    subst h
    refine wk 53 (ct @c_code_Check (ct @c_field_New (ct @S_repair_set (ct @S_repair_set (ct @S_repair_set (ct @c_repair_meet (ct @c_repair_meet cz))))))) ?_
    intro b1 b2 h1 b3 pg1 cg1 pe1 ce1 pl1 cl1
    exact ge
   | false =>
   rw [h2,h3,if_neg (by simp)] at h
   have c_repair_shaped:=fun {nh ch nl cl nc cc np cp : Nat} {pl ph pc pp : Option Addr}=>S_repair_shaped (nh:=nh) (ch:=ch) (nl:=nl) (cl:=cl) (nc:=nc) (cc:=cc) (np:=np) (cp:=cp) (f:=f) (pl:=pl) (ph:=ph) (pc:=pc) (pp:=pp) (lost:=lost) (hs:=hs) (coef:=coef)
   cases h4 : shB lost hs coef with
   | false =>
    rw [h4] at c_repair_shaped
    rw [h4,if_pos rfl] at h
    subst h
    refine wk 59 (ct @c_code_Check (ct @c_field_New (ct @S_repair_set (ct @S_repair_set (ct @S_repair_set (ct @c_repair_meet (ct @c_repair_meet (ct @c_repair_shaped cz)))))))) ?_
    intro b1 b2 h1 b3 pg1 cg1 pe1 ce1 pl1 cl1
    exact ge
   | true =>
   rw [h4] at c_repair_shaped
   rw [h4,if_neg (by simp)] at h
   have hl1:=st_len hlo
   have hl2:=st_len hhs
   obtain ⟨hcl,hcw⟩:=shB_iff.1 h4
   rw [Int.toNat_natCast,Int.toNat_natCast,Int.toNat_natCast] at h
   have c_repair_elements:=fun {b ng cg ne ce nl cl n c : Nat} {pg pe pl ps : Option Addr}=>S_repair_elements (b:=b) (p:=p) (m:=m) (q:=p ^ m) (ng:=ng) (cg:=cg) (ne:=ne) (ce:=ce) (nl:=nl) (cl:=cl) (n:=n) (c:=c) (pg:=pg) (pe:=pe) (pl:=pl) (ps:=ps) (rows:=coef) hq
   cases h5 : elB coef (p ^ m) with
   | false =>
    rw [h5] at c_repair_elements
    rw [h5,if_pos rfl] at h
    subst h
    refine wk 67 (ct @c_code_Check (ct @c_field_New (ct @S_repair_set (ct @S_repair_set (ct @S_repair_set (ct @c_repair_meet (ct @c_repair_meet (ct @c_repair_shaped (ct @c_repair_elements cz))))))))) ?_
    intro b1 b2 h1 b3 pg1 cg1 pe1 ce1 pl1 cl1
    exact ge
   | true =>
   rw [h5] at c_repair_elements
   rw [h5,if_neg (by simp)] at h
   have hel:=elB_iff.1 h5
   refine wk 70 (ct @c_code_Check (ct @c_field_New (ct @S_repair_set (ct @S_repair_set (ct @S_repair_set (ct @c_repair_meet (ct @c_repair_meet (ct @c_repair_shaped (ct @c_repair_elements cz))))))))) ?_
   intro b1 b2 h1 b3 pg1 cg1 pe1 ce1 pl1 cl1
   refine j_loopG (X:=Nat) [1,3,5,8,73,74] [0,1,2,3,4,5,6,7,8,9,10] (fun i=>[(75,.int .i64 (i : Int))]) (fun _=>_) (fun _=>[]) (fun i=>i ≤ coef.length ∧ ∀ j,j < i → ∀ g ∈ rows,dotL (aF p m) (mF p m md) (coef.getD j default) (piL g hs) = at0 g (lost.getD j default).toNat) (fun i=>coef.length - i) 0 [] rfl rfl rfl ⟨Nat.zero_le _,fun x h=>by omega⟩ (by repeat (first | exact Fr.sub_nil _ | refine Fr.sub_cons rfl ?_)) rfl rfl ?_
   rintro i ⟨hi,hnoi⟩ ihi
   simp only [List.cons_append,List.nil_append] at hi ihi ⊢
   by_cases hil : i < coef.length
   ·obtain ⟨l,at_l⟩ : ∃ l,lost[i]? = some l:=⟨_,List.getElem?_eq_getElem (by omega)⟩
    obtain ⟨r,at_r⟩ : ∃ r,coef[i]? = some r:=⟨_,List.getElem?_eq_getElem hil⟩
    have el:=gd_at at_l
    have er:=gd_at at_r
    have hrm:=List.mem_of_getElem? at_r
    obtain ⟨l0,l1⟩:=hlo.1 l (List.mem_of_getElem? at_l)
    have hX : Wd (p ^ m) hs.length r:=⟨by have:=hcw r hrm;omega,hel r hrm⟩
    have hrl:=hX.1
    refine wk 15 cz ?_
    intro h6 b4 o1 hz1 pa1 ca1
    refine j_loopG (X:=Nat) [1,3,5,8,10,11,73,74,75,76,77,78,79,80,81,82] [0,1,2,3,4,5,6,7,8,9,10,11,12] (fun k=>[(83,.int .i64 (k : Int))]) (fun _=>_) (fun _=>[]) (fun k=>k ≤ rows.length ∧ ∀ g ∈ rows.take k,dotL (aF p m) (mF p m md) r (piL g hs) = at0 g l.toNat) (fun k=>rows.length - k) 0 [] rfl rfl rfl ⟨Nat.zero_le _,fun x h=>by simp at h⟩ (by repeat (first | exact Fr.sub_nil _ | refine Fr.sub_cons rfl ?_)) rfl rfl ?_
    rintro k ⟨hk,hno⟩ ih
    simp only [List.cons_append,List.nil_append] at hk ih ⊢
    by_cases hkl : k < rows.length
    ·obtain ⟨g,at_g⟩ : ∃ g,rows[k]? = some g:=⟨_,List.getElem?_eq_getElem hkl⟩
     have hgm:=List.mem_of_getElem? at_g
     have hg:=CC.mat g hgm
     have hgl:=hg.1
     have hpW : Wd (p ^ m) hs.length (piL g hs):=⟨List.length_map _,fun x hx=>by
      obtain ⟨j,_,rfl⟩:=List.mem_map.1 hx
      exact wd_at (by omega) hg _⟩
     refine wk 16 cz ?_
     intro h7 b5 o2 hz2 pa2 ca2
     refine j_loopG (X:=Nat) [1,3,5,8,10,11,13,73,74,75,76,77,78,79,80,81,82,83,84,85,86,87,88,89] [0,1,2,3,4,5,6,7,8,9,10,11,12,13,14] (fun j=>[(90,.int .i64 (j : Int)),(14,.int .i64 (dotL (aF p m) (mF p m md) (r.take j) ((piL g hs).take j)))]) (fun _=>_) (fun _=>[]) (fun j=>j ≤ hs.length) (fun j=>hs.length - j) 0 [] rfl rfl rfl (Nat.zero_le _) (by repeat (first | exact Fr.sub_nil _ | refine Fr.sub_cons rfl ?_)) rfl rfl ?_
     rintro j hj ihj
     simp only [List.cons_append,List.nil_append] at hj ihj ⊢
     obtain ⟨d0,d1⟩:=F.dlt (wd_take hX hj) (wd_take hpW hj)
     by_cases hjl : j < hs.length
     ·obtain ⟨y,at_y⟩ : ∃ y,hs[j]? = some y:=⟨_,List.getElem?_eq_getElem hjl⟩
      obtain ⟨a,at_a⟩ : ∃ a,r[j]? = some a:=⟨_,List.getElem?_eq_getElem (by omega)⟩
      obtain ⟨y0,y1⟩:=hhs.1 y (List.mem_of_getElem? at_y)
      obtain ⟨a0,a1⟩:=hX.2 a (List.mem_of_getElem? at_a)
      have ea:=gd_at at_a
      have hgy : (piL g hs)[j]? = some (at0 g y.toNat):=by rw [piL,List.getElem?_map,at_y];rfl
      obtain ⟨v0,v1⟩:=wd_at (by omega) hg y.toNat
      have ih':=ihj (j + 1) (by omega) (by omega)
      rw [List.take_add_one,List.take_add_one,at_a,hgy,Option.toList_some,Option.toList_some,dot_snoc F (wd_take hX hj) (wd_take hpW hj) a0 a1 v0 v1] at ih'
      generalize dotL (aF p m) (mF p m md) (r.take j) ((piL g hs).take j) = s at *
      obtain ⟨m0,m1⟩:=F.ml _ _ a0 a1 v0 v1
      have c_field_GF__Mul:=fun {b ng cg ce cl : Nat} {pg pe pl : Option Addr} {x y : Int}=>S_field_GF__Mul (b:=b) (ng:=ng) (cg:=cg) (ce:=ce) (cl:=cl) (pg:=pg) (pe:=pe) (pl:=pl) (x:=x) (y:=y) CC.K
      rw [show at0 g y.toNat = g.getD y.toNat default from rfl] at *
      rw [← ea] at a0 a1 m0 m1 ih'
      clear ih ihi ihj hnoi hno h
      refine wk 7 cz ?_
      intro h8 b6 o3 hz3
      refine j_step rfl (x_ld_int 0 rfl rfl ld3 fun ⟨r1,r2⟩=>?_)
      refine wk 7 (ct @c_field_GF__Mul (ct @S_field_GF__Add cz)) ?_
      intro b7 o4 b8 o5
      exact tw (ih')
     ·obtain rfl : hs.length = j:=by omega
      have hpl : (piL g hs).length = hs.length:=List.length_map _
      rw [List.take_of_length_le (show r.length ≤ hs.length by omega),List.take_of_length_le (show (piL g hs).length ≤ hs.length by omega)]
      clear ihj
      have at_v : g[l.toNat]? = some (at0 g l.toNat):=by rw [at0,List.getD_eq_getElem?_getD,List.getElem?_eq_getElem (by omega)];rfl
      by_cases h7 : dotL (aF p m) (mF p m md) r (piL g hs) = at0 g l.toNat
      ·clear h ihi
       refine wk 10 cz ?_
       intro h8 b6 o3 hz3
       refine j_step rfl (x_ld_int 0 rfl rfl ld3 fun ⟨r1,r2⟩=>?_)
       refine wk 1 cz ?_
       intro b7 o4 hz4
       refine j_step rfl (x_ld_int 0 rfl rfl ld3 fun ⟨r3,r4⟩=>?_)
       refine wk 6 cz ?_
       intro h9
       exact tw (ih (k + 1) (by omega) ⟨by omega,tk_all at_g hno h7⟩)
      ·rw [if_pos fun hp=>h7 (by have:=hp i (by omega) g hgm;rwa [er,el] at this)] at h
       subst h
       clear ih ihi
       refine wk 10 cz ?_
       intro h8 b6 o3 hz3
       refine j_step rfl (x_ld_int 0 rfl rfl ld3 fun ⟨r1,r2⟩=>?_)
       refine wk 1 cz ?_
       intro b7 o4 hz4
       refine j_step rfl (x_ld_int 0 rfl rfl ld3 fun ⟨r3,r4⟩=>?_)
       refine wk 6 cz ?_
       intro h9
       exact ge
    ·have hnr : ∀ g ∈ rows,dotL (aF p m) (mF p m md) r (piL g hs) = at0 g l.toNat:=fun g hg=>hno g (by rwa [List.take_of_length_le (by omega)])
     clear ih h
     refine wk 7 cz ?_
     intro h7
     exact tw (ihi (i + 1) (by omega) ⟨by omega,fun j hj g hg=>by
      rcases Nat.lt_succ_iff_lt_or_eq.1 hj with h | rfl
      ·exact hnoi j h g hg
      ·rw [er,el];exact hnr g hg⟩)
   ·have hcf : cfP p m md lost hs coef rows:=fun i hi g hg=>hnoi i (by omega) g hg
    rw [if_neg (fun e=>e hcf)] at h
    clear ihi hnoi
    cases f with
    | false =>
     rw [if_neg (by simp)] at h
     subst h
     refine wk 13 cz ?_
     intro h6
     exact ge
    | true =>
     have c_repair_proves:=fun {nm cm n c nl cl na ca nt ct : Nat} {pm ps pl pa pt : Option Addr}=>S_repair_proves (nm:=nm) (cm:=cm) (n:=n) (c:=c) (nl:=nl) (cl:=cl) (na:=na) (ca:=ca) (nt:=nt) (ct:=ct) (pm:=pm) (ps:=ps) (pl:=pl) (pa:=pa) (pt:=pt) (away:=away) (w:=(hs.length : Int) - 1) (t:=t) CC hlo (by omega) (by omega)
     cases h8 : prB p m md N rows lost away ((hs.length : Int) - 1) t with
     | false =>
      rw [h8] at c_repair_proves
      rw [h8,if_pos ⟨rfl,rfl⟩] at h
      subst h
      refine wk 25 (ct @c_repair_proves cz) ?_
      intro h6
      exact ge
     | true =>
      rw [h8] at c_repair_proves
      rw [h8,if_neg (by simp)] at h
      subst h
      refine wk 25 (ct @c_repair_proves cz) ?_
      intro h6
      exact ge
  ·rw [if_pos h1] at h
   subst h
   cases hd1 : decide (stP N lost) with
   | false =>
    refine wk 29 (ct @c_code_Check (ct @c_field_New (ct @S_repair_set cz))) ?_
    intro b1 b2 h2 b3 pg1 cg1 pe1 ce1 pl1 cl1
    exact ge
   | true =>
   cases hd2 : decide (stP N hs) with
   | false =>
    refine wk 35 (ct @c_code_Check (ct @c_field_New (ct @S_repair_set (ct @S_repair_set cz)))) ?_
    intro b1 b2 h2 b3 pg1 cg1 pe1 ce1 pl1 cl1
    exact ge
   | true =>
   have hd3 : decide (stP N away) = false:=decide_eq_false fun h3=>h1 ⟨of_decide_eq_true hd1,of_decide_eq_true hd2,h3⟩
   refine wk 39 (ct @c_code_Check (ct @c_field_New (ct @S_repair_set (ct @S_repair_set (ct @S_repair_set cz))))) ?_
   intro b1 b2 h2 b3 pg1 cg1 pe1 ce1 pl1 cl1
   exact ge
 ·rw [if_pos hc] at h
  rw [h] at c_code_Check hc hr
  refine wk 15 (ct @c_code_Check cz) ?_
  intro b1 b2 h1
  exact ge
end
set_option maxRecDepth 100000
set_option linter.unusedVariables false
set_option linter.unusedSimpArgs false
section
variable {q : Nat} {A M : Int → Int → Int} {N V : Int → Int} (O : FO q A M N V)
include O
omit O in
theorem en_col {R : List (List Int)} {i a : Nat} : at0 (colL R a) i = en R i a:=by
 rw [colL,at0,en,row0,List.getD_eq_getElem?_getD,List.getElem?_map,List.getD_eq_getElem?_getD]
 cases R[i]? <;> rfl
theorem FO.rs_piv {n : Nat} {R : List (List Int)} {P : List Nat} (h : Red q n R P) (hl : R.length = P.length) {v : List Int} (hv : Wd q n v) : ∀ (k : Nat) (out : List Int),k ≤ P.length → Wd q n out → (∀ (j a : Nat),j < k → P[j]? = some a → at0 out a = 0) → (∀ (j a : Nat),k ≤ j → P[j]? = some a → at0 out a = at0 v a) →
  ∀ (j a : Nat),P[j]? = some a → at0 (rsF A M N v (P.drop (P.length - (P.length - k))) (R.drop (P.length - (P.length - k))) out) a = 0:=by
 have hq:=O.q2
 have F:=O.fi
 intro k
 generalize hd : P.length - k = d
 induction d generalizing k with
 | zero =>
  intro out hk _ h1 _ j a hj
  rw [Nat.sub_zero,List.drop_of_length_le (Nat.le_refl _),List.drop_of_length_le (by omega)]
  exact h1 j a (by have:=(List.getElem?_eq_some_iff.1 hj).1;omega) hj
 | succ d ih =>
  intro out hk ho h1 h2 j a hj
  have hkl : P.length - (d + 1) = k:=by omega
  rw [hkl,List.drop_eq_getElem_cons (show k < P.length by omega),List.drop_eq_getElem_cons (show k < R.length by omega),rsF]
  have hp : P[k]? = some P[k]:=List.getElem?_eq_getElem (by omega)
  obtain ⟨v0,v1⟩:=wd_at (by omega) hv P[k]
  obtain ⟨⟨n0,n1⟩,e⟩:=O.ng _ v0 v1
  have hr : Wd q n R[k]:=h.mat _ (List.getElem_mem _)
  have hen : ∀ a,en R k a = at0 R[k] a:=fun a=>by rw [en,row0,List.getD_eq_getElem?_getD,List.getElem?_eq_getElem (show k < R.length by omega)];rfl
  have ih':=ih (k + 1) (by omega) (axp A M (N (at0 v P[k])) R[k] out) (by omega) (F.axw n0 n1 hr ho) (fun i b hi hb=>by
   rw [O.axp_at n0 n1 hr ho]
   by_cases hik : i = k
   ·subst hik
    obtain rfl : P[i] = b:=Option.some.inj (hp.symm.trans hb)
    have:=h.ech.one i _ hp
    rw [hen] at this
    rw [this,h2 i _ (Nat.le_refl _) hp,F.m1 _ n0 n1]
    exact e
   ·have hz:=h.ech.zer i b hb k (by omega) (by omega)
    rw [hen] at hz
    obtain ⟨o0,o1⟩:=wd_at (by omega) ho b
    rw [hz,F.m0 n0 n1,F.a0 _ o0 o1]
    exact h1 i b (by omega) hb) (fun i b hi hb=>by
   rw [O.axp_at n0 n1 hr ho]
   have hz:=h.ech.zer i b hb k (by omega) (by omega)
   rw [hen] at hz
   obtain ⟨o0,o1⟩:=wd_at (by omega) ho b
   rw [hz,F.m0 n0 n1,F.a0 _ o0 o1]
   exact h2 i b (by omega) hb)
  rw [show P.length - d = k + 1 by omega] at ih'
  exact ih' j a hj
theorem FO.cmb_piv {n : Nat} {R : List (List Int)} {P : List Nat} (h : Red q n R P) (hl : R.length = P.length) {u : List Int} (hu : Cmb q A M n R u) (h0 : ∀ a ∈ P,at0 u a = 0) : u = zW n:=by
 have hq:=O.q2
 have F:=O.fi
 obtain ⟨t,ht,e⟩:=O.cmb_coef h.mat hu
 have ht0 : ∀ i,at0 t i = 0:=fun i=>by
  by_cases hi : i < P.length
  ·have hp : P[i]? = some P[i]:=List.getElem?_eq_getElem hi
   have h1:=e P[i]
   rw [h0 _ (List.getElem_mem _),O.dot_one ht (wd_col (by omega) h.mat _) i fun j hj=>?_,en_col,h.ech.one i _ hp] at h1
   ·obtain ⟨t0,t1⟩:=wd_at (by omega) ht i
    rw [F.m1 _ t0 t1] at h1
    exact h1.symm
   ·obtain ⟨t0,t1⟩:=wd_at (by omega) ht j
    rw [en_col]
    by_cases hjl : j < R.length
    ·rw [h.ech.zer i _ hp j hjl hj,F.m0 t0 t1]
    ·rw [en,row0,List.getD_eq_getElem?_getD,List.getElem?_eq_none (by omega),at0,List.getD_eq_getElem?_getD]
     exact F.m0 t0 t1
  ·rw [at0,List.getD_eq_getElem?_getD,List.getElem?_eq_none (by rw [ht.1];omega)];rfl
 refine wd_at_ext (O.cmb_mat h.mat hu) (O.wz n) fun j _=>?_
 obtain ⟨c0,c1⟩:=wd_col (by omega) h.mat j (rows:=R)
 rw [e,at0_zW]
 refine O.dot_zero ht (wd_col (by omega) h.mat j) fun i=>?_
 obtain ⟨r0,r1⟩:=wd_at (by omega) (wd_col (show 0 < q by omega) h.mat j) i
 rw [ht0,F.mc 0 _ (Int.le_refl 0) (by omega) r0 r1,F.m0 r0 r1]
theorem FO.rs_in {n : Nat} {G : List (List Int)} (hG : Mat q n G) {v : List Int} (hv : Wd q n v) : ∀ {P : List Nat} {R : List (List Int)} {out : List Int},(∀ r ∈ R,r ∈ G) → Cmb q A M n G out → Cmb q A M n G (rsF A M N v P R out)
 | [],_,_,_,h=>h
 | _::_,[],_,_,h=>h
 | p::ps,r::rs,out,hR,h=>by
  have hq:=O.q2
  obtain ⟨v0,v1⟩:=wd_at (by omega) hv p
  obtain ⟨⟨n0,n1⟩,e⟩:=O.ng _ v0 v1
  exact FO.rs_in hG hv (P:=ps) (R:=rs) (fun x hx=>hR x (.tail _ hx)) (O.cmb_axp hG n0 n1 (O.cmb_row hG (hR r (.head _))) h)
theorem FO.rs_nil {n : Nat} {R : List (List Int)} {P : List Nat} (h : Red q n R P) (hl : R.length = P.length) {v : List Int} (hv : Cmb q A M n R v) : ∀ x ∈ rsF A M N v P R v,x = 0:=by
 have hw:=O.cmb_mat h.mat hv
 have h1:=O.rs_piv h hl hw 0 v (Nat.zero_le _) hw (fun j a hj _=>by omega) (fun _ _ _ _=>rfl)
 rw [Nat.sub_zero,Nat.sub_self,List.drop_zero,List.drop_zero] at h1
 rw [O.cmb_piv h hl (O.rs_in h.mat hw (P:=P) (R:=R) (fun r hr=>hr) hv) fun a ha=>by
  obtain ⟨j,hj⟩:=List.getElem?_of_mem ha
  exact h1 j a hj]
 intro x hx
 exact List.eq_of_mem_replicate hx
end
open Go Go.Fw
set_option maxRecDepth 100000
set_option linter.unusedVariables false
set_option linter.unusedSimpArgs false
set_option maxHeartbeats 0
abbrev srL (N : Nat) (s : List Int) : List Int:=othL N [othL N [s]]
theorem srL_mem {N : Nat} {s : List Int} {x : Int} : x ∈ srL N s ↔ (0 ≤ x ∧ x < N) ∧ x ∈ s:=by
 rw [srL,othL_mem]
 refine and_congr_right fun hx=>⟨fun h=>?_,fun h l hl h2=>?_⟩
 ·have h1:=h _ (.head _)
  rw [othL_mem] at h1
  refine Classical.byContradiction fun h2=>h1 ⟨hx,fun l hl=>?_⟩
  rw [List.mem_singleton.1 hl];exact h2
 ·rw [List.mem_singleton.1 hl,othL_mem] at h2
  exact h2.2 s (.head _) h
theorem srL_perm {N : Nat} {s s' : List Int} (h : s.Perm s') : srL N s = srL N s' :=
 st_ext (othL_st N _).2 (othL_st N _).2 fun x=>by rw [srL_mem,srL_mem,h.mem_iff]
theorem cmbF_in {q n : Nat} {A M : Int → Int → Int} {G : List (List Int)} : ∀ {x : List Int} {R : List (List Int)} {u : List Int},(∀ a ∈ x,0 ≤ a ∧ a < q) → (∀ r ∈ R,r ∈ G) → Cmb q A M n G u → Cmb q A M n G (cmbF A M x R u)
 | [],_,_,_,_,h=>h
 | _::_,[],_,_,_,h=>h
 | a::x,r::R,u,hx,hR,h=>by
  refine cmbF_in (x:=x) (R:=R) (fun b hb=>hx b (.tail _ hb)) (fun b hb=>hR b (.tail _ hb)) ?_
  split
  ·exact h
  ·exact .add (hR r (.head _)) (hx a (.head _)).1 (hx a (.head _)).2 h
section
variable {p m N : Nat} {md lost away : List Int} {rows : List (List Int)}
theorem mb_of (CC : Cok p m md N rows) {w : List Int} (h : Cmb (p ^ m) (liftI (fA p m)) (liftI (fM p (fpo m md))) N rows w) : mbB p m md N rows w = true:=by
 obtain ⟨hR,hl⟩:=CC.red
 exact zrB_iff.2 ((fok_fn CC.K).rs_nil hR hl h)
theorem cn_mem {A M : Int → Int → Int} {N V : Int → Int} {n : Nat} {rows : List (List Int)} {w : List Int} (h : w ∈ (cnE A M N V n rows).1) : w ∈ (elimL A M N V n 0 0 rows).1:=List.mem_of_mem_take h
theorem FO.cn_cmb {q n : Nat} {A M : Int → Int → Int} {N V : Int → Int} (O : FO q A M N V) {rows : List (List Int)} (hM : Mat q n rows) {w : List Int} (h : w ∈ (cnE A M N V n rows).1) : Cmb q A M n rows w:=O.elim_cmb n 0 0 (Nat.zero_le _) hM w (cn_mem h)
theorem FO.wi_cmb {q n : Nat} {A M : Int → Int → Int} {N V : Int → Int} (O : FO q A M N V) {gen h : List (List Int)} (hG : Mat q n gen) (hh : Mat q gen.length h) {w : List Int} (hw : w ∈ wiL A M N V n gen h) : Cmb q A M n gen w:=by
 refine O.cmb_trans hG (rows':=woL A M N V n gen h) (fun r hr=>?_) (O.cn_cmb (O.wo_mat hG hh) hw)
 obtain ⟨x,hx,rfl⟩:=List.mem_map.1 hr
 exact cmbF_in ((O.nu hh).1 x hx).2 (fun r hr=>hr) .zero
theorem wi_cmb (CC : Cok p m md N rows) {hs w : List Int} (h : w ∈ wiP p m md N rows hs) : Cmb (p ^ m) (liftI (fA p m)) (liftI (fM p (fpo m md))) N rows w:=(fok_fn CC.K).wi_cmb CC.mat (hs_mat CC hs) h
theorem wi_zero (CC : Cok p m md N rows) {hs w : List Int} (hh : ∀ x ∈ hs,0 ≤ x ∧ x < (N : Int)) (h : w ∈ wiP p m md N rows hs) : ∀ x ∈ hs,at0 w x.toNat = 0:=fun x hx=>by
 have O:=fok_fn CC.K
 refine ((O.wi CC.mat (hs_mat CC hs)).2 x.toNat (by have:=hh x hx;omega)).2 (fun y hy hs=>?_) w h
 exact hs _ (List.mem_map.2 ⟨x,hx,rfl⟩)
theorem wt_word (CC : Cok p m md N rows) {s w : List Int} (h : wtP p m md N rows lost (srL N s) = some w) (hs : ∀ x ∈ s,0 ≤ x ∧ x < (N : Int)) : Wd (p ^ m) N w ∧ gdB p m md N rows lost w s = true ∧ ∀ x ∈ s,at0 w x.toNat = 0:=by
 have h1:=List.find?_some h
 have h2:=List.mem_of_find?_eq_some h
 have hw:=wi_wd CC (srL N s) w h2
 have h0 : ∀ x ∈ s,at0 w x.toNat = 0:=fun x hx=>wi_zero CC (fun y hy=>(srL_mem.1 hy).1) h2 x (srL_mem.2 ⟨hs x hx,hx⟩)
 refine ⟨hw,?_,h0⟩
 rw [gdB,decide_eq_true (liE_ok hw),mb_of CC (wi_cmb CC h2),nzL_false.2 h0]
 exact h1
end
open Go Go.Fw
set_option maxRecDepth 100000
set_option linter.unusedVariables false
set_option linter.unusedSimpArgs false
set_option maxHeartbeats 0
theorem inS_pw {s : List Int} {y : Int} (hs : s.Pairwise (· < ·)) : (inS s y).Pairwise (· < ·):=by
 have hf : ∀ x ∈ s.filter (fun x=>decide (y < x)),y < x:=fun x hx=>by simpa using (List.mem_filter.1 hx).2
 rw [inS,List.pairwise_append,List.pairwise_append]
 refine ⟨⟨hs.sublist (List.takeWhile_sublist _),List.pairwise_singleton _ _,fun a ha b hb=>?_⟩,hs.filter _,fun a ha b hb=>?_⟩
 ·rw [List.mem_singleton.1 hb];exact tw_lt a ha
 ·have hb':=hf b hb
  rcases List.mem_append.1 ha with ha | ha
  ·have:=tw_lt a ha;omega
  ·rw [List.mem_singleton.1 ha];exact hb'
def apI (l : List Int) (i : Int) : List Int:=l++[i]
def huGo (add : List Int → Int → List Int) (f : List Int → List Int → Nat × List (List Int) → (Nat × List (List Int)) × Option (Option (List Int))) (s z : List Int) : List Int → List Int → Nat × List (List Int) → (Nat × List (List Int)) × Option (Option (List Int))
 | _,[],x=>(x,none)
 | pre,i::r,x=>match f (add s i) (z++pre) x with
  | (x',some o)=>(x',some o)
  | (x',none)=>huGo add f s z (pre++[i]) r x'
def huT (add : List Int → Int → List Int) (wt : List Int → Option (List Int)) (br : List Int → List Int → List Int) : Nat → List Int → List Int → Nat × List (List Int) → (Nat × List (List Int)) × Option (Option (List Int))
 | 0,s,z,x=>match x.1 with
  | 0=>(x,some none)
  | k + 1=>match wt s with
   | none=>((k,x.2),some (some s))
   | some w=>((k,x.2++[w]),none)
 | d + 1,s,z,x=>match x.1 with
  | 0=>(x,some none)
  | k + 1=>match wt s with
   | none=>((k,x.2),some (some s))
   | some w=>huGo add (huT add wt br d) s z [] (br z w) (k,x.2++[w])
inductive Alike : Option (Option (List Int)) → Option (Option (List Int)) → Prop
 | no : Alike none none
 | up : Alike (some none) (some none)
 | yes {l k : List Int} (h : l.Perm k) (hs : l.Pairwise (· < ·)) : Alike (some (some l)) (some (some k))
section
variable {n : Int} {wt : List Int → Option (List Int)} {br : List Int → List Int → List Int}
theorem hu_alike (hwt : ∀ s s' : List Int,s.Perm s' → wt s = wt s') (hbr : ∀ s z w,wt s = some w → ∀ y ∈ br z w,y ∉ s) : ∀ (d : Nat) (s s' z : List Int) (x : Nat × List (List Int)),s.Perm s' → s.Pairwise (· < ·) →
  (huT inS wt br d s z x).1 = (huT apI wt br d s' z x).1 ∧ Alike (huT inS wt br d s z x).2 (huT apI wt br d s' z x).2:=by
 intro d
 induction d with
 | zero =>
  intro s s' z x hp hs
  rw [huT,huT]
  cases hx : x.1 with
  | zero=>exact ⟨rfl,.up⟩
  | succ k =>
   dsimp only
   rw [← hwt s s' hp]
   cases wt s with
   | none=>exact ⟨rfl,.yes hp hs⟩
   | some w=>exact ⟨rfl,.no⟩
 | succ d ih =>
  intro s s' z x hp hs
  rw [huT,huT]
  cases hx : x.1 with
  | zero=>exact ⟨rfl,.up⟩
  | succ k =>
   dsimp only
   rw [← hwt s s' hp]
   cases hw : wt s with
   | none=>exact ⟨rfl,.yes hp hs⟩
   | some w =>
    dsimp only
    have hb:=hbr s z w hw
    generalize br z w = L at *
    generalize ([] : List Int) = pre
    generalize (k,x.2++[w]) = y
    induction L generalizing pre y with
    | nil=>exact ⟨rfl,.no⟩
    | cons i L ihL =>
     rw [huGo,huGo]
     have hi:=hb i (.head _)
     obtain ⟨h1,h2⟩:=ih (inS s i) (apI s' i) (z++pre) y (by exact (inS_perm hs hi).trans (hp.append_right [i])) (inS_pw hs)
     generalize huT inS wt br d (inS s i) (z++pre) y = a at *
     generalize huT apI wt br d (apI s' i) (z++pre) y = b at *
     obtain ⟨a1,a2⟩:=a
     obtain ⟨b1,b2⟩:=b
     dsimp only at h1 h2
     subst h1
     cases h2 with
     | no=>exact ihL (fun y hy=>hb y (.tail _ hy)) _ _
     | up=>exact ⟨rfl,.up⟩
     | yes h hs=>exact ⟨rfl,.yes h hs⟩
theorem hu_le {add : List Int → Int → List Int} : ∀ (d : Nat) (s z : List Int) (x : Nat × List (List Int)),(huT add wt br d s z x).1.1 ≤ x.1 ∧ (huT add wt br d s z x).1.2.length + (huT add wt br d s z x).1.1 ≤ x.2.length + x.1:=by
 intro d
 induction d with
 | zero =>
  intro s z x
  rw [huT]
  cases hx : x.1 with
  | zero=>exact ⟨by dsimp only;omega,by dsimp only;omega⟩
  | succ k =>
   dsimp only
   cases wt s with
   | none=>exact ⟨by dsimp only;omega,by dsimp only;omega⟩
   | some w=>exact ⟨by dsimp only;omega,by dsimp only;rw [List.length_append,List.length_singleton];omega⟩
 | succ d ih =>
  intro s z x
  rw [huT]
  cases hx : x.1 with
  | zero=>exact ⟨by dsimp only;omega,by dsimp only;omega⟩
  | succ k =>
   dsimp only
   cases wt s with
   | none=>exact ⟨by dsimp only;omega,by dsimp only;omega⟩
   | some w =>
    dsimp only
    have e : (k,x.2++[w]).1 ≤ k + 1 ∧ (k,x.2++[w]).2.length + (k,x.2++[w]).1 ≤ x.2.length + (k + 1):=⟨by dsimp only;omega,by dsimp only;rw [List.length_append,List.length_singleton];omega⟩
    generalize br z w = L at *
    generalize ([] : List Int) = pre
    generalize (k,x.2++[w]) = y at *
    induction L generalizing pre y with
    | nil=>exact e
    | cons i L ihL =>
     rw [huGo]
     have h:=ih (add s i) (z++pre) y
     split
     ·rename_i x' o hx'
      rw [hx'] at h
      dsimp only at h ⊢
      exact ⟨by omega,by omega⟩
     ·rename_i x' hx'
      rw [hx'] at h
      dsimp only at h
      exact ihL _ _ ⟨by omega,by omega⟩
theorem hu_tree {p m N : Nat} {md lost away : List Int} {rows : List (List Int)} (hg : ∀ s w,(∀ x ∈ s,0 ≤ x ∧ x < (N : Int)) → wt s = some w → gdB p m md N rows lost w s = true) : ∀ (d : Nat) (s z : List Int) (x x' : Nat × List (List Int)),(∀ x ∈ s,0 ≤ x ∧ x < (N : Int)) → huT apI wt (fun z w=>brL lost away z w N) d s z x = (x',none) → ∃ U,x'.2 = x.2++U ∧ ∀ t,htT p m md N rows lost away d s z (U++t) = some t:=by
 intro d
 induction d with
 | zero =>
  intro s z x x' hr h
  rw [huT] at h
  cases hx : x.1 with
  | zero=>rw [hx] at h;cases h
  | succ k =>
   rw [hx] at h
   dsimp only at h
   cases hw : wt s with
   | none=>rw [hw] at h;cases h
   | some w =>
    rw [hw] at h
    cases h
    exact ⟨[w],rfl,fun t=>by rw [List.singleton_append,htT,if_pos (hg s w hr hw)]⟩
 | succ d ih =>
  intro s z x x' hr h
  rw [huT] at h
  cases hx : x.1 with
  | zero=>rw [hx] at h;cases h
  | succ k =>
   rw [hx] at h
   dsimp only at h
   cases hw : wt s with
   | none=>rw [hw] at h;cases h
   | some w =>
    rw [hw] at h
    dsimp only at h
    have key : ∀ (L pre : List Int) (y : Nat × List (List Int)),(∀ x ∈ L,0 ≤ x ∧ x < (N : Int)) → huGo apI (huT apI wt (fun z w=>brL lost away z w N) d) s z pre L y = (x',none) → ∃ U,x'.2 = y.2++U ∧ ∀ t,htGo (htT p m md N rows lost away d) s z pre L (U++t) = some t:=by
     intro L
     induction L with
     | nil=>intro pre y _ h;cases h;exact ⟨[],by simp,fun t=>rfl⟩
     | cons i L ihL =>
      intro pre y hL h
      rw [huGo] at h
      split at h
      ·cases h
      ·rename_i y' hy'
       obtain ⟨U,hU,hU2⟩:=ih _ _ _ _ (fun x hx=>by
        rcases List.mem_append.1 hx with hx | hx
        ·exact hr x hx
        ·rw [List.mem_singleton.1 hx];exact hL i (.head _)) hy'
       obtain ⟨V,hV,hV2⟩:=ihL _ _ (fun x hx=>hL x (.tail _ hx)) h
       refine ⟨U++V,by rw [hV,hU,List.append_assoc],fun t=>?_⟩
       rw [htGo,List.append_assoc,show htT p m md N rows lost away d (s++[i]) (z++pre) _ = _ from hU2 (V++t)]
       exact hV2 t
    obtain ⟨U,hU,hU2⟩:=key _ _ _ (fun x hx=>by
     obtain ⟨i,rfl,hi,_⟩:=brL_mem.1 hx
     exact ⟨by omega,by omega⟩) h
    refine ⟨w::U,by rw [hU];simp,fun t=>?_⟩
    rw [List.cons_append,htT,if_pos (hg s w hr hw)]
    exact hU2 t
theorem hu_found {Q : Int → Prop} (hb : ∀ s z w,wt s = some w → ∀ y ∈ br z w,y ∉ s ∧ Q y) : ∀ (d : Nat) (s z : List Int) (x x' : Nat × List (List Int)) (s' : List Int),huT apI wt br d s z x = (x',some (some s')) → s.Nodup → wt s' = none ∧ s'.length ≤ s.length + d ∧ s'.Nodup ∧ ∀ y ∈ s',y ∈ s ∨ Q y:=by
 intro d
 induction d with
 | zero =>
  intro s z x x' s' h hn
  rw [huT] at h
  cases hx : x.1 with
  | zero=>rw [hx] at h;cases h
  | succ k =>
   rw [hx] at h
   dsimp only at h
   cases hw : wt s with
   | none=>rw [hw] at h;cases h;exact ⟨hw,by omega,hn,fun y hy=>.inl hy⟩
   | some w=>rw [hw] at h;cases h
 | succ d ih =>
  intro s z x x' s' h hn
  rw [huT] at h
  cases hx : x.1 with
  | zero=>rw [hx] at h;cases h
  | succ k =>
   rw [hx] at h
   dsimp only at h
   cases hw : wt s with
   | none=>rw [hw] at h;cases h;exact ⟨hw,by omega,hn,fun y hy=>.inl hy⟩
   | some w =>
    rw [hw] at h
    dsimp only at h
    have hb':=hb s z w hw
    generalize br z w = L at *
    generalize ([] : List Int) = pre at h
    generalize (k,x.2++[w]) = y at h
    induction L generalizing pre y with
    | nil=>cases h
    | cons i L ihL =>
     rw [huGo] at h
     split at h
     ·rename_i y' o hy'
      cases h
      obtain ⟨hi,hq⟩:=hb' i (.head _)
      obtain ⟨h1,h2,h3,h4⟩:=ih _ _ _ _ _ hy' (by
       rw [apI,List.nodup_append]
       exact ⟨hn,(by simp),fun a ha b hb e=>by rw [List.mem_singleton] at hb;subst hb;subst e;exact hi ha⟩)
      refine ⟨h1,by rw [apI,List.length_append,List.length_singleton] at h2;omega,h3,fun y hy=>?_⟩
      rcases h4 y hy with h | h
      ·rcases List.mem_append.1 h with h | h
       ·exact .inl h
       ·rw [List.mem_singleton.1 h];exact .inr hq
      ·exact .inr h
     ·exact ihL (fun y hy=>hb' y (.tail _ hy)) _ _ h
end
open Go Go.Fw
set_option maxRecDepth 100000
set_option linter.unusedVariables false
set_option linter.unusedSimpArgs false
set_option maxHeartbeats 0
section
variable {add : List Int → Int → List Int} {wt : List Int → Option (List Int)} {br : List Int → List Int → List Int} {d k : Nat} {s z w : List Int} {T : List (List Int)}
theorem huT_out : huT add wt br d s z (0,T) = ((0,T),some none):=by cases d <;> rfl
theorem huT_none (h : wt s = none) : huT add wt br d s z (k + 1,T) = ((k,T),some (some s)):=by cases d <;> (rw [huT];dsimp only;rw [h])
theorem huT_leaf (h : wt s = some w) : huT add wt br 0 s z (k + 1,T) = ((k,T++[w]),none):=by rw [huT];dsimp only;rw [h]
theorem huT_go (h : wt s = some w) : huT add wt br (d + 1) s z (k + 1,T) = huGo add (huT add wt br d) s z [] (br z w) (k,T++[w]):=by rw [huT];dsimp only;rw [h]
end
theorem win_issueS {P : Program} {F : Fun P} {C : Cx} {S : List It} {R : Value → World → Prop} {β : List Blk} {Γ : List Fact} {it : List (TypeId × IntKind)} {p : List Nat} {σ : Fr} {i : Nat} (hit : IntTys P it) {A : List Nat} {m : Nat} {o : Oper} {dd : Tmp} {u : Value} {q : Prop} (ho : nth (opsOf (sub p F.B)) i = some o) (hg : o.guard = none) (hd : o.dst = some dd) (hlt : Nat.blt dd F.fn.ntmps = true) (hp : pev it σ o.op = some (u,q)) (hq : q)
  (hw : WIN F C p A m (i + 1) S (putF (some dd) u σ) β Γ R) (hL : LateAll it F.fn.ntmps (opsOf (sub p F.B)) A σ (A.filter fun j=>Nat.blt j i)) (hi : memB i A = true:=by rfl) : WIN F C p A (m + 1) i S σ β Γ R:=by
 have hiA:=memB_iff.1 hi
 intro pend sched hpA hnd hI w hO hG
 have hil : i < (opsOf (sub p F.B)).length:=by
  rw [nth_eq] at ho
  exact (List.getElem?_eq_some_iff.1 ho).1
 have hoarr : (opsOf (sub p F.B)).toArray[i]? = some o:=by
  rw [nth_eq] at ho
  simpa using ho
 have hdj : dstAt (opsOf (sub p F.B)) i = some dd:=by simp [dstAt,ho,hd]
 have ee : i + (m + 1) = i + 1 + m:=by omega
 -- issued
 have issued : ∀ (pend l : List Nat) (a : Act),(∀ j ∈ pend,j ∈ A ∧ j < i) → pend.Nodup → Inter (opsOf (sub p F.B)) A (i + 1 + m) (i::pend) (i + 1) l → a.tmps.size = F.fn.ntmps → a.defers = [] →
   (∀ t v,(∀ j ∈ pend,dstAt (opsOf (sub p F.B)) j ≠ some t) → Fr.get t σ = some v → a.tmps[t]? = some v) → At F (.inRegion (opsOf (sub p F.B)).toArray l::S.map (It.item F.B)) a w R:=by
  intro pend l a hpA hnd hI hsz hdf hfr
  refine hw (i::pend) l (fun j hj=>?_) (List.nodup_cons.2 ⟨fun h=>by have:=(hpA i h).2;omega,hnd⟩) hI w hO hG a hsz hdf fun t x hno hx=>?_
  ·rcases List.mem_cons.1 hj with rfl | hj
   ·exact ⟨hiA,by omega⟩
   ·exact ⟨(hpA j hj).1,by have:=(hpA j hj).2;omega⟩
  ·have hne : dd ≠ t:=fun e=>hno i (.head _) (by rw [hdj,e])
   simp only [putF,Fr.get] at hx
   have hb : Nat.beq dd t = false:=by
    cases hb : Nat.beq dd t with
    | true=>exact absurd (Nat.eq_of_beq_eq_true hb) hne
    | false=>rfl
   rw [hb] at hx
   exact hfr t x (fun j hj=>hno j (.tail _ hj)) hx
 have key : ∀ n (pend sched : List Nat),pend.length = n → (∀ j ∈ pend,j ∈ A ∧ j < i) → pend.Nodup → Inter (opsOf (sub p F.B)) A (i + (m + 1)) pend i sched → ∀ a : Act,a.tmps.size = F.fn.ntmps → a.defers = [] →
   (∀ t v,(∀ j ∈ pend,dstAt (opsOf (sub p F.B)) j ≠ some t) → Fr.get t σ = some v → a.tmps[t]? = some v) → At F (.inRegion (opsOf (sub p F.B)).toArray sched::S.map (It.item F.B)) a w R:=by
  intro n
  induction n with
  | zero =>
   intro pend sched hl hpA hnd hI a hsz hdf hfr
   have : pend = []:=List.eq_nil_of_length_eq_zero hl
   subst this
   cases hI with
   | done =>
    have er : List.range' i ((opsOf (sub p F.B)).length - i) = i::List.range' (i + 1) ((opsOf (sub p F.B)).length - (i + 1)):=by
     have e : (opsOf (sub p F.B)).length - i = ((opsOf (sub p F.B)).length - (i + 1)) + 1:=by omega
     rw [e,List.range'_succ]
    rw [er]
    have hfit : Fits F.fn.ntmps σ a:=⟨hsz,hdf,fun t v hv=>hfr t v (fun j hj=>by cases hj) hv⟩
    have hpe:=pev_sound (P:=P) hit (ty:=o.type) hp hq w a.eval fun x v hv=>hfit.eval hv
    have hdlt : dd < a.tmps.size:=by rw [hsz];exact Nat.le_of_ble_eq_true hlt
    refine At_op hoarr (by simp [Region.wanted,hg]) (post:=fun v w'=>v = u ∧ w' = w) (by rw [execOp_bare,hpe];exact ⟨rfl,rfl⟩) ?_
    rintro v w' ⟨rfl,rfl⟩
    rw [hd]
    refine hw [] _ (fun j hj=>by cases hj) List.nodup_nil .done w' hO hG _ (by simp [Act.put,hsz]) (by simp [Act.put,hdf]) fun t x _ hx=>?_
    simp only [putF,Fr.get] at hx
    by_cases e : dd = t
    ·subst e
     rw [Nat.beq_refl] at hx
     rw [← Option.some.inj hx]
     simp [Act.put,hdlt]
    ·have hb : Nat.beq dd t = false:=by
      cases hb : Nat.beq dd t with
      | true=>exact absurd (Nat.eq_of_beq_eq_true hb) e
      | false=>rfl
     rw [hb] at hx
     simp only [Act.put]
     rw [Array.getElem?_setIfInBounds_ne e]
     exact hfr t x (fun j hj=>by cases hj) hx
   | pend hj _ _=>cases hj
   | tail _ _ h _=>exact absurd hiA h
   | issue _ _ _ hI'=>rw [ee] at hI';exact issued [] _ a hpA hnd hI' hsz hdf hfr
  | succ n ih =>
   intro pend sched hl hpA hnd hI a hsz hdf hfr
   cases hI with
   | done=>simp at hl
   | pend hj hdp hI' =>
    exact win_late hit hL hpA hj hdp hsz hdf hfr fun a' h1 h2 h3=>ih _ _ (by rw [List.length_erase_of_mem hj];omega) (fun j' hj'=>hpA j' (List.mem_of_mem_erase hj')) (hnd.erase _) hI' a' h1 h2 h3
   | tail _ _ h _=>exact absurd hiA h
   | issue _ _ _ hI'=>rw [ee] at hI';exact issued pend _ a hpA hnd hI' hsz hdf hfr
 exact fun a=>key _ pend sched rfl hpA hnd hI a
theorem x_app0 {P : Program} {C : Cx} {σ : Fr} {β : List Blk} {Γ : List Fact} {ty : TypeId} {K : Value → List Blk → List Fact → Prop} {t e : TypeId} {x y : Operand} {pa py : Option Addr} {n ca cy sz : Nat} (hx : ev σ x = some (.slice pa n ca)) (hy : ev σ y = some (.slice py 0 cy)) (hT : slTy P t = some (e,sz)) (hle : n ≤ ca) (h : K (.slice pa n ca) β Γ) :
  Jop P C (.call { callee:=.builtin .append,args:=#[x,y],argTypes:=#[t,t] }) ty σ β Γ K:=fun w hO hG=>by
 obtain ⟨hu,i,hi,_⟩:=slTy_some hT
 exact Ex_append hx hy (run_append_zero hu hi hle) ⟨_,_,h,hO,hG⟩
section
variable {p m N nm cm n c nl cl nh ch : Nat} {pm ps pl ph : Option Addr} {md lost hs w : List Int} {rows : List (List Int)}
theorem S_wt_none (CC : Cok p m md N rows) (hlo : stP N lost) (h : wtP p m md N rows lost (srL N hs) = none) : Ctr Tryz.prog 49 [.agg #[.int .i64 p,.int .i64 m,.slice pm nm cm,.int .i64 N,.slice ps n c],.slice pl nl cl,.slice ph nh ch] [] [slF I64 pm nm cm md,slF (encSl I64) ps n c rows,slF I64 pl nl cl lost,slF I64 ph nh ch hs] (Rv (.slice none 0 0) []) :=
 (S_repair_witnessS CC hlo).mono fun C w v Φ β' ⟨pa,k,ca,hv,hΦ,hβ,h1,h2⟩ hO _=>by
  obtain rfl:=h1.2 h
  obtain ⟨rfl,rfl⟩:=h2 h
  exact ⟨_,_,⟨hv,rfl,rfl⟩,hβ ▸ hO,fun g hg=>by cases hg⟩
theorem S_wt_some (CC : Cok p m md N rows) (hlo : stP N lost) (h : wtP p m md N rows lost (srL N hs) = some w) : Ctr Tryz.prog 49 [.agg #[.int .i64 p,.int .i64 m,.slice pm nm cm,.int .i64 N,.slice ps n c],.slice pl nl cl,.slice ph nh ch] [] [slF I64 pm nm cm md,slF (encSl I64) ps n c rows,slF I64 pl nl cl lost,slF I64 ph nh ch hs] (fun v Φ β=>∃ pa k ca,v = .slice pa k ca ∧ Φ = [slF I64 pa k ca w] ∧ β = []) :=
 (S_repair_witnessS CC hlo).mono fun C w' v Φ β' ⟨pa,k,ca,hv,hΦ,hβ,h1,h2⟩ hO hF=>by
  refine ⟨_,_,⟨pa,k,ca,hv,rfl,rfl⟩,hβ ▸ hO,fun g hg=>?_⟩
  obtain rfl:=List.mem_singleton.1 hg
  have h3:=hF _ (hΦ ▸ List.mem_singleton.2 rfl)
  rw [h] at h3
  exact hβ ▸ h3
end
abbrev NoA (Hb : Nat → Row → Nat → Blk) (k : Nat) (T : List (List Int)) (g : Bool) : Value → List Fact → List Blk → Prop:=fun v Φ β=>∃ r : Row,v = .tuple #[.slice none 0 0,.bool g] ∧ Φ = [rowF (encSl I64) r T.length T] ∧ β = [Hb k r T.length,(r.bo,22,r.cs)]
abbrev NoS (Hb : Nat → Row → Nat → Blk) (k : Nat) (T : List (List Int)) (l : List Int) : Value → List Fact → List Blk → Prop:=fun v Φ β=>∃ (r : Row) (b2 c2 : Nat) (cs2 : List Value),v = .tuple #[.slice (some ⟨b2,0,none⟩) l.length c2,.bool true] ∧ Φ = [rowF (encSl I64) r T.length T,rowF I64 ⟨some b2,c2,cs2⟩ l.length l] ∧ β = [Hb k r T.length,(r.bo,22,r.cs),(some b2,3,cs2)]
def NoQ (Hb : Nat → Row → Nat → Blk) (x : (Nat × List (List Int)) × Option (Option (List Int))) : Value → List Fact → List Blk → Prop :=
 match x.2 with
 | none=>NoA Hb x.1.1 x.1.2 false
 | some none=>NoA Hb x.1.1 x.1.2 true
 | some (some l)=>NoS Hb x.1.1 x.1.2 l
section
variable {p m N : Nat} {md lost away : List Int} {rows : List (List Int)}
abbrev huP (p m N : Nat) (md lost away : List Int) (rows : List (List Int)) : Nat → List Int → List Int → Nat × List (List Int) → (Nat × List (List Int)) × Option (Option (List Int)):=huT apI (fun s=>wtP p m md N rows lost (srL N s)) (fun z w=>brL lost away z w N)
theorem S_repair_hunt__node (CC : Cok p m md N rows) (hlo : stP N lost) : ∀ (d : Nat) {s z : List Int} {k : Nat} {T : List (List Int)} {b nm cm n c nl cl na ca ns cs nz cz' W : Nat} {pm ps pl pa pS pz : Option Addr} {r : Row},
  W = s.length + d → W ≤ 1000 → z.length + 100 * d ≤ 200000 → s.length ≤ 1000 → (∀ x ∈ s,0 ≤ x ∧ x < (N : Int)) → T.length + k ≤ 100000 →
  Ctr Tryz.prog 51 [.pointer (some ⟨b,0,none⟩),.slice pS ns cs,.slice pz nz cz'] [(some b,83,[.int .i64 p,.int .i64 m,.slice pm nm cm,.int .i64 N,.slice ps n c,.slice pl nl cl,.slice pa na ca,.int .i64 W,.int .i64 (k : Nat),.slice (ad r.bo) T.length r.cap]),(r.bo,22,r.cs)]
   [slF I64 pm nm cm md,slF (encSl I64) ps n c rows,slF I64 pl nl cl lost,slF I64 pa na ca away,slF I64 pS ns cs s,slF I64 pz nz cz' z,rowF (encSl I64) r T.length T]
   (NoQ (fun k r t=>(some b,83,[.int .i64 p,.int .i64 m,.slice pm nm cm,.int .i64 N,.slice ps n c,.slice pl nl cl,.slice pa na ca,.int .i64 W,.int .i64 (k : Nat),.slice (ad r.bo) t r.cap])) (huP p m N md lost away rows d s z (k,T))):=by
 intro d
 induction d using Nat.strongRecOn with
 | ind d ihd =>
 intro s z k T b nm cm n c nl cl na ca ns cs nz cz' W pm ps pl pa pS pz r hW hW2 hz hsl hs hT
 refine Ctr_of_j' (F:=F_repair_hunt__node) rfl fun C=>?_
 refine j_len 4 rfl fun hn _ _=>?_
 subst hn
 refine j_len 5 rfl fun hn _ _=>?_
 subst hn
 have h64:=CC.n64
 cases k with
 | zero =>
  rw [show huP p m N md lost away rows d s z (0,T) = ((0,T),some none) from huT_out]
  refine wk 12 cz ?_
  intro h1
  refine j_givK 2 [0,1] [6] rfl (.tmp rfl (.tmp rfl .nil)) rfl rfl rfl ⟨r,rfl,rfl,rfl⟩
 | succ k =>
  have hk : ((k + 1 : Nat) : Int) - 1 = (k : Int):=by omega
  cases hw : wtP p m md N rows lost (srL N s) with
  | none =>
   rw [show huP p m N md lost away rows d s z (k + 1,T) = ((k,T),some (some s)) from huT_none hw]
   have c_repair_witness:=fun {nm cm n c nl cl nh ch : Nat} {pm ps pl ph : Option Addr}=>S_wt_none (nm:=nm) (cm:=cm) (n:=n) (c:=c) (nl:=nl) (cl:=cl) (nh:=nh) (ch:=ch) (pm:=pm) (ps:=ps) (pl:=pl) (ph:=ph) CC hlo hw
   by_cases hs0 : s.length = 0
   ·obtain rfl:=List.length_eq_zero_iff.1 hs0
    refine wk 21 (ct @c_repair_witness cz) ?_
    intro h1
    refine j_step rfl (x_eqnilN sl22 rfl rfl ?_)
    refine wk 5 cz ?_
    intro b1
    refine j_step rfl (x_app0 rfl rfl sl22 (Nat.zero_le _) ?_)
    refine wk 2 cz ?_ --ok
    (apply j_rowlit (E:=encInt IntKind.i64 8) (n:=0) (cs:=[]) [] [] 0 (fun w A hG=>allrd_nil);(· rfl);(· rfl);(· rfl);(· rfl);(· decide))
    refine j_givK 3 [1,2,0] [7,0] rfl (.tmp rfl (.tmp rfl .nil)) rfl rfl rfl ⟨r,b1,0,[],rfl,rfl,?_⟩
    rw [hk]
    rfl
   ·have hs1 : 0 < s.length:=by omega
    refine wk 21 (ct @c_repair_witness cz) ?_
    intro h1
    refine j_step rfl (x_eqnilN sl22 rfl rfl ?_)
    refine wk 5 cz ?_
    intro b1
    (apply j_rowlit (E:=encInt IntKind.i64 8) (n:=0) (cs:=[]) [] [] 0 (fun w A hG=>allrd_nil);(· rfl);(· rfl);(· rfl);(· rfl);(· decide))
    refine j_step rfl (x_appS 0 0 5 rfl rfl rfl rfl rfl sl22 zo22e rfl (by omega) _ by22e (by omega) fun r1=>?_)
    refine wk 2 cz ?_ --ok
    refine j_rowB 0 rfl (by omega) fun b2 c2 cs2 hr1=>?_
    subst hr1
    refine j_givK 3 [1,2,0] [8,0] rfl (.tmp rfl (.tmp rfl .nil)) rfl rfl rfl ⟨r,b2,c2,cs2,?_,?_,?_⟩
    ·show Value.tuple #[.slice (some ⟨b2,0,none⟩) (0 + s.length) c2,.bool true] = _
     rw [Nat.zero_add]
    ·show [rowF (encSl I64) r T.length T,rowF I64 ⟨some b2,c2,cs2⟩ (0 + s.length) ([]++s)] = _
     rw [Nat.zero_add,List.nil_append]
    ·rw [hk]
     rfl
  | some w =>
   have c_repair_witness:=fun {nm cm n c nl cl nh ch : Nat} {pm ps pl ph : Option Addr}=>S_wt_some (nm:=nm) (cm:=cm) (n:=n) (c:=c) (nl:=nl) (cl:=cl) (nh:=nh) (ch:=ch) (pm:=pm) (ps:=ps) (pl:=pl) (ph:=ph) CC hlo hw
   obtain ⟨hww,_,hw0⟩:=wt_word CC hw hs
   have hwl:=hww.1
   have hn1:=CC.n1
   refine j_nf [_,_] rfl ?_
   refine j_run it 2 rfl (by simp) ?_
   refine j_nf [_,_,_] rfl ?_
   refine j_run it 2 rfl (by simp) ?_
   refine j_step rfl (x_field rfl fd83_4 ?_)
   refine j_step rfl (x_bld 0 rfl rfl ld3 rfl ?_)
   refine j_run it 1 rfl (by simp) ?_
   refine j_nf [_,_] rfl ?_
   refine j_if rfl rfl (fun h1=>by exfalso;omega) (fun h1=>?_)
   refine j_nf [_,_] rfl ?_
   refine j_run it 2 rfl (by simp) ?_
   refine j_step rfl (x_field rfl fd83_4 ?_)
   refine j_step rfl (x_bld 0 rfl rfl ld3 rfl ?_)
   refine j_run it 2 rfl ⟨trivial,⟨by omega,by omega⟩,trivial⟩ ?_
   refine j_step rfl (x_field rfl fd83_4 ?_)
   refine j_step rfl (x_bst1 0 rfl rfl rfl rfl ld3 rfl (Nat.le_of_ble_eq_true rfl) ?_)
   refine j_nf [_,_] rfl ?_
   (apply j_drawK it mx 10;(· rfl);(· rfl))
   (apply lxk_run 2;(· rfl);(· simp))
   (apply lxk_eq;(· rfl);(· exact d_x fun _=>x_field rfl fd83_0 dk_eq))
   (apply lxk_eq;(· rfl);(· exact d_bld_agg 0 rfl rfl ld27 rfl rfl))
   (apply lxk_run 2;(· rfl);(· simp))
   (apply lxk_eq;(· rfl);(· exact d_x fun _=>x_field rfl fd83_1 dk_eq))
   (apply lxk_eq;(· rfl);(· exact d_bld 0 rfl rfl ld22 rfl))
   (apply lxk_run 1;(· rfl);(· simp))
   (apply lxk_fa (val:=(fun g=>Value.slice (g 0).fst (g 1).snd.fst (g 2).snd.fst)) (f:=(fun g=>[slF I64 (g 0).fst (g 1).snd.fst (g 2).snd.fst w]));(· rfl);(· exact d_x fun _=>x_call [0,1,2,4] rfl (c_repair_witness) rfl (by rintro _ _ _ ⟨pag0,kg1,cag2,rfl,rfl,rfl⟩;exact fun _ _ _ hG=>⟨(fun | 0=>(pag0,0,0,[]) | 1=>(none,kg1,0,[]) | 2=>(none,cag2,0,[]) | _=>default),rfl,fun g hg=>drop_own (hG _ (List.mem_append_left _ hg))⟩));intro g1;dsimp only [List.map_cons,List.map_nil])
   refine lxk_end rfl ?_
   simp only [List.map_cons,List.map_nil,List.cons_append,List.nil_append]
   refine j_run it 1 rfl (by simp) ?_
   refine j_nf [_,_,_] rfl ?_
   refine j_run it 1 rfl (by simp) ?_ --ok
   generalize (g1 0).1 = pw at *
   generalize (g1 1).2.1 = nw at *
   generalize (g1 2).2.1 = cw at *
   refine j_len 0 rfl fun hn _ _=>?_
   subst hn
   refine j_slsome 0 rfl (by omega) fun b1 o1 hpa=>?_
   subst hpa
   have hTl : (T++[w]).length = T.length + 1:=by rw [List.length_append];rfl
   cases d with
   | zero =>
    rw [show huP p m N md lost away rows 0 s z (k + 1,T) = ((k,T++[w]),none) from huT_leaf hw]
    have hWs : s.length = W:=by omega
    refine j_step rfl (x_eqnilS sl22 rfl rfl ?_)
    refine wk 8 cz ?_
    intro b2
    refine j_step rfl (x_appR (z:=w) 2 0 7 rfl rfl rfl rfl rfl sl25 zo25e rfl (fun w A hG=>(rd_of_slF (hG _ (fact_mem (n:=0) rfl)))) (by omega) _ by25e (by omega) fun r1=>?_)
    refine wk 15 cz ?_
    intro h2 --ok
    refine j_givK 3 [2,0] [0] rfl (.tmp rfl (.tmp rfl .nil)) rfl rfl rfl ⟨r1,rfl,?_,?_⟩
    ·show [rowF (encSl I64) r1 (T.length + 1) (T++[w])] = _
     rw [hTl]
    ·rw [hk,← hTl]
     rfl
   | succ d =>
    have hWs : s.length ≠ W:=by omega
    have c_repair_branches:=fun {pw pl pa pz : Option Addr} {nw cw nl cl na ca nz cz' : Nat}=>(S_repair_branches (pw:=pw) (pl:=pl) (pa:=pa) (pz:=pz) (nw:=nw) (cw:=cw) (nl:=nl) (cl:=cl) (na:=na) (ca:=ca) (nz:=nz) (cz':=cz') (w:=w) (lost:=lost) (away:=away) (z:=z) (by omega)).pubR (by have:=brL_le (lost:=lost) (away:=away) (z:=z) (w:=w) (n:=w.length);show _ * 8 ≤ 140737488355328;omega)
    refine j_step rfl (x_eqnilS sl22 rfl rfl ?_)
    refine wk 8 cz ?_
    intro b2
    refine j_step rfl (x_appR (z:=w) 2 0 7 rfl rfl rfl rfl rfl sl25 zo25e rfl (fun w A hG=>(rd_of_slF (hG _ (fact_mem (n:=0) rfl)))) (by omega) _ by25e (by omega) fun r1=>?_)
    refine wk 20 (ct @c_repair_branches cz) ?_
    intro h2 pa1 ca1 --ok
    rw [show huP p m N md lost away rows (d + 1) s z (k + 1,T) = huGo apI (huP p m N md lost away rows d) s z [] (brL lost away z w N) (k,T++[w]) from huT_go hw]
    rw [hwl]
    have hLl:=brL_le (lost:=lost) (away:=away) (z:=z) (w:=w) (n:=N)
    have hLm:=fun x=>brL_mem (lost:=lost) (away:=away) (z:=z) (w:=w) (n:=N) (x:=x)
    generalize brL lost away z w N = L at *
    simp only [List.cons_append,List.nil_append]
    refine j_loopG (X:=Nat × Row × Nat × List (List Int)) [0,1,2,9,69,70] [0,1,2,3,4,5,6,7,8,9] (fun x=>[(71,.int .i64 (x.1 : Int))]) (fun x=>[(x.2.1.bo,22,x.2.1.cs),(some b2,22,[.slice (some ⟨b1,o1,none⟩) N cw]),(some b,83,[.int .i64 p,.int .i64 m,.slice pm nm cm,.int .i64 N,.slice ps n c,.slice pl nl cl,.slice pa na ca,.int .i64 W,.int .i64 (x.2.2.1 : Nat),.slice (ad x.2.1.bo) x.2.2.2.length x.2.1.cap])]) (fun x=>[rowF (encSl I64) x.2.1 x.2.2.2.length x.2.2.2]) (fun v=>v.1 ≤ L.length ∧ v.2.2.2.length + v.2.2.1 ≤ 100000 ∧ huGo apI (huP p m N md lost away rows d) s z [] L (k,T++[w]) = huGo apI (huP p m N md lost away rows d) s z (L.take v.1) (L.drop v.1) (v.2.2.1,v.2.2.2)) (fun v=>L.length - v.1) (0,r1,k,T++[w]) [1] rfl rfl rfl ⟨Nat.zero_le _,by show (T++[w]).length + k ≤ 100000;omega,rfl⟩ (by repeat (first | exact Fr.sub_nil _ | refine Fr.sub_cons rfl ?_)) ?_ ?_ ?_
    ·rw [hk,← hTl]
     rfl
    ·rw [← hTl]
     rfl
    rintro ⟨i,r2,k2,T2⟩ ⟨hi,hTk,hg⟩ ih
    simp only [List.cons_append,List.nil_append] at hi hTk hg ih ⊢
    by_cases hil : i < L.length
    ·obtain ⟨y,at_y⟩ : ∃ y,L[i]? = some y:=⟨_,List.getElem?_eq_getElem hil⟩
     have hy:=List.mem_of_getElem? at_y
     have hLr : ∀ y ∈ L,0 ≤ y ∧ y < (N : Int):=fun y hy=>by
      obtain ⟨i,rfl,hi,_⟩:=(hLm y).1 hy
      exact ⟨by omega,by omega⟩
     have e1 : (s++[y]).length = s.length + 1:=by simp
     have e2 : (z++L.take i).length = z.length + i:=by rw [List.length_append,List.length_take];omega
     have hz3 : z.length ≤ 200000:=by omega
     have hs3 : s.length ≤ 1000:=by omega
     have c_repair_with:=fun {ps px : Option Addr} {n c k d : Nat} {l x : List Int} (hl : (l++x).length ≤ 1000000)=>(S_repair_with (ps:=ps) (px:=px) (n:=n) (c:=c) (k:=k) (d:=d) hl).pubR (by show _ * 8 ≤ 140737488355328;omega)
     have e3 : L.drop i = y::L.drop (i + 1):=by
      rw [List.drop_eq_getElem_cons hil];rw [List.getElem?_eq_getElem hil] at at_y;rw [Option.some.inj at_y]
     have e4 : L.take (i + 1) = L.take i++[y]:=by rw [List.take_add_one,at_y];rfl
     rw [e3,huGo] at hg
     refine wk 7 cz ?_
     intro h3 b3 o2 hz1
     refine j_step rfl (x_ld_int 0 rfl rfl ld3 fun ⟨r3,r4⟩=>?_)
     refine wk 2 cz ?_
     refine j_selT 3 [2,0,1] rfl rfl ?_
     simp only [List.cons_append,List.nil_append,List.drop_succ_cons,List.drop_zero]
     (apply j_drawKW (x0:=none) it mx 0 10 [12,13,14] 5;(· rfl);(· rfl);(· rfl);(· decide))
     simp only [List.drop_zero]
     (apply lxk_run 3;(· rfl);(· simp))
     (apply lxk_sl;(· rfl);(· exact d_x fun _=>x_lit sl22 zo22e rfl rfl rfl rfl (by decide) (by decide) rfl fun b4=>dk_all (E:=I64) [[Value.int IntKind.i64 y]] [y] (fun w A hG=>(allrd_cons ⟨rfl,by first | assumption | (simp only [InR];omega)⟩ allrd_nil)) rfl rfl rfl (by first | decide | exact Nat.le_of_ble_eq_true rfl));intro pa2 ca2)
     (apply lxk_sl;(· rfl);(· exact d_x fun _=>x_call [10,0] rfl (c_repair_with (by omega)) rfl (by rintro _ _ _ ⟨pa3,ca3,rfl,rfl,rfl⟩;exact (dk_sl 0 rfl)));intro pa3 ca3)
     (apply lxk_run 3;(· rfl);(· simp))
     (apply lxk_sl;(· rfl);(· exact d_x fun _=>x_slice_h 2 (i) rfl rfl rfl sl22 (by omega) (by omega) (dk_sl 0 rfl));intro pa4 ca4)
     (apply lxk_sl;(· rfl);(· exact d_x fun _=>x_call [13,0] rfl (c_repair_with (by omega)) rfl (by rintro _ _ _ ⟨pa5,ca5,rfl,rfl,rfl⟩;exact (dk_sl 0 rfl)));intro pa5 ca5) --ok
     refine lxk_endW rfl ?_
     rotate_left
     rfl
     simp only [List.map_nil,List.map_cons,List.cons_append,List.nil_append]
     have hle : (huP p m N md lost away rows d (apI s y) (z++L.take i) (k2,T2)).1.1 ≤ k2 ∧ (huP p m N md lost away rows d (apI s y) (z++L.take i) (k2,T2)).1.2.length + (huP p m N md lost away rows d (apI s y) (z++L.take i) (k2,T2)).1.1 ≤ T2.length + k2:=hu_le d _ _ _
     refine win_step it rfl rfl True.intro (x_callN 2 [9,10,11,12,2,0,5] rfl rfl (ihd d (Nat.lt_succ_self d) (s:=s++[y]) (z:=z++L.take i) (k:=k2) (T:=T2) (W:=W) (by omega) hW2 (by omega) (by omega) (fun v hv=>by
      rcases List.mem_append.1 hv with hv | hv
      ·exact hs v hv
      ·rw [List.mem_singleton.1 hv];exact hLr y hy) (by omega)) rfl ?_)
     intro v Φ β' hQ
     rw [show s++[y] = apI s y from rfl] at hQ
     generalize huP p m N md lost away rows d (apI s y) (z++L.take i) (k2,T2) = x at hQ hg hle
     obtain ⟨⟨k3,T3⟩,o⟩:=x
     dsimp only at hg hle
     cases o with
     | none =>
      obtain ⟨r3,rfl,rfl,rfl⟩:=hQ
      simp only [List.drop_succ_cons,List.drop_zero,List.cons_append,List.nil_append]
      refine win_step it rfl rfl True.intro (x_pv it rfl True.intro ?_)
      refine win_issueS it rfl rfl rfl rfl rfl True.intro ?_ True.intro
      refine win_issueS it rfl rfl rfl rfl rfl True.intro ?_ ⟨⟨_,_,_,_,rfl,rfl,rfl,rfl,rfl,rfl,True.intro⟩,True.intro⟩
      refine win_issueS it rfl rfl rfl rfl rfl True.intro ?_ ⟨⟨_,_,_,_,rfl,rfl,rfl,rfl,rfl,rfl,True.intro⟩,⟨_,_,_,_,rfl,rfl,rfl,rfl,rfl,rfl,True.intro⟩,True.intro⟩
      refine win_end it ⟨⟨_,_,_,_,rfl,rfl,rfl,rfl,rfl,rfl,True.intro⟩,⟨_,_,_,_,rfl,rfl,rfl,rfl,rfl,rfl,True.intro⟩,⟨_,_,_,_,rfl,rfl,rfl,rfl,rfl,rfl,True.intro⟩,True.intro⟩ ?_
      simp only [putF]
      refine wk 8 cz ?_
      refine j_toX [1,2,0] [0,7,8,9,10,11,12,13,14,15,16] (by exact fra rfl) rfl rfl rfl (ih (i + 1,r3,k3,T3) (by dsimp only;omega) ⟨by dsimp only;omega,by dsimp only;omega,hg.trans (by rw [e4])⟩)
     | some o =>
     cases o with
     | none =>
      obtain ⟨r3,rfl,rfl,rfl⟩:=hQ
      simp only [List.drop_succ_cons,List.drop_zero,List.cons_append,List.nil_append]
      refine win_step it rfl rfl True.intro (x_pv it rfl True.intro ?_)
      refine win_issueS it rfl rfl rfl rfl rfl True.intro ?_ True.intro
      refine win_issueS it rfl rfl rfl rfl rfl True.intro ?_ ⟨⟨_,_,_,_,rfl,rfl,rfl,rfl,rfl,rfl,True.intro⟩,True.intro⟩
      refine win_issueS it rfl rfl rfl rfl rfl True.intro ?_ ⟨⟨_,_,_,_,rfl,rfl,rfl,rfl,rfl,rfl,True.intro⟩,⟨_,_,_,_,rfl,rfl,rfl,rfl,rfl,rfl,True.intro⟩,True.intro⟩
      refine win_end it ⟨⟨_,_,_,_,rfl,rfl,rfl,rfl,rfl,rfl,True.intro⟩,⟨_,_,_,_,rfl,rfl,rfl,rfl,rfl,rfl,True.intro⟩,⟨_,_,_,_,rfl,rfl,rfl,rfl,rfl,rfl,True.intro⟩,True.intro⟩ ?_
      simp only [putF]
      simp only [hg]
      refine wk 8 cz ?_
      refine j_givK 3 [0,1] [0] rfl (.tmp rfl (.tmp rfl .nil)) rfl rfl rfl ⟨r3,rfl,rfl,rfl⟩
     | some l =>
      obtain ⟨r3,b4,c4,cs4,rfl,rfl,rfl⟩:=hQ
      simp only [List.drop_succ_cons,List.drop_zero,List.cons_append,List.nil_append]
      refine win_step it rfl rfl True.intro (x_pv it rfl True.intro ?_)
      refine win_issueS it rfl rfl rfl rfl rfl True.intro ?_ True.intro
      refine win_issueS it rfl rfl rfl rfl rfl True.intro ?_ ⟨⟨_,_,_,_,rfl,rfl,rfl,rfl,rfl,rfl,True.intro⟩,True.intro⟩
      refine win_issueS it rfl rfl rfl rfl rfl True.intro ?_ ⟨⟨_,_,_,_,rfl,rfl,rfl,rfl,rfl,rfl,True.intro⟩,⟨_,_,_,_,rfl,rfl,rfl,rfl,rfl,rfl,True.intro⟩,True.intro⟩
      refine win_end it ⟨⟨_,_,_,_,rfl,rfl,rfl,rfl,rfl,rfl,True.intro⟩,⟨_,_,_,_,rfl,rfl,rfl,rfl,rfl,rfl,True.intro⟩,⟨_,_,_,_,rfl,rfl,rfl,rfl,rfl,rfl,True.intro⟩,True.intro⟩ ?_
      simp only [putF]
      simp only [hg]
      refine wk 8 cz ?_
      refine j_givK 4 [0,1,2] [0,1] rfl (.tmp rfl (.tmp rfl .nil)) rfl rfl rfl ⟨r3,b4,c4,cs4,rfl,rfl,rfl⟩
    ·obtain rfl : i = L.length:=by omega
     rw [List.take_length,List.drop_length,huGo] at hg
     simp only [hg]
     refine wk 7 cz ?_
     intro h3
     refine j_givK 3 [2,0] [0] rfl (.tmp rfl (.tmp rfl .nil)) rfl rfl rfl ⟨r2,rfl,rfl,rfl⟩
end
open Go Go.Fw
set_option maxRecDepth 100000
set_option linter.unusedVariables false
set_option linter.unusedSimpArgs false
set_option maxHeartbeats 0
def fewGo (en : List Int → Bool) : Nat → List Int → List Int
 | 0,l=>l
 | i + 1,l=>if en (l.take i++l.drop (i + 1)) = true then fewGo en i (l.take i++l.drop (i + 1)) else fewGo en i l
theorem st_less {n : Nat} {l : List Int} (h : stP n l) (i : Nat) : stP n (l.take i++l.drop (i + 1)):=by
 have hs : (l.take i++l.drop (i + 1)).Sublist l:=by
  conv=>rhs;rw [← List.take_append_drop i l]
  refine List.Sublist.append (List.Sublist.refl _) ?_
  rw [show l.drop (i + 1) = (l.drop i).drop 1 by rw [List.drop_drop]]
  exact List.drop_sublist _ _
 exact ⟨fun x hx=>h.1 x (hs.subset hx),h.2.sublist hs⟩
theorem fewGo_st {n : Nat} {en : List Int → Bool} : ∀ {i : Nat} {l : List Int},stP n l → stP n (fewGo en i l)
 | 0,_,h=>h
 | i + 1,l,h=>by
  rw [fewGo]
  split
  ·exact fewGo_st (st_less h i)
  ·exact fewGo_st h
theorem fewGo_sub {en : List Int → Bool} : ∀ {i : Nat} {l : List Int} {x : Int},x ∈ fewGo en i l → x ∈ l
 | 0,_,_,h=>h
 | i + 1,l,x,h=>by
  rw [fewGo] at h
  split at h
  ·rcases List.mem_append.1 (fewGo_sub h) with h | h
   ·exact List.mem_of_mem_take h
   ·exact List.mem_of_mem_drop h
  ·exact fewGo_sub h
theorem fewGo_en {en : List Int → Bool} : ∀ {i : Nat} {l : List Int},en l = true → en (fewGo en i l) = true
 | 0,_,h=>h
 | i + 1,l,h=>by
  rw [fewGo]
  split
  ·rename_i h2
   exact fewGo_en h2
  ·exact fewGo_en h
abbrev enP (p m : Nat) (md : List Int) (N : Nat) (rows : List (List Int)) (lost : List Int) (s : List Int) : Bool:=(wtP p m md N rows lost s).isNone
section
variable {p m N nm cm n c nl cl nh ch na ca : Nat} {pm ps pl ph pa : Option Addr} {md lost hs away : List Int} {rows : List (List Int)}
abbrev SzI (l : List Int) : Value → List Fact → List Blk → Prop:=fun v Φ β=>∃ (pa : Option Addr) (k ca : Nat),v = .slice pa k ca ∧ Φ = [slF I64 pa k ca l] ∧ β = []
theorem S_repair_spare (CC : Cok p m md N rows) (hlo : stP N lost) (hst : stP N hs) : Ctr Tryz.prog 53 [.agg #[.int .i64 p,.int .i64 m,.slice pm nm cm,.int .i64 N,.slice ps n c],.slice pl nl cl,.slice ph nh ch] [] [slF I64 pm nm cm md,slF (encSl I64) ps n c rows,slF I64 pl nl cl lost,slF I64 ph nh ch hs] (SzI (fewGo (enP p m md N rows lost) hs.length hs)):=by
 refine Ctr_of_j' (F:=F_repair_spare) rfl fun C=>?_
 refine j_len 3 rfl fun hn _ _=>?_
 subst hn
 have h64:=CC.n64
 have hn1:=CC.n1
 have hl2:=st_len hst
 refine wk 8 cz ?_
 intro b1
 simp only [List.cons_append,List.nil_append]
 refine j_loopG (X:=Nat × Option Addr × Nat × Nat × List Int) [1,3,6] [0,1,2,3] (fun x=>[(7,.int .i64 ((x.1 : Int) - 1)),(2,.slice x.2.1 x.2.2.1 x.2.2.2.1)]) (fun _=>_) (fun x=>[slF I64 x.2.1 x.2.2.1 x.2.2.2.1 x.2.2.2.2]) (fun x=>x.1 ≤ x.2.2.2.2.length ∧ stP N x.2.2.2.2 ∧ fewGo (enP p m md N rows lost) hs.length hs = fewGo (enP p m md N rows lost) x.1 x.2.2.2.2) (fun x=>x.1) (hs.length,ph,hs.length,ch,hs) [3] rfl rfl rfl ⟨Nat.le_refl _,hst,rfl⟩ (by repeat (first | exact Fr.sub_nil _ | refine Fr.sub_cons rfl ?_)) rfl rfl ?_
 rintro ⟨i,px,kx,cx,l⟩ ⟨hi,hls,hg⟩ ih
 simp only [List.cons_append,List.nil_append] at hi hls hg ih ⊢
 refine j_len 0 rfl fun hn _ _=>?_
 subst hn
 have hll:=st_len hls
 cases i with
 | zero =>
  rw [hg,fewGo]
  clear ih
  refine wk 7 cz ?_
  intro h1
  refine j_giv [0] rfl rfl rfl ⟨_,_,_,rfl,rfl,rfl⟩
 | succ i =>
  have ei : ((i + 1 : Nat) : Int) - 1 = (i : Int):=by omega
  rw [ei]
  have hls2:=st_less hls i
  have ef : [l.take i,l.drop (i + 1)].flatten = l.take i++l.drop (i + 1):=by simp
  have el : (l.take i++l.drop (i + 1)).length = l.length - 1:=by rw [List.length_append,List.length_take,List.length_drop];omega
  have c_slices_Concat___int_int_:=fun {ps : Option Addr} {n c : Nat}=>(S_slices_Concat___int_int_ (ps:=ps) (n:=n) (c:=c) (ls:=[l.take i,l.drop (i + 1)]) (by rw [ef,el];omega)).pubR (by rw [ef,el];show _ * 8 ≤ 140737488355328;omega)
  rw [ef] at c_slices_Concat___int_int_
  have e0 : srL N (l.take i++l.drop (i + 1)) = l.take i++l.drop (i + 1):=oth_oth hls2
  cases hw : wtP p m md N rows lost (l.take i++l.drop (i + 1)) with
  | none =>
   rw [fewGo,if_pos (by show (wtP p m md N rows lost _).isNone = true;rw [hw];rfl)] at hg
   have c_repair_witness:=fun {nm cm n c nl cl nh ch : Nat} {pm ps pl ph : Option Addr}=>S_wt_none (nm:=nm) (cm:=cm) (n:=n) (c:=c) (nl:=nl) (cl:=cl) (nh:=nh) (ch:=ch) (pm:=pm) (ps:=ps) (pl:=pl) (ph:=ph) (hs:=l.take i++l.drop (i + 1)) CC hlo (by rw [e0];exact hw)
   refine wk 5 cz ?_
   intro h1
   (apply j_drawK it mx 9;(· rfl);(· rfl))
   (apply lxk_run 2;(· rfl);(· simp))
   (apply lxk_sl;(· rfl);(· exact d_x fun _=>x_slice_h 0 (i) rfl rfl rfl sl22 (by omega) (by omega) (dk_sl 0 rfl));intro pa1 ca1)
   (apply lxk_run 3;(· rfl);(· exact ⟨⟨by omega,by omega⟩,trivial,trivial,trivial⟩))
   (apply lxk_sl;(· rfl);(· exact d_x fun _=>x_slice_l 0 ((i) + 1) rfl rfl rfl sl22 (by omega) (by omega) fun pa2=>(dk_sl 0 rfl));intro pa2 ca2)
   (apply lxk_sl;(· rfl);(· exact d_x fun _=>x_lit sl25 zo25e rfl rfl rfl rfl (by decide) (by decide) rfl fun b2=>dk_all (E:=(encSl (I64))) [[Value.slice pa1 i ca1],[Value.slice pa2 (l.length - (i + 1)) ca2]] [List.take i l,List.drop (i + 1) l] (fun w A hG=>(allrd_cons (rd_of_slF (hG _ (fact_mem (n:=1) rfl))) (allrd_cons (rd_of_slF (hG _ (fact_mem (n:=0) rfl))) allrd_nil))) rfl rfl rfl (by first | decide | exact Nat.le_of_ble_eq_true rfl));intro pa3 ca3)
   (apply lxk_sl;(· rfl);(· exact d_x fun _=>x_call [0] rfl (c_slices_Concat___int_int_) rfl (by rintro _ _ _ ⟨pa4,ca4,rfl,rfl,rfl⟩;exact (dk_sl 0 rfl)));intro pa4 ca4)
   refine lxk_end rfl ?_
   simp only [List.map_cons,List.map_nil,List.cons_append,List.nil_append]
   refine wk 5 (ct @c_repair_witness cz) ?_
   refine j_step rfl (x_eqnilN sl22 rfl rfl ?_)
   refine wk 7 cz ?_
   exact tw (ih (i,pa4,(l.take i++l.drop (i + 1)).length,ca4,l.take i++l.drop (i + 1)) (by dsimp only;omega) ⟨by dsimp only;omega,hls2,hg⟩)
  | some w =>
   rw [fewGo,if_neg (by show ¬ (wtP p m md N rows lost _).isNone = true;rw [hw];simp)] at hg
   have c_repair_witness:=fun {nm cm n c nl cl nh ch : Nat} {pm ps pl ph : Option Addr}=>S_wt_some (nm:=nm) (cm:=cm) (n:=n) (c:=c) (nl:=nl) (cl:=cl) (nh:=nh) (ch:=ch) (pm:=pm) (ps:=ps) (pl:=pl) (ph:=ph) (w:=w) (hs:=l.take i++l.drop (i + 1)) CC hlo (by rw [e0];exact hw)
   have hwl:=(wi_wd CC _ w (List.mem_of_find?_eq_some hw)).1
   refine j_nf [_,_,_,_,_,_] rfl ?_
   refine j_run it 2 rfl (by simp) ?_
   refine j_nf [_,_,_,_,_] rfl ?_
   refine j_if rfl rfl (fun h1=>?_) (fun h1=>by exfalso;omega)
   refine j_nf [_,_,_,_,_,_,_] rfl ?_
   (apply j_drawK it mx 9;(· rfl);(· rfl))
   (apply lxk_run 2;(· rfl);(· simp))
   (apply lxk_sl;(· rfl);(· exact d_x fun _=>x_slice_h 0 (i) rfl rfl rfl sl22 (by omega) (by omega) (dk_sl 0 rfl));intro pa1 ca1)
   (apply lxk_run 3;(· rfl);(· exact ⟨⟨by omega,by omega⟩,trivial,trivial,trivial⟩))
   (apply lxk_sl;(· rfl);(· exact d_x fun _=>x_slice_l 0 ((i) + 1) rfl rfl rfl sl22 (by omega) (by omega) fun pa2=>(dk_sl 0 rfl));intro pa2 ca2)
   (apply lxk_sl;(· rfl);(· exact d_x fun _=>x_lit sl25 zo25e rfl rfl rfl rfl (by decide) (by decide) rfl fun b2=>dk_all (E:=(encSl (I64))) [[Value.slice pa1 i ca1],[Value.slice pa2 (l.length - (i + 1)) ca2]] [List.take i l,List.drop (i + 1) l] (fun w A hG=>(allrd_cons (rd_of_slF (hG _ (fact_mem (n:=1) rfl))) (allrd_cons (rd_of_slF (hG _ (fact_mem (n:=0) rfl))) allrd_nil))) rfl rfl rfl (by first | decide | exact Nat.le_of_ble_eq_true rfl));intro pa3 ca3)
   (apply lxk_sl;(· rfl);(· exact d_x fun _=>x_call [0] rfl (c_slices_Concat___int_int_) rfl (by rintro _ _ _ ⟨pa4,ca4,rfl,rfl,rfl⟩;exact (dk_sl 0 rfl)));intro pa4 ca4)
   refine lxk_end rfl ?_
   simp only [List.map_cons,List.map_nil,List.cons_append,List.nil_append]
   refine j_run it 1 rfl (by simp) ?_
   refine j_nf [_,_,_,_,_,_,_] rfl ?_
   refine j_step rfl (x_bld_all 0 rfl rfl ld27 rfl ?_)
   refine j_run it 2 rfl (by simp) ?_
   refine j_step rfl (x_call [5,6,7,0] rfl (c_repair_witness) rfl ?_)
   rintro _ _ _ ⟨pa5,k1,ca5,rfl,rfl,rfl⟩
   simp only [List.cons_append,List.nil_append] --ok
   refine j_len 0 rfl fun hn _ _=>?_
   subst hn
   refine j_slsome 0 rfl (by omega) fun b1 o1 hpa=>?_
   subst hpa
   refine j_step rfl (x_eqnilS sl22 rfl rfl ?_)
   refine wk 5 cz ?_
   exact tw (ih (i,px,l.length,cx,l) (by dsimp only;omega) ⟨by dsimp only;omega,hls,hg⟩)
theorem S_codewrightref53_Available (hN : N ≤ 1000000) : Ctr Tryz.prog 61 [.int .i64 N,.slice pl nl cl,.slice pa na ca] [] [slF I64 pl nl cl lost,slF I64 pa na ca away] (RwI (othL N [lost,away]).length (othL N [lost,away])):=by
 refine Ctr_of_j' (F:=F_codewrightref53_Available) rfl fun C=>?_
 have hle : ∀ k,(othL k [lost,away]).length ≤ k:=fun k=>by rw [othL,List.length_map];have:=List.length_filter_le (othB [lost,away]) (List.range k);rwa [List.length_range] at this
 refine wk 8 cz ?_
 intro b1
 (apply j_rowlit (E:=encInt IntKind.i64 8) (n:=0) (cs:=[]) [] [] 0 (fun w A hG=>allrd_nil);(· rfl);(· rfl);(· rfl);(· rfl);(· decide))
 refine j_loopG (X:=Nat × Row) [0,1,2,6] [0,1,2] (fun x=>[(8,.int .i64 (x.1 : Int)),(7,.slice (ad x.2.bo) (othL x.1 [lost,away]).length x.2.cap)]) (fun x=>[(x.2.bo,3,x.2.cs)]) (fun x=>[rowF I64 x.2 (othL x.1 [lost,away]).length (othL x.1 [lost,away])]) (fun x=>x.1 ≤ N) (fun x=>N - x.1) (0,⟨some b1,0,[]⟩) [0] rfl rfl rfl (Nat.zero_le _) (by repeat (first | exact Fr.sub_nil _ | refine Fr.sub_cons rfl ?_)) rfl rfl ?_
 rintro ⟨k,r⟩ hk ih
 simp only [List.cons_append,List.nil_append] at hk ih ⊢
 by_cases h9 : k < N
 ·have hk1:=hle k
  have ih':=fun r=>ih (k + 1,r)
  simp only [othL_succ] at ih'
  have hB : othB [lost,away] k = (!decide ((k : Int) ∈ lost) && !decide ((k : Int) ∈ away)):=by simp [othB]
  have c_codewrightref53_In:=fun {ps : Option Addr} {n c : Nat} {x : Int} {l : List Int} {res : Bool} (hr : decide (x ∈ l) = res)=>S_codewrightref53_In (ps:=ps) (n:=n) (c:=c) (x:=x) (l:=l) hr
  rw [hB] at ih'
  cases h1 : decide ((k : Int) ∈ lost) with
  | true =>
   rw [h1,Bool.not_true,Bool.false_and,if_neg (by simp),List.append_nil] at ih'
   refine wk 13 (ct @c_codewrightref53_In cz) ?_
   intro h2
   exact tw (ih' r (by omega) (by omega))
  | false =>
  cases h2 : decide ((k : Int) ∈ away) with
  | true =>
   rw [h1,h2,Bool.not_true,Bool.and_false,if_neg (by simp),List.append_nil] at ih'
   refine wk 15 (ct @c_codewrightref53_In (ct @c_codewrightref53_In cz)) ?_
   intro h3
   exact tw (ih' r (by omega) (by omega))
  | false =>
   rw [h1,h2,Bool.not_false,Bool.true_and,if_pos rfl] at ih'
   simp only [List.length_append,List.length_singleton] at ih'
   refine wk 15 (ct @c_codewrightref53_In (ct @c_codewrightref53_In cz)) ?_
   intro h3 b2
   refine j_step rfl (x_appR (z:=(↑k : Int)) 1 0 0 rfl rfl rfl rfl rfl sl22 zo22e rfl (fun w A hG=>(rd_int (by first | (simp only [InR];omega) | (simp [InR];done)))) (by omega) _ by22e (by omega) fun r1=>?_)
   refine wk 4 cz ?_
   refine j_toM [true,false] [0,2,3,4] (by exact fra rfl) rfl rfl (ih' r1 (by omega) (by omega))
 ·obtain rfl : k = N:=by omega
  refine wk 7 cz ?_
  intro h1
  refine j_givK 1 [0] [0] rfl (.tmp rfl .nil) rfl rfl rfl ⟨r,rfl,rfl,rfl⟩
theorem S_codewrightref53_Few (CC : Cok p m md N rows) (hlo : stP N lost) : Ctr Tryz.prog 65 [.agg #[.int .i64 p,.int .i64 m,.slice pm nm cm,.int .i64 N,.slice ps n c],.slice pl nl cl,.slice pa na ca] [] [slF I64 pm nm cm md,slF (encSl I64) ps n c rows,slF I64 pl nl cl lost,slF I64 pa na ca away] (SzI (fewGo (enP p m md N rows lost) (othL N [lost,away]).length (othL N [lost,away]))):=by
 refine Ctr_of_j' (F:=F_codewrightref53_Few) rfl fun C=>?_
 have h64:=CC.n64
 have hst:=othL_st N [lost,away]
 have hl2:=st_len hst
 have c_codewrightref53_Available:=fun {pl pa : Option Addr} {nl cl na ca : Nat}=>(S_codewrightref53_Available (N:=N) (pl:=pl) (nl:=nl) (cl:=cl) (pa:=pa) (na:=na) (ca:=ca) (lost:=lost) (away:=away) (by omega)).pubR (by show _ * 8 ≤ 140737488355328;omega)
 generalize othL N [lost,away] = hs at *
 refine wk 14 (ct @c_codewrightref53_Available cz) ?_
 intro b1 pa1 ca1
 simp only [List.cons_append,List.nil_append]
 refine j_loopG (X:=Nat × Option Addr × Nat × Nat × List Int) [1,3,6] [0,1,2,3,4] (fun x=>[(8,.int .i64 ((x.1 : Int) - 1)),(7,.slice x.2.1 x.2.2.1 x.2.2.2.1)]) (fun _=>_) (fun x=>[slF I64 x.2.1 x.2.2.1 x.2.2.2.1 x.2.2.2.2]) (fun x=>x.1 ≤ x.2.2.2.2.length ∧ stP N x.2.2.2.2 ∧ fewGo (enP p m md N rows lost) hs.length hs = fewGo (enP p m md N rows lost) x.1 x.2.2.2.2) (fun x=>x.1) (hs.length,pa1,hs.length,ca1,hs) [0] rfl rfl rfl ⟨Nat.le_refl _,hst,rfl⟩ (by repeat (first | exact Fr.sub_nil _ | refine Fr.sub_cons rfl ?_)) rfl rfl ?_
 rintro ⟨i,px,kx,cx,l⟩ ⟨hi,hls,hg⟩ ih
 simp only [List.cons_append,List.nil_append] at hi hls hg ih ⊢
 refine j_len 0 rfl fun hn _ _=>?_
 subst hn
 have hll:=st_len hls
 cases i with
 | zero =>
  rw [hg,fewGo]
  clear ih
  refine wk 7 cz ?_
  intro h1
  refine j_giv [0] rfl rfl rfl ⟨_,_,_,rfl,rfl,rfl⟩
 | succ i =>
  have ei : ((i + 1 : Nat) : Int) - 1 = (i : Int):=by omega
  rw [ei]
  have hls2:=st_less hls i
  have el : (l.take i++l.drop (i + 1)).length = l.length - 1:=by rw [List.length_append,List.length_take,List.length_drop];omega
  have ew:=en_wt (hs:=l.take i++l.drop (i + 1)) CC hlo
  have c_codewrightref53_Enough:=fun {n c nm cm nl cl nh ch : Nat} {pm ps pl ph : Option Addr}=>S_codewrightref53_Enough (pm:=pm) (nm:=nm) (cm:=cm) (ps:=ps) (n:=n) (c:=c) (pl:=pl) (nl:=nl) (cl:=cl) (ph:=ph) (nh:=nh) (ch:=ch) CC hlo hls2
  rw [ew] at c_codewrightref53_Enough
  rw [fewGo] at hg
  cases hw : enP p m md N rows lost (l.take i++l.drop (i + 1)) with
  | true =>
   rw [hw,if_pos rfl] at hg
   rw [show (wtP p m md N rows lost (l.take i++l.drop (i + 1))).isNone = true from hw] at c_codewrightref53_Enough
   refine wk 5 cz ?_
   intro h1
   (apply j_drawKB it mx 0 10;(· rfl);(· rfl);(· rfl))
   (apply lxk_lit0 (encInt IntKind.i64 8);(· rfl);(· exact sl22);intro pa2)
   (apply lxk_run 2;(· rfl);(· simp))
   (apply lxk_sl;(· rfl);(· exact d_x fun _=>x_slice_h 0 (i) rfl rfl rfl sl22 (by omega) (by omega) (dk_sl 0 rfl));intro pa3 ca2)
   (apply lxk_appL (keep:=[]) 1 0;(· rfl);(· rfl);(· rfl);(· rfl);(· rfl);(· exact sl22);(· exact zo22e);(· rfl);(· (first | omega | (simp only [List.length_cons,List.length_nil];omega)));(· exact by22e);(· (first | omega | (simp only [List.length_cons,List.length_nil];omega)));intro pa4 cap1 b2 cs1)
   (apply lxk_run 3;(· rfl);(· exact ⟨⟨by omega,by omega⟩,trivial,trivial,trivial⟩))
   (apply lxk_sl;(· rfl);(· exact d_x fun _=>x_slice_l 0 ((i) + 1) rfl rfl rfl sl22 (by omega) (by omega) fun pa5=>(dk_sl 0 rfl));intro pa5 ca3)
   (apply lxk_appZi 1 0;(· rfl);(· rfl);(· rfl);(· rfl);(· rfl);(· exact sl22);(· exact zo22e);(· rfl);(· (first | omega | (simp only [List.length_cons,List.length_nil];omega)));(· exact by22e);(· (first | omega | (simp only [List.length_cons,List.length_nil];omega)));intro pa6 cap2 b3 cs2)
   refine lxk_endB rfl ?_
   (rotate_left;rfl;rotate_right)
   (rotate_left;rfl;rotate_right)
   simp only [List.append_nil,List.append_assoc,List.map_cons,List.map_nil,List.cons_append,List.nil_append,List.drop_zero]
   (refine j_pubZ 0 0 (by first | rfl | exact (List.append_nil _).symm) rfl (by show (0 + i + (l.length - (i + 1))) * 8 ≤ 140737488355328;omega) ?_;simp only [List.take_succ_cons,List.take_zero,List.cons_append,List.nil_append,List.append_nil])
   refine wk 12 (ct @c_codewrightref53_Enough cz) ?_
   exact tw (ih (i,pa6,0 + i + (l.length - (i + 1)),cap2,l.take i++l.drop (i + 1)) (by dsimp only;omega) ⟨by dsimp only;omega,hls2,hg⟩)
  | false =>
   rw [hw,if_neg (by simp)] at hg
   rw [show (wtP p m md N rows lost (l.take i++l.drop (i + 1))).isNone = false from hw] at c_codewrightref53_Enough
   refine wk 5 cz ?_
   intro h1
   (apply j_drawKB it mx 0 10;(· rfl);(· rfl);(· rfl))
   (apply lxk_lit0 (encInt IntKind.i64 8);(· rfl);(· exact sl22);intro pa2)
   (apply lxk_run 2;(· rfl);(· simp))
   (apply lxk_sl;(· rfl);(· exact d_x fun _=>x_slice_h 0 (i) rfl rfl rfl sl22 (by omega) (by omega) (dk_sl 0 rfl));intro pa3 ca2)
   (apply lxk_appL (keep:=[]) 1 0;(· rfl);(· rfl);(· rfl);(· rfl);(· rfl);(· exact sl22);(· exact zo22e);(· rfl);(· (first | omega | (simp only [List.length_cons,List.length_nil];omega)));(· exact by22e);(· (first | omega | (simp only [List.length_cons,List.length_nil];omega)));intro pa4 cap1 b2 cs1)
   (apply lxk_run 3;(· rfl);(· exact ⟨⟨by omega,by omega⟩,trivial,trivial,trivial⟩))
   (apply lxk_sl;(· rfl);(· exact d_x fun _=>x_slice_l 0 ((i) + 1) rfl rfl rfl sl22 (by omega) (by omega) fun pa5=>(dk_sl 0 rfl));intro pa5 ca3)
   (apply lxk_appZi 1 0;(· rfl);(· rfl);(· rfl);(· rfl);(· rfl);(· exact sl22);(· exact zo22e);(· rfl);(· (first | omega | (simp only [List.length_cons,List.length_nil];omega)));(· exact by22e);(· (first | omega | (simp only [List.length_cons,List.length_nil];omega)));intro pa6 cap2 b3 cs2)
   refine lxk_endB rfl ?_
   (rotate_left;rfl;rotate_right)
   (rotate_left;rfl;rotate_right)
   simp only [List.append_nil,List.append_assoc,List.map_cons,List.map_nil,List.cons_append,List.nil_append,List.drop_zero]
   (refine j_pubZ 0 0 (by first | rfl | exact (List.append_nil _).symm) rfl (by show (0 + i + (l.length - (i + 1))) * 8 ≤ 140737488355328;omega) ?_;simp only [List.take_succ_cons,List.take_zero,List.cons_append,List.nil_append,List.append_nil])
   refine wk 10 (ct @c_codewrightref53_Enough cz) ?_
   exact tw (ih (i,px,l.length,cx,l) (by dsimp only;omega) ⟨by dsimp only;omega,hls,hg⟩)
end
open Go Go.Fw
set_option maxRecDepth 100000
set_option linter.unusedVariables false
set_option linter.unusedSimpArgs false
set_option maxHeartbeats 0
def plR (H : Nat → (Nat × List (List Int)) × Option (Option (List Int))) (sr : List Int → List Int) (few : List Int) : Nat → Nat → List (List Int) → List Int × Bool × List (List Int)
 | 0,_,_=>(few,false,[])
 | f + 1,w,pf=>match (H w).2 with
  | none=>plR H sr few f (w + 1) (H w).1.2
  | some none=>(few,false,[])
  | some (some s)=>(sr s,true,pf)
theorem srL_len {N : Nat} {s : List Int} (hs : ∀ x ∈ s,0 ≤ x ∧ x < (N : Int)) (hn : s.Nodup) : (srL N s).length = s.length:=by
 have h : (srL N s).Nodup:=(othL_st N _).2.imp fun h=>by omega
 refine List.Perm.length_eq ((List.perm_ext_iff_of_nodup h hn).2 fun x=>?_)
 rw [srL_mem]
 exact ⟨fun h=>h.2,fun h=>⟨hs x h,h⟩⟩
theorem srL_pm {N : Nat} {s : List Int} (hs : ∀ x ∈ s,0 ≤ x ∧ x < (N : Int)) (hn : s.Nodup) : (srL N s).Perm s:=by
 have h : (srL N s).Nodup:=(othL_st N _).2.imp fun h=>by omega
 refine (List.perm_ext_iff_of_nodup h hn).2 fun x=>?_
 rw [srL_mem]
 exact ⟨fun h=>h.2,fun h=>⟨hs x h,h⟩⟩
section
variable {p m N : Nat} {md lost away : List Int} {rows : List (List Int)}
abbrev huW (p m N : Nat) (md lost away : List Int) (rows : List (List Int)) (w : Nat) : (Nat × List (List Int)) × Option (Option (List Int)):=huP p m N md lost away rows w [] [] (4096,[])
theorem br_new (CC : Cok p m md N rows) {s z w : List Int} (h : wtP p m md N rows lost (srL N s) = some w) : ∀ y ∈ brL lost away z w N,y ∉ s ∧ ((0 ≤ y ∧ y < (N : Int)) ∧ y ∉ lost ∧ y ∉ away):=fun y hy=>by
 obtain ⟨i,rfl,hi,h0,h1,h2,_⟩:=brL_mem.1 hy
 refine ⟨fun hs=>h0 ?_,⟨by omega,by omega⟩,h1,h2⟩
 have:=wi_zero CC (fun y hy=>(srL_mem.1 hy).1) (List.mem_of_find?_eq_some h) (i : Int) (srL_mem.2 ⟨⟨by omega,by omega⟩,hs⟩)
 rwa [Int.toNat_natCast] at this
theorem hunt_tree (CC : Cok p m md N rows) {w : Nat} (h : (huW p m N md lost away rows w).2 = none) : htT p m md N rows lost away w [] [] (huW p m N md lost away rows w).1.2 = some []:=by
 obtain ⟨U,hU,hU2⟩:=hu_tree (p:=p) (m:=m) (N:=N) (md:=md) (lost:=lost) (away:=away) (rows:=rows) (wt:=fun s=>wtP p m md N rows lost (srL N s)) (fun s x hs hx=>(wt_word CC hx hs).2.1) w [] [] (4096,[]) (huW p m N md lost away rows w).1 (fun x hx=>by cases hx) (by rw [← h])
 have h2:=hU2 []
 rw [List.append_nil] at h2
 rw [hU]
 exact h2
theorem tree_bars (CC : Cok p m md N rows) (hlo : stP N lost) {w : Nat} {t t' : List (List Int)} (h : htT p m md N rows lost away w [] [] t = some t') {H : List Int} (hH : stP N H) (hd : ∀ x ∈ H,x ∉ lost ∧ x ∉ away) (hl : H.length ≤ w) : enP p m md N rows lost H = false:=by
 have:=ht_sound CC hlo hH hd w [] [] t t' h (fun x hx=>by cases hx) (fun x hx=>by cases hx) (by rw [List.length_nil];omega) List.nodup_nil
 rwa [en_wt CC hlo] at this
theorem hunt_ends (CC : Cok p m md N rows) (hlo : stP N lost) (hall : enP p m md N rows lost (othL N [lost,away]) = true) {w : Nat} (hw : (othL N [lost,away]).length ≤ w) : (huW p m N md lost away rows w).2 ≠ none:=fun h=>by
 have:=tree_bars CC hlo (hunt_tree CC h) (othL_st N [lost,away]) (fun x hx=>by
  have:=(othL_mem.1 hx).2
  exact ⟨this lost (.head _),this away (.tail _ (.head _))⟩) hw
 rw [hall] at this;cases this
theorem hunt_set (CC : Cok p m md N rows) {w : Nat} {s : List Int} (h : (huW p m N md lost away rows w).2 = some (some s)) : wtP p m md N rows lost (srL N s) = none ∧ s.length ≤ w ∧ s.Nodup ∧ ∀ y ∈ s,(0 ≤ y ∧ y < (N : Int)) ∧ y ∉ lost ∧ y ∉ away:=by
 obtain ⟨h1,h2,h3,h4⟩:=hu_found (wt:=fun s=>wtP p m md N rows lost (srL N s)) (br:=fun z w=>brL lost away z w N) (Q:=fun y=>(0 ≤ y ∧ y < (N : Int)) ∧ y ∉ lost ∧ y ∉ away) (fun s z x hx=>br_new CC hx) w [] [] (4096,[]) (huW p m N md lost away rows w).1 s (by rw [← h]) List.nodup_nil
 exact ⟨h1,by simpa using h2,h3,fun y hy=>(h4 y hy).resolve_left (fun h=>by cases h)⟩
abbrev plP (p m N : Nat) (md lost away : List Int) (rows : List (List Int)) : Nat → Nat → List (List Int) → List Int × Bool × List (List Int):=plR (huW p m N md lost away rows) (srL N) (fewGo (enP p m md N rows lost) (othL N [lost,away]).length (othL N [lost,away]))
structure PlOk (p m N : Nat) (md lost away : List Int) (rows : List (List Int)) (x : List Int × Bool × List (List Int)) : Prop where
 st : stP N x.1
 sub : ∀ y ∈ x.1,y ∉ lost ∧ y ∉ away
 en : enP p m md N rows lost x.1 = true
 pr : x.2.1 = true → prB p m md N rows lost away ((x.1.length : Int) - 1) x.2.2 = true
theorem few_ok (hall : enP p m md N rows lost (othL N [lost,away]) = true) {k : Nat} : PlOk p m N md lost away rows (fewGo (enP p m md N rows lost) k (othL N [lost,away]),false,[]) :=
 ⟨fewGo_st (othL_st N _),fun y hy=>by
  have:=(othL_mem.1 (fewGo_sub hy)).2
  exact ⟨this lost (.head _),this away (.tail _ (.head _))⟩,fewGo_en hall,fun h=>by cases h⟩
theorem pl_ok (CC : Cok p m md N rows) (hlo : stP N lost) (hall : enP p m md N rows lost (othL N [lost,away]) = true) : ∀ (f w : Nat) (pf : List (List Int)),((w = 0 ∧ pf = []) ∨ ∃ v,w = v + 1 ∧ htT p m md N rows lost away v [] [] pf = some []) → PlOk p m N md lost away rows (plP p m N md lost away rows f w pf)
 | 0,_,_,_=>few_ok hall
 | f + 1,w,pf,h=>by
  rw [plP,plR]
  split
  ·rename_i hn
   exact pl_ok CC hlo hall f (w + 1) _ (.inr ⟨w,rfl,hunt_tree CC hn⟩)
  ·exact few_ok hall
  ·rename_i s hs
   obtain ⟨h1,h2,h3,h4⟩:=hunt_set CC hs
   have hl:=srL_len (fun y hy=>(h4 y hy).1) h3
   have hsub : ∀ y ∈ srL N s,y ∉ lost ∧ y ∉ away:=fun y hy=>(h4 y (srL_mem.1 hy).2).2
   have hen : enP p m md N rows lost (srL N s) = true:=by show (wtP p m md N rows lost (srL N s)).isNone = true;rw [h1];rfl
   refine ⟨othL_st N _,hsub,hen,fun _=>?_⟩
   show prB p m md N rows lost away (((srL N s).length : Int) - 1) pf = true
   rw [hl,prB]
   rcases h with ⟨rfl,rfl⟩ | ⟨v,rfl,hv⟩
   ·rw [if_pos (by omega)];rfl
   ·have hw : s.length = v + 1:=by
     refine Classical.byContradiction fun hne=>?_
     have:=tree_bars CC hlo hv (othL_st N _) hsub (by rw [hl];omega)
     rw [hen] at this;cases this
    rw [if_neg (by omega),show ((s.length : Int) - 1).toNat = v by omega,hv];rfl
end
set_option maxRecDepth 100000
set_option linter.unusedVariables false
set_option linter.unusedSimpArgs false
def blen (n : Nat) : Nat:=if _h : n = 0 then 0 else blen (n / 2) + 1
termination_by n
decreasing_by omega
theorem blen_zero : blen 0 = 0:=by rw [blen];rfl
theorem blen_pos {n : Nat} (h : n ≠ 0) : blen n = blen (n / 2) + 1:=by rw [blen,dif_neg h]
def blenF : Nat → Nat → Nat
 | 0,_=>0
 | f + 1,n=>if n = 0 then 0 else blenF f (n / 2) + 1
theorem blenF_eq (f : Nat) : ∀ n,n < 2 ^ f → blenF f n = blen n:=by
 induction f with
 | zero => intro n h; have : n = 0 := by simpa using h
           subst this; rw [blen_zero]; rfl
 | succ f ih =>
  intro n h
  rw [blenF]
  by_cases h0 : n = 0
  ·subst h0;rw [if_pos rfl,blen_zero]
  ·rw [if_neg h0,blen_pos h0,ih _ (by rw [Nat.pow_succ] at h;omega)]
theorem blen_le {n k : Nat} (h : n < 2 ^ k) : blen n ≤ k:=by
 induction k generalizing n with
 | zero => have : n = 0 := by simpa using h
           subst this; rw [blen_zero]; omega
 | succ k ih =>
  by_cases h0 : n = 0
  ·subst h0;rw [blen_zero];omega
  ·rw [blen_pos h0];have:=ih (n:=n / 2) (by rw [Nat.pow_succ] at h;omega);omega
def tabOk (s : ByteArray) : Bool:=(List.range 256).all fun n=>match s[n]? with
 | some b=>b.toNat == blenF 8 n
 | none=>false
theorem tab_get {s : ByteArray} (h : tabOk s = true) {n : Nat} (hn : n < 256) : s[n]? = some (UInt8.ofNat (blen n)):=by
 unfold tabOk at h
 have:=List.all_eq_true.1 h n (List.mem_range.2 hn)
 cases hs : s[n]? with
 | none=>rw [hs] at this;simp at this
 | some b =>
  rw [hs] at this
  simp only [beq_iff_eq] at this
  rw [blenF_eq 8 n (by simpa using hn)] at this
  rw [← this];simp
open Go Go.Fw
set_option maxHeartbeats 0
def swp (L : List Int) (j : Nat) : List Int:=(L.set j (at0 L (j - 1))).set (j - 1) (at0 L j)
theorem at0_get {L : List Int} {i : Nat} (h : i < L.length) : at0 L i = L[i]:=by rw [at0,List.getD_eq_getElem?_getD,List.getElem?_eq_getElem h];rfl
theorem swp_perm {L : List Int} {j : Nat} (h0 : 0 < j) (hj : j < L.length) : (swp L j).Perm L:=by
 rw [swp,at0_get hj,at0_get (show j - 1 < L.length by omega)]
 exact List.set_set_perm hj (by omega)
theorem swp_at {L : List Int} {j a : Nat} (h0 : 0 < j) (hj : j < L.length) : at0 (swp L j) a = if a = j - 1 then at0 L j else if a = j then at0 L (j - 1) else at0 L a:=by
 rw [swp,at0,List.getD_eq_getElem?_getD,List.getElem?_set,List.length_set,List.getElem?_set]
 by_cases h1 : j - 1 = a
 ·rw [if_pos h1,if_pos (by omega),if_pos h1.symm];rfl
 ·rw [if_neg h1,if_neg (show ¬ a = j - 1 from fun e=>h1 e.symm)]
  by_cases h2 : j = a
  ·rw [if_pos h2,if_pos hj,if_pos h2.symm];rfl
  ·rw [if_neg h2,if_neg (show ¬ a = j from fun e=>h2 e.symm),at0,List.getD_eq_getElem?_getD]
def srtP (L : List Int) (i j : Nat) : Prop:=∀ a b,a < b → b ≤ i → b ≠ j → at0 L a ≤ at0 L b
theorem srt_step {L : List Int} {i j : Nat} (h : srtP L i j) (h0 : 0 < j) (hj : j < L.length) (hji : j ≤ i) (hx : at0 L j < at0 L (j - 1)) : srtP (swp L j) i (j - 1):=fun a b hab hb hn=>by
 rw [swp_at h0 hj,swp_at h0 hj,if_neg hn]
 have g:=fun a b=>h a b
 by_cases hbj : b = j
 ·rw [if_pos hbj]
  by_cases ha : a = j - 1
  ·rw [if_pos ha];omega
  ·rw [if_neg ha,if_neg (by omega)];exact h a (j - 1) (by omega) (by omega) (by omega)
 ·rw [if_neg hbj]
  by_cases ha : a = j - 1
  ·rw [if_pos ha];exact h j b (by omega) hb hbj
  ·rw [if_neg ha]
   by_cases ha2 : a = j
   ·rw [if_pos ha2];exact h (j - 1) b (by omega) hb hbj
   ·rw [if_neg ha2];exact h a b hab hb hbj
theorem srt_stop {L : List Int} {i j : Nat} (h : srtP L i j) (hx : j = 0 ∨ ¬ at0 L j < at0 L (j - 1)) : srtP L i (i + 1):=fun a b hab hb _=>by
 by_cases hbj : b = j
 ·subst hbj
  rcases hx with hx | hx
  ·omega
  ·by_cases ha : a = b - 1
   ·subst ha;omega
   ·have:=h a (b - 1) (by omega) (by omega) (by omega);omega
 ·exact h a b hab hb hbj
theorem srt_end {L K l : List Int} (hp : L.Perm l) (h : ∀ a b,a < b → b < L.length → at0 L a ≤ at0 L b) (hK : K.Pairwise (· < ·)) (hKl : K.Perm l) : L = K:=by
 have hLK : L.Perm K:=hp.trans hKl.symm
 have hn : L.Nodup:=hLK.nodup_iff.2 (hK.imp fun h=>by omega)
 refine st_ext ?_ hK fun x=>hLK.mem_iff
 rw [List.pairwise_iff_getElem]
 intro i j hi hj hij
 have h1:=h i j hij hj
 rw [at0_get hi,at0_get hj] at h1
 have h2 : L[i] ≠ L[j]:=fun e=>by
  have:=(List.getElem_inj hn).1 e;omega
 omega
theorem S_cmp_isNaN_int_ {x : Int} : Ctr Tryz.prog 174 [.int .i64 x] [] [] (Rv (.bool false) []):=by
 refine Ctr_of_j' (F:=F_cmp_isNaN_int_) rfl fun C=>?_
 have hd : (!decide (x = x)) = false:=by simp
 refine wk 5 cz ?_
 rw [hd]
 exact ge
theorem S_cmp_Less_int_ {x y : Int} : Ctr Tryz.prog 142 [.int .i64 x,.int .i64 y] [] [] (Rv (.bool (decide (x < y))) []):=by
 refine Ctr_of_j' (F:=F_cmp_Less_int_) rfl fun C=>?_
 refine wk 7 (ct @S_cmp_isNaN_int_ cz) ?_
 exact ge
theorem S_bits_Len64 {x : Nat} (hx : x < 256) : Ctr Tryz.prog 146 [.int .u64 x] [] [] (Rv (.int .i64 (blen x)) []):=by
 refine Ctr_of_j' (F:=F_bits_Len64) rfl fun C=>?_
 refine j_nf [_,_] rfl ?_
 refine j_run it 1 rfl (by simp) ?_
 refine j_nf [_,_,_] rfl ?_
 refine j_run it 2 rfl (by simp) ?_
 refine j_nf [_,_] rfl ?_
 refine j_if rfl rfl (fun h1=>by exfalso;omega) (fun h1=>?_)
 refine j_nf [_,_,_] rfl ?_
 refine j_run it 2 rfl (by simp) ?_
 refine j_nf [_,_] rfl ?_
 refine j_if rfl rfl (fun h2=>by exfalso;omega) (fun h2=>?_)
 refine j_nf [_,_,_] rfl ?_
 refine j_run it 2 rfl (by simp) ?_
 refine j_nf [_,_] rfl ?_
 refine j_if rfl rfl (fun h3=>by exfalso;omega) (fun h3=>?_)
 refine j_nf [_,_] rfl ?_
 refine j_run it 3 rfl ⟨⟨by omega,by omega⟩,trivial,trivial,trivial⟩ ?_ --ok
 refine j_step rfl (x_char x rfl rfl rfl rfl (tab_get (by decide +kernel) hx) ?_)
 have h8:=blen_le (n:=x) (k:=8) (by simpa using hx)
 have e : (UInt8.ofNat (blen x)).toNat = blen x:=by
  simp only [UInt8.toNat_ofNat'];omega
 rw [e]
 refine wk 2 cz ?_
 rw [show (0 : Int) + ((blen x : Nat) : Int) = ((blen x : Nat) : Int) by omega]
 exact ge
theorem S_bits_Len {x : Nat} (hx : x < 256) : Ctr Tryz.prog 103 [.int .u64 x] [] [] (Rv (.int .i64 (blen x)) []):=by
 refine Ctr_of_j' (F:=F_bits_Len) rfl fun C=>?_
 refine wk 9 (ct @S_bits_Len64 cz) ?_
 exact ge
section
variable {b cap n : Nat} {cs : List Value} {l K : List Int}
theorem S_slices_insertionSortOrdered_int_ (hn : n ≤ 1000) (hr : ∀ x ∈ l,0 ≤ x ∧ x < 1000000) (hl : l.length = n) (hK : K.Pairwise (· < ·)) (hp : K.Perm l) :
  Ctr Tryz.prog 136 [.slice (some ⟨b,0,none⟩) n cap,.int .i64 0,.int .i64 n] [(some b,3,cs)] [rowF I64 ⟨some b,cap,cs⟩ n l]
   (fun v Φ β=>∃ cs',v = .tuple #[] ∧ Φ = [rowF I64 ⟨some b,cap,cs'⟩ n K] ∧ β = [(some b,3,cs')]):=by
 refine Ctr_of_j' (F:=F_slices_insertionSortOrdered_int_) rfl fun C=>?_
 refine wk 3 cz ?_
 refine j_loopG (X:=Nat × List Value × List Int) [0,1,2] [0] (fun x=>[(6,.int .i64 (x.1 : Int))]) (fun x=>[(some b,3,x.2.1)]) (fun x=>[rowF I64 ⟨some b,cap,x.2.1⟩ n x.2.2]) (fun x=>1 ≤ x.1 ∧ x.1 ≤ n + 1 ∧ x.2.2.Perm l ∧ ∀ u v,u < v → v < x.1 → at0 x.2.2 u ≤ at0 x.2.2 v) (fun x=>n + 1 - x.1) (1,cs,l) [0] rfl rfl rfl ⟨Nat.le_refl _,by dsimp only;omega,List.Perm.refl _,fun u v h1 h2=>by dsimp only at h2;omega⟩ (by repeat (first | exact Fr.sub_nil _ | refine Fr.sub_cons rfl ?_)) rfl rfl ?_
 rintro ⟨i,cs,L⟩ ⟨hi1,hi,hpL,ho⟩ ih
 simp only [List.cons_append,List.nil_append] at hi1 hi hpL ho ih ⊢
 by_cases hin : i < n
 ·refine wk 7 cz ?_
  intro h1
  refine j_loopG (X:=Nat × List Value × List Int) [0,1,2,6,10,11,12,15] [0,1] (fun x=>[(7,.int .i64 (x.1 : Int))]) (fun x=>[(some b,3,x.2.1)]) (fun x=>[rowF I64 ⟨some b,cap,x.2.1⟩ n x.2.2]) (fun x=>x.1 ≤ i ∧ x.2.2.Perm l ∧ srtP x.2.2 i x.1) (fun x=>x.1) (i,cs,L) [0] rfl rfl rfl ⟨Nat.le_refl _,hpL,fun u v h1 h2 h3=>ho u v h1 (by omega)⟩ (by repeat (first | exact Fr.sub_nil _ | refine Fr.sub_cons rfl ?_)) rfl rfl ?_
  rintro ⟨j,cs,L⟩ ⟨hji,hpL,ho⟩ ihj
  simp only [List.cons_append,List.nil_append] at hji hpL ho ihj ⊢
  have hLl : L.length = n:=hpL.length_eq.trans hl
  have stop : (j = 0 ∨ ¬ at0 L j < at0 L (j - 1)) → ∀ u v,u < v → v < i + 1 → at0 L u ≤ at0 L v:=fun h u v h1 h2=>srt_stop ho h u v h1 (by omega) (by omega)
  by_cases hj0 : 0 < j
  ·have at_u : L[j]? = some (at0 L j):=by rw [at0_get (show j < L.length by omega)];exact List.getElem?_eq_getElem _
   have at_v : L[j - 1]? = some (at0 L (j - 1)):=by rw [at0_get (show j - 1 < L.length by omega)];exact List.getElem?_eq_getElem _
   have hsw : (L.set j (at0 L (j - 1))).set (j - 1) (at0 L j) = swp L j:=rfl
   by_cases hx : at0 L j < at0 L (j - 1)
   ·have ihj':=fun cs=>ihj (j - 1,cs,swp L j) (by dsimp only;omega) ⟨by dsimp only;omega,(swp_perm hj0 (by omega)).trans hpL,srt_step ho hj0 (by omega) hji hx⟩
    dsimp only at ihj'
    rw [← hsw] at ihj'
    obtain ⟨u0,u1⟩:=hr _ (hpL.mem_iff.1 (List.mem_of_getElem? at_u))
    obtain ⟨v0,v1⟩:=hr _ (hpL.mem_iff.1 (List.mem_of_getElem? at_v))
    generalize at0 L j = u at *
    generalize at0 L (j - 1) = v at *
    refine wk 5 (ct @S_cmp_Less_int_ cz) ?_
    intro h2
    (apply j_drawKW (x0:=none) it mx 0 15 [2,3,4] 1;(· rfl);(· rfl);(· rfl);(· decide))
    simp only [List.drop_zero]
    (apply lxk_run 5;(· rfl);(· exact ⟨⟨by omega,by omega⟩,trivial,trivial,trivial,trivial,trivial⟩))
    (apply lxk_run 2;(· rfl);(· simp))
    (apply lxk_eq (v:=Value.int IntKind.i64 ((((j) - 1 : Nat)) : Int));(· rfl);(· exact d_x fun _=>x_asN it _ rfl ⟨by omega,by omega⟩ (by omega) dk_eq))
    simp only [Nat.add_sub_cancel]
    (apply lxk_eq;(· rfl);(· exact d_x fun _=>x_idx_own (j - 1) (j - 1) rfl rfl sl22 rfl (by omega) (Nat.mul_one _) dk_eq))
    (apply lxk_eq;(· rfl);(· exact d_ldR_int 0 0 (j - 1) rfl rfl rfl ld3 rfl (by assumption)))
    (apply lxk_run 2;(· rfl);(· simp))
    (apply lxk_eq;(· rfl);(· exact d_x fun _=>x_idx_own (j) (j) rfl rfl sl22 rfl (by omega) (Nat.mul_one _) dk_eq))
    (apply lxk_eq;(· rfl);(· exact d_ldR_int 0 0 (j) rfl rfl rfl ld3 rfl (by assumption)))
    (apply lxk_eq;(· rfl);(· exact d_x fun _=>x_idx_own (j) (j) rfl rfl sl22 rfl (by omega) (Nat.mul_one _) dk_eq)) --ok
    refine lxk_endW rfl ?_
    rotate_left
    rfl
    simp only [List.map_nil,List.nil_append]
    refine win_step it rfl rfl ⟨⟨_,_,_,_,rfl,rfl,rfl,rfl,rfl,rfl,(by first | trivial | (repeat' first | exact trivial | apply And.intro | omega))⟩,⟨⟨_,_,_,_,rfl,rfl,rfl,rfl,rfl,rfl,(by first | trivial | (repeat' first | exact trivial | apply And.intro | omega))⟩,⟨⟨_,_,_,_,rfl,rfl,rfl,rfl,rfl,rfl,(by first | trivial | (repeat' first | exact trivial | apply And.intro | omega))⟩,trivial⟩⟩⟩ (x_stR (vs:=[Value.int IntKind.i64 v]) (z:=(v : Int)) 0 0 (j) rfl rfl rfl rfl rfl ld3 (Nat.mul_one _).symm (by omega) (fun w A hG=>(rd_int (by first | (simp only [InR];omega) | (simp [InR];done)))) fun cs1=>?_)
    refine win_end it ⟨⟨_,_,_,_,rfl,rfl,rfl,rfl,rfl,rfl,(by first | trivial | (repeat' first | exact trivial | apply And.intro | omega))⟩,⟨⟨_,_,_,_,rfl,rfl,rfl,rfl,rfl,rfl,(by first | trivial | (repeat' first | exact trivial | apply And.intro | omega))⟩,⟨⟨_,_,_,_,rfl,rfl,rfl,rfl,rfl,rfl,(by first | trivial | (repeat' first | exact trivial | apply And.intro | omega))⟩,trivial⟩⟩⟩ ?_
    refine wk 1 cz ?_
    refine j_step rfl (x_stR (vs:=[Value.int IntKind.i64 u]) (z:=(u : Int)) 0 0 (j - 1) rfl rfl rfl rfl rfl ld3 (Nat.mul_one _).symm (by omega) (fun w A hG=>(rd_int (by first | (simp only [InR];omega) | (simp [InR];done)))) fun cs2=>?_)
    refine wk 3 cz ?_
    exact tw (ihj' cs2)
   ·have stop':=stop (.inr hx)
    generalize at0 L j = u at *
    generalize at0 L (j - 1) = v at *
    refine wk 7 (ct @S_cmp_Less_int_ cz) ?_
    intro h2
    exact tw (ih (i + 1,cs,L) (by dsimp only;omega) ⟨by dsimp only;omega,by dsimp only;omega,hpL,stop'⟩)
  ·refine wk 7 cz ?_
   exact tw (ih (i + 1,cs,L) (by dsimp only;omega) ⟨by dsimp only;omega,by dsimp only;omega,hpL,stop (.inl (by omega))⟩)
 ·obtain rfl : L = K:=srt_end hpL (fun u v h1 h2=>ho u v h1 (by have:=hpL.length_eq;omega)) hK hp
  clear ih
  refine wk 5 cz ?_
  intro h1
  refine j_gives_end [0] rfl rfl ⟨cs,rfl,rfl,rfl⟩
end
open Go Go.Fw
set_option maxRecDepth 100000
set_option linter.unusedVariables false
set_option linter.unusedSimpArgs false
set_option maxHeartbeats 0
section
variable {b cap n : Nat} {cs : List Value} {l K : List Int} {k : Int}
abbrev SrQ (b cap n : Nat) (K : List Int) : Value → List Fact → List Blk → Prop:=fun v Φ β=>∃ cs',v = .tuple #[] ∧ Φ = [rowF I64 ⟨some b,cap,cs'⟩ n K] ∧ β = [(some b,3,cs')]
theorem S_slices_pdqsortOrdered_int_ (hn : n ≤ 12) (hr : ∀ x ∈ l,0 ≤ x ∧ x < 1000000) (hl : l.length = n) (hK : K.Pairwise (· < ·)) (hp : K.Perm l) :
  Ctr Tryz.prog 102 [.slice (some ⟨b,0,none⟩) n cap,.int .i64 0,.int .i64 n,.int .i64 k] [(some b,3,cs)] [rowF I64 ⟨some b,cap,cs⟩ n l] (SrQ b cap n K):=by
 refine Ctr_of_j' (F:=F_slices_pdqsortOrdered_int_) rfl fun C=>?_
 have c_slices_insertionSortOrdered_int_:=fun {cs : List Value}=>S_slices_insertionSortOrdered_int_ (b:=b) (cap:=cap) (n:=n) (cs:=cs) (l:=l) (K:=K) (by omega) hr hl hK hp
 refine wk 5 cz ?_
 refine j_loopG (X:=Nat) [0] [0] (fun _=>[(1,.int .i64 0),(2,.int .i64 n)]) (fun _=>_) (fun _=>[]) (fun _=>True) (fun i=>i) 0 [] rfl rfl rfl trivial (by repeat (first | exact Fr.sub_nil _ | refine Fr.sub_cons rfl ?_)) rfl rfl ?_
 rintro i hi ih
 simp only [List.cons_append,List.nil_append] at hi ih ⊢
 refine wk 10 (ct @c_slices_insertionSortOrdered_int_ cz) ?_
 intro h1 cs'1
 refine j_gives [0] rfl rfl rfl ⟨_,rfl,rfl,rfl⟩
theorem S_slices_Sort___int_int_ (hn : n ≤ 12) (hr : ∀ x ∈ l,0 ≤ x ∧ x < 1000000) (hl : l.length = n) (hK : K.Pairwise (· < ·)) (hp : K.Perm l) :
  Ctr Tryz.prog 52 [.slice (some ⟨b,0,none⟩) n cap] [(some b,3,cs)] [rowF I64 ⟨some b,cap,cs⟩ n l] (SrQ b cap n K):=by
 refine Ctr_of_j' (F:=F_slices_Sort___int_int_) rfl fun C=>?_
 have c_slices_pdqsortOrdered_int_:=fun {cs : List Value} {k : Int}=>S_slices_pdqsortOrdered_int_ (b:=b) (cap:=cap) (n:=n) (cs:=cs) (l:=l) (K:=K) (k:=k) hn hr hl hK hp
 refine wk 9 (ct @S_bits_Len (ct @c_slices_pdqsortOrdered_int_ cz)) ?_
 intro cs'1
 refine j_gives_end [0] rfl rfl ⟨_,rfl,rfl,rfl⟩
end
open Go Go.Fw
set_option maxRecDepth 100000
set_option linter.unusedVariables false
set_option linter.unusedSimpArgs false
set_option maxHeartbeats 0
noncomputable def plE (P M : Int) (md : List Int) (N : Int) (rows : List (List Int)) (lost away : List Int) : Int :=
 if ckE P M md N rows ≠ 0 then ckE P M md N rows else if ¬ (stP N lost ∧ stP N away) then 5 else if enP P.toNat M.toNat md N.toNat rows lost (othL N.toNat [lost,away]) = false then 19 else 0
abbrev PlQ (e : Int) (lo hs : List Int) (co : List (List Int)) (f : Bool) (t : List (List Int)) : Value → List Fact → List Blk → Prop:=fun v Φ β=>∃ (p1 p2 p3 p4 : Option Addr) (k1 k2 k3 k4 c1 c2 c3 c4 : Nat),v = .tuple #[.agg #[.slice p1 k1 c1,.slice p2 k2 c2,.slice p3 k3 c3,.bool f,.slice p4 k4 c4],.int .i64 e] ∧ Φ = [slF I64 p1 k1 c1 lo,slF I64 p2 k2 c2 hs,slF (encSl I64) p3 k3 c3 co,slF (encSl I64) p4 k4 c4 t] ∧ β = []
theorem plE_rng (P M : Int) (md : List Int) (N : Int) (rows : List (List Int)) (lost away : List Int) : 0 ≤ plE P M md N rows lost away ∧ plE P M md N rows lost away ≤ 100:=by
 have:=ckE_rng P M md N rows
 rw [plE]
 split
 ·omega
 ·repeat' split
  all_goals omega
section
variable {P M N : Int} {nm cm n c nl cl na ca : Nat} {pm ps pl pa : Option Addr} {md lost away : List Int} {rows : List (List Int)}
theorem S_repair_Plan_err (hN : InR .i64 N) {e : Int} (h : plE P M md N rows lost away = e) (he : e ≠ 0) : Ctr Tryz.prog 19 [.agg #[.int .i64 P,.int .i64 M,.slice pm nm cm,.int .i64 N,.slice ps n c],.slice pl nl cl,.slice pa na ca] [] [slF I64 pm nm cm md,slF (encSl I64) ps n c rows,slF I64 pl nl cl lost,slF I64 pa na ca away] (PlQ e [] [] [] false []):=by
 refine Ctr_of_j' (F:=F_repair_Plan) rfl fun C=>?_
 refine j_len 2 rfl fun hn _ _=>?_
 subst hn
 refine j_len 3 rfl fun hn _ _=>?_
 subst hn
 have hr:=ckE_rng P M md N rows
 have c_code_Check:=fun {pm ps : Option Addr} {nm cm n c : Nat}=>S_code_Check (P:=P) (M:=M) (pm:=pm) (ps:=ps) (nm:=nm) (cm:=cm) (n:=n) (c:=c) (md:=md) (rows:=rows) hN rfl
 have c_repair_set:=fun {ps : Option Addr} {nn c : Nat} {n : Int} {l : List Int} {res : Bool} (hr : decide (stP n l) = res)=>S_repair_set (ps:=ps) (nn:=nn) (c:=c) (n:=n) (l:=l) hr
 rw [plE] at h
 by_cases hc : ckE P M md N rows = 0
 ·rw [if_neg (fun e=>e hc)] at h
  rw [hc] at c_code_Check
  by_cases h1 : stP N lost
  ·by_cases h2 : stP N away
   ·rw [if_neg (fun e=>e ⟨h1,h2⟩)] at h
    obtain ⟨p,m,N,rfl,rfl,rfl,CC⟩:=ck_of hc
    have h64:=CC.n64
    have hn1:=CC.n1
    have hst:=othL_st N [lost,away]
    simp only [Int.toNat_natCast] at h
    have c_repair_others:=fun {ps : Option Addr} {nn c : Nat}=>S_repair_others (ps:=ps) (nn:=nn) (c:=c) (n:=N) (ls:=[lost,away]) (by omega)
    have hle:=st_len hst
    have e0 : srL N (othL N [lost,away]) = othL N [lost,away]:=oth_oth hst
    cases hw : wtP p m md N rows lost (othL N [lost,away]) with
    | none =>
     rw [if_neg (by show ¬ (wtP p m md N rows lost _).isNone = false;rw [hw];simp)] at h
     exact absurd h.symm he
    | some w =>
     rw [if_pos (by show (wtP p m md N rows lost _).isNone = false;rw [hw];rfl)] at h
     subst h
     have hwl:=(wi_wd CC _ w (List.mem_of_find?_eq_some hw)).1
     have c_repair_witness:=fun {nm cm n c nl cl nh ch : Nat} {pm ps pl ph : Option Addr}=>S_wt_some (nm:=nm) (cm:=cm) (n:=n) (c:=c) (nl:=nl) (cl:=cl) (nh:=nh) (ch:=ch) (pm:=pm) (ps:=ps) (pl:=pl) (ph:=ph) (w:=w) (hs:=othL N [lost,away]) CC h1 (by rw [e0];exact hw)
     have hd1:=decide_eq_true h1
     have hd2:=decide_eq_true h2
     generalize othL N [lost,away] = all at *
     refine j_nf [_,_] rfl ?_
     refine j_step rfl (x_box_agg rfl fun b1=>?_)
     refine j_step rfl (x_alloc zo40 fun b2=>?_)
     refine j_run it 1 rfl (by simp) ?_
     refine j_nf [_,_,_] rfl ?_
     refine j_step rfl (x_bld_all 1 rfl rfl ld27 rfl ?_)
     refine j_step rfl (x_call [0,1] rfl (c_code_Check) rfl ?_)
     rintro _ _ _ ⟨rfl,rfl,rfl⟩
     simp only [List.cons_append,List.nil_append]
     refine j_run it 1 rfl (by simp) ?_
     refine j_nf [_,_,_] rfl ?_
     refine j_run it 2 rfl (by simp) ?_
     refine j_nf [_,_] rfl ?_
     refine j_ifn rfl rfl (fun h3=>by exfalso;omega) (fun h3=>?_)
     refine j_nf [_,_,_] rfl ?_
     refine j_run it 1 rfl (by simp) ?_
     refine j_step rfl (x_field rfl fd27_1 ?_)
     refine j_step rfl (x_bld 1 rfl rfl ld3 rfl ?_)
     refine j_step rfl (x_call [2] rfl (c_repair_set (by omega)) rfl ?_)
     rintro _ _ _ ⟨rfl,rfl,rfl⟩
     simp only [List.cons_append,List.nil_append]
     simp only [decide_true]
     refine j_run it 3 rfl (by simp) ?_
     refine j_gstep rfl rfl (x_field rfl fd27_1 ?_)
     refine j_gstep rfl rfl (x_bld 1 rfl rfl ld3 rfl ?_)
     refine j_gstep rfl rfl (x_call [3] rfl (c_repair_set (by omega)) rfl ?_)
     rintro _ _ _ ⟨rfl,rfl,rfl⟩
     simp only [List.cons_append,List.nil_append]
     refine j_run it 2 rfl (by simp) ?_
     refine j_nf [_,_] rfl ?_
     refine j_false rfl rfl ?_
     refine j_nf [_,_] rfl ?_
     refine j_step rfl (x_field rfl fd27_1 ?_)
     refine j_step rfl (x_bld 1 rfl rfl ld3 rfl ?_)
     refine j_run it 2 rfl (by simp) ?_
     refine j_step rfl (x_lit sl25 zo25e rfl rfl rfl rfl (by decide) (by decide) rfl fun b3=>?_)
     refine j_pub_all (E:=(encSl (I64))) (n:=2) [[Value.slice pl lost.length cl],[Value.slice pa away.length ca]] [lost,away] 0 (fun w A hG=>(allrd_cons (rd_of_slF (hG _ (fact_mem (n:=2) rfl))) (allrd_cons (rd_of_slF (hG _ (fact_mem (n:=3) rfl))) allrd_nil))) rfl rfl rfl rfl (by first | decide | exact Nat.le_of_ble_eq_true rfl) (by first | decide | exact Nat.le_of_ble_eq_true rfl) ?_
     refine j_step rfl (x_call [0] rfl (c_repair_others) rfl ?_)
     rintro _ _ _ ⟨r1,rfl,rfl,rfl⟩
     simp only [List.cons_append,List.nil_append]
     refine j_run it 1 rfl (by simp) ?_
     refine j_nf [_,_,_] rfl ?_
     refine j_step rfl (x_bld_all 2 rfl rfl ld27 rfl ?_)
     refine j_run it 2 rfl (by simp) ?_
     refine j_pubR 0 0 rfl rfl (by show (all.length) * 8 ≤ 140737488355328;omega) ?_
     refine j_step rfl (x_call [3,4,5,0] rfl (c_repair_witness) rfl ?_)
     rintro _ _ _ ⟨pa1,k1,ca1,rfl,rfl,rfl⟩
     simp only [List.cons_append,List.nil_append] --ok
     refine j_len 0 rfl fun hn _ _=>?_
     subst hn
     refine j_slsome 0 rfl (by omega) fun b1 o1 hpa=>?_
     subst hpa
     refine j_step rfl (x_nenilS sl22 rfl rfl ?_)
     refine wk 7 cz ?_
     refine j_add (slF (encSl I64) none 0 0 []) (fun w A _=>slF_nil _ w A none 0) ?_
     refine j_add (slF I64 none 0 0 []) (fun w A _=>slF_nil _ w A none 0) ?_
     refine j_givC [0,0,1,1] rfl (.agg 0 rfl rfl ld40 rfl (.tmp rfl .nil)) rfl ⟨none,none,none,none,0,0,0,0,0,0,0,0,rfl,rfl,rfl⟩
   ·rw [if_pos (fun e=>h2 e.2)] at h
    subst h
    have hd1:=decide_eq_true h1
    have hd2:=decide_eq_false h2
    refine wk 29 (ct @c_code_Check (ct @c_repair_set (ct @c_repair_set cz))) ?_
    intro b1 b2 h3
    refine j_add (slF (encSl I64) none 0 0 []) (fun w A _=>slF_nil _ w A none 0) ?_
    refine j_add (slF I64 none 0 0 []) (fun w A _=>slF_nil _ w A none 0) ?_
    refine j_givC [0,0,1,1] rfl (.agg 0 rfl rfl ld40 rfl (.tmp rfl .nil)) rfl ⟨none,none,none,none,0,0,0,0,0,0,0,0,rfl,rfl,rfl⟩
  ·rw [if_pos (fun e=>h1 e.1)] at h
   subst h
   have hd1:=decide_eq_false h1
   refine wk 25 (ct @c_code_Check (ct @c_repair_set cz)) ?_
   intro b1 b2 h2
   refine j_add (slF (encSl I64) none 0 0 []) (fun w A _=>slF_nil _ w A none 0) ?_
   refine j_add (slF I64 none 0 0 []) (fun w A _=>slF_nil _ w A none 0) ?_
   refine j_givC [0,0,1,1] rfl (.agg 0 rfl rfl ld40 rfl (.tmp rfl .nil)) rfl ⟨none,none,none,none,0,0,0,0,0,0,0,0,rfl,rfl,rfl⟩
 ·rw [if_pos hc] at h
  rw [h] at c_code_Check hr
  refine wk 18 (ct @c_code_Check cz) ?_
  intro b1 b2 h1
  refine j_add (slF (encSl I64) none 0 0 []) (fun w A _=>slF_nil _ w A none 0) ?_
  refine j_add (slF I64 none 0 0 []) (fun w A _=>slF_nil _ w A none 0) ?_
  refine j_givC [0,0,1,1] rfl (.agg 0 rfl rfl ld40 rfl (.tmp rfl .nil)) rfl ⟨none,none,none,none,0,0,0,0,0,0,0,0,rfl,rfl,rfl⟩
end
section
variable {p m N nm cm n c nl cl na ca : Nat} {pm ps pl pa : Option Addr} {md lost away : List Int} {rows : List (List Int)}
theorem S_repair_Plan_ok (CC : Cok p m md N rows) (hN : N ≤ 12) (hlo : stP N lost) (haw : stP N away) (hall : enP p m md N rows lost (othL N [lost,away]) = true) {hs : List Int} {f : Bool} {pf : List (List Int)} (hP : plP p m N md lost away rows (N + 1) 0 [] = (hs,f,pf)) : Ctr Tryz.prog 19 [.agg #[.int .i64 p,.int .i64 m,.slice pm nm cm,.int .i64 N,.slice ps n c],.slice pl nl cl,.slice pa na ca] [] [slF I64 pm nm cm md,slF (encSl I64) ps n c rows,slF I64 pl nl cl lost,slF I64 pa na ca away] (PlQ 0 lost hs (coP p m md rows lost hs) f pf):=by
 refine Ctr_of_j' (F:=F_repair_Plan) rfl fun C=>?_
 refine j_len 2 rfl fun hn _ _=>?_
 subst hn
 refine j_len 3 rfl fun hn _ _=>?_
 subst hn
 have h64:=CC.n64
 have hn1:=CC.n1
 have ok:=pl_ok CC hlo hall (N + 1) 0 [] (.inl ⟨rfl,rfl⟩)
 rw [hP] at ok
 have hB : coB p m md rows lost hs = true:=by rw [co_en CC hlo,en_wt CC hlo];exact ok.en
 have hpe : pairE p m md N rows lost hs = 0:=by
  rw [pairE,if_neg (fun e=>e CC.ck),if_neg (fun e=>e ⟨hlo,ok.st⟩),if_neg]
  rw [List.any_eq_true]
  rintro ⟨x,h1,h2⟩
  exact (ok.sub x (of_decide_eq_true h2)).1 h1
 have c_repair_Combine:=fun {n c nm cm nl cl nh ch : Nat} {pm ps pl ph : Option Addr}=>S_repair_Combine (pm:=pm) (nm:=nm) (cm:=cm) (ps:=ps) (n:=n) (c:=c) (pl:=pl) (nl:=nl) (cl:=cl) (ph:=ph) (nh:=nh) (ch:=ch) CC hpe hlo ok.st hB
 simp only [if_true] at c_repair_Combine
 have hck : ckE p m md N rows = 0:=CC.ck
 have c_code_Check:=fun {pm ps : Option Addr} {nm cm n c : Nat}=>S_code_Check (P:=p) (M:=m) (pm:=pm) (ps:=ps) (nm:=nm) (cm:=cm) (n:=n) (c:=c) (md:=md) (rows:=rows) (N:=N) (by simp only [InR];omega) hck
 have c_repair_set:=fun {ps : Option Addr} {nn c : Nat} {n : Int} {l : List Int} {res : Bool} (hr : decide (stP n l) = res)=>S_repair_set (ps:=ps) (nn:=nn) (c:=c) (n:=n) (l:=l) hr
 have hst:=othL_st N [lost,away]
 have c_repair_others:=fun {ps : Option Addr} {nn c : Nat}=>S_repair_others (ps:=ps) (nn:=nn) (c:=c) (n:=N) (ls:=[lost,away]) (by omega)
 have hle:=st_len hst
 have hl1:=st_len hlo
 have e0 : srL N (othL N [lost,away]) = othL N [lost,away]:=oth_oth hst
 have c_repair_witness:=fun {nm cm n c nl cl nh ch : Nat} {pm ps pl ph : Option Addr}=>S_wt_none (nm:=nm) (cm:=cm) (n:=n) (c:=c) (nl:=nl) (cl:=cl) (nh:=nh) (ch:=ch) (pm:=pm) (ps:=ps) (pl:=pl) (ph:=ph) (hs:=othL N [lost,away]) CC hlo (by rw [e0];exact Option.isNone_iff_eq_none.1 hall)
 have c_slices_Clone___int_int_:=fun {ps : Option Addr} {cs : Nat}=>(S_slices_Clone___int_int_ (ps:=ps) (n:=lost.length) (cs:=cs) (l:=lost)).pubR (by show _ * 8 ≤ 140737488355328;omega)
 have hd1:=decide_eq_true hlo
 have hd2:=decide_eq_true haw
 refine j_nf [_,_] rfl ?_
 refine j_step rfl (x_box_agg rfl fun b1=>?_)
 refine j_step rfl (x_alloc zo40 fun b2=>?_)
 refine j_run it 1 rfl (by simp) ?_
 refine j_nf [_,_,_] rfl ?_
 refine j_step rfl (x_bld_all 1 rfl rfl ld27 rfl ?_)
 refine j_step rfl (x_call [0,1] rfl (c_code_Check) rfl ?_)
 rintro _ _ _ ⟨rfl,rfl,rfl⟩
 simp only [List.cons_append,List.nil_append]
 refine j_run it 1 rfl (by simp) ?_
 refine j_nf [_,_,_] rfl ?_
 refine j_run it 2 rfl (by simp) ?_
 refine j_nf [_,_] rfl ?_
 refine j_ifn rfl rfl (fun h1=>by exfalso;omega) (fun h1=>?_)
 refine j_nf [_,_,_] rfl ?_
 refine j_run it 1 rfl (by simp) ?_
 refine j_step rfl (x_field rfl fd27_1 ?_)
 refine j_step rfl (x_bld 1 rfl rfl ld3 rfl ?_)
 refine j_step rfl (x_call [2] rfl (c_repair_set (by omega)) rfl ?_)
 rintro _ _ _ ⟨rfl,rfl,rfl⟩
 simp only [List.cons_append,List.nil_append]
 simp only [decide_true]
 refine j_run it 3 rfl (by simp) ?_
 refine j_gstep rfl rfl (x_field rfl fd27_1 ?_)
 refine j_gstep rfl rfl (x_bld 1 rfl rfl ld3 rfl ?_)
 refine j_gstep rfl rfl (x_call [3] rfl (c_repair_set (by omega)) rfl ?_)
 rintro _ _ _ ⟨rfl,rfl,rfl⟩
 simp only [List.cons_append,List.nil_append]
 refine j_run it 2 rfl (by simp) ?_
 refine j_nf [_,_] rfl ?_
 refine j_false rfl rfl ?_
 refine j_nf [_,_] rfl ?_
 refine j_step rfl (x_field rfl fd27_1 ?_)
 refine j_step rfl (x_bld 1 rfl rfl ld3 rfl ?_)
 refine j_run it 2 rfl (by simp) ?_
 refine j_step rfl (x_lit sl25 zo25e rfl rfl rfl rfl (by decide) (by decide) rfl fun b3=>?_)
 refine j_pub_all (E:=(encSl (I64))) (n:=2) [[Value.slice pl lost.length cl],[Value.slice pa away.length ca]] [lost,away] 0 (fun w A hG=>(allrd_cons (rd_of_slF (hG _ (fact_mem (n:=2) rfl))) (allrd_cons (rd_of_slF (hG _ (fact_mem (n:=3) rfl))) allrd_nil))) rfl rfl rfl rfl (by first | decide | exact Nat.le_of_ble_eq_true rfl) (by first | decide | exact Nat.le_of_ble_eq_true rfl) ?_
 refine j_step rfl (x_call [0] rfl (c_repair_others) rfl ?_)
 rintro _ _ _ ⟨r1,rfl,rfl,rfl⟩
 simp only [List.cons_append,List.nil_append]
 refine j_run it 1 rfl (by simp) ?_
 refine j_nf [_,_,_] rfl ?_
 refine j_step rfl (x_bld_all 2 rfl rfl ld27 rfl ?_)
 refine j_run it 2 rfl (by simp) ?_
 refine j_pubR 0 0 rfl rfl (by show ((othL N [lost,away]).length) * 8 ≤ 140737488355328;omega) ?_
 refine j_step rfl (x_call [3,4,5,0] rfl (c_repair_witness) rfl ?_)
 rintro _ _ _ ⟨rfl,rfl,rfl⟩
 simp only [List.cons_append,List.nil_append]
 refine j_step rfl (x_nenilN sl22 rfl rfl ?_)
 refine j_nf [_,_] rfl ?_
 refine j_false rfl rfl ?_
 refine j_nf [_,_] rfl ?_
 refine j_run it 1 rfl (by simp) ?_
 refine j_step rfl (x_call [5] rfl (c_slices_Clone___int_int_) rfl ?_)
 rintro _ _ _ ⟨pa1,ca1,rfl,rfl,rfl⟩
 simp only [List.cons_append,List.nil_append]
 refine j_step rfl (x_build (cs:=[Value.slice pa1 lost.length ca1,Value.slice none 0 0,Value.slice none 0 0,Value.bool false,Value.slice none 0 0]) st40 zo40 rfl rfl ?_)
 refine j_step rfl (x_alloc zo40 fun b4=>?_)
 refine j_step rfl (x_bst_all 0 rfl rfl rfl ld40 rfl rfl (by simp [Value.oneCell']) ?_)
 refine j_nf [_,_] rfl ?_
 refine j_run it 1 rfl (by simp) ?_
 refine j_nf [_,_,_] rfl ?_
 refine j_run it 1 rfl (by simp) ?_
 refine j_nf [_,_,_] rfl ?_
 simp only [setB,List.set_cons_zero,List.eraseIdx_cons_zero,List.eraseIdx_cons_succ,List.cons_append,List.nil_append]
 refine j_add (slF I64 none 0 0 []) (fun w A _=>slF_nil _ w A none 0) ?_
 refine j_add (slF (encSl I64) none 0 0 []) (fun w A _=>slF_nil _ w A none 0) ?_
 refine j_loopG (X:=Nat × Option Addr × Nat × Nat × List (List Int)) [1,2,3,6,7,9,10] [0,1,2,3,4,5,6,7,8,9] (fun x=>[(12,.int .i64 (x.1 : Int)),(11,.slice x.2.1 x.2.2.1 x.2.2.2.1)]) (fun _=>_) (fun x=>[slF (encSl I64) x.2.1 x.2.2.1 x.2.2.2.1 x.2.2.2.2]) (fun x=>x.1 ≤ (othL N [lost,away]).length ∧ plP p m N md lost away rows (N + 1) 0 [] = plP p m N md lost away rows (N + 1 - x.1) x.1 x.2.2.2.2) (fun x=>N + 1 - x.1) (0,none,0,0,[]) [0] rfl rfl rfl ⟨Nat.zero_le _,rfl⟩ (by repeat (first | exact Fr.sub_nil _ | refine Fr.sub_cons rfl ?_)) rfl rfl ?_
 rintro ⟨w,pp,kp,cp,t⟩ ⟨hw,hg⟩ ih
 simp only [List.cons_append,List.nil_append] at hw hg ih ⊢
 rw [hP,show N + 1 - w = (N - w) + 1 by omega,plP,plR] at hg
 have c_repair_hunt__node:=fun {b : Nat}=>S_repair_hunt__node CC hlo (away:=away) w (s:=[]) (z:=[]) (k:=4096) (T:=[]) (W:=w) (b:=b) (pm:=pm) (nm:=nm) (cm:=cm) (ps:=ps) (n:=n) (c:=c) (pl:=pl) (nl:=lost.length) (cl:=cl) (pa:=pa) (na:=away.length) (ca:=ca) (r:=⟨none,0,[]⟩) (pS:=none) (ns:=0) (cs:=0) (pz:=none) (nz:=0) (cz':=0) (by simp) (by omega) (by simp;omega) (by simp) (by simp) (by simp)
 have hen:=hunt_ends CC hlo hall (w:=w)
 have hset:=fun {s : List Int}=>hunt_set (lost:=lost) (away:=away) CC (w:=w) (s:=s)
 obtain ⟨⟨⟨k',T'⟩,o⟩,hH⟩ : ∃ x,huP p m N md lost away rows w [] [] (4096,[]) = x:=⟨_,rfl⟩
 rw [show huW p m N md lost away rows w = ((k',T'),o) from hH] at hg hen hset
 simp only [hH,List.length_nil] at c_repair_hunt__node
 dsimp only at hg hen hset
 have hTl : T'.length + k' ≤ 0 + 4096:=by have:=(hu_le (add:=apI) (wt:=fun s=>wtP p m md N rows lost (srL N s)) (br:=fun z w=>brL lost away z w N) w [] [] (4096,[])).2;rw [show huT apI (fun s=>wtP p m md N rows lost (srL N s)) (fun z w=>brL lost away z w N) w [] [] (4096,[]) = ((k',T'),o) from hH] at this;exact this
 cases o with
 | none =>
  have hw2 : w < (othL N [lost,away]).length:=by
   refine Classical.byContradiction fun h=>hen (by omega) rfl
  simp only [NoQ] at c_repair_hunt__node
  refine j_nf [_,_,_,_,_,_,_] rfl ?_
  refine j_step rfl (x_bld_all 2 rfl rfl ld27 rfl ?_)
  refine j_run it 3 rfl (by simp) ?_
  refine j_step rfl (x_build (cs:=[Value.int IntKind.i64 ↑p,Value.int IntKind.i64 ↑m,Value.slice pm nm cm,Value.int IntKind.i64 ↑N,Value.slice ps n c,Value.slice pl lost.length cl,Value.slice pa away.length ca,Value.int IntKind.i64 ↑w,Value.int IntKind.i64 4096,Value.slice none 0 0]) st83 zo83 rfl rfl ?_)
  refine j_step rfl (x_alloc zo83 fun b5=>?_)
  refine j_step rfl (x_bst_all 0 rfl rfl rfl ld83 rfl rfl (by simp [Value.oneCell']) ?_)
  refine j_nf [_,_,_,_,_,_,_] rfl ?_
  refine j_row0 (encSl I64) 22 ?_
  refine j_selB [1,0,2,3,4] rfl rfl ?_
  refine wk 13 (ct @c_repair_hunt__node cz) ?_
  intro r2
  simp only [List.length_cons,List.length_nil,List.drop_succ_cons,List.drop_zero,List.cons_append,List.nil_append]
  refine j_pubR 1 0 rfl rfl (by show T'.length * 24 ≤ 140737488355328;omega) ?_
  refine j_toM [false,true,true,true] [0,4,5,6,7,8,9,10,11,12,13] (by exact fra rfl) rfl rfl (ih (w + 1,ad r2.bo,T'.length,r2.cap,T') (by dsimp only;omega) ⟨by dsimp only;omega,by dsimp only;rw [show N + 1 - (w + 1) = N - w by omega];exact hP.trans hg⟩)
 | some o =>
 clear ih
 cases o with
 | none =>
  obtain ⟨rfl,rfl,rfl⟩ : hs = fewGo (enP p m md N rows lost) (othL N [lost,away]).length (othL N [lost,away]) ∧ f = false ∧ pf = []:=by simpa using hg
  simp only [NoQ] at c_repair_hunt__node
  have c_repair_spare:=fun {nm cm n c nl cl nh ch : Nat} {pm ps pl ph : Option Addr}=>S_repair_spare (nm:=nm) (cm:=cm) (n:=n) (c:=c) (nl:=nl) (cl:=cl) (nh:=nh) (ch:=ch) (pm:=pm) (ps:=ps) (pl:=pl) (ph:=ph) CC hlo hst
  generalize hfw : fewGo (enP p m md N rows lost) (othL N [lost,away]).length (othL N [lost,away]) = hs at *
  refine j_nf [_,_,_,_,_,_,_] rfl ?_
  refine j_step rfl (x_bld_all 2 rfl rfl ld27 rfl ?_)
  refine j_run it 3 rfl (by simp) ?_
  refine j_step rfl (x_build (cs:=[Value.int IntKind.i64 ↑p,Value.int IntKind.i64 ↑m,Value.slice pm nm cm,Value.int IntKind.i64 ↑N,Value.slice ps n c,Value.slice pl lost.length cl,Value.slice pa away.length ca,Value.int IntKind.i64 ↑w,Value.int IntKind.i64 4096,Value.slice none 0 0]) st83 zo83 rfl rfl ?_)
  refine j_step rfl (x_alloc zo83 fun b5=>?_)
  refine j_step rfl (x_bst_all 0 rfl rfl rfl ld83 rfl rfl (by simp [Value.oneCell']) ?_)
  refine j_nf [_,_,_,_,_,_,_] rfl ?_
  refine j_row0 (encSl I64) 22 ?_
  refine j_selB [1,0,2,3,4] rfl rfl ?_
  refine wk 8 (ct @c_repair_hunt__node cz) ?_
  intro r2
  refine j_step rfl (x_nenilN sl22 rfl rfl ?_)
  refine wk 22 (ct @c_repair_spare (ct @c_repair_Combine cz)) ?_
  intro pa2 k1 ca2 pb1 cb1
  refine j_givC [7,1,0,5] rfl (.agg 3 rfl rfl ld40 rfl (.tmp rfl .nil)) rfl ⟨_,_,_,_,_,_,_,_,_,_,_,_,rfl,rfl,rfl⟩
 | some l =>
  obtain ⟨rfl,rfl,rfl⟩ : hs = srL N l ∧ f = true ∧ pf = t:=by simpa using hg
  obtain ⟨h1,h2,h3,h4⟩:=hset rfl
  have hsl:=srL_len (fun y hy=>(h4 y hy).1) h3
  simp only [NoQ] at c_repair_hunt__node
  have c_slices_Sort___int_int_:=fun {b cap : Nat} {cs : List Value}=>S_slices_Sort___int_int_ (b:=b) (cap:=cap) (n:=l.length) (cs:=cs) (l:=l) (K:=srL N l) (by omega) (fun x hx=>by have:=(h4 x hx).1;omega) rfl ok.st.2 (srL_pm (fun y hy=>(h4 y hy).1) h3)
  generalize srL N l = hs at *
  refine j_nf [_,_,_,_,_,_,_] rfl ?_
  refine j_step rfl (x_bld_all 2 rfl rfl ld27 rfl ?_)
  refine j_run it 3 rfl (by simp) ?_
  refine j_step rfl (x_build (cs:=[Value.int IntKind.i64 ↑p,Value.int IntKind.i64 ↑m,Value.slice pm nm cm,Value.int IntKind.i64 ↑N,Value.slice ps n c,Value.slice pl lost.length cl,Value.slice pa away.length ca,Value.int IntKind.i64 ↑w,Value.int IntKind.i64 4096,Value.slice none 0 0]) st83 zo83 rfl rfl ?_)
  refine j_step rfl (x_alloc zo83 fun b5=>?_)
  refine j_step rfl (x_bst_all 0 rfl rfl rfl ld83 rfl rfl (by simp [Value.oneCell']) ?_)
  refine j_nf [_,_,_,_,_,_,_] rfl ?_
  refine j_row0 (encSl I64) 22 ?_
  refine j_selB [1,0,2,3,4] rfl rfl ?_
  refine wk 8 (ct @c_repair_hunt__node cz) ?_
  intro r2 b21 c21 cs21
  refine j_step rfl (x_nenilS sl22 rfl rfl ?_)
  refine wk 18 (ct @c_slices_Sort___int_int_ cz) ?_
  intro cs'1
  simp only [List.length_cons,List.length_nil,List.drop_succ_cons,List.drop_zero,List.cons_append,List.nil_append,List.eraseIdx_cons_zero,List.eraseIdx_cons_succ,setB,List.set_cons_succ,List.set_cons_zero]
  refine j_pubRb 0 0 rfl rfl (by show l.length * 8 ≤ 140737488355328;omega) ?_
  refine wk 9 (ct @c_repair_Combine cz) ?_
  intro pb1 cb1
  refine j_givC [9,1,0,6] rfl (.agg 3 rfl rfl ld40 rfl (.tmp rfl .nil)) rfl ⟨_,_,_,_,_,_,_,_,_,_,_,_,rfl,rfl,rfl⟩
end
open Go Go.Fw
set_option maxRecDepth 100000
set_option linter.unusedVariables false
set_option linter.unusedSimpArgs false
set_option maxHeartbeats 0
theorem S_codewrightref11_Compare {pl pk : Option Addr} {nl cl nk ck : Nat} {l k : List Int} :
  Ctr Tryz.prog 116 [.slice pl nl cl,.slice pk nk ck] [] [slF I64 pl nl cl l,slF I64 pk nk ck k] (fun v Φ β=>∃ e : Int,v = .int .i64 e ∧ Φ = [] ∧ β = [] ∧ (e = 0 ↔ l = k)):=by
 refine Ctr_of_j' (F:=F_codewrightref11_Compare) rfl fun C=>?_
 refine j_len 0 rfl fun hn hb _=>?_
 refine j_len 1 rfl fun hn2 hb2 _=>?_
 subst hn
 subst hn2
 have hb' : l.length * 8 ≤ 140737488355328:=hb
 have hb2' : k.length * 8 ≤ 140737488355328:=hb2
 refine wk 5 cz ?_
 refine j_loopG (X:=Nat) [0,1] [0,1] (fun i=>[(5,.int .i64 (i : Int))]) (fun _=>[]) (fun _=>[]) (fun i=>i ≤ l.length ∧ i ≤ k.length ∧ ∀ j,j < i → l[j]? = k[j]?) (fun i=>l.length - i) 0 [] rfl rfl rfl ⟨Nat.zero_le _,Nat.zero_le _,fun j h=>by omega⟩ (by repeat (first | exact Fr.sub_nil _ | refine Fr.sub_cons rfl ?_)) rfl rfl ?_
 rintro i ⟨hi,hi2,hno⟩ ih
 simp only [List.cons_append,List.nil_append] at hi hi2 ih ⊢
 by_cases h9 : i < l.length
 ·by_cases h8 : i < k.length
  ·obtain ⟨y,hy⟩ : ∃ y,l[i]? = some y:=⟨_,List.getElem?_eq_getElem h9⟩
   obtain ⟨z,hz⟩ : ∃ z,k[i]? = some z:=⟨_,List.getElem?_eq_getElem h8⟩
   have ey:=gd_at hy
   have ez:=gd_at hz
   have hne : y ≠ z → l ≠ k:=fun h e=>by rw [e,hz] at hy;exact h (Option.some.inj hy).symm
   by_cases h7 : y < z
   ·refine wk 18 cz ?_
    intro h1 h2 b1 o1 b2 o2 h3
    refine j_giv [] rfl rfl rfl ⟨_,rfl,rfl,rfl,⟨fun h=>by omega,fun h=>absurd h (hne (by omega))⟩⟩
   ·by_cases h6 : z < y
    ·refine wk 22 cz ?_
     intro h1 h2 b1 o1 b2 o2 h3 b3 o3 b4 o4 h4
     refine j_giv [] rfl rfl rfl ⟨_,rfl,rfl,rfl,⟨fun h=>by omega,fun h=>absurd h (hne (by omega))⟩⟩
    ·obtain rfl : y = z:=by omega
     refine wk 22 cz ?_
     intro h1 h2 b1 o1 b2 o2 h3 b3 o3 b4 o4 h4
     exact tw (ih (i + 1) (by omega) ⟨by omega,by omega,fun j hj=>by
      rcases Nat.lt_succ_iff_lt_or_eq.1 hj with h | rfl
      ·exact hno j h
      ·rw [hy,hz]⟩)
  ·clear ih
   refine wk 30 cz ?_
   intro h1 h2 h3 h4
   refine j_giv [] rfl rfl rfl ⟨_,rfl,rfl,rfl,⟨fun h=>by omega,fun h=>by rw [h] at h9;exact absurd h9 h8⟩⟩
 ·clear ih
  by_cases h8 : i < k.length
  ·refine wk 20 cz ?_
   intro h1 h2
   refine j_giv [] rfl rfl rfl ⟨_,rfl,rfl,rfl,⟨fun h=>by omega,fun h=>by rw [h] at h9;exact absurd h8 h9⟩⟩
  ·refine wk 28 cz ?_
   intro h1 h2 h3
   refine j_giv [] rfl rfl rfl ⟨_,rfl,rfl,rfl,⟨fun _=>List.ext_getElem? fun j=>?_,fun _=>rfl⟩⟩
   by_cases h : j < i
   ·exact hno j h
   ·rw [List.getElem?_eq_none (by omega),List.getElem?_eq_none (by omega)]
theorem S_codewrightref11_CompareS {pl pk : Option Addr} {nl cl nk ck : Nat} {l : List Int} {z : Int} (hz : z = 0) :
  Ctr Tryz.prog 116 [.slice pl nl cl,.slice pk nk ck] [] [slF I64 pl nl cl l,slF I64 pk nk ck l] (Rv (.int .i64 z) []) :=
 (S_codewrightref11_Compare (l:=l) (k:=l)).mono fun C w v Φ β' ⟨e,h1,h2,h3,h4⟩ hO hG=>⟨Φ,β',⟨by rw [h1,h4.2 rfl,hz],h2,h3⟩,hO,hG⟩
theorem S_codewrightref11_SameLists {pl pk : Option Addr} {nl cl nk ck : Nat} {l : List (List Int)} : Ctr Tryz.prog 68 [.slice pl nl cl,.slice pk nk ck] [] [slF (encSl I64) pl nl cl l,slF (encSl I64) pk nk ck l] (Rv (.bool true) []):=by
 refine Ctr_of_j' (F:=F_codewrightref11_SameLists) rfl fun C=>?_
 obtain ⟨z,hz⟩ : ∃ z : Int,z = 0:=⟨0,rfl⟩
 have c_codewrightref11_Compare:=fun {pl pk : Option Addr} {nl cl nk ck : Nat} {l : List Int}=>S_codewrightref11_CompareS (pl:=pl) (pk:=pk) (nl:=nl) (cl:=cl) (nk:=nk) (ck:=ck) (l:=l) hz
 refine j_len 0 rfl fun hn hb _=>?_
 refine j_len 1 rfl fun hn2 hb2 _=>?_
 subst hn
 subst hn2
 have hb' : l.length * 24 ≤ 140737488355328:=hb
 refine wk 13 cz ?_
 intro h1
 refine j_loopG (X:=Nat) [0,1] [0,1] (fun i=>[(5,.int .i64 (i : Int))]) (fun _=>[]) (fun _=>[]) (fun i=>i ≤ l.length) (fun i=>l.length - i) 0 [] rfl rfl rfl (Nat.zero_le _) (by repeat (first | exact Fr.sub_nil _ | refine Fr.sub_cons rfl ?_)) rfl rfl ?_
 rintro i hi ih
 simp only [List.cons_append,List.nil_append] at hi ih ⊢
 by_cases h9 : i < l.length
 ·refine wk 13 (ct @c_codewrightref11_Compare cz) ?_
  intro h2 b1 o1 pa1 ca1 b2 o2 pa2 ca2 h3
  exact tw (ih (i + 1) (by omega) (by omega))
 ·clear ih
  refine wk 9 cz ?_
  intro h2
  exact ge
section
variable {P : Program} {F : Fun P} {C : Cx} {S : List It} {R : Value → World → Prop} {β : List Blk} {Γ : List Fact} {it : List (TypeId × IntKind)} {L : List Oper} {pt : List (List Nat)} {p : List Nat} {σ κ : Fr} {fs : List (Nat × Fact)} {al : List Blk} {i : Nat}
theorem lxk_endWB {k m : Nat} {A : List Nat} {x0 : List Blk} (hk : i = k) (h : WIN F C p A m k S σ (al++(x0++β)) (fs.map (·.2)++Γ) R) : LxK it F C p (.win A m::S) L pt β Γ R k i [] κ σ fs al (some x0):=⟨by simpa using hk,by subst hk;exact h⟩
end
theorem S_codewrightref09_Vector {p m nm cm n c k : Nat} {pm ps : Option Addr} {md l : List Int} (K : Fok p m md) (hl : Wd (p ^ m) k l) : Ctr Tryz.prog 153 [.agg #[.int .i64 p,.int .i64 m,.slice pm nm cm],.slice ps n c,.int .i64 k] [] [slF I64 ps n c l] (Rv (.int .i64 0) []):=by
 refine Ctr_of_j' (F:=F_codewrightref09_Vector) rfl fun C=>?_
 refine j_len 0 rfl fun hn hb _=>?_
 subst hn
 have hll:=hl.1
 have c_codewrightref09_Entries:=fun {nm cm n c : Nat} {pm ps : Option Addr}=>S_codewrightref09_Entries (nm:=nm) (cm:=cm) (pm:=pm) (ps:=ps) (n:=n) (c:=c) (l:=l) K
 rw [entE,if_pos hl.2] at c_codewrightref09_Entries
 refine wk 15 (ct @c_codewrightref09_Entries cz) ?_
 intro b1 h1
 exact ge
theorem S_codewrightref09_Solve {p m n c nm cm N nb cb : Nat} {pm ps pb : Option Addr} {md b : List Int} {rows : List (List Int)} (K : Fok p m md) (hN : N ≤ 256) (hl : rows.length ≤ 256) (hM : Mat (p ^ m) N rows) (hb : Wd (p ^ m) rows.length b) :
  Ctr Tryz.prog 115 [.agg #[.int .i64 p,.int .i64 m,.slice pm nm cm],.agg #[.int .i64 N,.slice ps n c],.slice pb nb cb] [] [slF I64 pm nm cm md,slF (encSl I64) ps n c rows,slF I64 pb nb cb b]
   (SoQ N (elP p m md N 0 0 (auL rows b))):=by
 refine Ctr_of_j' (F:=F_codewrightref09_Solve) rfl fun C=>?_
 have O:=fok_fo K
 have hq:=K.q
 refine j_len 1 rfl fun hn hbs _=>?_
 subst hn
 refine j_len 2 rfl fun hn hbb _=>?_
 have hbl:=hb.1
 rw [hbl] at hn
 subst hn
 have hbs' : rows.length * 24 ≤ 140737488355328:=hbs
 have hau : (auL rows b).length = rows.length:=auL_len hbl
 have hmk : mkE p m md N rows = 0:=by rw [mkE,if_neg (fun h=>h (fok_chk K)),Int.toNat_natCast,Int.toNat_natCast];exact mtE_ok hN hl hM
 have c_codewrightref09_Check:=fun {nm cm n c : Nat} {pm ps : Option Addr}=>S_codewrightref09_Check (nm:=nm) (cm:=cm) (n:=n) (c:=c) (pm:=pm) (ps:=ps) (show InR .i64 (N : Int) by simp only [InR];omega) hmk
 have c_codewrightref09_Vector:=fun {nm cm n c : Nat} {pm ps : Option Addr}=>S_codewrightref09_Vector (nm:=nm) (cm:=cm) (n:=n) (c:=c) (pm:=pm) (ps:=ps) K hb
 refine wk 30 (ct @c_codewrightref09_Check (ct @c_codewrightref09_Vector cz)) ?_
 intro b1 b2 h1 h2
 refine j_row0 (encSl I64) 22 ?_
 refine j_loopG (X:=Nat × Row) [2,3,4,6,7] [0,1,2,3] (fun x=>[(10,.int .i64 (x.1 : Int)),(9,.slice (ad x.2.bo) x.1 x.2.cap)]) (fun x=>(x.2.bo,22,x.2.cs)::_) (fun x=>[rowF (encSl I64) x.2 x.1 ((auL rows b).take x.1)]) (fun x=>x.1 ≤ rows.length) (fun x=>rows.length - x.1) (0,⟨none,0,[]⟩) [0] rfl rfl rfl (Nat.zero_le _) (by repeat (first | exact Fr.sub_nil _ | refine Fr.sub_cons rfl ?_)) rfl rfl ?_
 rintro ⟨i,r⟩ hi ih
 simp only [List.cons_append,List.nil_append] at hi ih ⊢
 by_cases h9 : i < rows.length
 ·obtain ⟨x,at_x⟩ : ∃ x,b[i]? = some x:=⟨_,List.getElem?_eq_getElem (by omega)⟩
  obtain ⟨u,at_u⟩ : ∃ u,rows[i]? = some u:=⟨_,List.getElem?_eq_getElem h9⟩
  have ex:=gd_at at_x
  have eu:=gd_at at_u
  have hul:=(hM u (List.mem_of_getElem? at_u)).1
  rw [← eu] at hul
  obtain ⟨x0,x1⟩:=hb.2 x (List.mem_of_getElem? at_x)
  have ih':=fun r=>ih (i + 1,r) (by dsimp only;omega) (by dsimp only;omega)
  simp only [List.take_add_one,auL_at at_u at_x,Option.toList_some] at ih'
  clear ih
  refine wk 7 cz ?_
  intro h3
  (apply j_drawKW (x0:=some []) it mx 0 14 [0] 1;(· rfl);(· rfl);(· rfl);(· decide))
  simp only [List.drop_zero]
  (apply lxk_run 1;(· rfl);(· simp))
  (apply lxk_lit0 (encInt IntKind.i64 8);(· rfl);(· exact sl22);intro pa1)
  (apply lxk_eq;(· rfl);(· exact d_x fun _=>x_field rfl fd67_1 dk_eq))
  (apply lxk_eq;(· rfl);(· exact d_bld 1 rfl rfl ld25 rfl))
  (apply lxk_run 1;(· rfl);(· simp))
  (apply lxk_pt;(· rfl);(· exact d_x fun _=>x_idx 3 (i) rfl rfl rfl sl25 rfl (by omega) fun z1 hz1 b3 o1=>(dk_ptD default hz1 0 rfl));intro b3 o1)
  (apply lxk_sl;(· rfl);(· exact d_x fun _=>x_ld_sl 0 rfl rfl ld22 fun pa2 ca1=>(dk_sl 0 rfl));intro pa2 ca1)
  (apply lxk_appL (keep:=[]) 2 0;(· rfl);(· rfl);(· rfl);(· rfl);(· rfl);(· exact sl22);(· exact zo22e);(· rfl);(· (first | omega | (simp only [List.length_cons,List.length_nil];omega)));(· exact by22e);(· (first | omega | (simp only [List.length_cons,List.length_nil];omega)));intro pa3 cap1 b4 cs1)
  (apply lxk_run 2;(· rfl);(· simp))
  (apply lxk_pt;(· rfl);(· exact d_x fun _=>x_idx 4 (i) rfl rfl rfl sl22 rfl (by omega) fun z1 hz1 b5 o2=>(dk_ptD default hz1 0 rfl));intro b5 o2)
  (apply lxk_eq;(· rfl);(· exact d_x fun _=>x_ld_int 0 rfl rfl ld3 fun ⟨r1,r2⟩=>dk_eq))
  (apply lxk_sl;(· rfl);(· exact d_x fun _=>x_lit sl22 zo22e rfl rfl rfl rfl (by decide) (by decide) rfl fun b6=>dk_all (E:=I64) [[Value.int IntKind.i64 (b.getD i default)]] [b.getD i default] (fun w A hG=>(allrd_cons ⟨rfl,by first | assumption | (simp only [InR];omega)⟩ allrd_nil)) rfl rfl rfl (by first | decide | exact Nat.le_of_ble_eq_true rfl));intro pa4 ca2)
  (apply lxk_appZi 2 0;(· rfl);(· rfl);(· rfl);(· rfl);(· rfl);(· exact sl22);(· exact zo22e);(· rfl);(· (first | omega | (simp only [List.length_cons,List.length_nil];omega)));(· exact by22e);(· (first | omega | (simp only [List.length_cons,List.length_nil];omega)));intro pa5 cap2 b6 cs2) --ok
  refine lxk_endWB rfl ?_
  all_goals try rfl
  simp only [List.map_cons,List.map_nil,List.cons_append,List.nil_append,List.append_nil]
  refine win_step it rfl rfl ⟨⟨_,_,_,_,rfl,rfl,rfl,rfl,rfl,rfl,(by first | trivial | (repeat' first | exact trivial | apply And.intro | omega))⟩,trivial⟩ (x_lit sl25 zo25e rfl rfl rfl rfl (by decide) (by decide) rfl fun b7=>?_)
  refine win_end it ⟨⟨_,_,_,_,rfl,rfl,rfl,rfl,rfl,rfl,(by first | trivial | (repeat' first | exact trivial | apply And.intro | omega))⟩,trivial⟩ ?_ --ok
  refine j_pubZ 1 0 rfl rfl (by show (0 + (rows.getD i default).length + 1) * 8 ≤ 140737488355328;omega) ?_
  simp only [List.take_succ_cons,List.take_zero,List.cons_append,List.nil_append]
  rw [← eu,← ex] at ih'
  refine j_step rfl (x_appR (z:=rows.getD i default++[b.getD i default]) 1 0 8 rfl rfl rfl rfl rfl sl25 zo25e rfl (fun w A hG=>(rd_of_slF (hG _ (fact_mem (n:=0) rfl)))) (by omega) _ by25e (by omega) fun r1=>?_)
  refine wk 4 cz ?_
  refine j_toM [true,false,true,true] [0,10,11,12,13] (by exact fra rfl) rfl rfl (ih' r1)
 ·obtain rfl : i = rows.length:=by omega
  clear ih
  rw [List.take_of_length_le (by omega)]
  refine j_pubR 0 0 rfl rfl (by show rows.length * 24 ≤ 140737488355328;omega) ?_
  simp only [List.eraseIdx_cons_zero,List.eraseIdx_cons_succ]
  have hM2:=auL_mat hM hb.2
  have c_codewrightref09_Eliminate:=fun {nm cm c : Nat} {pm ps : Option Addr}=>S_codewrightref09_Eliminate (nm:=nm) (cm:=cm) (c:=c) (pm:=pm) (ps:=ps) K (n:=rows.length) (by omega) (Nat.le_succ N) (by omega) hau hM2
  have hEl : (elP p m md N 0 0 (auL rows b)).1.length = rows.length:=by rw [elP,elimL_len,hau]
  have hEM : Mat (p ^ m) (N + 1) (elP p m md N 0 0 (auL rows b)).1:=((fok_fo K).elim (m:=N) hM2).1
  have hEe : Ech (elP p m md N 0 0 (auL rows b)).1 N (elP p m md N 0 0 (auL rows b)).2:=((fok_fo K).elim (m:=N) hM2).2.1
  have hEk:=hEe.le
  rw [hEl] at hEk
  generalize elP p m md N 0 0 (auL rows b) = E at *
  refine wk 18 (ct @c_codewrightref09_Eliminate cz) ?_
  intro h3 pb1 pp1 cb1 cp1
  refine j_loopG (X:=Nat) [4,11,12] [0,1,2,3,4,5,6,7] (fun i=>[(13,.int .i64 (i : Int))]) (fun _=>_) (fun _=>[]) (fun i=>E.2.length ≤ i ∧ i ≤ rows.length ∧ ∀ j,E.2.length ≤ j → j < i → en E.1 j N = 0) (fun i=>rows.length - i) E.2.length [] rfl rfl rfl ⟨Nat.le_refl _,hEk,fun j h1 h2=>by omega⟩ (by repeat (first | exact Fr.sub_nil _ | refine Fr.sub_cons rfl ?_)) rfl rfl ?_
  rintro i ⟨hi1,hi2,hno⟩ ih
  simp only [List.cons_append,List.nil_append] at hi1 hi2 ih ⊢
  by_cases h9 : i < rows.length
  ·have hr : E.1[i]? = some (row0 E.1 i):=by rw [row0,List.getD_eq_getElem?_getD,List.getElem?_eq_getElem (by omega)];rfl
   have er:=gd_at hr
   have hrl : (E.1.getD i default).length = N + 1:=by rw [er];exact (hEM.row (by omega)).1
   have een : en E.1 i N = (E.1.getD i default).getD N default:=by rw [er];rfl
   by_cases h8 : en E.1 i N = 0
   ·have h7 : (E.1.getD i default).getD N default = 0:=by rw [← een];exact h8
    refine wk 13 cz ?_
    intro h4 b3 o1 pa1 ca1 b4 o2 h5
    exact tw (ih (i + 1) (by omega) ⟨by omega,by omega,fun j h1 h2=>by
     rcases Nat.lt_succ_iff_lt_or_eq.1 h2 with h | rfl
     ·exact hno j h1 h
     ·exact h8⟩)
   ·have h7 : (E.1.getD i default).getD N default ≠ 0:=by rw [← een];exact h8
    rw [so_false (Bool.eq_false_iff.2 fun e=>h8 (slB_iff.1 e i hi1 (by omega)))]
    clear ih
    refine wk 13 cz ?_
    intro h4 b3 o1 pa1 ca1 b4 o2 h5
    refine j_add (slF I64 none 0 0 []) (fun w A _=>slF_nil I64 w A none 0) ?_
    refine j_giv [0] rfl rfl rfl ⟨_,_,rfl,rfl,rfl⟩
  ·rw [so_true (slB_iff.2 fun j h1 h2=>hno j h1 (by omega))]
   clear ih
   refine wk 14 cz ?_
   intro h4 b3
   rw [show natCells .i64 (List.replicate N 0) = intCells .i64 (slK N E 0) by rw [slK_zero];simp [natCells,intCells,zW]]
   refine j_loopG (X:=Nat) [4,11,12,14] [0,1,2,3,4,5,6,7] (fun i=>[(15,.int .i64 (i : Int))]) (fun i=>(some b3,3,intCells .i64 (slK N E i))::_) (fun _=>[]) (fun i=>i ≤ E.2.length) (fun i=>E.2.length - i) 0 [] rfl rfl rfl (Nat.zero_le _) (by repeat (first | exact Fr.sub_nil _ | refine Fr.sub_cons rfl ?_)) rfl rfl ?_
   rintro i hi ih
   simp only [List.cons_append,List.nil_append] at hi ih ⊢
   by_cases h9 : i < E.2.length
   ·obtain ⟨a,hpa⟩ : ∃ a,E.2[i]? = some a:=⟨_,List.getElem?_eq_getElem h9⟩
    have at_p : (toI E.2)[i]? = some (a : Int):=by rw [toI,List.getElem?_map,hpa];rfl
    have ep:=gd_at at_p
    have haN:=hEe.lt a (List.mem_of_getElem? hpa)
    have hr : E.1[i]? = some (row0 E.1 i):=by rw [row0,List.getD_eq_getElem?_getD,List.getElem?_eq_getElem (by omega)];rfl
    have er:=gd_at hr
    have hrl : (E.1.getD i default).length = N + 1:=by rw [er];exact (hEM.row (by omega)).1
    have hpl : (toI E.2).length = E.2.length:=List.length_map _
    have ih':=ih (i + 1) (by omega) (by omega)
    rw [← slK_set hEe hpa,en,← er,show at0 (E.1.getD i default) N = (E.1.getD i default).getD N default from rfl] at ih'
    have hln:=slK_len (n:=N) (k:=i) (E:=E)
    generalize slK N E i = L at *
    refine wk 13 cz ?_
    intro h5 b4 o1 b5 o2 pa1 ca1 b6 o3
    simp only [setB]
    rw [show ((toI E.2).getD i default).toNat = a by rw [ep,Int.toNat_natCast]]
    exact tw (ih')
   ·obtain rfl : i = E.2.length:=by omega
    rw [slK_end]
    clear ih
    have hX:=(fok_fo K).slX_wd hEM hEe
    have hXl:=hX.1
    generalize slX N E = X at *
    refine wk 9 cz ?_
    intro h5
    refine j_rowInt 0 rfl hXl.symm (fun y hy=>by have:=hX.2 y hy;simp only [InR];omega) (by omega) ?_
    refine j_pubR 0 0 rfl rfl (by show N * 8 ≤ 140737488355328;omega) ?_
    simp only [List.eraseIdx_cons_zero,List.eraseIdx_cons_succ]
    rw [← hXl]
    refine j_giv [0] rfl rfl rfl ⟨_,_,rfl,rfl,rfl⟩
open Go Go.Fw
set_option maxRecDepth 100000
set_option linter.unusedVariables false
set_option linter.unusedSimpArgs false
set_option maxHeartbeats 0
theorem tr_hp {rows : List (List Int)} {hs : List Int} : trL rows.length (coL rows hs) = hpL rows hs:=by
 refine List.ext_getElem (by rw [trL,List.length_map,List.length_range,List.length_map]) fun k h1 h2=>?_
 rw [List.length_map] at h2
 simp only [trL,List.getElem_map,List.getElem_range,List.map_map]
 refine List.map_congr_left fun j _=>?_
 show at0 (colL rows j.toNat) k = at0 rows[k] j.toNat
 rw [at0,List.getD_eq_getElem?_getD,colL,List.getElem?_map,List.getElem?_eq_getElem h2];rfl
theorem S_codewrightref53_Coefficients {p m N n c nm cm nl cl nh ch : Nat} {pm ps pl ph : Option Addr} {md lost hs : List Int} {rows : List (List Int)} (CC : Cok p m md N rows) (hlo : stP N lost) (hst : stP N hs) (hB : coB p m md rows lost hs = true) :
  Ctr Tryz.prog 66 [.agg #[.int .i64 p,.int .i64 m,.slice pm nm cm,.int .i64 N,.slice ps n c],.slice pl nl cl,.slice ph nh ch] [] [slF I64 pm nm cm md,slF (encSl I64) ps n c rows,slF I64 pl nl cl lost,slF I64 ph nh ch hs]
   (fun v Φ β=>∃ (pb : Option Addr) (cb : Nat),v = .slice pb lost.length cb ∧ Φ = [slF (encSl I64) pb lost.length cb (coP p m md rows lost hs)] ∧ β = []):=by
 refine Ctr_of_j' (F:=F_codewrightref53_Coefficients) rfl fun C=>?_
 have hN:=CC.n64
 have hlr:=CC.len
 have hl1:=st_len hlo
 have hl2:=st_len hst
 have hq:=CC.K.q
 have q2:=(fok_fo CC.K).q2
 have hHM:=hp_mat (by omega) CC.mat hs
 have hlo1:=hlo.1
 have hst1:=hst.1
 refine j_len 1 rfl fun hn hb1 _=>?_
 subst hn
 refine j_len 2 rfl fun hn hb2 _=>?_
 subst hn
 refine j_len 3 rfl fun hn hb3 _=>?_
 subst hn
 have hb2' : lost.length * 8 ≤ 140737488355328:=hb2
 have hhc : (coL rows hs).length = hs.length:=List.length_map _
 have hlc : (coL rows lost).length = lost.length:=List.length_map _
 have c_codewrightref53_columns:=fun {n c nm cm nh ch : Nat} {pm ps ph : Option Addr} {l : List Int} (h1 : l.length ≤ 1000000) (h2 : ∀ x ∈ l,0 ≤ x ∧ x < (N : Int))=>S_codewrightref53_columnsP (n:=n) (c:=c) (nm:=nm) (cm:=cm) (nh:=nh) (ch:=ch) (pm:=pm) (ps:=ps) (ph:=ph) (hs:=l) CC h1 h2
 have c_codewrightref09_Turn:=fun {n c : Nat} {ps : Option Addr}=>S_codewrightref09_Turn (n:=n) (c:=c) (ps:=ps) (N:=rows.length) (W:=rows.length) (rows:=coL rows hs) (by omega) (Nat.le_refl _) fun r hr=>by
  obtain ⟨j,_,rfl⟩:=List.mem_map.1 hr
  exact List.length_map _
 rw [tr_hp] at c_codewrightref09_Turn
 refine wk 17 (ct @c_codewrightref53_columns (ct @c_codewrightref09_Turn (ct @c_codewrightref53_columns cz))) ?_
 intro b1 pa1 ca1 pa2 ca2 pa3 ca3 b2
 have hRl : (coP p m md rows lost hs).length = lost.length:=List.length_map _
 (apply j_rowlit (E:=encSl I64) (n:=0) (cs:=[]) [] [] 0 (fun w A hG=>allrd_nil);(· rfl);(· rfl);(· rfl);(· rfl);(· decide))
 refine j_loopG (X:=Nat × Nat × Nat × List Value) [1,2,3,6,7,8] [0,1,2,3,4,5,6,7] (fun x=>[(10,.int .i64 (x.1 : Int)),(9,.slice (some ⟨x.2.1,0,none⟩) x.1 x.2.2.1)]) (fun x=>(some x.2.1,22,x.2.2.2)::_) (fun x=>[rowF (encSl I64) ⟨some x.2.1,x.2.2.1,x.2.2.2⟩ x.1 ((coP p m md rows lost hs).take x.1)]) (fun x=>x.1 ≤ lost.length) (fun x=>lost.length - x.1) (0,b2,0,[]) [0] rfl rfl rfl (Nat.zero_le _) (by repeat (first | exact Fr.sub_nil _ | refine Fr.sub_cons rfl ?_)) rfl rfl ?_
 rintro ⟨i,b,cap,cs⟩ hi ih
 simp only [List.cons_append,List.nil_append] at hi ih ⊢
 by_cases h9 : i < lost.length
 ·obtain ⟨l,at_l⟩ : ∃ l,lost[i]? = some l:=⟨_,List.getElem?_eq_getElem h9⟩
  have hs1 : slB hs.length (eqP p m md rows hs l.toNat) = true:=List.all_eq_true.1 hB l (List.mem_of_getElem? at_l)
  have hcW:=wd_col (show 0 < p ^ m by omega) CC.mat l.toNat
  have hcl : (coL rows lost)[i]? = some (colL rows l.toNat):=by rw [coL,List.getElem?_map,at_l];rfl
  have ecl:=gd_at hcl
  have hcx : (coP p m md rows lost hs)[i]? = some (slX hs.length (eqP p m md rows hs l.toNat)):=by rw [coP,List.getElem?_map,at_l];rfl
  have ih':=fun b cap cs=>ih (i + 1,b,cap,cs) (by dsimp only;omega) (by dsimp only;omega)
  simp only [List.take_add_one,hcx,Option.toList_some] at ih'
  clear ih
  have c_codewrightref09_Solve:=fun {pm ps pb : Option Addr} {nm cm n c nb cb : Nat}=>S_codewrightref09_Solve (pm:=pm) (ps:=ps) (pb:=pb) (nm:=nm) (cm:=cm) (n:=n) (c:=c) (nb:=nb) (cb:=cb) CC.K (show hs.length ≤ 256 by omega) (show (hpL rows hs).length ≤ 256 by rw [List.length_map];omega) hHM (b:=colL rows l.toNat) (by rw [List.length_map];exact hcW)
  rw [show elP p m md hs.length 0 0 (auL (hpL rows hs) (colL rows l.toNat)) = eqP p m md rows hs l.toNat from rfl,so_true hs1,← ecl] at c_codewrightref09_Solve
  generalize slX hs.length (eqP p m md rows hs l.toNat) = X at *
  refine wk 7 cz ?_
  intro h1
  (apply j_drawK it mx 15;(· rfl);(· rfl))
  (apply lxk_eq;(· rfl);(· exact d_x fun _=>x_field rfl fd27_0 dk_eq))
  (apply lxk_eq;(· rfl);(· exact d_bld_agg 1 rfl rfl ld24 rfl rfl))
  (apply lxk_run 1;(· rfl);(· simp))
  (apply lxk_eq;(· rfl);(· exact d_x fun _=>x_len sl22 rfl dk_eq))
  (apply lxk_run 1;(· rfl);(· simp))
  (apply lxk_fa (val:=fun g=>Value.agg #[Value.int IntKind.i64 ↑hs.length,Value.slice (g 1).1 (rows.length) (g 1).2.1]) (f:=fun g=>[slF (encSl I64) (g 1).1 (rows.length) (g 1).2.1 (hpL rows hs)]);(· rfl);(· exact d_x fun _=>x_build (cs:=[Value.int IntKind.i64 ↑hs.length,Value.slice pa2 rows.length ca2]) st67 zo67 rfl rfl (fun _ _ _ hG=>⟨(fun | 1=>(pa2,ca2,0,[]) | _=>default),rfl,fun g hg=>by (simp only [List.mem_cons,List.not_mem_nil,or_false] at hg;rcases hg with rfl;(· exact drop_own (hG _ (fact_mem (n:=3) rfl))))⟩));intro g1;dsimp only [List.map_cons,List.map_nil])
  (apply lxk_run 2;(· rfl);(· simp))
  (apply lxk_pt;(· rfl);(· exact d_x fun _=>x_idx 2 (i) rfl rfl rfl sl25 rfl (by omega) fun z1 hz1 b3 o1=>(dk_ptD default hz1 0 rfl));intro b3 o1)
  (apply lxk_sl;(· rfl);(· exact d_x fun _=>x_ld_sl 0 rfl rfl ld22 fun pa4 ca4=>(dk_sl 0 rfl));intro pa4 ca4)
  (apply lxk_fa (val:=(fun g=>Value.tuple #[Value.slice (g 0).fst X.length (g 1).snd.fst,Value.int IntKind.i64 0])) (f:=(fun g=>[slF I64 (g 0).fst X.length (g 1).snd.fst X]));(· rfl);(· exact d_x fun _=>x_call [8,2,0] rfl (c_codewrightref09_Solve) rfl (by rintro _ _ _ ⟨pbg0,cbg1,rfl,rfl,rfl⟩;exact fun _ _ _ hG=>⟨(fun | 0=>(pbg0,0,0,[]) | 1=>(none,cbg1,0,[]) | _=>default),rfl,fun g hg=>drop_own (hG _ (List.mem_append_left _ hg))⟩));intro g2;dsimp only [List.map_cons,List.map_nil])
  (apply lxk_pv [41] (fun vs=>vs.getD 0 undef) (v:=Value.tuple #[Value.slice (g2 0).fst X.length (g2 1).snd.fst,Value.int IntKind.i64 0]);(· rfl);(· rfl);(· rfl);(· rfl);(· exact d_x fun _=>x_pv it rfl (by trivial) dk_eq))
  (apply lxk_pv [30] (fun vs=>match vs.getD 0 undef with | .tuple a=>a.getD 0 undef | _=>undef) (v:=Value.slice (g2 0).fst X.length (g2 1).snd.fst);(· rfl);(· rfl);(· rfl);(· rfl);(· exact d_x fun _=>x_pv it rfl (by trivial) dk_eq))
  (apply lxk_eq;(· rfl);(· exact d_x fun _=>x_pv it rfl (by trivial) dk_eq))
  (apply lxk_pv [42] (fun vs=>vs.getD 0 undef) (v:=Value.slice (g2 0).fst X.length (g2 1).snd.fst);(· rfl);(· rfl);(· rfl);(· rfl);(· exact d_x fun _=>x_pv it rfl (by trivial) dk_eq))
  refine lxk_end rfl ?_
  simp only [List.map_cons,List.map_nil,List.cons_append,List.nil_append]
  refine wk 4 cz ?_
  intro b4
  refine j_step rfl (x_appR (z:=X) 1 0 4 rfl rfl rfl rfl rfl sl25 zo25e rfl (fun w A hG=>(rd_of_slF (hG _ (fact_mem (n:=0) rfl)))) (by omega) _ by25e (by omega) fun r1=>?_)
  refine wk 4 cz ?_
  refine j_rowB 0 rfl (by omega) fun b9 cap9 cs9 hr=>?_
  subst hr
  dsimp only
  refine j_toM [true,false,true] [0,6,7,8,9,10,11,12,13] (by exact fra rfl) rfl rfl (ih' b9 cap9 cs9)
 ·obtain rfl : i = lost.length:=by omega
  rw [List.take_of_length_le (by omega)]
  clear ih
  generalize coP p m md rows lost hs = R at *
  refine j_pubR 0 0 rfl rfl (by show lost.length * 24 ≤ 140737488355328;omega) ?_
  simp only [List.eraseIdx_cons_zero,List.eraseIdx_cons_succ]
  refine wk 9 cz ?_
  intro h1
  refine j_giv [0] rfl rfl rfl ⟨_,_,rfl,rfl,rfl⟩
theorem j_again {P : Program} {F : Fun P} {C : Cx} {S : List It} {σ : Fr} {β : List Blk} {Γ : List Fact} {R : Value → World → Prop} {q : List Nat} (h : J F C (.c q::.lp q::S) σ β Γ R) : J F C (.lp q::S) σ β Γ R:=fun w hO hG =>
 run_head (fun a ha cs=>by simp only [List.map_cons,It.item];exact step_inLoop) (h w hO hG)
abbrev GoB:=Int → Bool → Value → Bool → Row → Nat → Blk
abbrev GoN (Hb : GoB) (k : Nat) (T : List (List Int)) : Value → List Fact → List Blk → Prop:=fun v Φ β=>∃ r : Row,v = .tuple #[] ∧ Φ = [rowF (encSl I64) r T.length T] ∧ β = [Hb (4096 - (k : Int)) false (.slice none 0 0) false r T.length,(r.bo,22,r.cs)]
abbrev GoO (Hb : GoB) (T : List (List Int)) : Value → List Fact → List Blk → Prop:=fun v Φ β=>∃ r : Row,v = .tuple #[] ∧ Φ = [rowF (encSl I64) r T.length T] ∧ β = [Hb 4097 false (.slice none 0 0) true r T.length,(r.bo,22,r.cs)]
abbrev GoF (Hb : GoB) (k : Nat) (T : List (List Int)) (l : List Int) : Value → List Fact → List Blk → Prop:=fun v Φ β=>∃ (r : Row) (pa : Option Addr) (na ca : Nat),v = .tuple #[] ∧ Φ = [rowF (encSl I64) r T.length T,slF I64 pa na ca l] ∧ β = [Hb (4096 - (k : Int)) true (.slice pa na ca) false r T.length,(r.bo,22,r.cs)]
def GoQ (Hb : GoB) (x : (Nat × List (List Int)) × Option (Option (List Int))) : Value → List Fact → List Blk → Prop :=
 match x.2 with
 | none=>GoN Hb x.1.1 x.1.2
 | some none=>GoO Hb x.1.2
 | some (some l)=>GoF Hb x.1.1 x.1.2 l
section
variable {add : List Int → Int → List Int} {f : List Int → List Int → Nat × List (List Int) → (Nat × List (List Int)) × Option (Option (List Int))}
theorem huGo_none {s z pre r : List Int} {i : Int} {x x' : Nat × List (List Int)} (h : f (add s i) (z++pre) x = (x',none)) : huGo add f s z pre (i::r) x = huGo add f s z (pre++[i]) r x':=by rw [huGo,h]
theorem huGo_some {s z pre r : List Int} {i : Int} {x x' : Nat × List (List Int)} {o : Option (List Int)} (h : f (add s i) (z++pre) x = (x',some o)) : huGo add f s z pre (i::r) x = (x',some o):=by rw [huGo,h]
end
section
variable {p m N : Nat} {md lost away : List Int} {rows : List (List Int)}
abbrev huD (p m N : Nat) (md lost away : List Int) (rows : List (List Int)) : Nat → List Int → List Int → Nat × List (List Int) → (Nat × List (List Int)) × Option (Option (List Int)):=huT inS (fun s=>wtP p m md N rows lost (srL N s)) (fun z w=>brL lost away z w N)
theorem S_codewrightref53_Search__Go (CC : Cok p m md N rows) (hlo : stP N lost) : ∀ (d : Nat) {s z : List Int} {k : Nat} {T : List (List Int)} {b nm cm n c nl cl na ca ns cs nz cz' W : Nat} {pm ps pl pa pS pz : Option Addr} {r : Row},
  W = s.length + d → W ≤ 1000 → z.length + 100 * d ≤ 200000 → stP N s → T.length + k ≤ 100000 → k ≤ 4096 →
  Ctr Tryz.prog 64 [.pointer (some ⟨b,0,none⟩),.slice pS ns cs,.slice pz nz cz',.int .i64 W] [(some b,99,[.int .i64 p,.int .i64 m,.slice pm nm cm,.int .i64 N,.slice ps n c,.slice pl nl cl,.slice pa na ca,.slice (ad r.bo) T.length r.cap,.int .i64 (4096 - (k : Int)),.bool false,.slice none 0 0,.bool false]),(r.bo,22,r.cs)]
   [slF I64 pm nm cm md,slF (encSl I64) ps n c rows,slF I64 pl nl cl lost,slF I64 pa na ca away,slF I64 pS ns cs s,slF I64 pz nz cz' z,rowF (encSl I64) r T.length T]
   (GoQ (fun lk fo hp ov r t=>(some b,99,[.int .i64 p,.int .i64 m,.slice pm nm cm,.int .i64 N,.slice ps n c,.slice pl nl cl,.slice pa na ca,.slice (ad r.bo) t r.cap,.int .i64 lk,.bool fo,hp,.bool ov])) (huD p m N md lost away rows d s z (k,T))):=by
 intro d
 induction d using Nat.strongRecOn with
 | ind d ihd =>
 intro s z k T b nm cm n c nl cl na ca ns cs nz cz' W pm ps pl pa pS pz r hW hW2 hz hst hT hk4
 refine Ctr_of_j' (F:=F_codewrightref53_Search__Go) rfl fun C=>?_
 refine j_len 4 rfl fun hn _ _=>?_
 subst hn
 refine j_len 5 rfl fun hn _ _=>?_
 subst hn
 have h64:=CC.n64
 have e0 : srL N s = s:=oth_oth hst
 have hs:=hst.1
 cases k with
 | zero =>
  rw [show huD p m N md lost away rows d s z (0,T) = ((0,T),some none) from huT_out]
  refine wk 19 cz ?_
  intro h1
  refine j_gives [6] rfl rfl rfl ⟨r,rfl,rfl,rfl⟩
 | succ k =>
  have hk : 4096 - ((k + 1 : Nat) : Int) + 1 = 4096 - (k : Int):=by omega
  have c_codewrightref53_Witness:=fun {n c nm cm nl cl nh ch : Nat} {pm ps pl ph : Option Addr}=>S_codewrightref53_Witness (pm:=pm) (nm:=nm) (cm:=cm) (ps:=ps) (n:=n) (c:=c) (pl:=pl) (nl:=nl) (cl:=cl) (ph:=ph) (nh:=nh) (ch:=ch) CC hlo hst
  cases hw : wtP p m md N rows lost (srL N s) with
  | none =>
   rw [show huD p m N md lost away rows d s z (k + 1,T) = ((k,T),some (some s)) from huT_none hw]
   rw [e0] at hw
   simp only [hw,Option.getD_none,List.length_nil] at c_codewrightref53_Witness
   refine wk 32 (ct @c_codewrightref53_Witness cz) ?_
   intro h1 pa1 ca1 h2
   refine j_gives [7,5] rfl rfl rfl ⟨r,pS,s.length,cs,rfl,rfl,?_⟩
   rw [← hk]
   rfl
  | some w =>
   obtain ⟨hww,hg9,hw0⟩:=wt_word CC hw hs
   have hwl:=hww.1
   have hn1:=CC.n1
   have hwe:=hw
   rw [e0] at hwe
   simp only [hwe,Option.getD_some] at c_codewrightref53_Witness
   have hTl : (T++[w]).length = T.length + 1:=by rw [List.length_append];rfl
   cases d with
   | zero =>
    rw [show huD p m N md lost away rows 0 s z (k + 1,T) = ((k,T++[w]),none) from huT_leaf hw]
    have hWs : s.length = W:=by omega
    refine wk 29 (ct @c_codewrightref53_Witness cz) ?_
    intro h1 pa1 ca1 h2 b1
    refine j_step rfl (x_appR (z:=w) 2 0 7 rfl rfl rfl rfl rfl sl25 zo25e rfl (fun w A hG=>(rd_of_slF (hG _ (fact_mem (n:=0) rfl)))) (by omega) _ by25e (by omega) fun r1=>?_)
    refine wk 9 cz ?_
    intro h3
    refine j_givK 3 [2,0] [0] rfl .nil rfl rfl rfl ⟨r1,rfl,?_,?_⟩
    ·show [rowF (encSl I64) r1 (T.length + 1) (T++[w])] = _
     rw [hTl]
    ·rw [← hk,hTl]
     rfl
   | succ d =>
    have hWs : s.length ≠ W:=by omega
    have c_codewrightref53_Hits:=fun {pw pl pa pz : Option Addr} {nw cw nl cl na ca nz cz' : Nat}=>(S_codewrightref53_Hits (pw:=pw) (pl:=pl) (pa:=pa) (pz:=pz) (nw:=nw) (cw:=cw) (nl:=nl) (cl:=cl) (na:=na) (ca:=ca) (nz:=nz) (cz':=cz') (w:=w) (lost:=lost) (away:=away) (z:=z) (by omega)).pubR (by have:=brL_le (lost:=lost) (away:=away) (z:=z) (w:=w) (n:=w.length);show _ * 8 ≤ 140737488355328;omega)
    rw [hwl] at c_codewrightref53_Hits
    rw [show huD p m N md lost away rows (d + 1) s z (k + 1,T) = huGo inS (huD p m N md lost away rows d) s z [] (brL lost away z w N) (k,T++[w]) from huT_go hw]
    have hLl:=brL_le (lost:=lost) (away:=away) (z:=z) (w:=w) (n:=N)
    have hLm:=br_new (lost:=lost) (away:=away) (z:=z) (s:=s) (w:=w) CC hw
    generalize brL lost away z w N = L at *
    refine wk 29 (ct @c_codewrightref53_Witness cz) ?_
    intro h1 pa1 ca1 h2 b1
    refine j_step rfl (x_appR (z:=w) 2 0 7 rfl rfl rfl rfl rfl sl25 zo25e rfl (fun w A hG=>(rd_of_slF (hG _ (fact_mem (n:=0) rfl)))) (by omega) _ by25e (by omega) fun r1=>?_)
    refine wk 15 (ct @c_codewrightref53_Hits cz) ?_
    intro h3 pa2 ca2
    simp only [List.cons_append,List.nil_append]
    refine j_loopG (X:=Nat × Row × Nat × List (List Int)) [0,1,2,3,9] [0,1,2,3,4,5,6,7,8,9] (fun x=>[(10,.int .i64 (x.1 : Int))]) (fun x=>[(x.2.1.bo,22,x.2.1.cs),(some b1,22,[.slice pa1 w.length ca1]),(some b,99,[.int .i64 p,.int .i64 m,.slice pm nm cm,.int .i64 N,.slice ps n c,.slice pl nl cl,.slice pa na ca,.slice (ad x.2.1.bo) x.2.2.2.length x.2.1.cap,.int .i64 (4096 - (x.2.2.1 : Int)),.bool false,.slice none 0 0,.bool false])]) (fun x=>[rowF (encSl I64) x.2.1 x.2.2.2.length x.2.2.2]) (fun v=>v.1 ≤ L.length ∧ (v.2.2.2.length + v.2.2.1 ≤ 100000 ∧ v.2.2.1 ≤ 4096) ∧ huGo inS (huD p m N md lost away rows d) s z [] L (k,T++[w]) = huGo inS (huD p m N md lost away rows d) s z (L.take v.1) (L.drop v.1) (v.2.2.1,v.2.2.2)) (fun v=>L.length - v.1) (0,r1,k,T++[w]) [1] rfl rfl rfl ⟨Nat.zero_le _,⟨by show (T++[w]).length + k ≤ 100000;omega,by dsimp only;omega⟩,rfl⟩ (by repeat (first | exact Fr.sub_nil _ | refine Fr.sub_cons rfl ?_)) ?_ ?_ ?_
    ·rw [← hk,← hTl]
     rfl
    ·rw [← hTl]
     rfl
    rintro ⟨i,r2,k2,T2⟩ ⟨hi,hTk,hg⟩ ih
    simp only [List.cons_append,List.nil_append] at hi hTk hg ih ⊢
    by_cases hil : i < L.length
    ·obtain ⟨y,at_y⟩ : ∃ y,L[i]? = some y:=⟨_,List.getElem?_eq_getElem hil⟩
     have hy:=List.mem_of_getElem? at_y
     obtain ⟨hys,⟨y0,y1⟩,-⟩:=hLm y hy
     have hp:=inS_perm hst.2 hys
     have e1 : (inS s y).length = s.length + 1:=by rw [hp.length_eq];simp
     have e2 : (z++L.take i).length = z.length + i:=by rw [List.length_append,List.length_take];omega
     obtain rfl : y = L.getD i default:=(gd_at at_y).symm
     have hst2:=inS_st hst y0 y1
     have hsl:=st_len hst
     have hz3 : z.length ≤ 200000:=by omega
     have c_codewrightref53_with:=fun {ps : Option Addr} {n c : Nat}=>(S_codewrightref53_with (ps:=ps) (n:=n) (c:=c) (s:=s) (y:=L.getD i default) (by omega) y0 (by omega)).pubR (by show _ * 8 ≤ 140737488355328;omega)
     have e3 : L.drop i = L.getD i default::L.drop (i + 1):=by
      rw [List.drop_eq_getElem_cons hil];rw [List.getElem?_eq_getElem hil] at at_y;rw [Option.some.inj at_y]
     have e4 : L.take (i + 1) = L.take i++[L.getD i default]:=by rw [List.take_add_one,at_y];rfl
     rw [e3] at hg
     refine wk 16 cz ?_
     intro h4
     (apply j_drawKB it mx 0 15;(· rfl);(· rfl);(· rfl))
     simp only [List.drop_zero]
     (apply lxk_run 4;(· rfl);(· simp))
     (apply lxk_pt;(· rfl);(· exact d_x fun _=>x_idx 1 (i) rfl rfl rfl sl22 rfl (by omega) fun z1 hz1 b2 o1=>(dk_ptD default hz1 0 rfl));intro b2 o1)
     (apply lxk_eq;(· rfl);(· exact d_x fun _=>x_ld_int 0 rfl rfl ld3 fun ⟨r3,r4⟩=>dk_eq))
     (apply lxk_sl;(· rfl);(· exact d_x fun _=>x_call [9] rfl (c_codewrightref53_with) rfl (by rintro _ _ _ ⟨pa3,ca3,rfl,rfl,rfl⟩;exact (dk_sl 0 rfl)));intro pa3 ca3)
     (apply lxk_lit0 (encInt IntKind.i64 8);(· rfl);(· exact sl22);intro pa4)
     (apply lxk_run 1;(· rfl);(· simp))
     (apply lxk_appL (keep:=[]) 0 12;(· rfl);(· rfl);(· rfl);(· rfl);(· rfl);(· exact sl22);(· exact zo22e);(· rfl);(· (first | omega | (simp only [List.length_cons,List.length_nil];omega)));(· exact by22e);(· (first | omega | (simp only [List.length_cons,List.length_nil];omega)));intro pa5 cap1 b3 cs1)
     (apply lxk_run 2;(· rfl);(· simp))
     (apply lxk_sl;(· rfl);(· exact d_x fun _=>x_slice_h 1 (i) rfl rfl rfl sl22 (by omega) (by omega) (dk_sl 0 rfl));intro pa6 ca4)
     (apply lxk_appZi 1 0;(· rfl);(· rfl);(· rfl);(· rfl);(· rfl);(· exact sl22);(· exact zo22e);(· rfl);(· (first | omega | (simp only [List.length_cons,List.length_nil];omega)));(· exact by22e);(· (first | omega | (simp only [List.length_cons,List.length_nil];omega)));intro pa7 cap2 b4 cs2)
     (apply lxk_run 1;(· rfl);(· simp))
     refine lxk_endB rfl ?_
     (rotate_left;rfl;rotate_right)
     (rotate_left;rfl;rotate_right)
     simp only [List.append_nil,List.append_assoc,List.map_cons,List.map_nil,List.cons_append,List.nil_append,List.drop_zero]
     (refine j_pubZ 0 0 (by first | rfl | exact (List.append_nil _).symm) rfl (by show (0 + z.length + i) * 8 ≤ 140737488355328;omega) ?_;simp only [List.take_succ_cons,List.take_zero,List.cons_append,List.nil_append,List.append_nil]) --ok
     obtain ⟨⟨⟨k3,T3⟩,o⟩,hH⟩ : ∃ x,huD p m N md lost away rows d (inS s (L.getD i default)) (z++L.take i) (k2,T2) = x:=⟨_,rfl⟩
     have hle : (huD p m N md lost away rows d (inS s (L.getD i default)) (z++L.take i) (k2,T2)).1.1 ≤ k2 ∧ (huD p m N md lost away rows d (inS s (L.getD i default)) (z++L.take i) (k2,T2)).1.2.length + (huD p m N md lost away rows d (inS s (L.getD i default)) (z++L.take i) (k2,T2)).1.1 ≤ T2.length + k2:=hu_le d _ _ _
     rw [hH] at hle
     dsimp only at hle
     refine j_selT 3 [2,0,1] rfl rfl ?_
     simp only [List.cons_append,List.nil_append,List.drop_succ_cons,List.drop_zero]
     refine j_step rfl (x_callN 2 [11,12,13,14,5,0,7] rfl rfl (ihd d (Nat.lt_succ_self d) (s:=inS s (L.getD i default)) (z:=z++L.take i) (k:=k2) (T:=T2) (W:=W) (by omega) hW2 (by omega) hst2 hTk.1 hTk.2) rfl ?_)
     intro v Φ β' hQ
     rw [hH] at hQ
     clear c_codewrightref53_with c_codewrightref53_Hits c_codewrightref53_Witness ihd
     cases o with
     | none =>
      obtain ⟨r3,rfl,rfl,rfl⟩:=hQ
      simp only [List.drop_succ_cons,List.drop_zero,List.cons_append,List.nil_append,putF]
      refine wk 3 cz ?_
      refine j_toX [1,2,0] [0,9,10,11,12,13,14,15,16,17,18] (by exact fra rfl) rfl rfl rfl (ih (i + 1,r3,k3,T3) (by dsimp only;omega) ⟨by dsimp only;omega,⟨by dsimp only;omega,by dsimp only;omega⟩,hg.trans (by rw [huGo_none hH,e4])⟩)
     | some o =>
     rw [huGo_some hH] at hg
     simp only [hg]
     clear ih
     cases o with
     | none =>
      obtain ⟨r3,rfl,rfl,rfl⟩:=hQ
      simp only [List.drop_succ_cons,List.drop_zero,List.cons_append,List.nil_append,putF]
      by_cases hi2 : i + 1 < L.length
      ·refine wk 3 cz ?_
       refine j_again ?_
       refine wk 16 cz ?_
       intro h5
       refine j_selT 3 [0,1] rfl rfl ?_
       refine j_gives_end [0] rfl rfl ⟨r3,rfl,rfl,rfl⟩
      ·refine wk 3 cz ?_
       refine j_again ?_
       refine wk 10 cz ?_
       intro h5
       refine j_selT 3 [0,1] rfl rfl ?_
       refine j_gives_end [0] rfl rfl ⟨r3,rfl,rfl,rfl⟩
     | some l =>
      obtain ⟨r3,pf,nf,cf,rfl,rfl,rfl⟩:=hQ
      simp only [List.drop_succ_cons,List.drop_zero,List.cons_append,List.nil_append,putF]
      by_cases hi2 : i + 1 < L.length
      ·refine wk 3 cz ?_
       refine j_again ?_
       refine wk 13 cz ?_
       intro h5
       refine j_selT 3 [0,1] rfl rfl ?_
       refine j_gives_end [0,1] rfl rfl ⟨r3,pf,nf,cf,rfl,rfl,rfl⟩
      ·refine wk 3 cz ?_
       refine j_again ?_
       refine wk 10 cz ?_
       intro h5
       refine j_selT 3 [0,1] rfl rfl ?_
       refine j_gives_end [0,1] rfl rfl ⟨r3,pf,nf,cf,rfl,rfl,rfl⟩
    ·obtain rfl : i = L.length:=by omega
     rw [List.take_length,List.drop_length,huGo] at hg
     simp only [hg]
     refine wk 10 cz ?_
     intro h4
     refine j_selT 3 [2,0] rfl rfl ?_
     refine j_gives_end [0] rfl rfl ⟨r2,rfl,rfl,rfl⟩
end
open Go Go.Fw
set_option maxRecDepth 100000
set_option linter.unusedVariables false
set_option linter.unusedSimpArgs false
set_option maxHeartbeats 0
section
variable {P M N : Int} {nm cm n c nl cl na ca : Nat} {pm ps pl pa : Option Addr} {md lost away : List Int} {rows : List (List Int)}
theorem S_codewrightref11_Same {pl pk : Option Addr} {nl cl nk ck : Nat} {l : List Int} : Ctr Tryz.prog 67 [.slice pl nl cl,.slice pk nk ck] [] [slF I64 pl nl cl l,slF I64 pk nk ck l] (Rv (.bool true) []):=by
 refine Ctr_of_j' (F:=F_codewrightref11_Same) rfl fun C=>?_
 obtain ⟨z,hz⟩ : ∃ z : Int,z = 0:=⟨0,rfl⟩
 have c_codewrightref11_Compare:=fun {pl pk : Option Addr} {nl cl nk ck : Nat} {l : List Int}=>S_codewrightref11_CompareS (pl:=pl) (pk:=pk) (nl:=nl) (cl:=cl) (nk:=nk) (ck:=ck) (l:=l) hz
 refine wk 7 (ct @c_codewrightref11_Compare cz) ?_
 rw [decide_eq_true hz]
 exact ge
theorem setsB2 {P M N : Int} {md l k : List Int} {rows : List (List Int)} : setsE P M md N rows [l,k] = if ckE P M md N rows ≠ 0 then ckE P M md N rows else if stP N l ∧ stP N k then 0 else 5:=by
 rw [setsE]
 congr 1
 by_cases h2 : stP N l ∧ stP N k
 ·rw [if_pos h2,if_pos fun x hx=>?_]
  rcases List.mem_cons.1 hx with rfl | hx
  ·exact h2.1
  ·rw [List.mem_singleton.1 hx];exact h2.2
 ·rw [if_neg h2,if_neg fun h=>h2 ⟨h _ (.head _),h _ (.tail _ (.head _))⟩]
theorem S_codewrightref53_PlanArgs (hN : InR .i64 N) {e : Int} (h : plE P M md N rows lost away = e) : Ctr Tryz.prog 24 [.agg #[.int .i64 P,.int .i64 M,.slice pm nm cm,.int .i64 N,.slice ps n c],.slice pl nl cl,.slice pa na ca] [] [slF I64 pm nm cm md,slF (encSl I64) ps n c rows,slF I64 pl nl cl lost,slF I64 pa na ca away] (Rv (.int .i64 e) []):=by
 refine Ctr_of_j' (F:=F_codewrightref53_PlanArgs) rfl fun C=>?_
 refine j_len 2 rfl fun hn _ _=>?_
 subst hn
 refine j_len 3 rfl fun hn _ _=>?_
 subst hn
 have hr:=ckE_rng P M md N rows
 have c_codewrightref53_Sets:=fun {pm ps pl : Option Addr} {nm cm n c nl cl : Nat}=>S_codewrightref53_Sets (pm:=pm) (ps:=ps) (nm:=nm) (cm:=cm) (n:=n) (c:=c) (pl:=pl) (nl:=nl) (cl:=cl) (P:=P) (M:=M) (N:=N) (md:=md) (rows:=rows) (ls:=[lost,away]) hN rfl
 rw [setsB2] at c_codewrightref53_Sets
 rw [plE] at h
 by_cases hc : ckE P M md N rows = 0
 ·rw [if_neg (fun e=>e hc)] at h c_codewrightref53_Sets
  by_cases h1 : stP N lost ∧ stP N away
  ·rw [if_neg (fun e=>e h1)] at h
   rw [if_pos h1] at c_codewrightref53_Sets
   obtain ⟨p,m,N,rfl,rfl,rfl,CC⟩:=ck_of hc
   have h64:=CC.n64
   have hst:=othL_st N [lost,away]
   have hle:=st_len hst
   simp only [Int.toNat_natCast] at h
   have c_codewrightref53_Available:=fun {pl pa : Option Addr} {nl cl na ca : Nat}=>(S_codewrightref53_Available (N:=N) (pl:=pl) (nl:=nl) (cl:=cl) (pa:=pa) (na:=na) (ca:=ca) (lost:=lost) (away:=away) (by omega)).pubR (by show _ * 8 ≤ 140737488355328;omega)
   have c_codewrightref53_Enough:=fun {n c nm cm nl cl nh ch : Nat} {pm ps pl ph : Option Addr}=>S_codewrightref53_Enough (pm:=pm) (nm:=nm) (cm:=cm) (ps:=ps) (n:=n) (c:=c) (pl:=pl) (nl:=nl) (cl:=cl) (ph:=ph) (nh:=nh) (ch:=ch) CC h1.1 hst
   rw [en_wt CC h1.1] at c_codewrightref53_Enough
   have hd:=decide_eq_true (show (0 : Int) = 0 from rfl)
   cases hE : enP p m md N rows lost (othL N [lost,away]) with
   | false =>
    rw [if_pos (by rw [hE])] at h
    subst h
    rw [show (wtP p m md N rows lost (othL N [lost,away])).isNone = false from hE] at c_codewrightref53_Enough
    refine wk 7 cz ?_
    intro b1 b2
    refine j_pub_all (E:=(encSl (I64))) (n:=2) [[Value.slice pl lost.length cl],[Value.slice pa away.length ca]] [lost,away] 0 (fun w A hG=>(allrd_cons (rd_of_slF (hG _ (fact_mem (n:=2) rfl))) (allrd_cons (rd_of_slF (hG _ (fact_mem (n:=3) rfl))) allrd_nil))) rfl rfl rfl rfl (by first | decide | exact Nat.le_of_ble_eq_true rfl) (by first | decide | exact Nat.le_of_ble_eq_true rfl) ?_
    refine wk 11 (ct @c_codewrightref53_Sets (ct @c_codewrightref53_Available (ct @c_codewrightref53_Enough cz))) ?_
    intro pa1 ca1
    exact ge
   | true =>
    rw [if_neg (by rw [hE];simp)] at h
    subst h
    rw [show (wtP p m md N rows lost (othL N [lost,away])).isNone = true from hE] at c_codewrightref53_Enough
    refine wk 7 cz ?_
    intro b1 b2
    refine j_pub_all (E:=(encSl (I64))) (n:=2) [[Value.slice pl lost.length cl],[Value.slice pa away.length ca]] [lost,away] 0 (fun w A hG=>(allrd_cons (rd_of_slF (hG _ (fact_mem (n:=2) rfl))) (allrd_cons (rd_of_slF (hG _ (fact_mem (n:=3) rfl))) allrd_nil))) rfl rfl rfl rfl (by first | decide | exact Nat.le_of_ble_eq_true rfl) (by first | decide | exact Nat.le_of_ble_eq_true rfl) ?_
    refine wk 9 (ct @c_codewrightref53_Sets (ct @c_codewrightref53_Available (ct @c_codewrightref53_Enough cz))) ?_
    intro pa1 ca1
    exact ge
  ·rw [if_pos h1] at h
   rw [if_neg h1] at c_codewrightref53_Sets
   subst h
   refine wk 7 cz ?_
   intro b1 b2
   refine j_pub_all (E:=(encSl (I64))) (n:=2) [[Value.slice pl lost.length cl],[Value.slice pa away.length ca]] [lost,away] 0 (fun w A hG=>(allrd_cons (rd_of_slF (hG _ (fact_mem (n:=2) rfl))) (allrd_cons (rd_of_slF (hG _ (fact_mem (n:=3) rfl))) allrd_nil))) rfl rfl rfl rfl (by first | decide | exact Nat.le_of_ble_eq_true rfl) (by first | decide | exact Nat.le_of_ble_eq_true rfl) ?_
   refine wk 9 (ct @c_codewrightref53_Sets cz) ?_
   exact ge
 ·rw [if_pos hc] at h c_codewrightref53_Sets
  rw [h] at hr c_codewrightref53_Sets hc
  refine wk 7 cz ?_
  intro b1 b2
  refine j_pub_all (E:=(encSl (I64))) (n:=2) [[Value.slice pl lost.length cl],[Value.slice pa away.length ca]] [lost,away] 0 (fun w A hG=>(allrd_cons (rd_of_slF (hG _ (fact_mem (n:=2) rfl))) (allrd_cons (rd_of_slF (hG _ (fact_mem (n:=3) rfl))) allrd_nil))) rfl rfl rfl rfl (by first | decide | exact Nat.le_of_ble_eq_true rfl) (by first | decide | exact Nat.le_of_ble_eq_true rfl) ?_
  refine wk 9 (ct @c_codewrightref53_Sets cz) ?_
  exact ge
end
section
variable {n1 c1 n2 c2 n3 c3 n4 c4 m1 d1 m2 d2 m3 d3 m4 d4 : Nat} {p1 p2 p3 p4 q1 q2 q3 q4 : Option Addr} {lo hs : List Int} {co t : List (List Int)} {f : Bool}
theorem S_codewrightref53_Same : Ctr Tryz.prog 27 [.agg #[.slice p1 n1 c1,.slice p2 n2 c2,.slice p3 n3 c3,.bool f,.slice p4 n4 c4],.agg #[.slice q1 m1 d1,.slice q2 m2 d2,.slice q3 m3 d3,.bool f,.slice q4 m4 d4]] []
  [slF I64 p1 n1 c1 lo,slF I64 p2 n2 c2 hs,slF (encSl I64) p3 n3 c3 co,slF (encSl I64) p4 n4 c4 t,slF I64 q1 m1 d1 lo,slF I64 q2 m2 d2 hs,slF (encSl I64) q3 m3 d3 co,slF (encSl I64) q4 m4 d4 t] (Rv (.bool true) []):=by
 refine Ctr_of_j' (F:=F_codewrightref53_Same) rfl fun C=>?_
 have c_codewrightref11_SameLists:=fun {pl pk : Option Addr} {nl cl nk ck : Nat} {l : List (List Int)}=>S_codewrightref11_SameLists (pl:=pl) (pk:=pk) (nl:=nl) (cl:=cl) (nk:=nk) (ck:=ck) (l:=l)
 cases f with
 | false =>
  refine wk 6 cz ?_
  intro b1 b2
  refine j_step rfl (x_bld 1 rfl rfl ld22 rfl ?_)
  refine wk 5 (ct @S_codewrightref11_Same cz) ?_
  refine j_gstep rfl rfl (x_bld 1 rfl rfl ld22 rfl ?_)
  refine wk 5 (ct @S_codewrightref11_Same cz) ?_
  refine j_gstep rfl rfl (x_bld 1 rfl rfl ld25 rfl ?_)
  refine wk 5 (ct @c_codewrightref11_SameLists cz) ?_
  refine j_gstep rfl rfl (x_bld 1 rfl rfl ld4 rfl ?_)
  refine wk 2 cz ?_
  refine j_gstep rfl rfl (x_eqb ub rfl rfl ?_)
  refine wk 2 cz ?_
  refine j_gstep rfl rfl (x_bld 1 rfl rfl ld25 rfl ?_)
  refine wk 5 (ct @c_codewrightref11_SameLists cz) ?_
  exact ge
 | true =>
  refine wk 6 cz ?_
  intro b1 b2
  refine j_step rfl (x_bld 1 rfl rfl ld22 rfl ?_)
  refine wk 5 (ct @S_codewrightref11_Same cz) ?_
  refine j_gstep rfl rfl (x_bld 1 rfl rfl ld22 rfl ?_)
  refine wk 5 (ct @S_codewrightref11_Same cz) ?_
  refine j_gstep rfl rfl (x_bld 1 rfl rfl ld25 rfl ?_)
  refine wk 5 (ct @c_codewrightref11_SameLists cz) ?_
  refine j_gstep rfl rfl (x_bld 1 rfl rfl ld4 rfl ?_)
  refine wk 2 cz ?_
  refine j_gstep rfl rfl (x_eqb ub rfl rfl ?_)
  refine wk 2 cz ?_
  refine j_gstep rfl rfl (x_bld 1 rfl rfl ld25 rfl ?_)
  refine wk 5 (ct @c_codewrightref11_SameLists cz) ?_
  exact ge
end
section
variable {p m N nm cm n c nl cl na ca : Nat} {pm ps pl pa : Option Addr} {md lost away : List Int} {rows : List (List Int)}
theorem hu_both (CC : Cok p m md N rows) (w : Nat) : (huD p m N md lost away rows w [] [] (4096,[])).1 = (huW p m N md lost away rows w).1 ∧ Alike (huD p m N md lost away rows w [] [] (4096,[])).2 (huW p m N md lost away rows w).2 :=
 hu_alike (wt:=fun s=>wtP p m md N rows lost (srL N s)) (br:=fun z w=>brL lost away z w N) (fun s s' h=>by rw [srL_perm h]) (fun s z w h y hy=>(br_new CC h y hy).1) w [] [] [] (4096,[]) (List.Perm.refl _) List.Pairwise.nil
theorem S_codewrightref53_Plan_err {P M N : Int} (hN : InR .i64 N) {e : Int} (h : plE P M md N rows lost away = e) (he : e ≠ 0) : Ctr Tryz.prog 26 [.agg #[.int .i64 P,.int .i64 M,.slice pm nm cm,.int .i64 N,.slice ps n c],.slice pl nl cl,.slice pa na ca] [] [slF I64 pm nm cm md,slF (encSl I64) ps n c rows,slF I64 pl nl cl lost,slF I64 pa na ca away] (PlQ e [] [] [] false []):=by
 refine Ctr_of_j' (F:=F_codewrightref53_Plan) rfl fun C=>?_
 have hr:=plE_rng P M md N rows lost away
 rw [h] at hr
 have c_codewrightref53_PlanArgs:=fun {nm cm n c nl cl na ca : Nat} {pm ps pl pa : Option Addr}=>S_codewrightref53_PlanArgs (nm:=nm) (cm:=cm) (n:=n) (c:=c) (nl:=nl) (cl:=cl) (na:=na) (ca:=ca) (pm:=pm) (ps:=ps) (pl:=pl) (pa:=pa) hN h
 refine wk 19 (ct @c_codewrightref53_PlanArgs cz) ?_
 intro b1 b2 h1
 refine j_add (slF (encSl I64) none 0 0 []) (fun w A _=>slF_nil _ w A none 0) ?_
 refine j_add (slF I64 none 0 0 []) (fun w A _=>slF_nil _ w A none 0) ?_
 refine j_givC [0,0,1,1] rfl (.agg 0 rfl rfl ld40 rfl (.tmp rfl .nil)) rfl ⟨none,none,none,none,0,0,0,0,0,0,0,0,rfl,rfl,rfl⟩
theorem S_codewrightref53_Plan_ok (CC : Cok p m md N rows) (hN : N ≤ 12) (hlo : stP N lost) (haw : stP N away) (hall : enP p m md N rows lost (othL N [lost,away]) = true) {hs : List Int} {f : Bool} {pf : List (List Int)} (hP : plP p m N md lost away rows (N + 1) 0 [] = (hs,f,pf)) : Ctr Tryz.prog 26 [.agg #[.int .i64 p,.int .i64 m,.slice pm nm cm,.int .i64 N,.slice ps n c],.slice pl nl cl,.slice pa na ca] [] [slF I64 pm nm cm md,slF (encSl I64) ps n c rows,slF I64 pl nl cl lost,slF I64 pa na ca away] (PlQ 0 lost hs (coP p m md rows lost hs) f pf):=by
 refine Ctr_of_j' (F:=F_codewrightref53_Plan) rfl fun C=>?_
 refine j_len 2 rfl fun hn _ _=>?_
 subst hn
 refine j_len 3 rfl fun hn _ _=>?_
 subst hn
 have h64:=CC.n64
 have hn1:=CC.n1
 have ok:=pl_ok CC hlo hall (N + 1) 0 [] (.inl ⟨rfl,rfl⟩)
 rw [hP] at ok
 have hB : coB p m md rows lost hs = true:=by rw [co_en CC hlo,en_wt CC hlo];exact ok.en
 have c_codewrightref53_Coefficients:=fun {n c nm cm nl cl nh ch : Nat} {pm ps pl ph : Option Addr}=>S_codewrightref53_Coefficients (pm:=pm) (nm:=nm) (cm:=cm) (ps:=ps) (n:=n) (c:=c) (pl:=pl) (nl:=nl) (cl:=cl) (ph:=ph) (nh:=nh) (ch:=ch) CC hlo ok.st hB
 have h0 : plE p m md N rows lost away = 0:=by
  rw [plE,if_neg (fun e=>e CC.ck),if_neg (fun e=>e ⟨hlo,haw⟩),if_neg]
  rw [Int.toNat_natCast,Int.toNat_natCast,Int.toNat_natCast,hall];simp
 have c_codewrightref53_PlanArgs:=fun {nm cm n c nl cl na ca : Nat} {pm ps pl pa : Option Addr}=>S_codewrightref53_PlanArgs (nm:=nm) (cm:=cm) (n:=n) (c:=c) (nl:=nl) (cl:=cl) (na:=na) (ca:=ca) (pm:=pm) (ps:=ps) (pl:=pl) (pa:=pa) (N:=N) (by simp only [InR];omega) h0
 have hst:=othL_st N [lost,away]
 have hle:=st_len hst
 have hl1:=st_len hlo
 refine j_nf [_,_] rfl ?_
 refine j_step rfl (x_box_agg rfl fun b1=>?_)
 refine j_step rfl (x_alloc zo40 fun b2=>?_)
 refine j_run it 1 rfl (by simp) ?_
 refine j_nf [_,_] rfl ?_
 refine j_step rfl (x_bld_all 1 rfl rfl ld27 rfl ?_)
 refine j_run it 2 rfl (by simp) ?_
 refine j_step rfl (x_call [0,1,2,3] rfl (c_codewrightref53_PlanArgs) rfl ?_)
 rintro _ _ _ ⟨rfl,rfl,rfl⟩
 simp only [List.cons_append,List.nil_append]
 refine j_run it 1 rfl (by simp) ?_
 refine j_nf [_,_,_] rfl ?_
 refine j_run it 2 rfl (by simp) ?_
 refine j_nf [_,_] rfl ?_
 refine j_ifn rfl rfl (fun h1=>by exfalso;omega) (fun h1=>?_)
 refine j_nf [_,_] rfl ?_
 refine j_step rfl (x_lit0 sl22 fun b3=>?_)
 refine j_run it 1 rfl (by simp) ?_
 (apply j_rowlit (E:=encInt IntKind.i64 8) (n:=0) (cs:=[]) [] [] 0 (fun w A hG=>allrd_nil);(· rfl);(· rfl);(· rfl);(· rfl);(· decide))
 refine j_step rfl (x_appS 0 0 3 rfl rfl rfl rfl rfl sl22 zo22e rfl (by omega) _ by22e (by omega) fun r1=>?_)
 refine j_step rfl (x_build (cs:=[Value.slice (ad r1.bo) (0 + lost.length) r1.cap,Value.slice none 0 0,Value.slice none 0 0,Value.bool false,Value.slice none 0 0]) st40 zo40 rfl rfl ?_)
 refine j_step rfl (x_alloc zo40 fun b4=>?_)
 refine j_step rfl (x_bst_all 0 rfl rfl rfl ld40 rfl rfl (by simp [Value.oneCell']) ?_)
 refine j_nf [_,_] rfl ?_
 refine j_step rfl (x_lit0 sl25 fun b5=>?_)
 refine j_run it 1 rfl (by simp) ?_
 refine j_nf [_,_,_] rfl ?_
 refine j_run it 1 rfl (by simp) ?_
 refine j_nf [_,_,_] rfl ?_
 simp only [setB,List.set_cons_zero,List.set_cons_succ,List.eraseIdx_cons_zero,List.eraseIdx_cons_succ,List.cons_append,List.nil_append]
 refine j_pubR 2 0 rfl rfl (by show (0 + lost.length) * 8 ≤ 140737488355328;omega) ?_
 simp only [List.eraseIdx_cons_zero,List.eraseIdx_cons_succ]
 refine j_add (slF I64 none 0 0 []) (fun w A _=>slF_nil _ w A none 0) ?_
 refine j_add (slF (encSl I64) none 0 0 []) (fun w A _=>slF_nil _ w A none 0) ?_
 refine j_add (slF (encSl I64) (some ⟨b5,0,none⟩) 0 0 []) (fun w A _=>slF_nil _ w A _ 0) ?_
 refine j_loopG (X:=Nat × Option Addr × Nat × Nat × List (List Int)) [1,2,3,6,7,9] [0,1,2,3,4,5,6,7,8,9] (fun x=>[(11,.int .i64 (x.1 : Int)),(10,.slice x.2.1 x.2.2.1 x.2.2.2.1)]) (fun _=>_) (fun x=>[slF (encSl I64) x.2.1 x.2.2.1 x.2.2.2.1 x.2.2.2.2]) (fun x=>x.1 ≤ (othL N [lost,away]).length ∧ plP p m N md lost away rows (N + 1) 0 [] = plP p m N md lost away rows (N + 1 - x.1) x.1 x.2.2.2.2) (fun x=>N + 1 - x.1) (0,some ⟨b5,0,none⟩,0,0,[]) [0] rfl rfl rfl ⟨Nat.zero_le _,rfl⟩ (by repeat (first | exact Fr.sub_nil _ | refine Fr.sub_cons rfl ?_)) rfl rfl ?_
 rintro ⟨w,pp,kp,cp,t⟩ ⟨hw,hg⟩ ih
 simp only [List.cons_append,List.nil_append] at hw hg ih ⊢
 rw [hP,show N + 1 - w = (N - w) + 1 by omega,plP,plR] at hg
 have c_codewrightref53_Search__Go:=fun {b : Nat}=>S_codewrightref53_Search__Go CC hlo (away:=away) w (s:=[]) (z:=[]) (k:=4096) (T:=[]) (W:=w) (b:=b) (pm:=pm) (nm:=nm) (cm:=cm) (ps:=ps) (n:=n) (c:=c) (pl:=pl) (nl:=lost.length) (cl:=cl) (pa:=pa) (na:=away.length) (ca:=ca) (r:=⟨none,0,[]⟩) (pS:=none) (ns:=0) (cs:=0) (pz:=none) (nz:=0) (cz':=0) (by simp) (by omega) (by simp;omega) ⟨by simp,List.Pairwise.nil⟩ (by simp) (Nat.le_refl _)
 have hen:=hunt_ends CC hlo hall (w:=w)
 have hset:=fun {s : List Int}=>hunt_set (lost:=lost) (away:=away) CC (w:=w) (s:=s)
 obtain ⟨hb1,hb2⟩:=hu_both (lost:=lost) (away:=away) CC w
 have hTl:=(hu_le (add:=inS) (wt:=fun s=>wtP p m md N rows lost (srL N s)) (br:=fun z w=>brL lost away z w N) w [] [] (4096,[])).2
 generalize huW p m N md lost away rows w = y at hg hen hset hb1 hb2
 obtain ⟨⟨⟨k',T'⟩,o⟩,hH⟩ : ∃ x,huD p m N md lost away rows w [] [] (4096,[]) = x:=⟨_,rfl⟩
 rw [show huT inS (fun s=>wtP p m md N rows lost (srL N s)) (fun z w=>brL lost away z w N) w [] [] (4096,[]) = ((k',T'),o) from hH] at hTl
 rw [hH] at hb1 hb2
 obtain ⟨⟨k2,T2⟩,o2⟩:=y
 dsimp only at hg hen hset hb1 hb2 hTl
 obtain ⟨rfl,rfl⟩ : k' = k2 ∧ T' = T2:=by simpa using hb1
 simp only [hH,List.length_nil] at c_codewrightref53_Search__Go
 cases hb2 with
 | no =>
  have hw2 : w < (othL N [lost,away]).length:=by
   refine Classical.byContradiction fun h=>hen (by omega) rfl
  simp only [GoQ,show (4096 : Int) - ((4096 : Nat) : Int) = 0 from rfl] at c_codewrightref53_Search__Go
  refine wk 15 cz ?_
  intro h2 b6
  refine j_row0 (encSl I64) 22 ?_
  refine j_selB [1,0,2,3,4,5] rfl rfl ?_
  simp only [List.drop_succ_cons,List.drop_zero,List.cons_append,List.nil_append]
  refine wk 21 (ct @c_codewrightref53_Search__Go cz) ?_
  intro r2
  simp only [List.length_cons,List.length_nil,List.drop_succ_cons,List.drop_zero,List.cons_append,List.nil_append]
  refine j_pubR 1 0 rfl rfl (by show T'.length * 24 ≤ 140737488355328;simp at hTl;omega) ?_
  refine j_toM [false,true,true,true,true] [0,4,5,6,7,8,9,10,11,12,13] (by exact fra rfl) rfl rfl (ih (w + 1,ad r2.bo,T'.length,r2.cap,T') (by dsimp only;omega) ⟨by dsimp only;omega,by dsimp only;rw [show N + 1 - (w + 1) = N - w by omega];exact hP.trans hg⟩)
 | up =>
  clear ih
  obtain ⟨rfl,rfl,rfl⟩ : hs = fewGo (enP p m md N rows lost) (othL N [lost,away]).length (othL N [lost,away]) ∧ f = false ∧ pf = []:=by simpa using hg
  simp only [GoQ,show (4096 : Int) - ((4096 : Nat) : Int) = 0 from rfl] at c_codewrightref53_Search__Go
  have c_codewrightref53_Few:=fun {nm cm n c nl cl na ca : Nat} {pm ps pl pa : Option Addr}=>S_codewrightref53_Few (nm:=nm) (cm:=cm) (n:=n) (c:=c) (nl:=nl) (cl:=cl) (na:=na) (ca:=ca) (pm:=pm) (ps:=ps) (pl:=pl) (pa:=pa) (away:=away) CC hlo
  generalize hfw : fewGo (enP p m md N rows lost) (othL N [lost,away]).length (othL N [lost,away]) = hs at *
  refine wk 15 cz ?_
  intro h2 b6
  refine j_row0 (encSl I64) 22 ?_
  refine j_selB [1,0,2,3,4,5] rfl rfl ?_
  simp only [List.drop_succ_cons,List.drop_zero,List.cons_append,List.nil_append]
  refine wk 32 (ct @c_codewrightref53_Search__Go (ct @c_codewrightref53_Few (ct @c_codewrightref53_Coefficients cz))) ?_
  intro r2 pa1 k1 ca1 pb1 cb1
  refine j_givC [8,1,0,6] rfl (.agg 4 rfl rfl ld40 rfl (.tmp rfl .nil)) rfl ⟨_,_,_,_,_,_,_,_,_,_,_,_,rfl,rfl,rfl⟩
 | yes hp hsrt =>
  rename_i l' l
  clear ih
  obtain ⟨rfl,rfl,rfl⟩ : hs = srL N l ∧ f = true ∧ pf = t:=by simpa using hg
  obtain ⟨h1,h2,h3,h4⟩:=hset rfl
  obtain rfl : srL N l = l':=by
   rw [← srL_perm hp]
   exact oth_oth ⟨fun x hx=>(h4 x (hp.mem_iff.1 hx)).1,hsrt⟩
  simp only [GoQ,show (4096 : Int) - ((4096 : Nat) : Int) = 0 from rfl] at c_codewrightref53_Search__Go
  generalize srL N l = hs at *
  refine wk 15 cz ?_
  intro h5 b6
  refine j_row0 (encSl I64) 22 ?_
  refine j_selB [1,0,2,3,4,5] rfl rfl ?_
  simp only [List.drop_succ_cons,List.drop_zero,List.cons_append,List.nil_append]
  refine wk 33 (ct @c_codewrightref53_Search__Go (ct @c_codewrightref53_Coefficients cz)) ?_
  intro r2 pa1 na1 ca1 pb1 cb1
  refine j_givC [8,2,0,4] rfl (.agg 4 rfl rfl ld40 rfl (.tmp rfl .nil)) rfl ⟨_,_,_,_,_,_,_,_,_,_,_,_,rfl,rfl,rfl⟩
end
open Go Go.Fw
set_option maxRecDepth 100000
set_option linter.unusedVariables false
set_option linter.unusedSimpArgs false
set_option maxHeartbeats 0
section
variable {p m N : Nat} {md lost away hs : List Int} {rows t : List (List Int)}
theorem pl_of {P M N : Int} {md lost away : List Int} {rows : List (List Int)} (h : plE P M md N rows lost away = 0) : ∃ p m n : Nat,P = p ∧ M = m ∧ N = n ∧ Cok p m md n rows ∧ stP n lost ∧ stP n away ∧ enP p m md n rows lost (othL n [lost,away]) = true:=by
 rw [plE] at h
 by_cases hc : ckE P M md N rows = 0
 ·rw [if_neg (fun e=>e hc)] at h
  obtain ⟨p,m,n,rfl,rfl,rfl,CC⟩:=ck_of hc
  by_cases h1 : stP (n : Int) lost ∧ stP (n : Int) away
  ·rw [if_neg (fun e=>e h1)] at h
   simp only [Int.toNat_natCast] at h
   cases hE : enP p m md n rows lost (othL n [lost,away]) with
   | false=>rw [if_pos (by rw [hE])] at h;omega
   | true=>exact ⟨p,m,n,rfl,rfl,rfl,CC,h1.1,h1.2,hE⟩
  ·rw [if_pos h1] at h;omega
 ·rw [if_pos hc] at h;exact absurd h hc
theorem row_cb (CC : Cok p m md N rows) {g : List Int} (hg : g ∈ rows) : ∃ x,Wd (p ^ m) rows.length x ∧ cbP p m md N x rows = g:=by
 have O:=fok_fn CC.K
 obtain ⟨x,hx,h⟩:=O.cmb_coef CC.mat (O.cmb_row CC.mat hg)
 refine ⟨x,hx,?_⟩
 have hw:=O.cmb_wd hx.2 CC.mat
 refine wd_at_ext hw (CC.mat g hg) fun j hj=>?_
 rw [show cbP p m md N x rows = cmbL _ _ N x rows from rfl,O.cmb_at hx.2 CC.mat,h]
theorem co_len : (coP p m md rows lost hs).length = lost.length:=List.length_map _
theorem co_wd (CC : Cok p m md N rows) (hs : List Int) (l : Nat) : Wd (p ^ m) hs.length (slX hs.length (eqP p m md rows hs l)):=by
 have h0:=(fok_fo CC.K).q2
 have h:=(fok_fo CC.K).elim (m:=hs.length) (auL_mat (hp_mat (by omega) CC.mat hs) (wd_col (show 0 < p ^ m by omega) CC.mat l).2)
 exact (fok_fo CC.K).slX_wd h.1 h.2.1
theorem co_get {i : Nat} {l : Int} (h : lost[i]? = some l) : (coP p m md rows lost hs)[i]? = some (slX hs.length (eqP p m md rows hs l.toNat)):=by rw [coP,List.getElem?_map,h];rfl
theorem co_sh (CC : Cok p m md N rows) : shB lost hs (coP p m md rows lost hs) = true:=shB_iff.2 ⟨co_len,fun r hr=>by
 obtain ⟨l,_,rfl⟩:=List.mem_map.1 hr
 rw [(co_wd CC hs l.toNat).1]⟩
theorem co_el (CC : Cok p m md N rows) : elB (coP p m md rows lost hs) (p ^ m) = true:=elB_iff.2 fun r hr=>by
 obtain ⟨l,_,rfl⟩:=List.mem_map.1 hr
 exact (co_wd CC hs l.toNat).2
theorem co_ok (CC : Cok p m md N rows) (hB : coB p m md rows lost hs = true) : cfP p m md lost hs (coP p m md rows lost hs) rows:=fun i hi g hg=>by
 obtain ⟨x,hx,rfl⟩:=row_cb CC hg
 have hl : lost[i]? = some (lost.getD i default):=by rw [List.getD_eq_getElem?_getD,List.getElem?_eq_getElem hi];rfl
 have h:=co_word CC hB (List.mem_of_getElem? hl) hx
 rw [gd_at (co_get hl)]
 exact h
theorem pl_ch (CC : Cok p m md N rows) (hlo : stP N lost) (haw : stP N away) {f : Bool} (ok : PlOk p m N md lost away rows (hs,f,t)) : chE p m md N rows away lost hs (coP p m md rows lost hs) f t = 0:=by
 have hB : coB p m md rows lost hs = true:=by rw [co_en CC hlo,en_wt CC hlo];exact ok.en
 rw [chE,if_neg (fun e=>e CC.ck),if_neg (fun e=>e ⟨hlo,ok.st,haw⟩),if_neg,if_neg,if_neg,if_neg,if_neg]
 ·rintro ⟨hf,h⟩
  simp only [Int.toNat_natCast] at h
  rw [ok.pr hf] at h;cases h
 ·simp only [Int.toNat_natCast]
  exact fun e=>e (co_ok CC hB)
 ·simp only [Int.toNat_natCast]
  rw [co_el CC];simp
 ·rw [co_sh CC];simp
 ·rw [List.any_eq_true,List.any_eq_true]
  rintro (⟨x,h1,h2⟩ | ⟨x,h1,h2⟩)
  ·exact (ok.sub x h1).1 (of_decide_eq_true h2)
  ·exact (ok.sub x h1).2 (of_decide_eq_true h2)
end
section
variable {P M N : Int} {n c nm cm nl cl na ca nh ch nx cx : Nat} {pm ps pl pa ph px : Option Addr} {md lost away hs msg : List Int} {rows : List (List Int)}
theorem S_codewrightlaw53_short {b : Bool} (hN : InR .i64 N) (h : (ckE P M md N rows ≠ 0 ∧ b = true) ∨ (ckE P M md N rows = 0 ∧ b = decide (N ≤ 10))) : Ctr Tryz.prog 18 [.agg #[.int .i64 P,.int .i64 M,.slice pm nm cm,.int .i64 N,.slice ps n c]] [] [slF I64 pm nm cm md,slF (encSl I64) ps n c rows] (Rv (.bool b) []):=by
 refine Ctr_of_j' (F:=F_codewrightlaw53_short) rfl fun C=>?_
 have hr:=ckE_rng P M md N rows
 have c_codewrightref12_Check:=fun {pm ps : Option Addr} {nm cm n c : Nat}=>S_codewrightref12_Check (P:=P) (M:=M) (pm:=pm) (ps:=ps) (nm:=nm) (cm:=cm) (n:=n) (c:=c) (md:=md) (rows:=rows) hN rfl
 rcases h with ⟨h1,rfl⟩ | ⟨h1,rfl⟩
 ·generalize ckE P M md N rows = e at *
  refine wk 11 (ct @c_codewrightref12_Check cz) ?_
  intro b1 h2
  exact ge
 ·rw [h1] at c_codewrightref12_Check
  refine wk 12 (ct @c_codewrightref12_Check cz) ?_
  intro b1 h2
  exact ge
theorem S_RepairPlans (hN : InR .i64 N) : Ctr Tryz.prog 8 [.agg #[.int .i64 P,.int .i64 M,.slice pm nm cm,.int .i64 N,.slice ps n c],.slice pl nl cl,.slice pa na ca] [] [slF I64 pm nm cm md,slF (encSl I64) ps n c rows,slF I64 pl nl cl lost,slF I64 pa na ca away] (Rv (.bool true) []):=by
 refine Ctr_of_j' (F:=F_codewrightlaw53_RepairPlans) rfl fun C=>?_
 have c_codewrightlaw53_alive:=S_codewrightlaw53_alive
 by_cases hsh : ckE P M md N rows = 0 ∧ ¬ N ≤ 10
 ·have c_codewrightlaw53_short:=fun {pm ps : Option Addr} {nm cm n c : Nat}=>S_codewrightlaw53_short (b:=false) (pm:=pm) (ps:=ps) (nm:=nm) (cm:=cm) (n:=n) (c:=c) (md:=md) (rows:=rows) hN (.inr ⟨hsh.1,(decide_eq_false hsh.2).symm⟩)
  refine wk 13 (ct @c_codewrightlaw53_short (ct @c_codewrightlaw53_alive cz)) ?_
  intro b1
  exact ge
 ·have c_codewrightlaw53_short:=fun {pm ps : Option Addr} {nm cm n c : Nat}=>S_codewrightlaw53_short (b:=true) (P:=P) (M:=M) (pm:=pm) (ps:=ps) (nm:=nm) (cm:=cm) (n:=n) (c:=c) (md:=md) (rows:=rows) hN (by
   by_cases h : ckE P M md N rows = 0
   ·exact .inr ⟨h,(decide_eq_true (Classical.byContradiction fun h2=>hsh ⟨h,h2⟩)).symm⟩
   ·exact .inl ⟨h,rfl⟩)
  by_cases h0 : plE P M md N rows lost away = 0
  ·obtain ⟨p,m,N,rfl,rfl,rfl,CC,hlo,haw,hall⟩:=pl_of h0
   have hN10 : N ≤ 10:=by
    refine Classical.byContradiction fun h=>hsh ⟨CC.ck,by omega⟩
   obtain ⟨⟨hs,f,pf⟩,hP⟩ : ∃ x,plP p m N md lost away rows (N + 1) 0 [] = x:=⟨_,rfl⟩
   have ok:=pl_ok CC hlo hall (N + 1) 0 [] (.inl ⟨rfl,rfl⟩)
   rw [hP] at ok
   have c_repair_Plan:=fun {nm cm n c nl cl na ca : Nat} {pm ps pl pa : Option Addr}=>S_repair_Plan_ok (nm:=nm) (cm:=cm) (n:=n) (c:=c) (nl:=nl) (cl:=cl) (na:=na) (ca:=ca) (pm:=pm) (ps:=ps) (pl:=pl) (pa:=pa) CC (by omega) hlo haw hall hP
   have c_codewrightref53_Plan:=fun {nm cm n c nl cl na ca : Nat} {pm ps pl pa : Option Addr}=>S_codewrightref53_Plan_ok (nm:=nm) (cm:=cm) (n:=n) (c:=c) (nl:=nl) (cl:=cl) (na:=na) (ca:=ca) (pm:=pm) (ps:=ps) (pl:=pl) (pa:=pa) CC (by omega) hlo haw hall hP
   have c_repair_Check:=fun {nm cm n c na ca nl cl nh ch nc cc np cp : Nat} {pm ps pa pl ph pc pp : Option Addr}=>S_repair_Check (nm:=nm) (cm:=cm) (n:=n) (c:=c) (nl:=nl) (cl:=cl) (na:=na) (ca:=ca) (nh:=nh) (ch:=ch) (nc:=nc) (cc:=cc) (np:=np) (cp:=cp) (pm:=pm) (ps:=ps) (pl:=pl) (pa:=pa) (ph:=ph) (pc:=pc) (pp:=pp) hN (pl_ch CC hlo haw ok)
   generalize coP p m md rows lost hs = co at *
   refine wk 45 (ct @c_codewrightlaw53_short (ct @c_repair_Plan (ct @c_codewrightref53_Plan (ct @S_codewrightref53_Same (ct @c_codewrightlaw53_alive (ct @c_repair_Check cz)))))) ?_
   intro b1 p11 p21 p31 p41 k11 k21 k31 k41 c11 c21 c31 c41 b2 p12 p22 p32 p42 k12 k22 k32 k42 c12 c22 c32 c42 b3 h1 h2
   exact ge
  ·obtain ⟨e,he⟩ : ∃ e,plE P M md N rows lost away = e:=⟨_,rfl⟩
   rw [he] at h0
   have hr:=plE_rng P M md N rows lost away
   rw [he] at hr
   have c_repair_Plan:=fun {nm cm n c nl cl na ca : Nat} {pm ps pl pa : Option Addr}=>S_repair_Plan_err (nm:=nm) (cm:=cm) (n:=n) (c:=c) (nl:=nl) (cl:=cl) (na:=na) (ca:=ca) (pm:=pm) (ps:=ps) (pl:=pl) (pa:=pa) hN he h0
   have c_codewrightref53_Plan:=fun {nm cm n c nl cl na ca : Nat} {pm ps pl pa : Option Addr}=>S_codewrightref53_Plan_err (nm:=nm) (cm:=cm) (n:=n) (c:=c) (nl:=nl) (cl:=cl) (na:=na) (ca:=ca) (pm:=pm) (ps:=ps) (pl:=pl) (pa:=pa) hN he h0
   have hd:=decide_eq_true (show e = e from rfl)
   refine wk 46 (ct @c_codewrightlaw53_short (ct @c_repair_Plan (ct @c_codewrightref53_Plan (ct @S_codewrightref53_Same (ct @c_codewrightlaw53_alive cz))))) ?_
   intro b1 p11 p21 p31 p41 k11 k21 k31 k41 c11 c21 c31 c41 b2 p12 p22 p32 p42 k12 k22 k32 k42 c12 c22 c32 c42 b3 h1 h2
   exact ge
end
end Go.Proofs.YtkcmkomhnjppaaaGreat
