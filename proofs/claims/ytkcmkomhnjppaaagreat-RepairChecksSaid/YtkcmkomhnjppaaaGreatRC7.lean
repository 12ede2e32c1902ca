/-
The document's CheckProof. What Check answers; the document's Check. The program's Check; the law's function RepairChecks.
-/
import Derived.Test.YtkcmkomhnjppaaaGreatRC6
set_option linter.unusedVariables false
set_option linter.unusedSimpArgs false
namespace Go.Proofs.YtkcmkomhnjppaaaGreat
open Go Go.Fw
set_option maxRecDepth 100000
set_option linter.unusedVariables false
set_option linter.unusedSimpArgs false
set_option maxHeartbeats 0
theorem sets2 {P M N : Int} {md l k : List Int} {rows : List (List Int)} : setsE P M md N rows [l,k] = if ckE P M md N rows ≠ 0 then ckE P M md N rows else if stP N l ∧ stP N k then 0 else 5:=by
 rw [setsE]
 congr 1
 by_cases h2 : stP N l ∧ stP N k
 ·rw [if_pos h2,if_pos fun x hx=>?_]
  rcases List.mem_cons.1 hx with rfl | hx
  ·exact h2.1
  ·rw [List.mem_singleton.1 hx];exact h2.2
 ·rw [if_neg h2,if_neg fun h=>h2 ⟨h _ (.head _),h _ (.tail _ (.head _))⟩]
section
variable {P M N w e : Int} {nm cm n c nl cl na ca nt ct : Nat} {md lost away : List Int} {rows t : List (List Int)} {pm ps pl pa pt : Option Addr}
theorem S_codewrightref53_CheckProof (hN : InR .i64 N) (hw : InR .i64 w) (h : cpE P M md N rows lost away w t = e) : Ctr Tryz.prog 47 [.agg #[.int .i64 P,.int .i64 M,.slice pm nm cm,.int .i64 N,.slice ps n c],.slice pl nl cl,.slice pa na ca,.int .i64 w,.slice pt nt ct] []
   [slF I64 pm nm cm md,slF (encSl I64) ps n c rows,slF I64 pl nl cl lost,slF I64 pa na ca away,slF (encSl I64) pt nt ct t] (Rv (.int .i64 e) []):=by
 refine Ctr_of_j' (F:=F_codewrightref53_CheckProof) rfl fun C=>?_
 refine j_len 4 rfl fun hn _ _=>?_
 subst hn
 have c_codewrightref53_Sets:=fun {pm ps pl : Option Addr} {nm cm n c nl cl : Nat}=>S_codewrightref53_Sets (pm:=pm) (ps:=ps) (nm:=nm) (cm:=cm) (n:=n) (c:=c) (pl:=pl) (nl:=nl) (cl:=cl) (P:=P) (M:=M) (N:=N) (md:=md) (rows:=rows) (ls:=[lost,away]) hN rfl
 have hr:=ckE_rng P M md N rows
 rw [sets2] at c_codewrightref53_Sets
 rw [cpE] at h
 by_cases hc : ckE P M md N rows = 0
 ·rw [if_pos hc] at h
  rw [if_neg (fun e=>e hc)] at c_codewrightref53_Sets
  by_cases h1 : stP N lost ∧ stP N away
  ·rw [if_pos h1] at c_codewrightref53_Sets
   rw [decide_eq_true h1.1,if_pos rfl,decide_eq_true h1.2,if_pos rfl] at h
   by_cases h3 : w < -1
   ·rw [if_pos h3] at h
    subst h
    refine wk 7 cz ?_
    intro b1 b2
    refine j_pub_all (E:=(encSl (I64))) (n:=2) [[Value.slice pl nl cl],[Value.slice pa na ca]] [lost,away] 0 (fun w A hG=>(allrd_cons (rd_of_slF (hG _ (fact_mem (n:=2) rfl))) (allrd_cons (rd_of_slF (hG _ (fact_mem (n:=3) rfl))) allrd_nil))) rfl rfl rfl rfl (by first | decide | exact Nat.le_of_ble_eq_true rfl) (by first | decide | exact Nat.le_of_ble_eq_true rfl) ?_
    refine j_step rfl (x_call [1,2,0] rfl (c_codewrightref53_Sets) rfl ?_)
    rintro _ _ _ ⟨rfl,rfl,rfl⟩
    simp only [List.cons_append,List.nil_append]
    refine wk 16 cz ?_
    intro h2 h4
    exact ge
   rw [if_neg h3] at h
   by_cases h4 : N < w
   ·rw [if_pos h4] at h
    subst h
    refine wk 7 cz ?_
    intro b1 b2
    refine j_pub_all (E:=(encSl (I64))) (n:=2) [[Value.slice pl nl cl],[Value.slice pa na ca]] [lost,away] 0 (fun w A hG=>(allrd_cons (rd_of_slF (hG _ (fact_mem (n:=2) rfl))) (allrd_cons (rd_of_slF (hG _ (fact_mem (n:=3) rfl))) allrd_nil))) rfl rfl rfl rfl (by first | decide | exact Nat.le_of_ble_eq_true rfl) (by first | decide | exact Nat.le_of_ble_eq_true rfl) ?_
    refine j_step rfl (x_call [1,2,0] rfl (c_codewrightref53_Sets) rfl ?_)
    rintro _ _ _ ⟨rfl,rfl,rfl⟩
    simp only [List.cons_append,List.nil_append]
    refine wk 19 cz ?_
    intro h2 h5 h6
    exact ge
   rw [if_neg h4] at h
   obtain ⟨p,m,N,rfl,rfl,rfl,CC⟩:=ck_of hc
   have h64:=CC.n64
   have hlo:=h1.1
   rw [Int.toNat_natCast,Int.toNat_natCast,Int.toNat_natCast,prB] at h
   by_cases h5 : w < 0
   ·rw [if_pos h5] at h
    by_cases h6 : t.length = 0
    ·rw [decide_eq_true (by omega),if_pos rfl] at h
     subst h
     refine wk 7 cz ?_
     intro b1 b2
     refine j_pub_all (E:=(encSl (I64))) (n:=2) [[Value.slice pl nl cl],[Value.slice pa na ca]] [lost,away] 0 (fun w A hG=>(allrd_cons (rd_of_slF (hG _ (fact_mem (n:=2) rfl))) (allrd_cons (rd_of_slF (hG _ (fact_mem (n:=3) rfl))) allrd_nil))) rfl rfl rfl rfl (by first | decide | exact Nat.le_of_ble_eq_true rfl) (by first | decide | exact Nat.le_of_ble_eq_true rfl) ?_
     refine j_step rfl (x_call [1,2,0] rfl (c_codewrightref53_Sets) rfl ?_)
     rintro _ _ _ ⟨rfl,rfl,rfl⟩
     simp only [List.cons_append,List.nil_append]
     refine wk 29 cz ?_
     intro h2 h7 h8 h9 h10
     exact ge
    ·rw [decide_eq_false (by omega),if_neg (by decide)] at h
     subst h
     refine wk 7 cz ?_
     intro b1 b2
     refine j_pub_all (E:=(encSl (I64))) (n:=2) [[Value.slice pl nl cl],[Value.slice pa na ca]] [lost,away] 0 (fun w A hG=>(allrd_cons (rd_of_slF (hG _ (fact_mem (n:=2) rfl))) (allrd_cons (rd_of_slF (hG _ (fact_mem (n:=3) rfl))) allrd_nil))) rfl rfl rfl rfl (by first | decide | exact Nat.le_of_ble_eq_true rfl) (by first | decide | exact Nat.le_of_ble_eq_true rfl) ?_
     refine j_step rfl (x_call [1,2,0] rfl (c_codewrightref53_Sets) rfl ?_)
     rintro _ _ _ ⟨rfl,rfl,rfl⟩
     simp only [List.cons_append,List.nil_append]
     refine wk 29 cz ?_
     intro h2 h7 h8 h9 h10
     exact ge
   rw [if_neg h5] at h
   obtain ⟨W,rfl⟩:=Int.eq_ofNat_of_zero_le (by omega : 0 ≤ w)
   rw [Int.toNat_natCast] at h
   refine j_add (slF I64 none 0 0 []) (fun w A _=>slF_nil _ w A none 0) ?_
   cases ho : htT p m md N rows lost away W [] [] t with
   | none =>
    rw [ho] at h
    rw [if_neg (by simp)] at h
    subst h
    have c_codewrightref53_Tree:=fun {nm cm n c nl cl na ca ns cs nz cz' nt ct' : Nat} {pm ps pl pa pS pz pt : Option Addr}=>S_codewrightref53_Tree CC hlo (away:=away) W (nm:=nm) (cm:=cm) (n:=n) (c:=c) (nl:=nl) (cl:=cl) (na:=na) (ca:=ca) (ns:=ns) (cs:=cs) (nz:=nz) (cz':=cz') (nt:=nt) (ct':=ct') (W:=W) (pm:=pm) (ps:=ps) (pl:=pl) (pa:=pa) (pS:=pS) (pz:=pz) (pt:=pt) (s:=[]) (z:=[]) (t:=t) (by simp) (by omega) (by simp only [List.length_nil];omega) ⟨fun v hv=>(by cases hv),List.Pairwise.nil⟩
    have hh : ∀ {pt : Option Addr} {nt ct' : Nat},HtI pt nt ct' t (htT p m md N rows lost away W [] [] t).isSome ((htT p m md N rows lost away W [] [] t).getD []) = HtI pt nt ct' t false []:=by rw [ho];intros;rfl
    simp only [hh] at c_codewrightref53_Tree
    refine wk 7 cz ?_
    intro b1 b2
    refine j_pub_all (E:=(encSl (I64))) (n:=2) [[Value.slice pl nl cl],[Value.slice pa na ca]] [lost,away] 0 (fun w A hG=>(allrd_cons (rd_of_slF (hG _ (fact_mem (n:=3) rfl))) (allrd_cons (rd_of_slF (hG _ (fact_mem (n:=4) rfl))) allrd_nil))) rfl rfl rfl rfl (by first | decide | exact Nat.le_of_ble_eq_true rfl) (by first | decide | exact Nat.le_of_ble_eq_true rfl) ?_
    refine j_step rfl (x_call [2,3,0] rfl (c_codewrightref53_Sets) rfl ?_)
    rintro _ _ _ ⟨rfl,rfl,rfl⟩
    simp only [List.cons_append,List.nil_append]
    refine wk 20 cz ?_
    intro h2 h6 h7 h8
    refine j_step rfl (x_call [2,3,4,5,1,1,6] rfl (c_codewrightref53_Tree) rfl ?_)
    rintro _ _ _ ⟨p1,k1,c1,rfl,rfl,rfl⟩
    simp only [List.cons_append,List.nil_append]
    simp only [decide_true]
    refine wk 8 cz ?_
    exact ge
   | some t' =>
    rw [ho] at h
    dsimp only at h
    have c_codewrightref53_Tree:=fun {nm cm n c nl cl na ca ns cs nz cz' nt ct' : Nat} {pm ps pl pa pS pz pt : Option Addr}=>S_codewrightref53_Tree CC hlo (away:=away) W (nm:=nm) (cm:=cm) (n:=n) (c:=c) (nl:=nl) (cl:=cl) (na:=na) (ca:=ca) (ns:=ns) (cs:=cs) (nz:=nz) (cz':=cz') (nt:=nt) (ct':=ct') (W:=W) (pm:=pm) (ps:=ps) (pl:=pl) (pa:=pa) (pS:=pS) (pz:=pz) (pt:=pt) (s:=[]) (z:=[]) (t:=t) (by simp) (by omega) (by simp only [List.length_nil];omega) ⟨fun v hv=>(by cases hv),List.Pairwise.nil⟩
    have hh : ∀ {pt : Option Addr} {nt ct' : Nat},HtI pt nt ct' t (htT p m md N rows lost away W [] [] t).isSome ((htT p m md N rows lost away W [] [] t).getD []) = HtI pt nt ct' t true t':=by rw [ho];intros;rfl
    simp only [hh] at c_codewrightref53_Tree
    by_cases h6 : t'.length = 0
    ·rw [if_pos (decide_eq_true (by omega))] at h
     subst h
     refine wk 7 cz ?_
     intro b1 b2
     refine j_pub_all (E:=(encSl (I64))) (n:=2) [[Value.slice pl nl cl],[Value.slice pa na ca]] [lost,away] 0 (fun w A hG=>(allrd_cons (rd_of_slF (hG _ (fact_mem (n:=3) rfl))) (allrd_cons (rd_of_slF (hG _ (fact_mem (n:=4) rfl))) allrd_nil))) rfl rfl rfl rfl (by first | decide | exact Nat.le_of_ble_eq_true rfl) (by first | decide | exact Nat.le_of_ble_eq_true rfl) ?_
     refine j_step rfl (x_call [2,3,0] rfl (c_codewrightref53_Sets) rfl ?_)
     rintro _ _ _ ⟨rfl,rfl,rfl⟩
     simp only [List.cons_append,List.nil_append]
     refine wk 20 cz ?_
     intro h2 h7 h8 h9
     refine j_step rfl (x_call [2,3,4,5,1,1,6] rfl (c_codewrightref53_Tree) rfl ?_)
     rintro _ _ _ ⟨p1,k1,c1,rfl,rfl,rfl⟩
     simp only [List.cons_append,List.nil_append]
     simp only [decide_true]
     refine j_know (fun w A hG=>hG _ (fact_mem (n:=0) rfl)) fun hI=>?_
     have hI : Imp _ _:=hI
     refine j_add _ (fun w A hG=>hI w A (hG _ (by repeat (first | exact List.Mem.head _ | apply List.Mem.tail)))) ?_
     refine j_len 0 rfl fun hn2 _ _=>?_
     subst hn2
     refine wk 10 cz ?_
     intro h10
     exact ge
    ·rw [if_neg (fun e=>h6 (by have:=of_decide_eq_true e;omega))] at h
     subst h
     refine wk 7 cz ?_
     intro b1 b2
     refine j_pub_all (E:=(encSl (I64))) (n:=2) [[Value.slice pl nl cl],[Value.slice pa na ca]] [lost,away] 0 (fun w A hG=>(allrd_cons (rd_of_slF (hG _ (fact_mem (n:=3) rfl))) (allrd_cons (rd_of_slF (hG _ (fact_mem (n:=4) rfl))) allrd_nil))) rfl rfl rfl rfl (by first | decide | exact Nat.le_of_ble_eq_true rfl) (by first | decide | exact Nat.le_of_ble_eq_true rfl) ?_
     refine j_step rfl (x_call [2,3,0] rfl (c_codewrightref53_Sets) rfl ?_)
     rintro _ _ _ ⟨rfl,rfl,rfl⟩
     simp only [List.cons_append,List.nil_append]
     refine wk 20 cz ?_
     intro h2 h7 h8 h9
     refine j_step rfl (x_call [2,3,4,5,1,1,6] rfl (c_codewrightref53_Tree) rfl ?_)
     rintro _ _ _ ⟨p1,k1,c1,rfl,rfl,rfl⟩
     simp only [List.cons_append,List.nil_append]
     simp only [decide_true]
     refine j_know (fun w A hG=>hG _ (fact_mem (n:=0) rfl)) fun hI=>?_
     have hI : Imp _ _:=hI
     refine j_add _ (fun w A hG=>hI w A (hG _ (by repeat (first | exact List.Mem.head _ | apply List.Mem.tail)))) ?_
     refine j_len 0 rfl fun hn2 _ _=>?_
     subst hn2
     refine wk 10 cz ?_
     intro h10
     exact ge
  ·rw [if_neg h1] at c_codewrightref53_Sets
   have h : e = 5:=by
    by_cases h2 : stP N lost
    ·rw [decide_eq_true h2,if_pos rfl,decide_eq_false fun h3=>h1 ⟨h2,h3⟩,if_neg (by decide)] at h;exact h.symm
    ·rw [decide_eq_false h2,if_neg (by decide)] at h;exact h.symm
   subst h
   refine wk 7 cz ?_
   intro b1 b2
   refine j_pub_all (E:=(encSl (I64))) (n:=2) [[Value.slice pl nl cl],[Value.slice pa na ca]] [lost,away] 0 (fun w A hG=>(allrd_cons (rd_of_slF (hG _ (fact_mem (n:=2) rfl))) (allrd_cons (rd_of_slF (hG _ (fact_mem (n:=3) rfl))) allrd_nil))) rfl rfl rfl rfl (by first | decide | exact Nat.le_of_ble_eq_true rfl) (by first | decide | exact Nat.le_of_ble_eq_true rfl) ?_
   refine j_step rfl (x_call [1,2,0] rfl (c_codewrightref53_Sets) rfl ?_)
   rintro _ _ _ ⟨rfl,rfl,rfl⟩
   simp only [List.cons_append,List.nil_append]
   refine wk 8 cz ?_
   intro h2
   exact ge
 ·rw [if_neg hc] at h
  rw [if_pos hc,h] at c_codewrightref53_Sets
  rw [h] at hc hr
  refine wk 7 cz ?_
  intro b1 b2
  refine j_pub_all (E:=(encSl (I64))) (n:=2) [[Value.slice pl nl cl],[Value.slice pa na ca]] [lost,away] 0 (fun w A hG=>(allrd_cons (rd_of_slF (hG _ (fact_mem (n:=2) rfl))) (allrd_cons (rd_of_slF (hG _ (fact_mem (n:=3) rfl))) allrd_nil))) rfl rfl rfl rfl (by first | decide | exact Nat.le_of_ble_eq_true rfl) (by first | decide | exact Nat.le_of_ble_eq_true rfl) ?_
  refine j_step rfl (x_call [1,2,0] rfl (c_codewrightref53_Sets) rfl ?_)
  rintro _ _ _ ⟨rfl,rfl,rfl⟩
  simp only [List.cons_append,List.nil_append]
  refine wk 8 cz ?_
  intro h1
  exact ge
end
open Go Go.Fw
set_option maxRecDepth 100000
set_option linter.unusedVariables false
set_option linter.unusedSimpArgs false
set_option maxHeartbeats 0
def cfP (p m : Nat) (md lost hs : List Int) (coef rows : List (List Int)) : Prop:=∀ i,i < lost.length → ∀ g ∈ rows,dotL (aF p m) (mF p m md) (coef.getD i default) (piL g hs) = at0 g (lost.getD i default).toNat
open Classical in
noncomputable def chE (P M : Int) (md : List Int) (N : Int) (rows : List (List Int)) (away lost hs : List Int) (coef : List (List Int)) (f : Bool) (t : List (List Int)) : Int :=
 if ckE P M md N rows ≠ 0 then ckE P M md N rows else if ¬ (stP N lost ∧ stP N hs ∧ stP N away) then 5 else if (hs.any fun x=>decide (x ∈ lost)) = true ∨ (hs.any fun x=>decide (x ∈ away)) = true then 10 else
 if shB lost hs coef = false then 3 else if elB coef (P.toNat ^ M.toNat) = false then 2 else if ¬ cfP P.toNat M.toNat md lost hs coef rows then 13 else
 if f = true ∧ prB P.toNat M.toNat md N.toNat rows lost away ((hs.length : Int) - 1) t = false then 13 else 0
theorem sets3 {P M N : Int} {md l k j : List Int} {rows : List (List Int)} : setsE P M md N rows [l,k,j] = if ckE P M md N rows ≠ 0 then ckE P M md N rows else if stP N l ∧ stP N k ∧ stP N j then 0 else 5:=by
 rw [setsE]
 congr 1
 by_cases h2 : stP N l ∧ stP N k ∧ stP N j
 ·rw [if_pos h2,if_pos fun x hx=>?_]
  rcases List.mem_cons.1 hx with rfl | hx
  ·exact h2.1
  rcases List.mem_cons.1 hx with rfl | hx
  ·exact h2.2.1
  ·rw [List.mem_singleton.1 hx];exact h2.2.2
 ·rw [if_neg h2,if_neg fun h=>h2 ⟨h _ (.head _),h _ (.tail _ (.head _)),h _ (.tail _ (.tail _ (.head _)))⟩]
section
variable {P M N e : Int} {nm cm n c na ca nl cl nh ch nc cc np cp : Nat} {md away lost hs : List Int} {rows coef t : List (List Int)} {f : Bool} {pm ps pa pl ph pc pp : Option Addr}
theorem S_codewrightref53_Check (hN : InR .i64 N) (h : chE P M md N rows away lost hs coef f t = e) : Ctr Tryz.prog 17 [.agg #[.int .i64 P,.int .i64 M,.slice pm nm cm,.int .i64 N,.slice ps n c],.slice pa na ca,.agg #[.slice pl nl cl,.slice ph nh ch,.slice pc nc cc,.bool f,.slice pp np cp]] []
   [slF I64 pm nm cm md,slF (encSl I64) ps n c rows,slF I64 pa na ca away,slF I64 pl nl cl lost,slF I64 ph nh ch hs,slF (encSl I64) pc nc cc coef,slF (encSl I64) pp np cp t] (Rv (.int .i64 e) []):=by
 refine Ctr_of_j' (F:=F_codewrightref53_Check) rfl fun C=>?_
 refine j_len 1 rfl fun hn hb1 _=>?_
 subst hn
 refine j_len 3 rfl fun hn _ _=>?_
 subst hn
 refine j_len 4 rfl fun hn _ _=>?_
 subst hn
 refine j_len 5 rfl fun hn hb2 _=>?_
 subst hn
 have hb1' : rows.length * 24 ≤ 140737488355328:=hb1
 have hb2' : coef.length * 24 ≤ 140737488355328:=hb2
 have c_codewrightref53_Sets:=fun {pm ps pl : Option Addr} {nm cm n c nl cl : Nat}=>S_codewrightref53_Sets (pm:=pm) (ps:=ps) (nm:=nm) (cm:=cm) (n:=n) (c:=c) (pl:=pl) (nl:=nl) (cl:=cl) (P:=P) (M:=M) (N:=N) (md:=md) (rows:=rows) (ls:=[lost,hs,away]) hN rfl
 have hr:=ckE_rng P M md N rows
 rw [sets3] at c_codewrightref53_Sets
 rw [chE] at h
 by_cases hc : ckE P M md N rows = 0
 ·rw [if_neg (fun e=>e hc)] at h
  rw [if_neg (fun e=>e hc)] at c_codewrightref53_Sets
  by_cases h1 : stP N lost ∧ stP N hs ∧ stP N away
  ·rw [if_pos h1] at c_codewrightref53_Sets
   rw [if_neg (fun e=>e h1)] at h
   cases h2 : (hs.any fun x=>decide (x ∈ lost)) with
   | true =>
    rw [h2,if_pos (.inl rfl)] at h
    subst h
    refine wk 12 cz ?_
    intro b1 b2 b3
    refine j_pub_all (E:=(encSl (I64))) (n:=3) [[Value.slice pl lost.length cl],[Value.slice ph hs.length ch],[Value.slice pa na ca]] [lost,hs,away] 0 (fun w A hG=>(allrd_cons (rd_of_slF (hG _ (fact_mem (n:=3) rfl))) (allrd_cons (rd_of_slF (hG _ (fact_mem (n:=4) rfl))) (allrd_cons (rd_of_slF (hG _ (fact_mem (n:=2) rfl))) allrd_nil)))) rfl rfl rfl rfl (by first | decide | exact Nat.le_of_ble_eq_true rfl) (by first | decide | exact Nat.le_of_ble_eq_true rfl) ?_
    refine wk 18 (ct @c_codewrightref53_Sets (ct @S_codewrightref53_Meet cz)) ?_
    intro h3
    exact ge
   | false =>
   cases h3 : (hs.any fun x=>decide (x ∈ away)) with
   | true =>
    rw [h3,if_pos (.inr rfl)] at h
    subst h
    refine wk 12 cz ?_
    intro b1 b2 b3
    refine j_pub_all (E:=(encSl (I64))) (n:=3) [[Value.slice pl lost.length cl],[Value.slice ph hs.length ch],[Value.slice pa na ca]] [lost,hs,away] 0 (fun w A hG=>(allrd_cons (rd_of_slF (hG _ (fact_mem (n:=3) rfl))) (allrd_cons (rd_of_slF (hG _ (fact_mem (n:=4) rfl))) (allrd_cons (rd_of_slF (hG _ (fact_mem (n:=2) rfl))) allrd_nil)))) rfl rfl rfl rfl (by first | decide | exact Nat.le_of_ble_eq_true rfl) (by first | decide | exact Nat.le_of_ble_eq_true rfl) ?_
    refine wk 23 (ct @c_codewrightref53_Sets (ct @S_codewrightref53_Meet (ct @S_codewrightref53_Meet cz))) ?_
    intro h4
    exact ge
   | false =>
   rw [h2,h3,if_neg (by simp)] at h
   have c_codewrightref53_Shape:=fun {nh ch nl cl nc cc np cp : Nat} {pl ph pc pp : Option Addr}=>S_codewrightref53_Shape (nh:=nh) (ch:=ch) (nl:=nl) (cl:=cl) (nc:=nc) (cc:=cc) (np:=np) (cp:=cp) (f:=f) (pl:=pl) (ph:=ph) (pc:=pc) (pp:=pp) (lost:=lost) (hs:=hs) (coef:=coef)
   cases h4 : shB lost hs coef with
   | false =>
    rw [h4] at c_codewrightref53_Shape
    rw [h4,if_pos rfl] at h
    subst h
    refine wk 12 cz ?_
    intro b1 b2 b3
    refine j_pub_all (E:=(encSl (I64))) (n:=3) [[Value.slice pl lost.length cl],[Value.slice ph hs.length ch],[Value.slice pa na ca]] [lost,hs,away] 0 (fun w A hG=>(allrd_cons (rd_of_slF (hG _ (fact_mem (n:=3) rfl))) (allrd_cons (rd_of_slF (hG _ (fact_mem (n:=4) rfl))) (allrd_cons (rd_of_slF (hG _ (fact_mem (n:=2) rfl))) allrd_nil)))) rfl rfl rfl rfl (by first | decide | exact Nat.le_of_ble_eq_true rfl) (by first | decide | exact Nat.le_of_ble_eq_true rfl) ?_
    refine wk 29 (ct @c_codewrightref53_Sets (ct @S_codewrightref53_Meet (ct @S_codewrightref53_Meet (ct @c_codewrightref53_Shape cz)))) ?_
    intro h5
    exact ge
   | true =>
   rw [h4] at c_codewrightref53_Shape
   rw [h4,if_neg (by simp)] at h
   obtain ⟨p,m,N,rfl,rfl,rfl,CC⟩:=ck_of hc
   have h64:=CC.n64
   have hq:=CC.K.q
   have q2:=(fok_fn CC.K).q2
   obtain ⟨hlo,hhs,haw⟩:=h1
   have hl1:=st_len hlo
   have hl2:=st_len hhs
   obtain ⟨hcl,hcw⟩:=shB_iff.1 h4
   rw [Int.toNat_natCast,Int.toNat_natCast,Int.toNat_natCast] at h
   refine wk 12 cz ?_
   intro b1 b2 b3
   refine j_pub_all (E:=(encSl (I64))) (n:=3) [[Value.slice pl lost.length cl],[Value.slice ph hs.length ch],[Value.slice pa na ca]] [lost,hs,away] 0 (fun w A hG=>(allrd_cons (rd_of_slF (hG _ (fact_mem (n:=3) rfl))) (allrd_cons (rd_of_slF (hG _ (fact_mem (n:=4) rfl))) (allrd_cons (rd_of_slF (hG _ (fact_mem (n:=2) rfl))) allrd_nil)))) rfl rfl rfl rfl (by first | decide | exact Nat.le_of_ble_eq_true rfl) (by first | decide | exact Nat.le_of_ble_eq_true rfl) ?_
   refine wk 29 (ct @c_codewrightref53_Sets (ct @S_codewrightref53_Meet (ct @S_codewrightref53_Meet (ct @c_codewrightref53_Shape cz)))) ?_
   intro h1
   simp only [List.eraseIdx_cons_zero]
   refine j_loopG (X:=Nat) [1,3,5] [0,1,2,3,4,5,6,7] (fun i=>[(8,.int .i64 (i : Int))]) (fun _=>_) (fun _=>[]) (fun i=>i ≤ coef.length ∧ ∀ r ∈ coef.take i,∀ x ∈ r,0 ≤ x ∧ x < ((p ^ m : Nat) : Int)) (fun i=>coef.length - i) 0 [] rfl rfl rfl ⟨Nat.zero_le _,fun x h=>by simp at h⟩ (by repeat (first | exact Fr.sub_nil _ | refine Fr.sub_cons rfl ?_)) rfl rfl ?_
   rintro i ⟨hi,hno⟩ ih
   simp only [List.cons_append,List.nil_append] at hi ih ⊢
   by_cases hil : i < coef.length
   ·obtain ⟨r,at_r⟩ : ∃ r,coef[i]? = some r:=⟨_,List.getElem?_eq_getElem hil⟩
    have er:=gd_at at_r
    by_cases h5 : ∀ x ∈ r,0 ≤ x ∧ x < ((p ^ m : Nat) : Int)
    ·have h6 : entE (coef.getD i default) (p ^ m) = 0:=by rw [er,entE,if_pos h5]
     have c_codewrightref09_Entries:=fun {nm cm n c : Nat} {pm ps : Option Addr}=>S_codewrightref09_Entries (nm:=nm) (cm:=cm) (pm:=pm) (ps:=ps) (n:=n) (c:=c) (l:=coef.getD i default) CC.K
     rw [h6] at c_codewrightref09_Entries
     refine wk 11 (ct @c_codewrightref09_Entries cz) ?_
     intro h7 b4 o1 pa1 ca1
     refine j_ifn rfl rfl (fun h8=>?_) (fun h8=>?_)
     ·exact absurd rfl (by assumption)
     ·refine wk 3 cz ?_
      exact tw (ih (i + 1) (by omega) ⟨by omega,tk_all at_r hno h5⟩)
    ·have h6 : entE (coef.getD i default) (p ^ m) = 2:=by rw [er,entE,if_neg h5]
     have c_codewrightref09_Entries:=fun {nm cm n c : Nat} {pm ps : Option Addr}=>S_codewrightref09_Entries (nm:=nm) (cm:=cm) (pm:=pm) (ps:=ps) (n:=n) (c:=c) (l:=coef.getD i default) CC.K
     rw [h6] at c_codewrightref09_Entries
     rw [if_pos (Bool.eq_false_iff.2 fun e=>h5 (elB_iff.1 e r (List.mem_of_getElem? at_r)))] at h
     subst h
     clear ih
     refine wk 15 (ct @c_codewrightref09_Entries cz) ?_
     intro h7 b4 o1 pa1 ca1 h8
     exact ge
   ·have hel : ∀ r ∈ coef,∀ x ∈ r,0 ≤ x ∧ x < ((p ^ m : Nat) : Int):=fun r hr=>hno r (by rwa [List.take_of_length_le (by omega)])
    rw [elB_iff.2 hel,if_neg (by simp)] at h
    clear ih hno
    refine wk 11 cz ?_
    intro h5
    refine j_loopG (X:=Nat) [1,3,5] [0,1,2,3,4,5,6,7] (fun k=>[(9,.int .i64 (k : Int))]) (fun _=>_) (fun _=>[]) (fun k=>k ≤ rows.length ∧ ∀ g ∈ rows.take k,∀ i,i < lost.length → dotL (aF p m) (mF p m md) (coef.getD i default) (piL g hs) = at0 g (lost.getD i default).toNat) (fun k=>rows.length - k) 0 [] rfl rfl rfl ⟨Nat.zero_le _,fun x h=>by simp at h⟩ (by repeat (first | exact Fr.sub_nil _ | refine Fr.sub_cons rfl ?_)) rfl rfl ?_
    rintro k ⟨hk,hno⟩ ih
    simp only [List.cons_append,List.nil_append] at hk ih ⊢
    by_cases hkl : k < rows.length
    ·obtain ⟨g,at_g⟩ : ∃ g,rows[k]? = some g:=⟨_,List.getElem?_eq_getElem hkl⟩
     have eg:=gd_at at_g
     have hgm:=List.mem_of_getElem? at_g
     have hg:=CC.mat g hgm
     have hgr:=eg ▸ hg
     have hpW : Wd (p ^ m) hs.length (piL (rows.getD k default) hs):=⟨List.length_map _,fun x hx=>by
      obtain ⟨j,_,rfl⟩:=List.mem_map.1 hx
      exact wd_at (by omega) hgr _⟩
     have hgl:=hgr.1
     refine wk 11 cz ?_
     intro h6
     refine j_loopG (X:=Nat) [1,3,5,9,52,53,54,55,56] [0,1,2,3,4,5,6,7] (fun i=>[(10,.int .i64 (i : Int))]) (fun _=>_) (fun _=>[]) (fun i=>i ≤ lost.length ∧ ∀ j,j < i → dotL (aF p m) (mF p m md) (coef.getD j default) (piL g hs) = at0 g (lost.getD j default).toNat) (fun i=>lost.length - i) 0 [] rfl rfl rfl ⟨Nat.zero_le _,fun x h=>by omega⟩ (by repeat (first | exact Fr.sub_nil _ | refine Fr.sub_cons rfl ?_)) rfl rfl ?_
     rintro i ⟨hi,hnoi⟩ ihi
     simp only [List.cons_append,List.nil_append] at hi ihi ⊢
     by_cases hil : i < lost.length
     ·obtain ⟨l,at_l⟩ : ∃ l,lost[i]? = some l:=⟨_,List.getElem?_eq_getElem hil⟩
      obtain ⟨r,at_r⟩ : ∃ r,coef[i]? = some r:=⟨_,List.getElem?_eq_getElem (by omega)⟩
      have el:=gd_at at_l
      have er:=gd_at at_r
      have hrm:=List.mem_of_getElem? at_r
      obtain ⟨l0,l1⟩:=hlo.1 l (List.mem_of_getElem? at_l)
      have hX : Wd (p ^ m) hs.length (coef.getD i default):=by rw [er];exact ⟨by have:=hcw r hrm;omega,hel r hrm⟩
      have c_codewrightref09_Pick:=fun {nw cw nh ch : Nat} {pw ph : Option Addr}=>S_codewrightref09_Pick (nw:=nw) (cw:=cw) (nh:=nh) (ch:=ch) (pw:=pw) (ph:=ph) hq (by omega) hgr (by omega) (show hs.length ≤ 1000000 by omega) hhs.1
      have c_codewrightref04_Dot:=fun {nm cm na ca nb cb : Nat} {pm pa pb : Option Addr}=>S_codewrightref04_Dot (nm:=nm) (cm:=cm) (na:=na) (ca:=ca) (nb:=nb) (cb:=cb) (pm:=pm) (pa:=pa) (pb:=pb) CC.K hX hpW
      by_cases h5 : dotL (aF p m) (mF p m md) (coef.getD i default) (piL g hs) = at0 g (lost.getD i default).toNat
      ·have h6 : dotL (aF p m) (mF p m md) (coef.getD i default) (piL (rows.getD k default) hs) = (rows.getD k default).getD (lost.getD i default).toNat default:=by rw [eg];exact h5
       clear ih h
       refine wk 15 (ct @c_codewrightref09_Pick (ct @c_codewrightref04_Dot cz)) ?_
       intro h7 b4 o1 pa1 ca1 b5 o2 pa2 ca2 pa3 ca3 b6 o3 pa4 ca4 b7 o4 b8 o5 h8
       exact tw (ihi (i + 1) (by omega) ⟨by omega,fun j hj=>by
        rcases Nat.lt_succ_iff_lt_or_eq.1 hj with h | rfl
        ·exact hnoi j h
        ·exact h5⟩)
      ·have h6 : dotL (aF p m) (mF p m md) (coef.getD i default) (piL (rows.getD k default) hs) ≠ (rows.getD k default).getD (lost.getD i default).toNat default:=by rw [eg];exact h5
       rw [if_pos fun hp=>h5 (hp i hil g hgm)] at h
       subst h
       clear ih ihi
       refine wk 15 (ct @c_codewrightref09_Pick (ct @c_codewrightref04_Dot cz)) ?_
       intro h7 b4 o1 pa1 ca1 b5 o2 pa2 ca2 pa3 ca3 b6 o3 pa4 ca4 b7 o4 b8 o5 h8
       exact ge
     ·clear ihi
      refine wk 11 cz ?_
      intro h7
      exact tw (ih (k + 1) (by omega) ⟨by omega,tk_all at_g hno fun i hi=>hnoi i (by omega)⟩)
    ·have hcf : cfP p m md lost hs coef rows:=fun i hi g hg=>hno g (by rwa [List.take_of_length_le (by omega)]) i hi
     rw [if_neg (fun e=>e hcf)] at h
     clear ih hno
     cases f with
     | false =>
      rw [if_neg (by simp)] at h
      subst h
      refine wk 16 cz ?_
      intro h6
      exact ge
     | true =>
      have hcp : cpE (p : Int) (m : Int) md (N : Int) rows lost away ((hs.length : Int) - 1) t = e:=by
       rw [cpE,if_pos hc,decide_eq_true hlo,if_pos rfl,decide_eq_true haw,if_pos rfl,if_neg (by omega),if_neg (by omega),Int.toNat_natCast,Int.toNat_natCast,Int.toNat_natCast,← h]
       cases prB p m md N rows lost away ((hs.length : Int) - 1) t <;> simp
      have c_codewrightref53_CheckProof:=fun {n c nm cm nl cl na ca nt ct : Nat} {pm ps pl pa pt : Option Addr}=>S_codewrightref53_CheckProof (n:=n) (c:=c) (nm:=nm) (cm:=cm) (nl:=nl) (cl:=cl) (na:=na) (ca:=ca) (nt:=nt) (ct:=ct) (pm:=pm) (ps:=ps) (pl:=pl) (pa:=pa) (pt:=pt) hN (show InR .i64 ((hs.length : Int) - 1) by simp only [InR];omega) hcp
      refine wk 27 (ct @c_codewrightref53_CheckProof cz) ?_
      intro h6
      exact ge
  ·rw [if_neg h1] at c_codewrightref53_Sets
   rw [if_pos h1] at h
   subst h
   refine wk 12 cz ?_
   intro b1 b2 b3
   refine j_pub_all (E:=(encSl (I64))) (n:=3) [[Value.slice pl lost.length cl],[Value.slice ph hs.length ch],[Value.slice pa na ca]] [lost,hs,away] 0 (fun w A hG=>(allrd_cons (rd_of_slF (hG _ (fact_mem (n:=3) rfl))) (allrd_cons (rd_of_slF (hG _ (fact_mem (n:=4) rfl))) (allrd_cons (rd_of_slF (hG _ (fact_mem (n:=2) rfl))) allrd_nil)))) rfl rfl rfl rfl (by first | decide | exact Nat.le_of_ble_eq_true rfl) (by first | decide | exact Nat.le_of_ble_eq_true rfl) ?_
   refine wk 9 (ct @c_codewrightref53_Sets cz) ?_
   intro h2
   exact ge
 ·rw [if_pos hc] at h
  rw [if_pos hc,h] at c_codewrightref53_Sets
  rw [h] at hc hr
  refine wk 12 cz ?_
  intro b1 b2 b3
  refine j_pub_all (E:=(encSl (I64))) (n:=3) [[Value.slice pl lost.length cl],[Value.slice ph hs.length ch],[Value.slice pa na ca]] [lost,hs,away] 0 (fun w A hG=>(allrd_cons (rd_of_slF (hG _ (fact_mem (n:=3) rfl))) (allrd_cons (rd_of_slF (hG _ (fact_mem (n:=4) rfl))) (allrd_cons (rd_of_slF (hG _ (fact_mem (n:=2) rfl))) allrd_nil)))) rfl rfl rfl rfl (by first | decide | exact Nat.le_of_ble_eq_true rfl) (by first | decide | exact Nat.le_of_ble_eq_true rfl) ?_
  refine wk 9 (ct @c_codewrightref53_Sets cz) ?_
  intro h1
  exact ge
end
open Go Go.Fw
set_option maxRecDepth 100000
set_option linter.unusedVariables false
set_option linter.unusedSimpArgs false
set_option maxHeartbeats 0
theorem S_repair_meetR {pa pb : Option Addr} {na ca nb cb : Nat} {k l : List Int} {res : Bool} (hr : (k.any fun x=>decide (x ∈ l)) = res) : Ctr Tryz.prog 38 [.slice pa na ca,.slice pb nb cb] [] [slF I64 pa na ca k,slF I64 pb nb cb l] (Rv (.bool res) []):=hr ▸ S_repair_meet
section
variable {P M N e : Int} {nm cm n c na ca nl cl nh ch nc cc np cp : Nat} {md away lost hs : List Int} {rows coef t : List (List Int)} {f : Bool} {pm ps pa pl ph pc pp : Option Addr}
theorem S_repair_Check (hN : InR .i64 N) (h : chE P M md N rows away lost hs coef f t = e) : Ctr Tryz.prog 16 [.agg #[.int .i64 P,.int .i64 M,.slice pm nm cm,.int .i64 N,.slice ps n c],.slice pa na ca,.agg #[.slice pl nl cl,.slice ph nh ch,.slice pc nc cc,.bool f,.slice pp np cp]] []
   [slF I64 pm nm cm md,slF (encSl I64) ps n c rows,slF I64 pa na ca away,slF I64 pl nl cl lost,slF I64 ph nh ch hs,slF (encSl I64) pc nc cc coef,slF (encSl I64) pp np cp t] (Rv (.int .i64 e) []):=by
 refine Ctr_of_j' (F:=F_repair_Check) rfl fun C=>?_
 refine j_len 1 rfl fun hn hb1 _=>?_
 subst hn
 refine j_len 3 rfl fun hn _ _=>?_
 subst hn
 refine j_len 4 rfl fun hn _ _=>?_
 subst hn
 refine j_len 5 rfl fun hn hb2 _=>?_
 subst hn
 have hb1' : rows.length * 24 ≤ 140737488355328:=hb1
 have hb2' : coef.length * 24 ≤ 140737488355328:=hb2
 have c_code_Check:=fun {pm ps : Option Addr} {nm cm n c : Nat}=>S_code_Check (P:=P) (M:=M) (pm:=pm) (ps:=ps) (nm:=nm) (cm:=cm) (n:=n) (c:=c) (md:=md) (rows:=rows) hN rfl
 have hr:=ckE_rng P M md N rows
 rw [chE] at h
 by_cases hc : ckE P M md N rows = 0
 ·rw [if_neg (fun e=>e hc)] at h
  rw [hc] at c_code_Check
  obtain ⟨p,m,N,rfl,rfl,rfl,CC⟩:=ck_of hc
  have h64:=CC.n64
  have hq:=CC.K.q
  have q2:=(fok_fn CC.K).q2
  have p2:=CC.K.p2
  have m1:=CC.K.m1
  have F:=CC.K.fi
  have c_repair_meet:=fun {pa pb : Option Addr} {na ca nb cb : Nat} {k l : List Int} {res : Bool} (hr : (k.any fun x=>decide (x ∈ l)) = res)=>S_repair_meetR (pa:=pa) (pb:=pb) (na:=na) (ca:=ca) (nb:=nb) (cb:=cb) hr
  have c_field_New:=fun {pm : Option Addr} {nm cm : Nat}=>S_field_New_ok (pm:=pm) (nm:=nm) (cm:=cm) CC.K
  by_cases h1 : stP N lost ∧ stP N hs ∧ stP N away
  ·rw [if_neg (fun e=>e h1)] at h
   obtain ⟨hlo,hhs,haw⟩:=h1
   have hd1:=decide_eq_true hlo
   have hd2:=decide_eq_true hhs
   have hd3:=decide_eq_true haw
   cases h2 : (hs.any fun x=>decide (x ∈ lost)) with
   | true =>
    rw [h2,if_pos (.inl rfl)] at h
    subst h
    refine wk 48 (ct @c_code_Check (ct @c_field_New (ct @S_repair_set (ct @S_repair_set (ct @S_repair_set (ct @c_repair_meet cz)))))) ?_
    intro b1 b2 h1 b3 pg1 cg1 pe1 ce1 pl1 cl1
    exact ge
   | false =>
   cases h3 : (hs.any fun x=>decide (x ∈ away)) with
   | true =>
    rw [h3,if_pos (.inr rfl)] at h
    subst h
    refine wk 53 (ct @c_code_Check (ct @c_field_New (ct @S_repair_set (ct @S_repair_set (ct @S_repair_set (ct @c_repair_meet (ct @c_repair_meet cz))))))) ?_
    intro b1 b2 h1 b3 pg1 cg1 pe1 ce1 pl1 cl1
    exact ge
   | false =>
   rw [h2,h3,if_neg (by simp)] at h
   have c_repair_shaped:=fun {nh ch nl cl nc cc np cp : Nat} {pl ph pc pp : Option Addr}=>S_repair_shaped (nh:=nh) (ch:=ch) (nl:=nl) (cl:=cl) (nc:=nc) (cc:=cc) (np:=np) (cp:=cp) (f:=f) (pl:=pl) (ph:=ph) (pc:=pc) (pp:=pp) (lost:=lost) (hs:=hs) (coef:=coef)
   cases h4 : shB lost hs coef with
   | false =>
    rw [h4] at c_repair_shaped
    rw [h4,if_pos rfl] at h
    subst h
    refine wk 59 (ct @c_code_Check (ct @c_field_New (ct @S_repair_set (ct @S_repair_set (ct @S_repair_set (ct @c_repair_meet (ct @c_repair_meet (ct @c_repair_shaped cz)))))))) ?_
    intro b1 b2 h1 b3 pg1 cg1 pe1 ce1 pl1 cl1
    exact ge
   | true =>
   rw [h4] at c_repair_shaped
   rw [h4,if_neg (by simp)] at h
   have hl1:=st_len hlo
   have hl2:=st_len hhs
   obtain ⟨hcl,hcw⟩:=shB_iff.1 h4
   rw [Int.toNat_natCast,Int.toNat_natCast,Int.toNat_natCast] at h
   have c_repair_elements:=fun {b ng cg ne ce nl cl n c : Nat} {pg pe pl ps : Option Addr}=>S_repair_elements (b:=b) (p:=p) (m:=m) (q:=p ^ m) (ng:=ng) (cg:=cg) (ne:=ne) (ce:=ce) (nl:=nl) (cl:=cl) (n:=n) (c:=c) (pg:=pg) (pe:=pe) (pl:=pl) (ps:=ps) (rows:=coef) hq
   cases h5 : elB coef (p ^ m) with
   | false =>
    rw [h5] at c_repair_elements
    rw [h5,if_pos rfl] at h
    subst h
    refine wk 67 (ct @c_code_Check (ct @c_field_New (ct @S_repair_set (ct @S_repair_set (ct @S_repair_set (ct @c_repair_meet (ct @c_repair_meet (ct @c_repair_shaped (ct @c_repair_elements cz))))))))) ?_
    intro b1 b2 h1 b3 pg1 cg1 pe1 ce1 pl1 cl1
    exact ge
   | true =>
   rw [h5] at c_repair_elements
   rw [h5,if_neg (by simp)] at h
   have hel:=elB_iff.1 h5
   refine wk 70 (ct @c_code_Check (ct @c_field_New (ct @S_repair_set (ct @S_repair_set (ct @S_repair_set (ct @c_repair_meet (ct @c_repair_meet (ct @c_repair_shaped (ct @c_repair_elements cz))))))))) ?_
   intro b1 b2 h1 b3 pg1 cg1 pe1 ce1 pl1 cl1
   refine j_loopG (X:=Nat) [1,3,5,8,73,74] [0,1,2,3,4,5,6,7,8,9,10] (fun i=>[(75,.int .i64 (i : Int))]) (fun _=>_) (fun _=>[]) (fun i=>i ≤ coef.length ∧ ∀ j,j < i → ∀ g ∈ rows,dotL (aF p m) (mF p m md) (coef.getD j default) (piL g hs) = at0 g (lost.getD j default).toNat) (fun i=>coef.length - i) 0 [] rfl rfl rfl ⟨Nat.zero_le _,fun x h=>by omega⟩ (by repeat (first | exact Fr.sub_nil _ | refine Fr.sub_cons rfl ?_)) rfl rfl ?_
   rintro i ⟨hi,hnoi⟩ ihi
   simp only [List.cons_append,List.nil_append] at hi ihi ⊢
   by_cases hil : i < coef.length
   ·obtain ⟨l,at_l⟩ : ∃ l,lost[i]? = some l:=⟨_,List.getElem?_eq_getElem (by omega)⟩
    obtain ⟨r,at_r⟩ : ∃ r,coef[i]? = some r:=⟨_,List.getElem?_eq_getElem hil⟩
    have el:=gd_at at_l
    have er:=gd_at at_r
    have hrm:=List.mem_of_getElem? at_r
    obtain ⟨l0,l1⟩:=hlo.1 l (List.mem_of_getElem? at_l)
    have hX : Wd (p ^ m) hs.length r:=⟨by have:=hcw r hrm;omega,hel r hrm⟩
    have hrl:=hX.1
    refine wk 15 cz ?_
    intro h6 b4 o1 hz1 pa1 ca1
    refine j_loopG (X:=Nat) [1,3,5,8,10,11,73,74,75,76,77,78,79,80,81,82] [0,1,2,3,4,5,6,7,8,9,10,11,12] (fun k=>[(83,.int .i64 (k : Int))]) (fun _=>_) (fun _=>[]) (fun k=>k ≤ rows.length ∧ ∀ g ∈ rows.take k,dotL (aF p m) (mF p m md) r (piL g hs) = at0 g l.toNat) (fun k=>rows.length - k) 0 [] rfl rfl rfl ⟨Nat.zero_le _,fun x h=>by simp at h⟩ (by repeat (first | exact Fr.sub_nil _ | refine Fr.sub_cons rfl ?_)) rfl rfl ?_
    rintro k ⟨hk,hno⟩ ih
    simp only [List.cons_append,List.nil_append] at hk ih ⊢
    by_cases hkl : k < rows.length
    ·obtain ⟨g,at_g⟩ : ∃ g,rows[k]? = some g:=⟨_,List.getElem?_eq_getElem hkl⟩
     have hgm:=List.mem_of_getElem? at_g
     have hg:=CC.mat g hgm
     have hgl:=hg.1
     have hpW : Wd (p ^ m) hs.length (piL g hs):=⟨List.length_map _,fun x hx=>by
      obtain ⟨j,_,rfl⟩:=List.mem_map.1 hx
      exact wd_at (by omega) hg _⟩
     refine wk 16 cz ?_
     intro h7 b5 o2 hz2 pa2 ca2
     refine j_loopG (X:=Nat) [1,3,5,8,10,11,13,73,74,75,76,77,78,79,80,81,82,83,84,85,86,87,88,89] [0,1,2,3,4,5,6,7,8,9,10,11,12,13,14] (fun j=>[(90,.int .i64 (j : Int)),(14,.int .i64 (dotL (aF p m) (mF p m md) (r.take j) ((piL g hs).take j)))]) (fun _=>_) (fun _=>[]) (fun j=>j ≤ hs.length) (fun j=>hs.length - j) 0 [] rfl rfl rfl (Nat.zero_le _) (by repeat (first | exact Fr.sub_nil _ | refine Fr.sub_cons rfl ?_)) rfl rfl ?_
     rintro j hj ihj
     simp only [List.cons_append,List.nil_append] at hj ihj ⊢
     obtain ⟨d0,d1⟩:=F.dlt (wd_take hX hj) (wd_take hpW hj)
     by_cases hjl : j < hs.length
     ·obtain ⟨y,at_y⟩ : ∃ y,hs[j]? = some y:=⟨_,List.getElem?_eq_getElem hjl⟩
      obtain ⟨a,at_a⟩ : ∃ a,r[j]? = some a:=⟨_,List.getElem?_eq_getElem (by omega)⟩
      obtain ⟨y0,y1⟩:=hhs.1 y (List.mem_of_getElem? at_y)
      obtain ⟨a0,a1⟩:=hX.2 a (List.mem_of_getElem? at_a)
      have ea:=gd_at at_a
      have hgy : (piL g hs)[j]? = some (at0 g y.toNat):=by rw [piL,List.getElem?_map,at_y];rfl
      obtain ⟨v0,v1⟩:=wd_at (by omega) hg y.toNat
      have ih':=ihj (j + 1) (by omega) (by omega)
      rw [List.take_add_one,List.take_add_one,at_a,hgy,Option.toList_some,Option.toList_some,dot_snoc F (wd_take hX hj) (wd_take hpW hj) a0 a1 v0 v1] at ih'
      generalize dotL (aF p m) (mF p m md) (r.take j) ((piL g hs).take j) = s at *
      obtain ⟨m0,m1⟩:=F.ml _ _ a0 a1 v0 v1
      have c_field_GF__Mul:=fun {b ng cg ce cl : Nat} {pg pe pl : Option Addr} {x y : Int}=>S_field_GF__Mul (b:=b) (ng:=ng) (cg:=cg) (ce:=ce) (cl:=cl) (pg:=pg) (pe:=pe) (pl:=pl) (x:=x) (y:=y) CC.K
      rw [show at0 g y.toNat = g.getD y.toNat default from rfl] at *
      rw [← ea] at a0 a1 m0 m1 ih'
      clear ih ihi ihj hnoi hno h
      refine wk 7 cz ?_
      intro h8 b6 o3 hz3
      refine j_step rfl (x_ld_int 0 rfl rfl ld3 fun ⟨r1,r2⟩=>?_)
      refine wk 7 (ct @c_field_GF__Mul (ct @S_field_GF__Add cz)) ?_
      intro b7 o4 b8 o5
      exact tw (ih')
     ·obtain rfl : hs.length = j:=by omega
      have hpl : (piL g hs).length = hs.length:=List.length_map _
      rw [List.take_of_length_le (show r.length ≤ hs.length by omega),List.take_of_length_le (show (piL g hs).length ≤ hs.length by omega)]
      clear ihj
      have at_v : g[l.toNat]? = some (at0 g l.toNat):=by rw [at0,List.getD_eq_getElem?_getD,List.getElem?_eq_getElem (by omega)];rfl
      by_cases h7 : dotL (aF p m) (mF p m md) r (piL g hs) = at0 g l.toNat
      ·clear h ihi
       refine wk 10 cz ?_
       intro h8 b6 o3 hz3
       refine j_step rfl (x_ld_int 0 rfl rfl ld3 fun ⟨r1,r2⟩=>?_)
       refine wk 1 cz ?_
       intro b7 o4 hz4
       refine j_step rfl (x_ld_int 0 rfl rfl ld3 fun ⟨r3,r4⟩=>?_)
       refine wk 6 cz ?_
       intro h9
       exact tw (ih (k + 1) (by omega) ⟨by omega,tk_all at_g hno h7⟩)
      ·rw [if_pos fun hp=>h7 (by have:=hp i (by omega) g hgm;rwa [er,el] at this)] at h
       subst h
       clear ih ihi
       refine wk 10 cz ?_
       intro h8 b6 o3 hz3
       refine j_step rfl (x_ld_int 0 rfl rfl ld3 fun ⟨r1,r2⟩=>?_)
       refine wk 1 cz ?_
       intro b7 o4 hz4
       refine j_step rfl (x_ld_int 0 rfl rfl ld3 fun ⟨r3,r4⟩=>?_)
       refine wk 6 cz ?_
       intro h9
       exact ge
    ·have hnr : ∀ g ∈ rows,dotL (aF p m) (mF p m md) r (piL g hs) = at0 g l.toNat:=fun g hg=>hno g (by rwa [List.take_of_length_le (by omega)])
     clear ih h
     refine wk 7 cz ?_
     intro h7
     exact tw (ihi (i + 1) (by omega) ⟨by omega,fun j hj g hg=>by
      rcases Nat.lt_succ_iff_lt_or_eq.1 hj with h | rfl
      ·exact hnoi j h g hg
      ·rw [er,el];exact hnr g hg⟩)
   ·have hcf : cfP p m md lost hs coef rows:=fun i hi g hg=>hnoi i (by omega) g hg
    rw [if_neg (fun e=>e hcf)] at h
    clear ihi hnoi
    cases f with
    | false =>
     rw [if_neg (by simp)] at h
     subst h
     refine wk 13 cz ?_
     intro h6
     exact ge
    | true =>
     have c_repair_proves:=fun {nm cm n c nl cl na ca nt ct : Nat} {pm ps pl pa pt : Option Addr}=>S_repair_proves (nm:=nm) (cm:=cm) (n:=n) (c:=c) (nl:=nl) (cl:=cl) (na:=na) (ca:=ca) (nt:=nt) (ct:=ct) (pm:=pm) (ps:=ps) (pl:=pl) (pa:=pa) (pt:=pt) (away:=away) (w:=(hs.length : Int) - 1) (t:=t) CC hlo (by omega) (by omega)
     cases h8 : prB p m md N rows lost away ((hs.length : Int) - 1) t with
     | false =>
      rw [h8] at c_repair_proves
      rw [h8,if_pos ⟨rfl,rfl⟩] at h
      subst h
      refine wk 25 (ct @c_repair_proves cz) ?_
      intro h6
      exact ge
     | true =>
      rw [h8] at c_repair_proves
      rw [h8,if_neg (by simp)] at h
      subst h
      refine wk 25 (ct @c_repair_proves cz) ?_
      intro h6
      exact ge
  ·rw [if_pos h1] at h
   subst h
   cases hd1 : decide (stP N lost) with
   | false =>
    refine wk 29 (ct @c_code_Check (ct @c_field_New (ct @S_repair_set cz))) ?_
    intro b1 b2 h2 b3 pg1 cg1 pe1 ce1 pl1 cl1
    exact ge
   | true =>
   cases hd2 : decide (stP N hs) with
   | false =>
    refine wk 35 (ct @c_code_Check (ct @c_field_New (ct @S_repair_set (ct @S_repair_set cz)))) ?_
    intro b1 b2 h2 b3 pg1 cg1 pe1 ce1 pl1 cl1
    exact ge
   | true =>
   have hd3 : decide (stP N away) = false:=decide_eq_false fun h3=>h1 ⟨of_decide_eq_true hd1,of_decide_eq_true hd2,h3⟩
   refine wk 39 (ct @c_code_Check (ct @c_field_New (ct @S_repair_set (ct @S_repair_set (ct @S_repair_set cz))))) ?_
   intro b1 b2 h2 b3 pg1 cg1 pe1 ce1 pl1 cl1
   exact ge
 ·rw [if_pos hc] at h
  rw [h] at c_code_Check hc hr
  refine wk 15 (ct @c_code_Check cz) ?_
  intro b1 b2 h1
  exact ge
theorem chE_rng : ∃ x,chE P M md N rows away lost hs coef f t = x ∧ InR .i64 x:=by
 refine ⟨_,rfl,?_⟩
 have hr:=ckE_rng P M md N rows
 rw [chE]
 repeat' split
 all_goals simp only [InR];omega
end
theorem S_RepairChecks {P M N : Int} {nm cm n c na ca nl cl nh ch nc cc np cp : Nat} {md away lost hs : List Int} {rows coef t : List (List Int)} {f : Bool} {pm ps pa pl ph pc pp : Option Addr} (hN : InR .i64 N) :
  Ctr Tryz.prog 4 [.agg #[.int .i64 P,.int .i64 M,.slice pm nm cm,.int .i64 N,.slice ps n c,.slice pa na ca,.slice pl nl cl,.slice ph nh ch,.slice pc nc cc,.bool f,.slice pp np cp]] []
   [slF I64 pm nm cm md,slF (encSl I64) ps n c rows,slF I64 pa na ca away,slF I64 pl nl cl lost,slF I64 ph nh ch hs,slF (encSl I64) pc nc cc coef,slF (encSl I64) pp np cp t] (Rv (.bool true) []):=by
 refine Ctr_of_j' (F:=F_codewrightlaw53_RepairChecks) rfl fun C=>?_
 have c_codewrightlaw53_alive:=S_codewrightlaw53_alive
 have c_codewrightlaw53_few:=fun {nt ct : Nat} {pt : Option Addr}=>S_codewrightlaw53_few (nt:=nt) (ct:=ct) (pt:=pt) (t:=t)
 cases hf : decide ((t.length : Int) ≤ 300) with
 | false =>
  rw [hf] at c_codewrightlaw53_few
  refine wk 15 (ct @c_codewrightlaw53_few (ct @c_codewrightlaw53_alive cz)) ?_
  intro b1
  exact ge
 | true =>
  rw [hf] at c_codewrightlaw53_few
  obtain ⟨e,he,hr⟩:=chE_rng (P:=P) (M:=M) (md:=md) (N:=N) (rows:=rows) (away:=away) (lost:=lost) (hs:=hs) (coef:=coef) (f:=f) (t:=t)
  have c_repair_Check:=fun {nm cm n c na ca nl cl nh ch nc cc np cp : Nat} {pm ps pa pl ph pc pp : Option Addr}=>S_repair_Check (nm:=nm) (cm:=cm) (n:=n) (c:=c) (na:=na) (ca:=ca) (nl:=nl) (cl:=cl) (nh:=nh) (ch:=ch) (nc:=nc) (cc:=cc) (np:=np) (cp:=cp) (pm:=pm) (ps:=ps) (pa:=pa) (pl:=pl) (ph:=ph) (pc:=pc) (pp:=pp) hN he
  have c_codewrightref53_Check:=fun {nm cm n c na ca nl cl nh ch nc cc np cp : Nat} {pm ps pa pl ph pc pp : Option Addr}=>S_codewrightref53_Check (nm:=nm) (cm:=cm) (n:=n) (c:=c) (na:=na) (ca:=ca) (nl:=nl) (cl:=cl) (nh:=nh) (ch:=ch) (nc:=nc) (cc:=cc) (np:=np) (cp:=cp) (pm:=pm) (ps:=ps) (pa:=pa) (pl:=pl) (ph:=ph) (pc:=pc) (pp:=pp) hN he
  have hd:=decide_eq_true (show e = e from rfl)
  refine wk 15 (ct @c_codewrightlaw53_few (ct @c_repair_Check (ct @c_codewrightref53_Check (ct @c_codewrightlaw53_alive cz)))) ?_
  intro b1
  exact ge
end Go.Proofs.YtkcmkomhnjppaaaGreat
