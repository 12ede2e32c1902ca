/-
The tests of a store's configuration. The law's function StoreConfigs. The ring of nodes of a store in plain words. The ring of a store, in the program. Places of blocks. Lists compared, in the document. Equations with their right hand sides, and their solution by places. Equations solved, in the program. The program's test whether a word is in a code. Words of a code from messages, in the program. A stripe completed from some of its blocks, in the program. Subsets in the order of their entries. Subsets in order, in the document. A stripe decoded, in the program. The tests of a stripe. Coefficients of repairs, in the program. Equations solved, in the document. A stripe completed from some of its blocks, in the document. A stripe decoded, in the document. Decode. The law's function StoreDecodes.
-/
import Derived.Test.YteadncphjconmaaGreatRU6
set_option linter.unusedVariables false
set_option linter.unusedSimpArgs false
namespace Go.Proofs.YteadncphjconmaaGreat
open Go Go.Fw
set_option maxRecDepth 100000
set_option linter.unusedVariables false
set_option linter.unusedSimpArgs false
set_option maxHeartbeats 0
theorem j_rangeI {P : Program} {F : Fun P} {C : Cx} {S : List It} {σ : Fr} {β : List Blk} {Γ : List Fact} {R : Value → World → Prop} {pa : Option Addr} {m ca : Nat} {l : List Int} (n : Nat) (hn : nth Γ n = some (slF I64 pa m ca l)) (h : (∀ x ∈ l,InR .i64 x) → J F C S σ β Γ R) : J F C S σ β Γ R :=
 j_know (fun w A hG x hx=>by
  obtain ⟨_,_,_,hs⟩:=hG _ (fact_mem hn)
  rcases hs with rfl | ⟨b,o,_,_,hel⟩
  ·cases hx
  ·obtain ⟨i,hi⟩:=List.getElem?_of_mem hx
   obtain ⟨vs,_,_,h2⟩:=hel i x hi
   exact h2) h
noncomputable def cfE (P M : Int) (md : List Int) (N : Int) (rows : List (List Int)) (dd : Int) (sets : List (List Int)) (racks : List Int) (W : Int) : Int :=
 if ckE P M md N rows ≠ 0 then ckE P M md N rows else if rows.length = 0 then 9 else if cdE P M md N rows dd sets ≠ 0 then cdE P M md N rows dd sets
 else if 65536 < cumN N.toNat (((dd - 1) / 2).toNat + 1) then 8 else if W < 1 ∨ 16 < W ∨ racks.length < 1 ∨ 64 < racks.length ∨ (∃ x ∈ racks,x < 1) then 6
 else if 256 < sumI racks then 8 else if sumI racks < N then 10 else 0
theorem cdE_rng {P M N dd : Int} {md : List Int} {rows sets : List (List Int)} : 0 ≤ cdE P M md N rows dd sets ∧ cdE P M md N rows dd sets ≤ 13:=by
 have:=ckE_rng P M md N rows
 rw [cdE]
 split
 ·omega
 ·split
  ·omega
  ·split <;> omega
theorem cd_ok {p m N : Nat} {dd : Int} {md : List Int} {rows sets : List (List Int)} (CC : Cok p m md N rows) (h : cdE p m md N rows dd sets = 0) : 1 ≤ dd ∧ dd ≤ N + 1:=by
 rw [cdE,CC.ck,if_neg (by simp)] at h
 split at h
 ·cases h
 ·omega
section
variable {P M N dd W e : Int} {n c nm cm nt ct nr cr : Nat} {pm ps pt pr : Option Addr} {md racks : List Int} {rows sets : List (List Int)}
theorem S_codewrightref54_Hosts (h0 : ∀ x ∈ racks,0 ≤ x) (hs : sumI racks ≤ 1000000) : Ctr Tryz.prog 33 [.agg #[.int .i64 P,.int .i64 M,.slice pm nm cm,.int .i64 N,.slice ps n c,.int .i64 dd,.slice pt nt ct,.slice pr nr cr,.int .i64 W]] [] [slF I64 pr nr cr racks] (Rv (.int .i64 (sumI racks)) []):=by
 refine Ctr_of_j' (F:=F_codewrightref54_Hosts) rfl fun C=>?_
 refine j_len 0 rfl fun hn hb _=>?_
 subst hn
 have hb' : racks.length * 8 ≤ 140737488355328:=hb
 refine wk 8 cz ?_
 intro b1
 refine j_loopG (X:=Nat) [1,2] [0] (fun i=>[(4,.int .i64 (i : Int)),(3,.int .i64 (sumI (racks.take i)))]) (fun _=>_) (fun _=>[]) (fun i=>i ≤ racks.length) (fun i=>racks.length - i) 0 [] rfl rfl rfl (Nat.zero_le _) (by repeat (first | exact Fr.sub_nil _ | refine Fr.sub_cons rfl ?_)) rfl rfl ?_
 rintro i hi ih
 simp only [List.cons_append,List.nil_append] at hi ih ⊢
 have hst:=sumI_take h0 i
 by_cases h9 : i < racks.length
 ·obtain ⟨x,at_x⟩ : ∃ x,racks[i]? = some x:=⟨_,List.getElem?_eq_getElem h9⟩
  have hx:=h0 x (List.mem_of_getElem? at_x)
  have hst2:=sumI_take h0 (i + 1)
  rw [sumI_snoc at_x] at hst2
  have ih':=ih (i + 1) (by omega) (by omega)
  rw [sumI_snoc at_x] at ih'
  refine wk 14 cz ?_
  intro h1 b2 o1 hz1
  refine j_step rfl (x_ld_int 0 rfl rfl ld3 fun ⟨r1,r2⟩=>?_)
  refine wk 4 cz ?_
  exact tw (ih')
 ·obtain rfl : i = racks.length:=by omega
  rw [List.take_length]
  clear ih
  refine wk 11 cz ?_
  intro h1
  exact ge
theorem S_store_CheckConfig (hN : InR .i64 N) (hd : InR .i64 dd) (h : cfE P M md N rows dd sets racks W = e) : Ctr Tryz.prog 10 [.agg #[.int .i64 P,.int .i64 M,.slice pm nm cm,.int .i64 N,.slice ps n c,.int .i64 dd,.slice pt nt ct,.slice pr nr cr,.int .i64 W]] [] [slF I64 pm nm cm md,slF (encSl I64) ps n c rows,slF (encSl I64) pt nt ct sets,slF I64 pr nr cr racks] (Rv (.int .i64 e) []):=by
 refine Ctr_of_j' (F:=F_store_CheckConfig) rfl fun C=>?_
 refine j_len 1 rfl fun hn hb _=>?_
 subst hn
 refine j_len 3 rfl fun hn hb2 _=>?_
 subst hn
 have hb2' : racks.length * 8 ≤ 140737488355328:=hb2
 refine j_rangeI 3 rfl fun hrr=>?_
 have c_code_Check:=fun {pm ps : Option Addr} {nm cm n c : Nat}=>S_code_Check (P:=P) (M:=M) (pm:=pm) (ps:=ps) (nm:=nm) (cm:=cm) (n:=n) (c:=c) (md:=md) (rows:=rows) hN rfl
 have hr:=ckE_rng P M md N rows
 rw [cfE] at h
 by_cases hc : ckE P M md N rows = 0
 ·rw [if_neg (fun e=>e hc)] at h
  rw [hc] at c_code_Check
  obtain ⟨p,m,N,rfl,rfl,rfl,CC⟩:=ck_of hc
  have h64:=CC.n64
  by_cases h0 : rows.length = 0
  ·rw [if_pos h0] at h
   subst h
   refine wk 6 cz ?_
   intro b1
   refine j_step rfl (x_call [0,1] rfl (c_code_Check) rfl ?_)
   rintro _ _ _ ⟨rfl,rfl,rfl⟩
   simp only [List.cons_append,List.nil_append]
   refine wk 16 cz ?_
   intro h1 h2
   exact ge
  ·rw [if_neg h0] at h
   have hcr:=cdE_rng (P:=p) (M:=m) (N:=N) (dd:=dd) (md:=md) (rows:=rows) (sets:=sets)
   have c_exclusion_CheckDistance:=fun {pm ps pt : Option Addr} {nm cm n c nt ct : Nat}=>S_exclusion_CheckDistance (pm:=pm) (ps:=ps) (pt:=pt) (nm:=nm) (cm:=cm) (n:=n) (c:=c) (nt:=nt) (ct:=ct) (sets:=sets) (e:=cdE p m md N rows dd sets) CC hd (by omega) rfl
   by_cases h1 : cdE p m md N rows dd sets = 0
   ·rw [if_neg (fun e=>e h1),Int.toNat_natCast] at h
    rw [h1] at c_exclusion_CheckDistance
    obtain ⟨d1,d2⟩:=cd_ok CC h1
    obtain ⟨D,hD⟩:=Int.eq_ofNat_of_zero_le (show 0 ≤ (dd - 1) / 2 by omega)
    rw [hD,Int.toNat_natCast] at h
    have hDN : D ≤ N:=by omega
    refine wk 6 cz ?_
    intro b1
    refine j_step rfl (x_call [0,1] rfl (c_code_Check) rfl ?_)
    rintro _ _ _ ⟨rfl,rfl,rfl⟩
    simp only [List.cons_append,List.nil_append]
    refine wk 20 cz ?_
    intro h2 h3
    refine j_step rfl (x_call [0,1,2] rfl (c_exclusion_CheckDistance) rfl ?_)
    rintro _ _ _ ⟨rfl,rfl,rfl⟩
    simp only [List.cons_append,List.nil_append]
    simp only [decide_true]
    refine wk 10 cz ?_
    intro h4
    refine j_loopG (X:=Nat) [1] [0,1,2,3] (fun k=>[(6,.int .i64 (k : Int)),(5,.int .i64 (cumN N k : Nat))]) (fun _=>_) (fun _=>[]) (fun k=>k ≤ D + 1 ∧ cumN N k ≤ 65536) (fun k=>D + 1 - k) 0 [] rfl rfl rfl ⟨Nat.zero_le _,by rw [cumN];omega⟩ (by repeat (first | exact Fr.sub_nil _ | refine Fr.sub_cons rfl ?_)) rfl rfl ?_
    rintro k ⟨hk,hcm⟩ ih
    simp only [List.cons_append,List.nil_append] at hk hcm ih ⊢
    by_cases hkD : k ≤ D
    ·have hb:=binom_64 (n:=N) (k:=k) h64
     have c_word_Binomial:=S_word_Binomial (n:=N) (k:=k) h64
     have hle:=cumN_le (n:=N) (k:=k + 1) (d:=D - k)
     rw [show k + 1 + (D - k) = D + 1 by omega] at hle
     by_cases h8 : 65536 < cumN N (k + 1)
     ·rw [if_pos (by omega)] at h
      subst h
      rw [cumN] at h8
      generalize cumN N k = s at *
      generalize binom N k = b at *
      clear ih
      refine wk 12 cz ?_
      intro h5
      refine j_step rfl (x_call [] rfl (c_word_Binomial) rfl ?_)
      rintro _ _ _ ⟨rfl,rfl,rfl⟩
      simp only [List.cons_append,List.nil_append]
      refine wk 8 cz ?_
      intro h6
      exact ge
     ·have ih':=ih (k + 1) (by omega) ⟨by omega,by omega⟩
      rw [cumN] at ih' h8
      generalize cumN N k = s at *
      generalize binom N k = b at *
      clear ih
      refine wk 12 cz ?_
      intro h5
      refine j_step rfl (x_call [] rfl (c_word_Binomial) rfl ?_)
      rintro _ _ _ ⟨rfl,rfl,rfl⟩
      simp only [List.cons_append,List.nil_append]
      refine wk 10 cz ?_
      intro h6
      exact tw (ih')
    ·obtain rfl : k = D + 1:=by omega
     clear ih
     rw [if_neg (by omega)] at h
     generalize cumN N (D + 1) = s at *
     by_cases w1 : W < 1
     ·rw [if_pos (.inl w1)] at h
      subst h
      refine wk 19 cz ?_
      intro h5 h6
      exact ge
     by_cases w2 : 16 < W
     ·rw [if_pos (.inr (.inl w2))] at h
      subst h
      refine wk 25 cz ?_
      intro h5 h6 h7
      exact ge
     by_cases w3 : racks.length < 1
     ·rw [if_pos (.inr (.inr (.inl w3)))] at h
      subst h
      refine wk 32 cz ?_
      intro h5 h6 h7 h8
      exact ge
     by_cases w4 : 64 < racks.length
     ·rw [if_pos (.inr (.inr (.inr (.inl w4))))] at h
      subst h
      refine wk 39 cz ?_
      intro h5 h6 h7 h8 h9
      exact ge
     obtain ⟨x,l,rfl⟩ : ∃ x l,racks = x::l:=by
      cases racks with
      | nil=>exact absurd (Nat.lt_succ_self 0) w3
      | cons x l=>exact ⟨x,l,rfl⟩
     have c_slices_Min___int_int_:=fun {pl : Option Addr} {k c : Nat}=>S_slices_Min___int_int_ (pl:=pl) (k:=k) (c:=c) hrr
     by_cases w5 : ∃ y ∈ x::l,y < 1
     ·rw [if_pos (.inr (.inr (.inr (.inr w5))))] at h
      subst h
      have hmin : minL x l < 1:=minL_lt.2 (by
       obtain ⟨y,hy,h⟩:=w5
       rcases List.mem_cons.1 hy with rfl | hy
       ·exact .inl h
       ·exact .inr ⟨y,hy,h⟩)
      refine wk 33 cz ?_
      intro h5 h6 h7 h8 h9
      refine j_gstep rfl rfl (x_call [3] rfl (c_slices_Min___int_int_) rfl ?_)
      rintro _ _ _ ⟨rfl,rfl,rfl⟩
      simp only [List.cons_append,List.nil_append]
      refine wk 6 cz ?_
      intro h10
      exact ge
     ·have hmin : ¬ minL x l < 1:=fun hm=>w5 (by
       rcases minL_lt.1 hm with h | ⟨y,hy,h⟩
       ·exact ⟨x,.head _,h⟩
       ·exact ⟨y,.tail _ hy,h⟩)
      rw [if_neg (by rintro (h | h | h | h | h) <;> first | omega | exact w5 h)] at h
      have hp : ∀ y ∈ x::l,0 ≤ y:=fun y hy=>by have : ¬ y < 1:=fun h=>w5 ⟨y,hy,h⟩;omega
      refine wk 33 cz ?_
      intro h5 h6 h7 h8 h9
      refine j_gstep rfl rfl (x_call [3] rfl (c_slices_Min___int_int_) rfl ?_)
      rintro _ _ _ ⟨rfl,rfl,rfl⟩
      simp only [List.cons_append,List.nil_append]
      refine wk 11 cz ?_
      intro h10
      refine j_loopG (X:=Nat) [1,83,84] [0,1,2,3] (fun i=>[(85,.int .i64 (i : Int)),(9,.int .i64 (sumI ((x::l).take i)))]) (fun _=>_) (fun _=>[]) (fun i=>i ≤ (x::l).length ∧ sumI ((x::l).take i) ≤ 256) (fun i=>(x::l).length - i) 0 [] rfl rfl rfl ⟨Nat.zero_le _,by rw [List.take_zero,sumI];omega⟩ (by repeat (first | exact Fr.sub_nil _ | refine Fr.sub_cons rfl ?_)) rfl rfl ?_
      rintro i ⟨hi,hs⟩ ih
      simp only [List.cons_append,List.nil_append] at hi hs ih ⊢
      have hst:=sumI_take hp i
      by_cases h9 : i < (x::l).length
      ·obtain ⟨y,at_y⟩ : ∃ y,(x::l)[i]? = some y:=⟨_,List.getElem?_eq_getElem h9⟩
       have hy:=hp y (List.mem_of_getElem? at_y)
       have hst2:=sumI_take hp (i + 1)
       by_cases h8 : 256 < sumI ((x::l).take (i + 1))
       ·rw [if_pos (by omega)] at h
        subst h
        rw [sumI_snoc at_y] at h8
        clear ih
        generalize sumI ((x::l).take i) = s2 at *
        refine wk 6 cz ?_
        intro h11 b2 o1 hz1
        refine j_step rfl (x_ld_int 0 rfl rfl ld3 fun ⟨r1,r2⟩=>?_)
        refine wk 8 cz ?_
        intro h12
        exact ge
       ·have ih':=ih (i + 1) (by omega) ⟨by omega,by omega⟩
        rw [sumI_snoc at_y] at ih' h8
        clear ih
        generalize sumI ((x::l).take i) = s2 at *
        refine wk 6 cz ?_
        intro h11 b2 o1 hz1
        refine j_step rfl (x_ld_int 0 rfl rfl ld3 fun ⟨r1,r2⟩=>?_)
        refine wk 10 cz ?_
        intro h12
        exact tw (ih')
      ·obtain rfl : i = (x::l).length:=by omega
       clear ih
       rw [List.take_length] at hs hst ⊢
       rw [if_neg (by omega)] at h
       generalize sumI (x::l) = s2 at *
       by_cases h7 : s2 < N
       ·rw [if_pos h7] at h
        subst h
        refine wk 15 cz ?_
        intro h11 h12
        exact ge
       ·rw [if_neg h7] at h
        subst h
        refine wk 15 cz ?_
        intro h11 h12
        exact ge
   ·rw [if_pos h1] at h
    subst h
    refine wk 6 cz ?_
    intro b1
    refine j_step rfl (x_call [0,1] rfl (c_code_Check) rfl ?_)
    rintro _ _ _ ⟨rfl,rfl,rfl⟩
    simp only [List.cons_append,List.nil_append]
    refine wk 20 cz ?_
    intro h2 h3
    refine j_step rfl (x_call [0,1,2] rfl (c_exclusion_CheckDistance) rfl ?_)
    rintro _ _ _ ⟨rfl,rfl,rfl⟩
    simp only [List.cons_append,List.nil_append]
    simp only [decide_true]
    refine wk 8 cz ?_
    intro h4
    exact ge
 ·rw [if_pos hc] at h
  subst h
  refine wk 6 cz ?_
  intro b1
  refine j_step rfl (x_call [0,1] rfl (c_code_Check) rfl ?_)
  rintro _ _ _ ⟨rfl,rfl,rfl⟩
  simp only [List.cons_append,List.nil_append]
  refine wk 8 cz ?_
  intro h1
  exact ge
theorem S_codewrightref54_CheckConfig (hN : InR .i64 N) (hd : InR .i64 dd) (h : cfE P M md N rows dd sets racks W = e) : Ctr Tryz.prog 11 [.agg #[.int .i64 P,.int .i64 M,.slice pm nm cm,.int .i64 N,.slice ps n c,.int .i64 dd,.slice pt nt ct,.slice pr nr cr,.int .i64 W]] [] [slF I64 pm nm cm md,slF (encSl I64) ps n c rows,slF (encSl I64) pt nt ct sets,slF I64 pr nr cr racks] (Rv (.int .i64 e) []):=by
 refine Ctr_of_j' (F:=F_codewrightref54_CheckConfig) rfl fun C=>?_
 refine j_len 1 rfl fun hn hb _=>?_
 subst hn
 refine j_len 3 rfl fun hn hb2 _=>?_
 subst hn
 have hb2' : racks.length * 8 ≤ 140737488355328:=hb2
 have c_codewrightref12_Check:=fun {pm ps : Option Addr} {nm cm n c : Nat}=>S_codewrightref12_Check (P:=P) (M:=M) (pm:=pm) (ps:=ps) (nm:=nm) (cm:=cm) (n:=n) (c:=c) (md:=md) (rows:=rows) hN rfl
 have hr:=ckE_rng P M md N rows
 rw [cfE] at h
 by_cases hc : ckE P M md N rows = 0
 ·rw [if_neg (fun e=>e hc)] at h
  rw [hc] at c_codewrightref12_Check
  obtain ⟨p,m,N,rfl,rfl,rfl,CC⟩:=ck_of hc
  have h64:=CC.n64
  by_cases h0 : rows.length = 0
  ·rw [if_pos h0] at h
   subst h
   refine wk 6 cz ?_
   intro b1
   refine j_step rfl (x_call [0,1] rfl (c_codewrightref12_Check) rfl ?_)
   rintro _ _ _ ⟨rfl,rfl,rfl⟩
   simp only [List.cons_append,List.nil_append]
   refine wk 16 cz ?_
   intro h1 h2
   exact ge
  ·rw [if_neg h0] at h
   have hcr:=cdE_rng (P:=p) (M:=m) (N:=N) (dd:=dd) (md:=md) (rows:=rows) (sets:=sets)
   have c_codewrightref26_CheckDistance:=fun {pm ps pt : Option Addr} {nm cm n c nt ct : Nat}=>S_codewrightref26_CheckDistance (pm:=pm) (ps:=ps) (pt:=pt) (nm:=nm) (cm:=cm) (n:=n) (c:=c) (nt:=nt) (ct:=ct) (sets:=sets) (e:=cdE p m md N rows dd sets) hN hd rfl
   by_cases h1 : cdE p m md N rows dd sets = 0
   ·rw [if_neg (fun e=>e h1),Int.toNat_natCast] at h
    rw [h1] at c_codewrightref26_CheckDistance
    obtain ⟨d1,d2⟩:=cd_ok CC h1
    obtain ⟨D,hD⟩:=Int.eq_ofNat_of_zero_le (show 0 ≤ (dd - 1) / 2 by omega)
    rw [hD,Int.toNat_natCast] at h
    have hDN : D ≤ N:=by omega
    have c_codewrightref54_sets:=S_codewrightref54_sets (n:=N) (t:=D) h64 hDN
    rw [← hD,setN_cum] at c_codewrightref54_sets
    generalize cumN N (D + 1) = s at *
    by_cases h8 : 65536 < s
    ·rw [if_pos h8] at h
     subst h
     refine wk 6 cz ?_
     intro b1
     refine j_step rfl (x_call [0,1] rfl (c_codewrightref12_Check) rfl ?_)
     rintro _ _ _ ⟨rfl,rfl,rfl⟩
     simp only [List.cons_append,List.nil_append]
     refine wk 20 cz ?_
     intro h2 h3
     refine j_step rfl (x_call [0,1,2] rfl (c_codewrightref26_CheckDistance) rfl ?_)
     rintro _ _ _ ⟨rfl,rfl,rfl⟩
     simp only [List.cons_append,List.nil_append]
     simp only [decide_true]
     refine wk 12 cz ?_
     intro h4
     refine j_step rfl (x_call [] rfl (c_codewrightref54_sets) rfl ?_)
     rintro _ _ _ ⟨rfl,rfl,rfl⟩
     simp only [List.cons_append,List.nil_append]
     simp only [decide_true]
     refine wk 6 cz ?_
     intro h5
     exact ge
    ·rw [if_neg h8] at h
     by_cases w1 : W < 1
     ·rw [if_pos (.inl w1)] at h
      subst h
      refine wk 6 cz ?_
      intro b1
      refine j_step rfl (x_call [0,1] rfl (c_codewrightref12_Check) rfl ?_)
      rintro _ _ _ ⟨rfl,rfl,rfl⟩
      simp only [List.cons_append,List.nil_append]
      refine wk 20 cz ?_
      intro h2 h3
      refine j_step rfl (x_call [0,1,2] rfl (c_codewrightref26_CheckDistance) rfl ?_)
      rintro _ _ _ ⟨rfl,rfl,rfl⟩
      simp only [List.cons_append,List.nil_append]
      simp only [decide_true]
      refine wk 12 cz ?_
      intro h4
      refine j_step rfl (x_call [] rfl (c_codewrightref54_sets) rfl ?_)
      rintro _ _ _ ⟨rfl,rfl,rfl⟩
      simp only [List.cons_append,List.nil_append]
      simp only [decide_true]
      refine wk 15 cz ?_
      intro h5 h6
      exact ge
     by_cases w2 : 16 < W
     ·rw [if_pos (.inr (.inl w2))] at h
      subst h
      refine wk 6 cz ?_
      intro b1
      refine j_step rfl (x_call [0,1] rfl (c_codewrightref12_Check) rfl ?_)
      rintro _ _ _ ⟨rfl,rfl,rfl⟩
      simp only [List.cons_append,List.nil_append]
      refine wk 20 cz ?_
      intro h2 h3
      refine j_step rfl (x_call [0,1,2] rfl (c_codewrightref26_CheckDistance) rfl ?_)
      rintro _ _ _ ⟨rfl,rfl,rfl⟩
      simp only [List.cons_append,List.nil_append]
      simp only [decide_true]
      refine wk 12 cz ?_
      intro h4
      refine j_step rfl (x_call [] rfl (c_codewrightref54_sets) rfl ?_)
      rintro _ _ _ ⟨rfl,rfl,rfl⟩
      simp only [List.cons_append,List.nil_append]
      simp only [decide_true]
      refine wk 21 cz ?_
      intro h5 h6 h7
      exact ge
     by_cases w3 : racks.length < 1
     ·rw [if_pos (.inr (.inr (.inl w3)))] at h
      subst h
      refine wk 6 cz ?_
      intro b1
      refine j_step rfl (x_call [0,1] rfl (c_codewrightref12_Check) rfl ?_)
      rintro _ _ _ ⟨rfl,rfl,rfl⟩
      simp only [List.cons_append,List.nil_append]
      refine wk 20 cz ?_
      intro h2 h3
      refine j_step rfl (x_call [0,1,2] rfl (c_codewrightref26_CheckDistance) rfl ?_)
      rintro _ _ _ ⟨rfl,rfl,rfl⟩
      simp only [List.cons_append,List.nil_append]
      simp only [decide_true]
      refine wk 12 cz ?_
      intro h4
      refine j_step rfl (x_call [] rfl (c_codewrightref54_sets) rfl ?_)
      rintro _ _ _ ⟨rfl,rfl,rfl⟩
      simp only [List.cons_append,List.nil_append]
      simp only [decide_true]
      refine wk 28 cz ?_
      intro h5 h6 h7 h9
      exact ge
     by_cases w4 : 64 < racks.length
     ·rw [if_pos (.inr (.inr (.inr (.inl w4))))] at h
      subst h
      refine wk 6 cz ?_
      intro b1
      refine j_step rfl (x_call [0,1] rfl (c_codewrightref12_Check) rfl ?_)
      rintro _ _ _ ⟨rfl,rfl,rfl⟩
      simp only [List.cons_append,List.nil_append]
      refine wk 20 cz ?_
      intro h2 h3
      refine j_step rfl (x_call [0,1,2] rfl (c_codewrightref26_CheckDistance) rfl ?_)
      rintro _ _ _ ⟨rfl,rfl,rfl⟩
      simp only [List.cons_append,List.nil_append]
      simp only [decide_true]
      refine wk 12 cz ?_
      intro h4
      refine j_step rfl (x_call [] rfl (c_codewrightref54_sets) rfl ?_)
      rintro _ _ _ ⟨rfl,rfl,rfl⟩
      simp only [List.cons_append,List.nil_append]
      simp only [decide_true]
      refine wk 31 cz ?_
      intro h5 h6 h7 h9 h10
      exact ge
     refine wk 6 cz ?_
     intro b1
     refine j_step rfl (x_call [0,1] rfl (c_codewrightref12_Check) rfl ?_)
     rintro _ _ _ ⟨rfl,rfl,rfl⟩
     simp only [List.cons_append,List.nil_append]
     refine wk 20 cz ?_
     intro h2 h3
     refine j_step rfl (x_call [0,1,2] rfl (c_codewrightref26_CheckDistance) rfl ?_)
     rintro _ _ _ ⟨rfl,rfl,rfl⟩
     simp only [List.cons_append,List.nil_append]
     simp only [decide_true]
     refine wk 12 cz ?_
     intro h4
     refine j_step rfl (x_call [] rfl (c_codewrightref54_sets) rfl ?_)
     rintro _ _ _ ⟨rfl,rfl,rfl⟩
     simp only [List.cons_append,List.nil_append]
     simp only [decide_true]
     refine wk 31 cz ?_
     intro h5 h6 h7 h9 h10
     refine j_loopG (X:=Nat) [1] [0,1,2,3] (fun i=>[(4,.int .i64 (i : Int))]) (fun _=>_) (fun _=>[]) (fun i=>i ≤ racks.length ∧ ∀ x ∈ racks.take i,¬ x < 1) (fun i=>racks.length - i) 0 [] rfl rfl rfl ⟨Nat.zero_le _,fun x h=>absurd h List.not_mem_nil⟩ (by repeat (first | exact Fr.sub_nil _ | refine Fr.sub_cons rfl ?_)) rfl rfl ?_
     rintro i ⟨hi,hs⟩ ih
     simp only [List.cons_append,List.nil_append] at hi ih ⊢
     by_cases h9 : i < racks.length
     ·obtain ⟨y,at_y⟩ : ∃ y,racks[i]? = some y:=⟨_,List.getElem?_eq_getElem h9⟩
      by_cases hy : y < 1
      ·rw [if_pos (.inr (.inr (.inr (.inr ⟨y,List.mem_of_getElem? at_y,hy⟩))))] at h
       subst h
       clear ih
       refine wk 13 cz ?_
       intro h11 b2 o1 hz1
       refine j_step rfl (x_ld_int 0 rfl rfl ld3 fun ⟨r1,r2⟩=>?_)
       refine wk 6 cz ?_
       intro h12
       exact ge
      ·refine wk 13 cz ?_
       intro h11 b2 o1 hz1
       refine j_step rfl (x_ld_int 0 rfl rfl ld3 fun ⟨r1,r2⟩=>?_)
       refine wk 6 cz ?_
       intro h12
       exact tw (ih (i + 1) (by omega) ⟨by omega,tk_all at_y hs hy⟩)
     ·obtain rfl : i = racks.length:=by omega
      rw [List.take_length] at hs
      rw [if_neg (by rintro (h | h | h | h | ⟨y,hy,h⟩) <;> first | omega | exact hs y hy h)] at h
      clear ih
      have hp : ∀ y ∈ racks,0 ≤ y:=fun y hy=>by have:=hs y hy;omega
      refine wk 13 cz ?_
      intro h11
      refine j_loopG (X:=Nat) [1] [0,1,2,3] (fun i=>[(6,.int .i64 (i : Int)),(5,.int .i64 (256 - sumI (racks.take i)))]) (fun _=>_) (fun _=>[]) (fun i=>i ≤ racks.length ∧ sumI (racks.take i) ≤ 256) (fun i=>racks.length - i) 0 [] rfl rfl rfl ⟨Nat.zero_le _,by rw [List.take_zero,sumI];omega⟩ (by repeat (first | exact Fr.sub_nil _ | refine Fr.sub_cons rfl ?_)) rfl rfl ?_
      rintro i ⟨hi,hs⟩ ih
      simp only [List.cons_append,List.nil_append] at hi hs ih ⊢
      have hst:=sumI_take hp i
      by_cases h9 : i < racks.length
      ·obtain ⟨y,at_y⟩ : ∃ y,racks[i]? = some y:=⟨_,List.getElem?_eq_getElem h9⟩
       have hy:=hp y (List.mem_of_getElem? at_y)
       have hst2:=sumI_take hp (i + 1)
       by_cases h8 : 256 < sumI (racks.take (i + 1))
       ·rw [if_pos (by omega)] at h
        subst h
        rw [sumI_snoc at_y] at h8
        clear ih
        generalize sumI (racks.take i) = s2 at *
        refine wk 13 cz ?_
        intro h12 b2 o1 hz1
        refine j_step rfl (x_ld_int 0 rfl rfl ld3 fun ⟨r1,r2⟩=>?_)
        refine wk 6 cz ?_
        intro h13
        exact ge
       ·have ih':=ih (i + 1) (by omega) ⟨by omega,by omega⟩
        rw [sumI_snoc at_y] at ih' h8
        rw [show (256 - (sumI (racks.take i) + y) : Int) = 256 - sumI (racks.take i) - y by omega] at ih'
        clear ih
        generalize sumI (racks.take i) = s2 at *
        refine wk 13 cz ?_
        intro h12 b2 o1 hz1
        refine j_step rfl (x_ld_int 0 rfl rfl ld3 fun ⟨r1,r2⟩=>?_)
        refine wk 9 cz ?_
        intro h13 b3 o2 hz2
        refine j_step rfl (x_ld_int 0 rfl rfl ld3 fun ⟨r3,r4⟩=>?_)
        refine wk 4 cz ?_
        exact tw (ih')
      ·obtain rfl : i = racks.length:=by omega
       clear ih
       rw [List.take_length] at hs hst ⊢
       rw [if_neg (by omega)] at h
       have c_codewrightref54_Hosts:=fun {P M N dd W : Int} {n c nm cm nt ct nr cr : Nat} {pm ps pt pr : Option Addr}=>S_codewrightref54_Hosts (P:=P) (M:=M) (N:=N) (dd:=dd) (W:=W) (n:=n) (c:=c) (nm:=nm) (cm:=cm) (nt:=nt) (ct:=ct) (nr:=nr) (cr:=cr) (pm:=pm) (ps:=ps) (pt:=pt) (pr:=pr) hp (by omega)
       generalize sumI racks = s2 at *
       by_cases h7 : s2 < N
       ·rw [if_pos h7] at h
        subst h
        refine wk 9 cz ?_
        intro h12
        (apply j_drawK it mx 6;(· rfl);(· rfl))
        (apply lxk_eq;(· rfl);(· exact d_bld_all 0 rfl rfl ld31 rfl))
        (apply lxk_eq;(· rfl);(· exact d_x fun _=>x_call [3] rfl (c_codewrightref54_Hosts) rfl (by rintro _ _ _ ⟨rfl,rfl,rfl⟩;exact dk_eq)))
        (apply lxk_eq;(· rfl);(· exact d_x fun _=>x_field rfl fd31_0 dk_eq))
        (apply lxk_eq;(· rfl);(· exact d_x fun _=>x_field rfl fd27_1 dk_eq))
        (apply lxk_eq;(· rfl);(· exact d_bld 0 rfl rfl ld3 rfl))
        (apply lxk_run 1;(· rfl);(· simp))
        refine lxk_end rfl ?_
        simp only [List.map_cons,List.map_nil,List.cons_append,List.nil_append]
        refine wk 5 cz ?_
        intro h13
        exact ge
       ·rw [if_neg h7] at h
        subst h
        refine wk 9 cz ?_
        intro h12
        (apply j_drawK it mx 6;(· rfl);(· rfl))
        (apply lxk_eq;(· rfl);(· exact d_bld_all 0 rfl rfl ld31 rfl))
        (apply lxk_eq;(· rfl);(· exact d_x fun _=>x_call [3] rfl (c_codewrightref54_Hosts) rfl (by rintro _ _ _ ⟨rfl,rfl,rfl⟩;exact dk_eq)))
        (apply lxk_eq;(· rfl);(· exact d_x fun _=>x_field rfl fd31_0 dk_eq))
        (apply lxk_eq;(· rfl);(· exact d_x fun _=>x_field rfl fd27_1 dk_eq))
        (apply lxk_eq;(· rfl);(· exact d_bld 0 rfl rfl ld3 rfl))
        (apply lxk_run 1;(· rfl);(· simp))
        refine lxk_end rfl ?_
        simp only [List.map_cons,List.map_nil,List.cons_append,List.nil_append]
        refine wk 5 cz ?_
        intro h13
        exact ge
   ·rw [if_pos h1] at h
    subst h
    refine wk 6 cz ?_
    intro b1
    refine j_step rfl (x_call [0,1] rfl (c_codewrightref12_Check) rfl ?_)
    rintro _ _ _ ⟨rfl,rfl,rfl⟩
    simp only [List.cons_append,List.nil_append]
    refine wk 20 cz ?_
    intro h2 h3
    refine j_step rfl (x_call [0,1,2] rfl (c_codewrightref26_CheckDistance) rfl ?_)
    rintro _ _ _ ⟨rfl,rfl,rfl⟩
    simp only [List.cons_append,List.nil_append]
    simp only [decide_true]
    refine wk 8 cz ?_
    intro h4
    exact ge
 ·rw [if_pos hc] at h
  subst h
  refine wk 6 cz ?_
  intro b1
  refine j_step rfl (x_call [0,1] rfl (c_codewrightref12_Check) rfl ?_)
  rintro _ _ _ ⟨rfl,rfl,rfl⟩
  simp only [List.cons_append,List.nil_append]
  refine wk 8 cz ?_
  intro h1
  exact ge
end
open Go Go.Fw
set_option maxRecDepth 100000
set_option linter.unusedVariables false
set_option linter.unusedSimpArgs false
set_option maxHeartbeats 0
theorem S_codewrightlaw54_alive : Ctr Tryz.prog 9 [] [] [] (Rv (.bool true) []):=by
 refine Ctr_of_j' (F:=F_codewrightlaw54_alive) rfl fun C=>?_
 refine j_add (slF I64 none 0 0 []) (fun w A _=>slF_nil _ w A none 0) ?_
 refine j_add (slF (encSl I64) none 0 0 []) (fun w A _=>slF_nil _ w A none 0) ?_
 have h0 : cfE 0 0 [] 0 [] 0 [] [] 0 = 1:=by
  have hc : ckE 0 0 [] 0 [] = 1:=by
   rw [ckE,if_pos]
   intro h
   obtain ⟨p,m,hp,hm,K⟩:=chk_ok h
   have:=K.p2
   omega
  rw [cfE,hc,if_pos (by omega)]
 have c_store_CheckConfig:=fun {n c nm cm nt ct nr cr : Nat} {pm ps pt pr : Option Addr}=>S_store_CheckConfig (n:=n) (c:=c) (nm:=nm) (cm:=cm) (nt:=nt) (ct:=ct) (nr:=nr) (cr:=cr) (pm:=pm) (ps:=ps) (pt:=pt) (pr:=pr) (by simp only [InR];omega) (by simp only [InR];omega) h0
 refine wk 7 (ct @c_store_CheckConfig cz) ?_
 exact ge
section
variable {P M N dd W : Int} {n c nm cm nt ct nr cr : Nat} {pm ps pt pr : Option Addr} {md racks : List Int} {rows sets : List (List Int)}
theorem S_codewrightlaw54_fit {res : Bool} (hr : (decide ((sets.length : Int) ≤ 300) && decide (N ≤ 8)) = res) : Ctr Tryz.prog 12 [.agg #[.int .i64 P,.int .i64 M,.slice pm nm cm,.int .i64 N,.slice ps n c,.int .i64 dd,.slice pt nt ct,.slice pr nr cr,.int .i64 W]] [] [slF (encSl I64) pt nt ct sets] (Rv (.bool res) []):=by
 refine Ctr_of_j' (F:=F_codewrightlaw54_fit) rfl fun C=>?_
 refine j_len 0 rfl fun hn hb _=>?_
 subst hn
 by_cases h1 : (sets.length : Int) ≤ 300
 ·rw [decide_eq_true h1,Bool.true_and] at hr
  subst hr
  refine wk 16 cz ?_
  intro b1 h2
  exact ge
 ·rw [decide_eq_false h1,Bool.false_and] at hr
  subst hr
  refine wk 13 cz ?_
  intro b1 h2
  exact ge
theorem cfE_rng : 0 ≤ cfE P M md N rows dd sets racks W ∧ cfE P M md N rows dd sets racks W ≤ 13:=by
 have h1:=ckE_rng P M md N rows
 have h2:=cdE_rng (P:=P) (M:=M) (N:=N) (dd:=dd) (md:=md) (rows:=rows) (sets:=sets)
 rw [cfE]
 (repeat' split) <;> omega
end
open Go Go.Fw
set_option maxRecDepth 100000
set_option linter.unusedVariables false
set_option linter.unusedSimpArgs false
set_option maxHeartbeats 0
def levL (k : Int) : Int → Int → List Int → List (Int × Int)
 | _,_,[]=>[]
 | f,r,n::l=>(if k < n then [(f + k,r)] else [])++levL k (f + n) (r + 1) l
def ringK (racks : List Int) : Nat → List (Int × Int)
 | 0=>[]
 | K + 1=>ringK racks K++levL K 0 0 racks
theorem levL_mem {k : Int} {z : Int × Int} : ∀ {f r : Int} {l : List Int},z ∈ levL k f r l → ∃ (j : Nat) (n : Int),l[j]? = some n ∧ k < n ∧ z.1 = f + sumI (l.take j) + k ∧ z.2 = r + j
 | _,_,[],h=>by cases h
 | f,r,n::l,h=>by
  rw [levL] at h
  rcases List.mem_append.1 h with h | h
  ·split at h
   ·rename_i hk
    rw [List.mem_singleton.1 h]
    exact ⟨0,n,rfl,hk,by rw [List.take_zero,sumI];omega,by omega⟩
   ·cases h
  ·obtain ⟨j,m,h1,h2,h3,h4⟩:=levL_mem h
   refine ⟨j + 1,m,by rw [List.getElem?_cons_succ];exact h1,h2,?_,?_⟩
   ·rw [List.take_succ_cons,sumI,h3];omega
   ·rw [h4];omega
theorem sumI_mono {l : List Int} (h : ∀ x ∈ l,0 ≤ x) {i j : Nat} (hij : i ≤ j) : sumI (l.take i) ≤ sumI (l.take j):=by
 have:=(sumI_take (l:=l.take j) (fun x hx=>h x (List.mem_of_mem_take hx)) i).2
 rwa [List.take_take,Nat.min_eq_left hij] at this
theorem node_one {l : List Int} (h0 : ∀ x ∈ l,0 ≤ x) {i j : Nat} {n m k k' : Int} (hi : l[i]? = some n) (hj : l[j]? = some m) (h1 : 0 ≤ k) (h2 : k < n) (h3 : 0 ≤ k') (h4 : k' < m) (he : sumI (l.take i) + k = sumI (l.take j) + k') : i = j ∧ k = k':=by
 rcases Nat.lt_trichotomy i j with h | h | h
 ·have:=sumI_mono h0 (show i + 1 ≤ j by omega)
  rw [sumI_snoc hi] at this;omega
 ·subst h;exact ⟨rfl,by omega⟩
 ·have:=sumI_mono h0 (show j + 1 ≤ i by omega)
  rw [sumI_snoc hj] at this;omega
theorem levL_sorted {k : Int} (hk : 0 ≤ k) : ∀ {f r : Int} {l : List Int},(∀ x ∈ l,0 ≤ x) → (levL k f r l).Pairwise fun a b=>a.1 < b.1
 | _,_,[],_=>.nil
 | f,r,n::l,h=>by
  have hl : ∀ x ∈ l,0 ≤ x:=fun x hx=>h x (.tail _ hx)
  rw [levL,List.pairwise_append]
  refine ⟨by split <;> simp,levL_sorted hk hl,fun a ha b hb=>?_⟩
  split at ha
  ·rename_i hkn
   rw [List.mem_singleton.1 ha]
   obtain ⟨j,m,h1,h2,h3,h4⟩:=levL_mem hb
   have:=(sumI_take hl j).1
   rw [h3];show f + k < _;omega
  ·cases ha
theorem ring_mem {racks : List Int} {z : Int × Int} : ∀ {K : Nat},z ∈ ringK racks K → ∃ (k j : Nat) (n : Int),k < K ∧ racks[j]? = some n ∧ (k : Int) < n ∧ z.1 = sumI (racks.take j) + k ∧ z.2 = j
 | 0,h=>by cases h
 | K + 1,h=>by
  rw [ringK] at h
  rcases List.mem_append.1 h with h | h
  ·obtain ⟨k,j,n,h1,h2,h3,h4,h5⟩:=ring_mem h
   exact ⟨k,j,n,by omega,h2,h3,h4,h5⟩
  ·obtain ⟨j,n,h1,h2,h3,h4⟩:=levL_mem h
   exact ⟨K,j,n,by omega,h1,h2,by rw [h3];omega,by rw [h4];omega⟩
theorem ring_nodup {racks : List Int} (h0 : ∀ x ∈ racks,0 ≤ x) : ∀ {K : Nat},((ringK racks K).map Prod.fst).Nodup
 | 0=>List.nodup_nil
 | K + 1=>by
  rw [ringK,List.map_append,List.nodup_append]
  refine ⟨ring_nodup h0,?_,?_⟩
  ·rw [List.Nodup,List.pairwise_map]
   exact (levL_sorted (by omega) h0).imp fun {a b} h e=>by omega
  ·intro a ha b hb e
   subst e
   obtain ⟨u,hu,rfl⟩:=List.mem_map.1 ha
   obtain ⟨v,hv,he⟩:=List.mem_map.1 hb
   obtain ⟨k,j,n,h1,h2,h3,h4,h5⟩:=ring_mem hu
   obtain ⟨i,m,g1,g2,g3,g4⟩:=levL_mem hv
   have:=node_one h0 h2 g1 (by omega) h3 (by omega) g2 (by omega)
   omega
theorem levL_len {k : Nat} : ∀ {f r : Int} {l : List Int},((levL k f r l).length : Int) = sumI (l.map fun n=>min n ((k + 1 : Nat) : Int)) - sumI (l.map fun n=>min n (k : Int))
 | _,_,[]=>rfl
 | f,r,n::l=>by
  have ih:=levL_len (k:=k) (f:=f + n) (r:=r + 1) (l:=l)
  rw [levL,List.length_append,List.map_cons,List.map_cons,sumI,sumI]
  split
  ·rw [List.length_singleton];omega
  ·rw [List.length_nil];omega
theorem sumI_min0 : ∀ {l : List Int},(∀ x ∈ l,0 ≤ x) → sumI (l.map fun n=>min n ((0 : Nat) : Int)) = 0
 | [],_=>rfl
 | n::l,h=>by
  rw [List.map_cons,sumI,sumI_min0 fun x hx=>h x (.tail _ hx)]
  have:=h n (.head _);omega
theorem ring_len {racks : List Int} (h0 : ∀ x ∈ racks,0 ≤ x) : ∀ {K : Nat},((ringK racks K).length : Int) = sumI (racks.map fun n=>min n (K : Int))
 | 0=>(sumI_min0 h0).symm
 | K + 1=>by
  rw [ringK,List.length_append]
  have:=ring_len h0 (K:=K)
  have h2:=levL_len (k:=K) (f:=0) (r:=0) (l:=racks)
  omega
theorem sumI_mineq {K : Int} : ∀ {l : List Int},(∀ x ∈ l,x ≤ K) → sumI (l.map fun n=>min n K) = sumI l
 | [],_=>rfl
 | n::l,h=>by
  have h1:=sumI_mineq (K:=K) (l:=l) fun x hx=>h x (.tail _ hx)
  have:=h n (.head _)
  rw [List.map_cons,sumI,sumI];omega
def ringL (racks : List Int) : List (Int × Int):=ringK racks (maxL 0 racks).toNat
theorem maxL_le {m : Int} {l : List Int} : m ≤ maxL m l ∧ ∀ x ∈ l,x ≤ maxL m l:=by
 refine ⟨?_,fun x hx=>?_⟩
 ·by_cases h : maxL m l < m
  ·have:=(maxL_gt (c:=maxL m l) (m:=m) (l:=l)).2 (.inl h);omega
  ·omega
 ·by_cases h : maxL m l < x
  ·have:=(maxL_gt (c:=maxL m l) (m:=m) (l:=l)).2 (.inr ⟨x,hx,h⟩);omega
  ·omega
theorem ring_full {racks : List Int} (h0 : ∀ x ∈ racks,0 ≤ x) : ((ringL racks).length : Int) = sumI racks:=by
 have h1:=maxL_le (m:=0) (l:=racks)
 rw [ringL,ring_len h0]
 exact sumI_mineq fun x hx=>by have:=h1.2 x hx;omega
abbrev plI (t s b : Nat) : Nat:=(s % t + b) % t
theorem pl_inj {t s b c : Nat} (hb : b < t) (hc : c < t) (h : plI t s b = plI t s c) : b = c:=by
 have hs : s % t < t:=Nat.mod_lt _ (by omega)
 have e : ∀ x,x < t → plI t s x = if s % t + x < t then s % t + x else s % t + x - t:=fun x hx=>by
  show (s % t + x) % t = _
  split
  ·exact Nat.mod_eq_of_lt ‹_›
  ·rw [Nat.mod_eq_sub_mod (by omega)];exact Nat.mod_eq_of_lt (by omega)
 rw [e b hb,e c hc] at h
 split at h <;> split at h <;> omega
section
variable {P M N dd W : Int} {n c nm cm nt ct nr cr : Nat} {pm ps pt pr : Option Addr} {md racks : List Int} {rows sets : List (List Int)}
end
open Go Go.Fw
set_option maxRecDepth 100000
set_option linter.unusedVariables false
set_option linter.unusedSimpArgs false
set_option maxHeartbeats 0
section
variable {P M N dd W : Int} {n c nm cm nt ct nr cr : Nat} {pm ps pt pr : Option Addr} {md racks : List Int} {rows sets : List (List Int)}
end
structure CfOk (p m : Nat) (md : List Int) (N : Nat) (rows : List (List Int)) (dd : Int) (sets : List (List Int)) (racks : List Int) (W : Int) : Prop where
 CC : Cok p m md N rows
 k1 : 1 ≤ rows.length
 cd : cdE p m md N rows dd sets = 0
 cum : cumN N (((dd - 1) / 2).toNat + 1) ≤ 65536
 w1 : 1 ≤ W
 w2 : W ≤ 16
 r1 : 1 ≤ racks.length
 r2 : racks.length ≤ 64
 rp : ∀ x ∈ racks,1 ≤ x
 r3 : sumI racks ≤ 256
 r4 : (N : Int) ≤ sumI racks
theorem cf_ok {P M N dd W : Int} {md racks : List Int} {rows sets : List (List Int)} (h : cfE P M md N rows dd sets racks W = 0) : ∃ p m n : Nat,P = p ∧ M = m ∧ N = n ∧ CfOk p m md n rows dd sets racks W:=by
 rw [cfE] at h
 by_cases hc : ckE P M md N rows = 0
 ·rw [if_neg (fun e=>e hc)] at h
  obtain ⟨p,m,n,rfl,rfl,rfl,CC⟩:=ck_of hc
  refine ⟨p,m,n,rfl,rfl,rfl,?_⟩
  by_cases h0 : rows.length = 0
  ·rw [if_pos h0] at h;cases h
  rw [if_neg h0] at h
  by_cases h1 : cdE p m md n rows dd sets = 0
  ·rw [if_neg (fun e=>e h1),Int.toNat_natCast] at h
   by_cases h2 : 65536 < cumN n (((dd - 1) / 2).toNat + 1)
   ·rw [if_pos h2] at h;cases h
   rw [if_neg h2] at h
   by_cases h3 : W < 1 ∨ 16 < W ∨ racks.length < 1 ∨ 64 < racks.length ∨ ∃ x ∈ racks,x < 1
   ·rw [if_pos h3] at h;cases h
   rw [if_neg h3] at h
   by_cases h4 : 256 < sumI racks
   ·rw [if_pos h4] at h;cases h
   rw [if_neg h4] at h
   by_cases h5 : sumI racks < n
   ·rw [if_pos h5] at h;cases h
   refine ⟨CC,by omega,h1,by omega,?_,?_,?_,?_,fun x hx=>?_,by omega,by omega⟩
   ·by_cases h6 : W < 1
    ·exact absurd (.inl h6) h3
    ·omega
   ·by_cases h6 : 16 < W
    ·exact absurd (.inr (.inl h6)) h3
    ·omega
   ·by_cases h6 : racks.length < 1
    ·exact absurd (.inr (.inr (.inl h6))) h3
    ·omega
   ·by_cases h6 : 64 < racks.length
    ·exact absurd (.inr (.inr (.inr (.inl h6)))) h3
    ·omega
   ·by_cases h6 : x < 1
    ·exact absurd (.inr (.inr (.inr (.inr ⟨x,hx,h6⟩)))) h3
    ·omega
  ·rw [if_pos h1] at h;exact absurd h h1
 ·rw [if_pos hc] at h;exact absurd h hc
theorem CfOk.r0 {p m n : Nat} {dd W : Int} {md racks : List Int} {rows sets : List (List Int)} (h : CfOk p m md n rows dd sets racks W) : ∀ x ∈ racks,0 ≤ x:=fun x hx=>by have:=h.rp x hx;omega
def nodeV (racks : List Int) (s b : Nat) : Int × Int:=(ringL racks).getD (plI (ringL racks).length s b) default
theorem CfOk.at {p m n : Nat} {dd W : Int} {md racks : List Int} {rows sets : List (List Int)} (h : CfOk p m md n rows dd sets racks W) (s b : Nat) : (ringL racks)[plI (ringL racks).length s b]? = some (nodeV racks s b):=by
 have h1:=ring_full h.r0
 have h2:=h.r4
 have h3:=h.CC.n1
 have h4 : plI (ringL racks).length s b < (ringL racks).length:=Nat.mod_lt _ (by omega)
 rw [nodeV,List.getD_eq_getElem?_getD,List.getElem?_eq_getElem h4];rfl
theorem CfOk.inj {p m n : Nat} {dd W : Int} {md racks : List Int} {rows sets : List (List Int)} (h : CfOk p m md n rows dd sets racks W) {s b c : Nat} (hb : b < n) (hc : c < n) (he : (nodeV racks s b).1 = (nodeV racks s c).1) : b = c:=by
 have h1:=ring_full h.r0
 have h2:=h.r4
 have hn:=ring_nodup h.r0 (K:=(maxL 0 racks).toNat)
 rw [show ringK racks (maxL 0 racks).toNat = ringL racks from rfl] at hn
 have a1:=h.at s b
 have a2:=h.at s c
 have b1 : ((ringL racks).map Prod.fst)[plI (ringL racks).length s b]? = some (nodeV racks s b).1:=by rw [List.getElem?_map,a1];rfl
 have b2 : ((ringL racks).map Prod.fst)[plI (ringL racks).length s c]? = some (nodeV racks s c).1:=by rw [List.getElem?_map,a2];rfl
 rw [he,← b2] at b1
 have l1 : plI (ringL racks).length s b < ((ringL racks).map Prod.fst).length:=by rw [List.length_map];exact Nat.mod_lt _ (by omega)
 exact pl_inj (t:=(ringL racks).length) (s:=s) (by omega) (by omega) ((List.getElem?_inj l1 hn).1 b1)
section
variable {P M N dd W s b x e : Int} {n c nm cm nt ct nr cr : Nat} {pm ps pt pr : Option Addr} {md racks : List Int} {rows sets : List (List Int)}
end
open Go Go.Fw
set_option maxRecDepth 100000
set_option linter.unusedVariables false
set_option linter.unusedSimpArgs false
set_option maxHeartbeats 0
theorem S_codewrightref11_Compare {pl pk : Option Addr} {nl cl nk ck : Nat} {l k : List Int} :
  Ctr Tryz.prog 53 [.slice pl nl cl,.slice pk nk ck] [] [slF I64 pl nl cl l,slF I64 pk nk ck k] (fun v Φ β=>∃ e : Int,v = .int .i64 e ∧ Φ = [] ∧ β = [] ∧ (e = 0 ↔ l = k)):=by
 refine Ctr_of_j' (F:=F_codewrightref11_Compare) rfl fun C=>?_
 refine j_len 0 rfl fun hn hb _=>?_
 refine j_len 1 rfl fun hn2 hb2 _=>?_
 subst hn
 subst hn2
 have hb' : l.length * 8 ≤ 140737488355328:=hb
 have hb2' : k.length * 8 ≤ 140737488355328:=hb2
 refine wk 5 cz ?_
 refine j_loopG (X:=Nat) [0,1] [0,1] (fun i=>[(5,.int .i64 (i : Int))]) (fun _=>[]) (fun _=>[]) (fun i=>i ≤ l.length ∧ i ≤ k.length ∧ ∀ j,j < i → l[j]? = k[j]?) (fun i=>l.length - i) 0 [] rfl rfl rfl ⟨Nat.zero_le _,Nat.zero_le _,fun j h=>by omega⟩ (by repeat (first | exact Fr.sub_nil _ | refine Fr.sub_cons rfl ?_)) rfl rfl ?_
 rintro i ⟨hi,hi2,hno⟩ ih
 simp only [List.cons_append,List.nil_append] at hi hi2 ih ⊢
 by_cases h9 : i < l.length
 ·by_cases h8 : i < k.length
  ·obtain ⟨y,hy⟩ : ∃ y,l[i]? = some y:=⟨_,List.getElem?_eq_getElem h9⟩
   obtain ⟨z,hz⟩ : ∃ z,k[i]? = some z:=⟨_,List.getElem?_eq_getElem h8⟩
   have ey:=gd_at hy
   have ez:=gd_at hz
   have hne : y ≠ z → l ≠ k:=fun h e=>by rw [e,hz] at hy;exact h (Option.some.inj hy).symm
   by_cases h7 : y < z
   ·refine wk 18 cz ?_
    intro h1 h2 b1 o1 b2 o2 h3
    refine j_giv [] rfl rfl rfl ⟨_,rfl,rfl,rfl,⟨fun h=>by omega,fun h=>absurd h (hne (by omega))⟩⟩
   ·by_cases h6 : z < y
    ·refine wk 22 cz ?_
     intro h1 h2 b1 o1 b2 o2 h3 b3 o3 b4 o4 h4
     refine j_giv [] rfl rfl rfl ⟨_,rfl,rfl,rfl,⟨fun h=>by omega,fun h=>absurd h (hne (by omega))⟩⟩
    ·obtain rfl : y = z:=by omega
     refine wk 22 cz ?_
     intro h1 h2 b1 o1 b2 o2 h3 b3 o3 b4 o4 h4
     exact tw (ih (i + 1) (by omega) ⟨by omega,by omega,fun j hj=>by
      rcases Nat.lt_succ_iff_lt_or_eq.1 hj with h | rfl
      ·exact hno j h
      ·rw [hy,hz]⟩)
  ·clear ih
   refine wk 30 cz ?_
   intro h1 h2 h3 h4
   refine j_giv [] rfl rfl rfl ⟨_,rfl,rfl,rfl,⟨fun h=>by omega,fun h=>by rw [h] at h9;exact absurd h9 h8⟩⟩
 ·clear ih
  by_cases h8 : i < k.length
  ·refine wk 20 cz ?_
   intro h1 h2
   refine j_giv [] rfl rfl rfl ⟨_,rfl,rfl,rfl,⟨fun h=>by omega,fun h=>by rw [h] at h9;exact absurd h8 h9⟩⟩
  ·refine wk 28 cz ?_
   intro h1 h2 h3
   refine j_giv [] rfl rfl rfl ⟨_,rfl,rfl,rfl,⟨fun _=>List.ext_getElem? fun j=>?_,fun _=>rfl⟩⟩
   by_cases h : j < i
   ·exact hno j h
   ·rw [List.getElem?_eq_none (by omega),List.getElem?_eq_none (by omega)]
theorem S_codewrightref11_CompareS {pl pk : Option Addr} {nl cl nk ck : Nat} {l : List Int} {z : Int} (hz : z = 0) :
  Ctr Tryz.prog 53 [.slice pl nl cl,.slice pk nk ck] [] [slF I64 pl nl cl l,slF I64 pk nk ck l] (Rv (.int .i64 z) []) :=
 (S_codewrightref11_Compare (l:=l) (k:=l)).mono fun C w v Φ β' ⟨e,h1,h2,h3,h4⟩ hO hG=>⟨Φ,β',⟨by rw [h1,h4.2 rfl,hz],h2,h3⟩,hO,hG⟩
theorem S_codewrightref11_SameLists {pl pk : Option Addr} {nl cl nk ck : Nat} {l : List (List Int)} : Ctr Tryz.prog 52 [.slice pl nl cl,.slice pk nk ck] [] [slF (encSl I64) pl nl cl l,slF (encSl I64) pk nk ck l] (Rv (.bool true) []):=by
 refine Ctr_of_j' (F:=F_codewrightref11_SameLists) rfl fun C=>?_
 obtain ⟨z,hz⟩ : ∃ z : Int,z = 0:=⟨0,rfl⟩
 have c_codewrightref11_Compare:=fun {pl pk : Option Addr} {nl cl nk ck : Nat} {l : List Int}=>S_codewrightref11_CompareS (pl:=pl) (pk:=pk) (nl:=nl) (cl:=cl) (nk:=nk) (ck:=ck) (l:=l) hz
 refine j_len 0 rfl fun hn hb _=>?_
 refine j_len 1 rfl fun hn2 hb2 _=>?_
 subst hn
 subst hn2
 have hb' : l.length * 24 ≤ 140737488355328:=hb
 refine wk 13 cz ?_
 intro h1
 refine j_loopG (X:=Nat) [0,1] [0,1] (fun i=>[(5,.int .i64 (i : Int))]) (fun _=>[]) (fun _=>[]) (fun i=>i ≤ l.length) (fun i=>l.length - i) 0 [] rfl rfl rfl (Nat.zero_le _) (by repeat (first | exact Fr.sub_nil _ | refine Fr.sub_cons rfl ?_)) rfl rfl ?_
 rintro i hi ih
 simp only [List.cons_append,List.nil_append] at hi ih ⊢
 by_cases h9 : i < l.length
 ·refine wk 13 (ct @c_codewrightref11_Compare cz) ?_
  intro h2 b1 o1 pa1 ca1 b2 o2 pa2 ca2 h3
  exact tw (ih (i + 1) (by omega) (by omega))
 ·clear ih
  refine wk 9 cz ?_
  intro h2
  exact ge
def auL (rows : List (List Int)) (b : List Int) : List (List Int):=List.zipWith (fun r x=>r++[x]) rows b
theorem auL_len {rows : List (List Int)} {b : List Int} (h : b.length = rows.length) : (auL rows b).length = rows.length:=by rw [auL,List.length_zipWith];omega
theorem auL_at {rows : List (List Int)} {b : List Int} {i : Nat} {r : List Int} {x : Int} (hr : rows[i]? = some r) (hx : b[i]? = some x) : (auL rows b)[i]? = some (r++[x]):=by
 rw [auL,List.getElem?_zipWith,hr,hx]
theorem auL_mat {q n : Nat} {rows : List (List Int)} {b : List Int} (hM : Mat q n rows) (hb : ∀ x ∈ b,0 ≤ x ∧ x < (q : Int)) : Mat q (n + 1) (auL rows b):=fun s hs=>by
 obtain ⟨i,h1,rfl⟩:=List.getElem_of_mem hs
 rw [auL,List.length_zipWith] at h1
 have h2 : i < rows.length:=by omega
 have h3 : i < b.length:=by omega
 obtain ⟨l1,l2⟩:=hM _ (List.getElem_mem h2)
 simp only [auL,List.getElem_zipWith]
 refine ⟨by rw [List.length_append,l1];rfl,fun x hx=>?_⟩
 rcases List.mem_append.1 hx with hx | hx
 ·exact l2 x hx
 ·rw [List.mem_singleton.1 hx];exact hb _ (List.getElem_mem h3)
def slK (n : Nat) (E : List (List Int) × List Nat) (k : Nat) : List Int:=(List.range n).map fun e=>if e ∈ E.2.take k then en E.1 (E.2.idxOf e) n else 0
theorem slK_len {n k : Nat} {E : List (List Int) × List Nat} : (slK n E k).length = n:=by simp [slK]
theorem slK_zero {n : Nat} {E : List (List Int) × List Nat} : slK n E 0 = zW n:=by
 refine List.ext_getElem (by simp [slK,zW]) fun j h1 h2=>?_
 simp only [slK,zW,List.getElem_map,List.getElem_range,List.take_zero,List.getElem_replicate]
 exact if_neg (by simp)
theorem slK_end {n : Nat} {E : List (List Int) × List Nat} : slK n E E.2.length = slX n E:=by rw [slK,List.take_length];rfl
theorem slK_set {n k a : Nat} {E : List (List Int) × List Nat} (h : Ech E.1 n E.2) (hk : E.2[k]? = some a) : (slK n E k).set a (en E.1 k n) = slK n E (k + 1):=by
 refine List.ext_getElem (by simp [slK]) fun j h1 h2=>?_
 rw [List.getElem_set]
 simp only [slK,List.getElem_map,List.getElem_range]
 by_cases e : a = j
 ·subst e
  rw [if_pos rfl,if_pos (List.mem_of_getElem? (i:=k) (by rw [List.getElem?_take,if_pos (by omega),hk])),ech_idx h hk]
 ·rw [if_neg e,List.take_add_one,hk]
  by_cases hm : j ∈ E.2.take k
  ·rw [if_pos hm,if_pos (List.mem_append_left _ hm)]
  ·rw [if_neg hm,if_neg]
   intro hm2
   rcases List.mem_append.1 hm2 with h3 | h3
   ·exact hm h3
   ·rw [Option.toList_some,List.mem_singleton] at h3;exact e h3.symm
abbrev SoQ (N : Nat) (E : List (List Int) × List Nat) : Value → List Fact → List Blk → Prop:=fun v Φ β=>∃ (pb : Option Addr) (cb : Nat),v = .tuple #[.slice pb (if slB N E then slX N E else []).length cb,.int .i64 (if slB N E then 0 else 11)] ∧ Φ = [slF I64 pb (if slB N E then slX N E else []).length cb (if slB N E then slX N E else [])] ∧ β = []
theorem S_matrix_Solve {p m n c nm cm N nb cb : Nat} {pm ps pb : Option Addr} {md b : List Int} {rows : List (List Int)} (K : Fok p m md) (hN : N ≤ 256) (hl : rows.length ≤ 256) (hM : Mat (p ^ m) N rows) (hb : Wd (p ^ m) rows.length b) :
  Ctr Tryz.prog 120 [.agg #[.int .i64 p,.int .i64 m,.slice pm nm cm],.agg #[.int .i64 N,.slice ps n c],.slice pb nb cb] [] [slF I64 pm nm cm md,slF (encSl I64) ps n c rows,slF I64 pb nb cb b]
   (SoQ N (elP p m md N 0 0 (auL rows b))):=by
 refine Ctr_of_j' (F:=F_matrix_Solve) rfl fun C=>?_
 have O:=fok_fo K
 have hq:=K.q
 refine j_len 1 rfl fun hn hbs _=>?_
 subst hn
 refine j_len 2 rfl fun hn hbb _=>?_
 have hbl:=hb.1
 rw [hbl] at hn
 subst hn
 have hbs' : rows.length * 24 ≤ 140737488355328:=hbs
 have c_matrix_open:=fun {pm ps : Option Addr} {nm cm n c : Nat}=>S_matrix_open_ok (pm:=pm) (nm:=nm) (cm:=cm) (ps:=ps) (n:=n) (c:=c) (Ms:=[((N : Int),rows)]) K (fun z hz=>by rw [List.mem_singleton.1 hz];simp only [InR];omega) (op_one (mtE_ok hN hl hM))
 have c_matrix_entries:=fun {b0 ng cg ne ce nl cl n c : Nat} {pg pe pl ps : Option Addr}=>S_matrix_entries (b:=b0) (p:=p) (m:=m) (q:=p ^ m) (ng:=ng) (cg:=cg) (ne:=ne) (ce:=ce) (nl:=nl) (cl:=cl) (n:=n) (c:=c) (pg:=pg) (pe:=pe) (pl:=pl) (ps:=ps) (l:=b) hq
 rw [entE,if_pos hb.2] at c_matrix_entries
 have c_matrix_clone:=fun {ps : Option Addr} {c : Nat}=>S_matrix_clone (ps:=ps) (m:=rows.length) (c:=c) (rows:=rows) (by omega)
 refine wk 8 cz ?_
 intro b1 b2 b3
 refine j_pub_all (E:=MatE) (n:=1) [[Value.int IntKind.i64 ↑N,Value.slice ps rows.length c]] [((↑N : Int),rows)] 0 (fun w A hG=>(allrd_cons (rd_pair (v1:=[Value.int IntKind.i64 ↑N]) (rd_int (by first | (simp only [InR];omega) | (simp [InR];done) | assumption)) (rd_of_slF (hG _ (fact_mem (n:=1) rfl)))) allrd_nil)) rfl rfl rfl rfl (by first | decide | exact Nat.le_of_ble_eq_true rfl) (by first | decide | exact Nat.le_of_ble_eq_true rfl) ?_
 refine wk 33 (ct @c_matrix_open (ct @c_matrix_entries (ct @c_matrix_clone cz))) ?_
 intro b4 pg1 cg1 pe1 ce1 pl1 cl1 h1 h2 h3 r1 hd1 cs1
 obtain ⟨ro,rcap,rcs⟩:=r1
 dsimp only
 refine j_perm (List.Perm.cons _ List.perm_append_comm) ?_
 simp only [List.eraseIdx_cons_zero,List.cons_append,List.nil_append]
 refine j_selT 3 [1,2,0] rfl rfl ?_
 simp only [List.cons_append,List.nil_append,List.drop_succ_cons,List.drop_zero]
 have hau : (auL rows b).length = rows.length:=auL_len hbl
 let ls : Nat → Nat → List Int:=fun i k=>if k < i then row0 (auL rows b) k else row0 rows k
 refine j_matCongr (ls 0) 1 rfl (fun g hg=>(if_neg (Nat.not_lt_zero g)).symm) ?_
 refine j_loopG (X:=Nat × List Value × (Nat → Hd) × (Nat → List Value)) [2,4,6,7,8,11,46] [3,5,6,8,9,10] (fun x=>[(47,.int .i64 (x.1 : Int))]) (fun x=>(some b2,88,[.int .i64 N,.slice ps rows.length c])::(some b1,24,[.int .i64 p,.int .i64 m,.slice pm nm cm])::(ro,22,x.2.1)::famB 3 x.2.2.1 x.2.2.2 rows.length [])
  (fun x=>[rowF hdE ⟨ro,rcap,x.2.1⟩ rows.length (hdl x.2.2.1 rows.length),matF I64 x.2.2.1 x.2.2.2 (ls x.1) rows.length []]) (fun x=>x.1 ≤ rows.length) (fun x=>rows.length - x.1) (0,rcs,hd1,cs1) [1,0] rfl rfl rfl (Nat.zero_le _) (by repeat (first | exact Fr.sub_nil _ | refine Fr.sub_cons rfl ?_)) rfl rfl ?_
 rintro ⟨i,hc,hd,cs⟩ hi ih
 simp only [List.cons_append,List.nil_append] at hi ih ⊢
 by_cases h9 : i < rows.length
 ·obtain ⟨x,at_x⟩ : ∃ x,b[i]? = some x:=⟨_,List.getElem?_eq_getElem (by omega)⟩
  have ex:=gd_at at_x
  obtain ⟨x0,x1⟩:=hb.2 x (List.mem_of_getElem? at_x)
  have hli : ls i i = row0 rows i:=if_neg (Nat.lt_irrefl i)
  refine j_hdlen 1 rfl fun hlen=>?_
  have hdi : (hd i).2.1 = N:=by rw [hlen i h9 rfl,hli];exact (hM.row h9).1
  refine j_rowB 0 rfl (by omega) fun b9 cap9 cs9 h9'=>?_
  obtain ⟨rfl,rfl,rfl⟩:=Row.mk.inj h9'
  refine j_focusL 3 (i) 1 (N) rfl rfl (by first | assumption | omega) (by first | rfl | assumption | (simp [memB_cons,memB];done) | (simp [memB_cons,memB];omega)) (by first | assumption | omega) fun r1 hr1=>?_
  simp only [List.take_succ_cons,List.take_zero,List.cons_append,List.nil_append]
  refine wk 7 cz ?_
  intro h4
  (refine j_selT 4 [0,1,2,3] rfl rfl ?_;apply j_drawKB it mx 1 12;(· rfl);(· rfl);(· rfl))
  (apply lxk_run 4;(· rfl);(· simp))
  (apply lxk_eq;(· rfl);(· exact d_x fun _=>x_idx_own (i) (i) rfl rfl sl25 rfl (by omega) (Nat.mul_one _) dk_eq))
  (apply lxk_eq;(· rfl);(· exact d_ldR_hd 2 2 (i) rfl rfl rfl ld22 rfl (by assumption)))
  dsimp only
  (apply lxk_run 2;(· rfl);(· simp))
  (apply lxk_pt;(· rfl);(· exact d_x fun _=>x_idx 9 (i) rfl rfl rfl sl22 rfl (by omega) fun z1 hz1 b5 o1=>(dk_ptD default hz1 0 rfl));intro b5 o1)
  (apply lxk_eq;(· rfl);(· exact d_x fun _=>x_ld_int 0 rfl rfl ld3 fun ⟨r2,r3⟩=>dk_eq))
  (apply lxk_sl;(· rfl);(· exact d_x fun _=>x_lit sl22 zo22e rfl rfl rfl rfl (by decide) (by decide) rfl fun b6=>dk_all (E:=I64) [[Value.int IntKind.i64 (b.getD i default)]] [b.getD i default] (fun w A hG=>(allrd_cons ⟨rfl,by first | assumption | (simp only [InR];omega)⟩ allrd_nil)) rfl rfl rfl (by first | decide | exact Nat.le_of_ble_eq_true rfl));intro pa1 ca1)
  (apply lxk_app (m:=1) 2 0;(· rfl);(· rfl);(· rfl);(· rfl);(· rfl);(· exact sl22);(· exact zo22e);(· rfl);(· (first | omega | (simp;done)));(· (first | omega | (simp only [List.length_cons,List.length_nil];omega)));(· exact by22e);(· (first | omega | (simp only [List.length_cons,List.length_nil];omega)));intro b6 cap1 cs2)
  refine lxk_end rfl ?_
  simp only [List.map_cons,List.map_nil,List.cons_append,List.nil_append]
  refine wk 1 cz ?_
  refine j_step rfl (x_stR (vs:=[Value.slice (some { block:=b6,off:=0 }) (N + 1) cap1]) (z:=(some b6,N + 1,cap1)) 3 5 (i) rfl rfl rfl rfl rfl ld22 (Nat.mul_one _).symm (by omega) (fun w A hG=>(rd_hd (some _) _ _)) fun cs3=>?_)
  refine wk 3 cz ?_
  simp only [List.drop_succ_cons,List.drop_zero,setB,List.set_cons_succ,List.set_cons_zero]
  rw [hdl_set,ex]
  refine j_unfocusL 3 i 0 1 5 rfl rfl rfl rfl h9 rfl ?_
  simp only [List.eraseIdx_cons_zero,List.eraseIdx_cons_succ,List.take_succ_cons,List.take_zero,List.cons_append,List.nil_append]
  refine j_matCongr (ls (i + 1)) 0 rfl (fun g hg=>by
   show upd (ls i) i _ g = if _ then _ else _
   by_cases e : g = i
   ·subst e
    rw [upd_self,if_pos (Nat.lt_succ_self g),hli]
    have h1 : rows[g]? = some (row0 rows g):=by rw [row0,List.getD_eq_getElem?_getD,List.getElem?_eq_getElem h9];rfl
    conv=>rhs;rw [row0,List.getD_eq_getElem?_getD,auL_at h1 at_x]
    rfl
   ·rw [upd_ne e]
    show (if _ then _ else _) = _
    by_cases h : g < i
    ·rw [if_pos h,if_pos (by omega)]
    ·rw [if_neg h,if_neg (by omega)]) ?_
  exact tw (ih (i + 1,cs3,upd hd i (some b6,N + 1,cap1),upd cs i cs2) (by dsimp only;omega) (by dsimp only;omega))
 ·have hi0 : i = rows.length:=by omega
  subst hi0
  clear ih
  have hM2:=auL_mat hM hb.2
  refine j_matCongr (row0 (auL rows b)) 1 rfl (fun g hg=>if_pos hg) ?_
  clear_value ls
  have c_matrix_eliminate:=fun {b ng cg ce cl : Nat} {pg pe pl : Option Addr} {rh : Row} {hd : Nat → Hd} {cs : Nat → List Value}=>S_matrix_eliminateW (b:=b) (ng:=ng) (cg:=cg) (ce:=ce) (cl:=cl) (pg:=pg) (pe:=pe) (pl:=pl) (rh:=rh) (hd:=hd) (cs:=cs) K (n:=rows.length) (by omega) (Nat.le_succ N) (by omega) hau hM2
  have hEl : (elP p m md N 0 0 (auL rows b)).1.length = rows.length:=by rw [elP,elimL_len,hau]
  have hEk : (elP p m md N 0 0 (auL rows b)).2.length ≤ rows.length:=by
   have:=elim_le (A:=liftI (fA p m)) (M:=liftI (fM p (fpo m md))) (N:=negI p m) (V:=invI p m md) N 0 0 (auL rows b) (Nat.zero_le _)
   rw [Nat.zero_add,hau] at this;exact this
  have hEM : Mat (p ^ m) (N + 1) (elP p m md N 0 0 (auL rows b)).1:=((fok_fo K).elim (m:=N) hM2).1
  have hEe : Ech (elP p m md N 0 0 (auL rows b)).1 N (elP p m md N 0 0 (auL rows b)).2:=((fok_fo K).elim (m:=N) hM2).2.1
  generalize elP p m md N 0 0 (auL rows b) = E at *
  refine j_nf [_,_,_,_,_] rfl ?_
  refine j_run it 1 rfl (by simp) ?_
  refine j_nf [_,_,_,_,_] rfl ?_
  refine j_if rfl rfl (fun h4=>by exfalso;omega) (fun h4=>?_)
  refine j_nf [_,_] rfl ?_
  refine j_run it 2 rfl (by simp) ?_
  refine j_step rfl (x_field rfl fd88_0 ?_)
  refine j_step rfl (x_bld 0 rfl rfl ld3 rfl ?_)
  refine j_step rfl (x_callA 2 [3,4,5,1,0] rfl rfl (c_matrix_eliminate (rh:=⟨ro,rcap,hc⟩)) rfl ?_)
  rintro _ _ _ ⟨r1,ch'1,hd'1,cs'1,d1,rfl,rfl,rfl⟩
  simp only [List.cons_append,List.nil_append]
  refine j_run it 5 rfl (by simp) ?_
  refine j_nf [_,_,_] rfl ?_
  refine j_run it 2 rfl (by simp) ?_
  refine j_step rfl (x_len sl22 rfl ?_) --ok
  simp only [List.take_succ_cons,List.take_zero,List.cons_append,List.nil_append]
  refine j_hdlen 2 rfl fun hlen=>?_
  refine j_pubFamL 4 3 1 2 rfl rfl rfl rfl (fun i hi=>by rw [hlen i hi rfl,(hEM.row (by omega)).1];show (N + 1) * 8 ≤ _;omega) ?_
  simp only [List.take_succ_cons,List.take_zero]
  rw [show (List.range rows.length).map (row0 E.1) = E.1 from by
   refine List.ext_getElem (by rw [List.length_map,List.length_range,hEl]) fun i h1 h2=>?_
   rw [List.getElem_map,List.getElem_range,row0,List.getD_eq_getElem?_getD,List.getElem?_eq_getElem h2];rfl]
  refine j_pubR 3 0 rfl rfl (by show rows.length * 24 ≤ 140737488355328;omega) ?_
  simp only [List.eraseIdx_cons_zero,List.eraseIdx_cons_succ]
  refine j_pubR 2 2 rfl rfl (by show E.2.length * 8 ≤ 140737488355328;omega) ?_
  simp only [List.eraseIdx_cons_zero,List.eraseIdx_cons_succ]
  refine j_len 1 rfl fun _ _ hcap=>?_
  refine j_step rfl (x_slice_l 1 (E.snd.length) rfl rfl rfl sl25 (by omega) (by omega) fun pa1=>?_)
  refine wk 3 cz ?_
  have hDl : (E.1.drop E.2.length).length = rows.length - E.2.length:=by rw [List.length_drop,hEl]
  have hDM : ∀ r ∈ E.1.drop E.2.length,Wd (p ^ m) (N + 1) r:=fun r hr=>hEM r (List.mem_of_mem_drop hr)
  have hsl : slB N E = (E.1.drop E.2.length).all fun r=>decide (at0 r N = 0):=rfl
  generalize E.1.drop E.2.length = D at *
  refine j_loopG (X:=Nat) [4,11,13,75,76] [0,1,2,3,4,5,6,7,8,9,10,11,12,13,14,15] (fun i=>[(77,.int .i64 (i : Int))]) (fun _=>_) (fun _=>[]) (fun i=>i ≤ D.length ∧ ∀ r ∈ D.take i,at0 r N = 0) (fun i=>D.length - i) 0 [] rfl rfl rfl ⟨Nat.zero_le _,fun x h=>by simp at h⟩ (by repeat (first | exact Fr.sub_nil _ | refine Fr.sub_cons rfl ?_)) rfl rfl ?_
  rintro i ⟨hi,hno⟩ ih
  simp only [List.cons_append,List.nil_append] at hi ih ⊢
  by_cases h9 : i < D.length
  ·obtain ⟨r,at_r⟩ : ∃ r,D[i]? = some r:=⟨_,List.getElem?_eq_getElem h9⟩
   have hrl:=(hDM r (List.mem_of_getElem? at_r)).1
   have at_y : r[N]? = some (at0 r N):=by
    rw [at0,List.getD_eq_getElem?_getD,List.getElem?_eq_getElem (by omega)];rfl
   by_cases h8 : at0 r N = 0
   ·refine wk 13 cz ?_
    intro h5 b5 o1 hz1 pa2 ca1 b6 o2 hz2
    refine j_step rfl (x_ld_int 0 rfl rfl ld3 fun ⟨r2,r3⟩=>?_)
    refine wk 6 cz ?_
    intro h6
    exact tw (ih (i + 1) (by omega) ⟨by omega,tk_all at_r hno h8⟩)
   ·have hs : slB N E = false:=by
     rw [hsl,List.all_eq_false]
     exact ⟨r,List.mem_of_getElem? at_r,by rw [decide_eq_false h8];exact Bool.false_ne_true⟩
    rw [show SoQ N E = fun v Φ β=>∃ (pb : Option Addr) (cb : Nat),v = .tuple #[.slice pb 0 cb,.int .i64 11] ∧ Φ = [slF I64 pb 0 cb []] ∧ β = [] from by funext v Φ β;show (∃ _ _,_) = _;rw [hs];rfl]
    clear ih
    refine wk 13 cz ?_
    intro h5 b5 o1 hz1 pa2 ca1 b6 o2 hz2
    refine j_step rfl (x_ld_int 0 rfl rfl ld3 fun ⟨r2,r3⟩=>?_)
    refine wk 6 cz ?_
    intro h6
    refine j_add (slF I64 none 0 0 []) (fun w A _=>slF_nil I64 w A none 0) ?_
    refine j_giv [0] rfl rfl rfl ⟨_,_,rfl,rfl,rfl⟩
  ·have hs : slB N E = true:=by
    rw [hsl,List.all_eq_true]
    exact fun r hr=>decide_eq_true (hno r (by rwa [List.take_of_length_le (by omega)]))
   rw [show SoQ N E = fun v Φ β=>∃ (pb : Option Addr) (cb : Nat),v = .tuple #[.slice pb (slX N E).length cb,.int .i64 0] ∧ Φ = [slF I64 pb (slX N E).length cb (slX N E)] ∧ β = [] from by funext v Φ β;show (∃ _ _,_) = _;rw [hs];rfl]
   clear ih
   refine wk 14 cz ?_
   intro h5 b5
   rw [show natCells .i64 (List.replicate N 0) = intCells .i64 (slK N E 0) by rw [slK_zero];simp [natCells,intCells,zW]]
   refine j_loopG (X:=Nat) [4,11,17,91,92] [0,1,2,3,4,5,6,7,8,9,10,11,12,13,14,15] (fun i=>[(93,.int .i64 (i : Int))]) (fun i=>(some b5,3,intCells .i64 (slK N E i))::_) (fun _=>[]) (fun i=>i ≤ E.2.length) (fun i=>E.2.length - i) 0 [] rfl rfl rfl (Nat.zero_le _) (by repeat (first | exact Fr.sub_nil _ | refine Fr.sub_cons rfl ?_)) rfl rfl ?_
   rintro i hi ih
   simp only [List.cons_append,List.nil_append] at hi ih ⊢
   by_cases h9 : i < E.2.length
   ·obtain ⟨a,hpa⟩ : ∃ a,E.2[i]? = some a:=⟨_,List.getElem?_eq_getElem h9⟩
    have at_p : (toI E.2)[i]? = some (a : Int):=by rw [toI,List.getElem?_map,hpa];rfl
    have haN:=hEe.lt a (List.mem_of_getElem? hpa)
    have hr : E.1[i]? = some (row0 E.1 i):=by rw [row0,List.getD_eq_getElem?_getD,List.getElem?_eq_getElem (by omega)];rfl
    have er:=gd_at hr
    have hrl : (E.1.getD i default).length = N + 1:=by rw [er];exact (hEM.row (by omega)).1
    have ih':=ih (i + 1) (by omega) (by omega)
    rw [← slK_set hEe hpa,en,← er,show at0 (E.1.getD i default) N = (E.1.getD i default).getD N default from rfl] at ih'
    have hln:=slK_len (n:=N) (k:=i) (E:=E)
    generalize slK N E i = L at *
    refine wk 6 cz ?_
    intro h6
    refine j_rowB 4 rfl (by omega) fun b6 cap1 cs2 hr1=>?_
    subst hr1
    dsimp only
    refine wk 1 cz ?_
    intro b7 o1 hz1
    refine j_step rfl (x_ld_int 0 rfl rfl ld3 fun ⟨r1,r2⟩=>?_)
    refine wk 8 cz ?_
    intro b8 o2 pa2 ca1 b9 o3
    exact tw (ih')
   ·obtain rfl : i = E.2.length:=by omega
    rw [slK_end]
    clear ih
    have hX:=(fok_fo K).slX_wd hEM hEe
    have hXl:=hX.1
    generalize slX N E = X at *
    refine wk 7 cz ?_
    intro h6
    refine j_rowInt 0 rfl hXl.symm (fun y hy=>by have:=hX.2 y hy;simp only [InR];omega) (by omega) ?_
    refine j_pubR 0 0 rfl rfl (by show N * 8 ≤ 140737488355328;omega) ?_
    simp only [List.eraseIdx_cons_zero,List.eraseIdx_cons_succ]
    rw [← hXl]
    refine j_giv [0] rfl rfl rfl ⟨_,_,rfl,rfl,rfl⟩
section
variable {p m N n c nm cm nx cx : Nat} {pm ps px : Option Addr} {md x : List Int} {rows : List (List Int)}
theorem liE_ok {q k : Nat} {l : List Int} (h : Wd q k l) : liE l k q = 0:=by
 rw [liE,if_neg (by have:=h.1;omega),entE,if_pos h.2]
end
open Go Go.Fw
set_option maxRecDepth 100000
set_option linter.unusedVariables false
set_option linter.unusedSimpArgs false
set_option maxHeartbeats 0
section
variable {p m n c nm cm N nx cx : Nat} {pm ps px : Option Addr} {md x : List Int} {rows : List (List Int)}
abbrev WdQ (N : Nat) (l : List Int) : Value → List Fact → List Blk → Prop:=fun v Φ β=>∃ (pb : Option Addr) (cb : Nat),v = .tuple #[.slice pb N cb,.int .i64 0] ∧ Φ = [slF I64 pb N cb l] ∧ β = []
theorem S_matrix_Vec (K : Fok p m md) (hN : N ≤ 256) (hl : rows.length ≤ 256) (hM : Mat (p ^ m) N rows) (hx : Wd (p ^ m) rows.length x) :
  Ctr Tryz.prog 114 [.agg #[.int .i64 p,.int .i64 m,.slice pm nm cm],.slice px nx cx,.agg #[.int .i64 N,.slice ps n c]] [] [slF I64 pm nm cm md,slF I64 px nx cx x,slF (encSl I64) ps n c rows] (WdQ N (cbP p m md N x rows)):=by
 refine Ctr_of_j' (F:=F_matrix_Vec) rfl fun C=>?_
 have hq:=K.q
 have hxl:=hx.1
 refine j_len 1 rfl fun hn _ _=>?_
 subst hn
 refine j_len 2 rfl fun hn _ _=>?_
 subst hn
 have c_matrix_open:=fun {pm ps : Option Addr} {nm cm n c : Nat}=>S_matrix_open_ok (pm:=pm) (nm:=nm) (cm:=cm) (ps:=ps) (n:=n) (c:=c) (Ms:=[((N : Int),rows)]) K (fun z hz=>by rw [List.mem_singleton.1 hz];simp only [InR];omega) (op_one (mtE_ok hN hl hM))
 have c_matrix_entries:=fun {b0 ng cg ne ce nl cl n c : Nat} {pg pe pl ps : Option Addr}=>S_matrix_entries (b:=b0) (p:=p) (m:=m) (q:=p ^ m) (ng:=ng) (cg:=cg) (ne:=ne) (ce:=ce) (nl:=nl) (cl:=cl) (n:=n) (c:=c) (pg:=pg) (pe:=pe) (pl:=pl) (ps:=ps) (l:=x) hq
 rw [entE,if_pos hx.2] at c_matrix_entries
 have c_matrix_vec:=fun {b ng cg ce cl nx cx n c : Nat} {pg pe pl px ps : Option Addr}=>(S_matrix_vec (b:=b) (ng:=ng) (cg:=cg) (ce:=ce) (cl:=cl) (nx:=nx) (cx:=cx) (n:=n) (c:=c) (pg:=pg) (pe:=pe) (pl:=pl) (px:=px) (ps:=ps) K (show N ≤ 1000000 by omega) hM hx).pubR (by show N * 8 ≤ 140737488355328;omega)
 refine wk 8 cz ?_
 intro b1 b2 b3
 refine j_pub_all (E:=MatE) (n:=1) [[Value.int IntKind.i64 ↑N,Value.slice ps rows.length c]] [((↑N : Int),rows)] 0 (fun w A hG=>(allrd_cons (rd_pair (v1:=[Value.int IntKind.i64 ↑N]) (rd_int (by first | (simp only [InR];omega) | (simp [InR];done) | assumption)) (rd_of_slF (hG _ (fact_mem (n:=2) rfl)))) allrd_nil)) rfl rfl rfl rfl (by first | decide | exact Nat.le_of_ble_eq_true rfl) (by first | decide | exact Nat.le_of_ble_eq_true rfl) ?_
 refine wk 32 (ct @c_matrix_open (ct @c_matrix_entries (ct @c_matrix_vec cz))) ?_
 intro b4 pg1 cg1 pe1 ce1 pl1 cl1 h1 h2 h3 pa1 ca1
 refine j_giv [0] rfl rfl rfl ⟨_,_,rfl,rfl,rfl⟩
theorem S_code_Encode (CC : Cok p m md N rows) (hx : Wd (p ^ m) rows.length x) : Ctr Tryz.prog 73 [.agg #[.int .i64 p,.int .i64 m,.slice pm nm cm,.int .i64 N,.slice ps n c],.slice px nx cx] [] [slF I64 pm nm cm md,slF (encSl I64) ps n c rows,slF I64 px nx cx x] (WdQ N (cbP p m md N x rows)):=by
 refine Ctr_of_j' (F:=F_code_Encode) rfl fun C=>?_
 refine j_len 1 rfl fun hn _ _=>?_
 subst hn
 have h64:=CC.n64
 have hln:=CC.len
 have c_code_Check:=fun {pm ps : Option Addr} {nm cm n c : Nat}=>S_code_Check (P:=p) (M:=m) (N:=N) (pm:=pm) (ps:=ps) (nm:=nm) (cm:=cm) (n:=n) (c:=c) (md:=md) (rows:=rows) (by simp only [InR];omega) CC.ck
 have c_code_list:=fun {pm ps : Option Addr} {nm cm n c : Nat}=>S_code_list (pm:=pm) (ps:=ps) (nm:=nm) (cm:=cm) (n:=n) (c:=c) CC.K (liE_ok hx)
 have c_matrix_Vec:=fun {pm ps px : Option Addr} {nm cm n c nx cx : Nat}=>S_matrix_Vec (pm:=pm) (ps:=ps) (px:=px) (nm:=nm) (cm:=cm) (n:=n) (c:=c) (nx:=nx) (cx:=cx) CC.K (show N ≤ 256 by omega) (show rows.length ≤ 256 by omega) CC.mat hx
 refine wk 25 (ct @c_code_Check (ct @c_code_list cz)) ?_
 intro b1 h1 h2
 (apply j_drawK it mx 8;(· rfl);(· rfl))
 (apply lxk_eq;(· rfl);(· exact d_x fun _=>x_field rfl fd27_0 dk_eq))
 (apply lxk_eq;(· rfl);(· exact d_bld_agg 0 rfl rfl ld24 rfl rfl))
 (apply lxk_run 1;(· rfl);(· simp))
 (apply lxk_eq;(· rfl);(· exact d_bld_all 0 rfl rfl ld27 rfl))
 (apply lxk_eq;(· rfl);(· exact d_x fun _=>x_call [] rfl (S_code_gen) rfl (by rintro _ _ _ ⟨rfl,rfl,rfl⟩;exact dk_eq)))
 (apply lxk_fa (val:=(fun g=>Value.tuple #[Value.slice (g 0).fst N (g 1).snd.fst,Value.int IntKind.i64 0])) (f:=(fun g=>[slF I64 (g 0).fst N (g 1).snd.fst (cbP p m md N x rows)]));(· rfl);(· exact d_x fun _=>x_call [0,2,1] rfl (c_matrix_Vec) rfl (by rintro _ _ _ ⟨pbg0,cbg1,rfl,rfl,rfl⟩;exact fun _ _ _ hG=>⟨(fun | 0=>(pbg0,0,0,[]) | 1=>(none,cbg1,0,[]) | _=>default),rfl,fun g hg=>drop_own (hG _ (List.mem_append_left _ hg))⟩));intro g1;dsimp only [List.map_cons,List.map_nil])
 (apply lxk_pv [26] (fun vs=>match vs.getD 0 undef with | .tuple a=>a.getD 0 undef | _=>undef) (v:=Value.slice (g1 0).fst N (g1 1).snd.fst);(· rfl);(· rfl);(· rfl);(· rfl);(· exact d_x fun _=>x_pv it rfl (by trivial) dk_eq))
 (apply lxk_eq;(· rfl);(· exact d_x fun _=>x_pv it rfl (by trivial) dk_eq))
 refine lxk_end rfl ?_
 simp only [List.map_cons,List.map_nil,List.cons_append,List.nil_append]
 refine wk 2 cz ?_
 refine j_giv [0] rfl rfl rfl ⟨_,_,rfl,rfl,rfl⟩
end
open Go Go.Fw
set_option maxRecDepth 100000
set_option linter.unusedVariables false
set_option linter.unusedSimpArgs false
set_option maxHeartbeats 0
theorem slx_len {n : Nat} {E : List (List Int) × List Nat} : (slX n E).length = n:=by simp [slX]
abbrev NoQ : Value → List Fact → List Blk → Prop:=fun v Φ β=>∃ (pb : Option Addr) (cb : Nat),v = .tuple #[.slice pb 0 cb,.int .i64 11] ∧ Φ = [slF I64 pb 0 cb []] ∧ β = []
theorem so_ok {N : Nat} {E : List (List Int) × List Nat} (h : slB N E = true) : SoQ N E = WdQ N (slX N E):=by
 funext v Φ β
 simp only [SoQ,WdQ,h,if_true,slx_len]
theorem so_no {N : Nat} {E : List (List Int) × List Nat} (h : slB N E = false) : SoQ N E = NoQ:=by
 funext v Φ β
 simp [SoQ,NoQ,h]
abbrev kcL (rows : List (List Int)) (P : List Nat) : List (List Int):=P.map fun b=>colL rows b
abbrev wnL (blocks : List (List Int)) (P : List Nat) (j : Nat) : List Int:=P.map fun b=>at0 (row0 blocks b) j
noncomputable abbrev cmE (p m : Nat) (md : List Int) (rows blocks : List (List Int)) (P : List Nat) (j : Nat) : List (List Int) × List Nat:=elP p m md rows.length 0 0 (auL (kcL rows P) (wnL blocks P j))
noncomputable def cmB (p m : Nat) (md : List Int) (rows blocks : List (List Int)) (W : Nat) (P : List Nat) : Bool:=(List.range W).all fun j=>slB rows.length (cmE p m md rows blocks P j)
noncomputable def cmW (p m : Nat) (md : List Int) (N : Nat) (rows blocks : List (List Int)) (P : List Nat) (j : Nat) : List Int:=cbP p m md N (slX rows.length (cmE p m md rows blocks P j)) rows
noncomputable def cmR (p m : Nat) (md : List Int) (N : Nat) (rows blocks : List (List Int)) (W : Nat) (P : List Nat) : List (List Int):=(List.range N).map fun b=>(List.range W).map fun j=>at0 (cmW p m md N rows blocks P j) b
noncomputable def cmQ (p m : Nat) (md : List Int) (N : Nat) (rows blocks : List (List Int)) (P : List Nat) (j b k : Nat) : List Int:=(List.range (if k < b then j + 1 else j)).map fun t=>at0 (cmW p m md N rows blocks P t) k
theorem cmQ_next {p m : Nat} {md : List Int} {N : Nat} {rows blocks : List (List Int)} {P : List Nat} {j k : Nat} : cmQ p m md N rows blocks P j k k++[at0 (cmW p m md N rows blocks P j) k] = cmQ p m md N rows blocks P j (k + 1) k:=by
 rw [cmQ,cmQ,if_neg (by omega),if_pos (by omega),List.range_succ,List.map_append];rfl
theorem cmQ_upd {p m : Nat} {md : List Int} {N : Nat} {rows blocks : List (List Int)} {P : List Nat} {j k : Nat} : upd (cmQ p m md N rows blocks P j k) k (cmQ p m md N rows blocks P j (k + 1) k) = cmQ p m md N rows blocks P j (k + 1):=by
 funext t
 by_cases h : t = k
 ·subst h;rw [upd_self]
 ·rw [upd_ne h,cmQ,cmQ]
  by_cases h2 : t < k
  ·rw [if_pos h2,if_pos (by omega)]
  ·rw [if_neg h2,if_neg (by omega)]
section
variable {p m N n c nm cm nt ct nr cr nb cb nk ck W : Nat} {pm ps pt pr pb pk : Option Addr} {dd : Int} {md : List Int} {rows blocks : List (List Int)} {P : List Nat}
theorem S_store_complete (CC : Cok p m md N rows) (hW : W ≤ 16) (hB : ∀ b ∈ P,b < N ∧ b < blocks.length ∧ Wd (p ^ m) W (row0 blocks b)) (hP : P.length ≤ 64) :
  Ctr Tryz.prog 82 [.agg #[.int .i64 p,.int .i64 m,.slice pm nm cm,.int .i64 N,.slice ps n c,.int .i64 dd,.slice pt nt ct,.slice pr nr cr,.int .i64 W],.slice pb nb cb,.slice pk nk ck] [] [slF I64 pm nm cm md,slF (encSl I64) ps n c rows,slF (encSl I64) pb nb cb blocks,slF I64 pk nk ck (toI P)]
   (ReL (cmB p m md rows blocks W P) (if cmB p m md rows blocks W P = true then cmR p m md N rows blocks W P else [])):=by
 refine Ctr_of_j' (F:=F_store_complete) rfl fun C=>?_
 refine j_len 1 rfl fun hn hb1 _=>?_
 subst hn
 refine j_len 2 rfl fun hn hb2 _=>?_
 subst hn
 refine j_len 3 rfl fun hn hb3 _=>?_
 subst hn
 have h64:=CC.n64
 have hln:=CC.len
 have hq:=CC.K.q
 have hq2:=(fok_fn CC.K).q2
 have hPl : (toI P).length = P.length:=List.length_map _
 refine j_nf [_,_] rfl ?_
 refine j_step rfl (x_box_agg rfl fun b1=>?_)
 refine j_run it 2 rfl (by simp) ?_
 refine j_nf [_,_] rfl ?_
 refine j_step rfl (x_field rfl fd31_0 ?_)
 refine j_step rfl (x_bld_agg 0 rfl rfl ld27 rfl rfl ?_)
 refine j_step rfl (x_alloc zo27 fun b2=>?_)
 refine j_step rfl (x_bst_all 0 rfl rfl rfl ld27 rfl rfl (by simp [Value.oneCell']) ?_)
 refine j_nf [_,_] rfl ?_
 refine j_step rfl (x_field rfl fd27_2 ?_)
 refine j_step rfl (x_bld 0 rfl rfl ld25 rfl ?_)
 refine j_step rfl (x_len sl25 rfl ?_)
 refine j_step rfl (x_build (cs:=[Value.int IntKind.i64 ↑rows.length,Value.slice none 0 0]) st88 zo88 rfl rfl ?_)
 refine j_step rfl (x_alloc zo88 fun b3=>?_)
 refine j_step rfl (x_bst_all 0 rfl rfl rfl ld88 rfl rfl (by simp [Value.oneCell']) ?_)
 refine j_nf [_,_,_] rfl ?_
 refine j_run it 1 rfl (by simp) ?_
 refine j_step rfl (x_len sl22 rfl ?_)
 refine j_run it 1 rfl (by simp) ?_
 refine j_nf [_,_,_] rfl ?_
 refine j_row0 (encSl I64) 22 ?_
 simp only [cellsL,splice,setB,List.take_succ_cons,List.cons_append,List.nil_append,List.take_zero,List.drop_succ_cons,List.drop_zero,List.length_singleton,Nat.zero_add]
 refine j_loopG (X:=Nat × Row) [1,2,3,6,7,8,9,32,33] [0,1,2,3,4] (fun z=>[(34,.int .i64 (z.1 : Int))]) (fun z=>(z.2.bo,22,z.2.cs)::(some b3,88,[.int .i64 rows.length,.slice (ad z.2.bo) z.1 z.2.cap])::_) (fun z=>[rowF (encSl I64) z.2 z.1 (kcL rows (P.take z.1))]) (fun z=>z.1 ≤ P.length) (fun z=>P.length - z.1) (0,⟨none,0,[]⟩) [0] rfl rfl rfl (Nat.zero_le _) (by repeat (first | exact Fr.sub_nil _ | refine Fr.sub_cons rfl ?_)) rfl rfl ?_
 rintro ⟨i,r⟩ hi ih
 simp only [List.cons_append,List.nil_append] at hi ih ⊢
 by_cases hil : i < P.length
 ·obtain ⟨b,hb⟩ : ∃ b,P[i]? = some b:=⟨_,List.getElem?_eq_getElem hil⟩
  have at_b : (toI P)[i]? = some (b : Int):=by rw [toI,List.getElem?_map,hb];rfl
  obtain ⟨hbN,hbl,hbW⟩:=hB b (List.mem_of_getElem? hb)
  have hcl : (colL rows b).length = rows.length:=List.length_map _
  have ih1:=fun r=>ih (i + 1,r) (by dsimp only;omega) (by dsimp only;omega)
  dsimp only at ih1
  rw [List.take_add_one (l:=P),hb,Option.toList_some,kcL,List.map_append,List.map_cons,List.map_nil] at ih1
  clear ih
  refine wk 6 cz ?_
  intro h1 b4 o1 hz1
  refine j_step rfl (x_ld_int 0 rfl rfl ld3 fun ⟨r1,r2⟩=>?_)
  refine wk 9 cz ?_
  refine j_row0 I64 3 ?_
  refine j_loopG (X:=Nat × Row) [1,2,3,6,7,8,9,11,32,33,34,35,36,37,38,39,40] [0,1,2,3,4,5,6,7] (fun z=>[(41,.int .i64 (z.1 : Int)),(12,.slice (ad z.2.bo) z.1 z.2.cap)]) (fun z=>(z.2.bo,3,z.2.cs)::_) (fun z=>[rowF I64 z.2 z.1 ((colL rows b).take z.1)]) (fun z=>z.1 ≤ rows.length) (fun z=>rows.length - z.1) (0,⟨none,0,[]⟩) [0] rfl rfl rfl (Nat.zero_le _) (by repeat (first | exact Fr.sub_nil _ | refine Fr.sub_cons rfl ?_)) rfl rfl ?_
  rintro ⟨j,q⟩ hj ih
  simp only [List.cons_append,List.nil_append] at hj ih ⊢
  by_cases hjl : j < rows.length
  ·obtain ⟨u,at_u⟩ : ∃ u,rows[j]? = some u:=⟨_,List.getElem?_eq_getElem hjl⟩
   have hu:=CC.mat u (List.mem_of_getElem? at_u)
   have hul:=hu.1
   have at_y : u[b]? = some (at0 u b):=by rw [at0,List.getD_eq_getElem?_getD,List.getElem?_eq_getElem (by omega)];rfl
   have hT : (colL rows b)[j]? = some (at0 u b):=by rw [colL,List.getElem?_map,at_u];rfl
   have ih2:=fun q=>ih (j + 1,q) (by dsimp only;omega) (by dsimp only;omega)
   dsimp only at ih2
   rw [List.take_add_one (l:=colL rows b),hT,Option.toList_some] at ih2
   have hyr:=wd_at (show 0 < p ^ m by omega) hu b
   clear ih
   refine wk 11 cz ?_
   intro h2 b5 o2 hz2 pa1 ca1 b6 o3 hz3
   refine j_step rfl (x_ld_int 0 rfl rfl ld3 fun ⟨r3,r4⟩=>?_)
   refine wk 1 cz ?_
   intro b7
   refine j_step rfl (x_appR (z:=(at0 u b : Int)) 1 0 3 rfl rfl rfl rfl rfl sl22 zo22e rfl (fun w A hG=>(rd_int (by first | (simp only [InR];omega) | (simp [InR];done)))) (by omega) _ by22e (by omega) fun r5=>?_)
   refine wk 4 cz ?_
   refine j_toM [true,false,true,true,true,true] [0,5,6,7,8,9,10,11,12] (by exact fra rfl) rfl rfl (ih2 r5)
  ·obtain rfl : j = rows.length:=by omega
   rw [← hcl,List.take_length,hcl]
   clear ih
   refine wk 9 cz ?_
   intro h2 b5
   refine j_pubR 1 0 rfl rfl (by show (rows.length) * 8 ≤ 140737488355328;omega) ?_
   refine j_step rfl (x_appR (z:=colL rows b) 1 0 4 rfl rfl rfl rfl rfl sl25 zo25e rfl (fun w A hG=>(rd_of_slF (hG _ (fact_mem (n:=0) rfl)))) (by omega) _ by25e (by omega) fun r3=>?_)
   refine wk 5 cz ?_
   refine j_toM [true,false,true,true,true] [0,6,7,8,9,10] (by exact fra rfl) rfl rfl (ih1 r3)
 ·obtain rfl : i = P.length:=by omega
  clear ih
  rw [List.take_length]
  refine j_pubR 0 0 rfl rfl (by show P.length * 24 ≤ 140737488355328;omega) ?_
  simp only [List.eraseIdx_cons_zero,List.eraseIdx_cons_succ]
  have hKM : Mat (p ^ m) rows.length (kcL rows P):=fun u hu=>by
   obtain ⟨b,_,rfl⟩:=List.mem_map.1 hu
   exact wd_col (by omega) CC.mat b
  have hkl : (kcL rows P).length = P.length:=List.length_map _
  have hwd : ∀ j,j < W → Wd (p ^ m) (kcL rows P).length (wnL blocks P j):=fun j hj=>⟨by rw [hkl];exact List.length_map _,fun x hx=>by
   obtain ⟨b,hb,rfl⟩:=List.mem_map.1 hx
   exact wd_at (by omega) (hB b hb).2.2 j⟩
  have hSX : ∀ j,j < W → Wd (p ^ m) rows.length (slX rows.length (cmE p m md rows blocks P j)):=fun j hj=>by
   have h:=(fok_fo CC.K).elim (m:=rows.length) (auL_mat hKM (hwd j hj).2)
   exact (fok_fo CC.K).slX_wd h.1 h.2.1
  have hcw : ∀ j,j < W → Wd (p ^ m) N (cmW p m md N rows blocks P j):=fun j hj=>(fok_fo CC.K).cmb_wd (hSX j hj).2 CC.mat
  refine wk 7 cz ?_
  intro h1
  refine j_step rfl (x_make (N) _ rfl rfl sl25 zo25e rfl rfl by25e (by omega) (by omega) (by omega) fun b4=>?_)
  refine wk 6 cz ?_
  refine j_hd0 0 rfl (by omega) fun csA=>?_
  refine j_famNil I64 3 N ?_
  simp only [setB,List.cons_append,List.nil_append]
  rw [show matF I64 (fun _=>((none,0,0) : Hd)) (fun _=>[]) (fun _=>([] : List Int)) N [] = matF I64 (fun _=>((none,0,0) : Hd)) (fun _=>[]) (cmQ p m md N rows blocks P 0 0) N [] from rfl]
  refine j_loopG (X:=Nat × List Value × (Nat → Hd) × (Nat → List Value)) [1,2,8,9,15,64] [0,1,2,3,4,5,6,7,8] (fun x=>[(65,.int .i64 (x.1 : Int))])
   (fun x=>(some b4,22,x.2.1)::_::_::_::famB 3 x.2.2.1 x.2.2.2 N [])
   (fun x=>[rowF hdE ⟨some b4,N,x.2.1⟩ N (hdl x.2.2.1 N),matF I64 x.2.2.1 x.2.2.2 (cmQ p m md N rows blocks P x.1 0) N []])
   (fun x=>x.1 ≤ W ∧ ∀ j,j < x.1 → slB rows.length (cmE p m md rows blocks P j) = true) (fun x=>W - x.1) (0,csA,fun _=>(none,0,0),fun _=>[]) [1,0] rfl rfl rfl ⟨Nat.zero_le _,fun j h=>absurd h (Nat.not_lt_zero j)⟩ (by repeat (first | exact Fr.sub_nil _ | refine Fr.sub_cons rfl ?_)) rfl rfl ?_
  rintro ⟨j,cA,hd,cs⟩ ⟨hj,hs⟩ ih
  simp only [List.cons_append,List.nil_append] at hj hs ih ⊢
  by_cases hjW : j < W
  ·have hTl : (wnL blocks P j).length = P.length:=List.length_map _
   have hTr : ∀ z ∈ wnL blocks P j,InR .i64 z:=fun z hz=>by
    have:=(hwd j hjW).2 z hz
    simp only [InR];omega
   refine wk 16 cz ?_
   intro h2 b5
   rw [show natCells .i64 (List.replicate (toI P).length 0) = intCells .i64 ((wnL blocks P j).take 0++List.replicate ((toI P).length - 0) 0) by simp [natCells,intCells]]
   refine j_loopG (X:=Nat) [1,2,8,9,15,16,17,64,65,66,67,68,69,70,71,72] [0,1,2,3,4,5,6,7,8,9,10] (fun k=>[(73,.int .i64 (k : Int))]) (fun k=>(some b5,3,intCells .i64 ((wnL blocks P j).take k++List.replicate ((toI P).length - k) 0))::_) (fun _=>[]) (fun k=>k ≤ (toI P).length) (fun k=>(toI P).length - k) 0 [] rfl rfl rfl (Nat.zero_le _) (by repeat (first | exact Fr.sub_nil _ | refine Fr.sub_cons rfl ?_)) rfl rfl ?_
   rintro k hk ihk
   simp only [List.cons_append,List.nil_append] at hk ihk ⊢
   by_cases h8 : k < (toI P).length
   ·obtain ⟨b,hb⟩ : ∃ b,P[k]? = some b:=⟨_,List.getElem?_eq_getElem (by omega)⟩
    have at_b : (toI P)[k]? = some (b : Int):=by rw [toI,List.getElem?_map,hb];rfl
    obtain ⟨hbN,hbl,hbW⟩:=hB b (List.mem_of_getElem? hb)
    have hul:=hbW.1
    have at_u : blocks[b]? = some (row0 blocks b):=by rw [row0,List.getD_eq_getElem?_getD,List.getElem?_eq_getElem hbl];rfl
    have at_y : (row0 blocks b)[j]? = some (at0 (row0 blocks b) j):=by rw [at0,List.getD_eq_getElem?_getD,List.getElem?_eq_getElem (by omega)];rfl
    have hT : (wnL blocks P j)[k]? = some (at0 (row0 blocks b) j):=by rw [wnL,List.getElem?_map,hb];rfl
    have ih':=ihk (k + 1) (by omega) (by omega)
    rw [← take_set hT h8] at ih'
    have hln : ((wnL blocks P j).take k++List.replicate ((toI P).length - k) 0).length = (toI P).length:=by rw [List.length_append,List.length_take,List.length_replicate];omega
    generalize (wnL blocks P j).take k++List.replicate ((toI P).length - k) 0 = L at *
    clear ih ihk
    refine wk 7 cz ?_
    intro h3 b6 o1 hz1
    refine j_step rfl (x_ld_int 0 rfl rfl ld3 fun ⟨r1,r2⟩=>?_)
    refine wk 7 cz ?_
    intro b7 o2 hz2 pa1 ca1 b8 o3 hz3
    refine j_step rfl (x_ld_int 0 rfl rfl ld3 fun ⟨r3,r4⟩=>?_)
    refine wk 5 cz ?_
    exact tw (ih')
   ·obtain rfl : k = (toI P).length:=by omega
    rw [Nat.sub_self,List.replicate_zero,List.append_nil,List.take_of_length_le (by omega)]
    clear ihk
    refine j_rowInt 0 rfl (hPl.trans hTl.symm) hTr (by omega) ?_
    refine j_pubRb 0 0 rfl rfl (by show (toI P).length * 8 ≤ 140737488355328;omega) ?_
    simp only [List.eraseIdx_cons_zero,List.eraseIdx_cons_succ]
    have c_matrix_Solve:=fun {pm ps pb : Option Addr} {nm cm n c nb cb : Nat}=>S_matrix_Solve (pm:=pm) (ps:=ps) (pb:=pb) (nm:=nm) (cm:=cm) (n:=n) (c:=c) (nb:=nb) (cb:=cb) CC.K (show rows.length ≤ 256 by omega) (show (kcL rows P).length ≤ 256 by omega) hKM (hwd j hjW)
    cases hsl : slB rows.length (cmE p m md rows blocks P j) with
    | false =>
     have hcm : cmB p m md rows blocks W P = false:=by
      rw [cmB,List.all_eq_false]
      exact ⟨j,List.mem_range.2 hjW,by rw [hsl];simp⟩
     rw [hcm,if_neg (by simp)]
     rw [so_no hsl] at c_matrix_Solve
     refine j_add (slF (encSl I64) none 0 0 []) (fun w A _=>slF_nil _ w A none 0) ?_
     clear ih
     refine wk 9 cz ?_
     intro h3
     refine j_step rfl (x_call [10,7,1] rfl (c_matrix_Solve) rfl ?_)
     rintro _ _ _ ⟨pb1,cb1,rfl,rfl,rfl⟩
     simp only [List.cons_append,List.nil_append]
     refine wk 8 cz ?_
     intro h4
     refine j_giv [1] rfl rfl rfl ⟨_,_,rfl,rfl,rfl⟩
    | true =>
     rw [so_ok hsl] at c_matrix_Solve
     have c_code_Encode:=fun {pm ps px : Option Addr} {nm cm n c nx cx : Nat}=>S_code_Encode (pm:=pm) (ps:=ps) (px:=px) (nm:=nm) (cm:=cm) (n:=n) (c:=c) (nx:=nx) (cx:=cx) CC (hSX j hjW)
     rw [show cbP p m md N (slX rows.length (cmE p m md rows blocks P j)) rows = cmW p m md N rows blocks P j from rfl] at c_code_Encode
     have hcwl:=(hcw j hjW).1
     have hcwr:=(hcw j hjW).2
     have ih1:=fun cA hd cs=>ih (j + 1,cA,hd,cs) (by dsimp only;omega) (by dsimp only;exact ⟨by omega,fun t ht=>by
      by_cases e : t = j
      ·subst e;exact hsl
      ·exact hs t (by omega)⟩)
     dsimp only at ih1
     clear ih
     refine wk 9 cz ?_
     intro h3
     refine j_step rfl (x_call [9,6,0] rfl (c_matrix_Solve) rfl ?_)
     rintro _ _ _ ⟨pb1,cb1,rfl,rfl,rfl⟩
     simp only [List.cons_append,List.nil_append]
     refine wk 8 cz ?_
     intro h4
     refine j_step rfl (x_call [10,11,0] rfl (c_code_Encode) rfl ?_)
     rintro _ _ _ ⟨pb2,cb2,rfl,rfl,rfl⟩
     simp only [List.cons_append,List.nil_append]
     simp only [decide_true]
     refine wk 6 cz ?_
     refine j_loopG (X:=Nat × List Value × (Nat → Hd) × (Nat → List Value)) [1,2,8,9,15,16,17,20,21,22,64,65,66,67,68,69,70,71,72,73,74,89,90,91,92,93,94,95,96,97,98,99,100,101,102,103,104,105,106] [0,1,2,3,4,5,6,7,8,9,10,11,12,13,14] (fun x=>[(107,.int .i64 (x.1 : Int))])
      (fun x=>(some b4,22,x.2.1)::_::_::_::famB 3 x.2.2.1 x.2.2.2 N [])
      (fun x=>[rowF hdE ⟨some b4,N,x.2.1⟩ N (hdl x.2.2.1 N),matF I64 x.2.2.1 x.2.2.2 (cmQ p m md N rows blocks P j x.1) N []])
      (fun x=>x.1 ≤ N) (fun x=>N - x.1) (0,cA,hd,cs) [4,5] rfl rfl rfl (Nat.zero_le _) (by repeat (first | exact Fr.sub_nil _ | refine Fr.sub_cons rfl ?_)) rfl rfl ?_
     rintro ⟨k,cA,hd,cs⟩ hk ihk
     simp only [List.cons_append,List.nil_append] at hk ihk ⊢
     by_cases hkN : k < N
     ·refine j_hdlen 1 rfl fun hlen=>?_
      have hN' : (hd k).2.1 = j:=by rw [hlen k hkN rfl];simp [cmQ]
      have at_x : (cmW p m md N rows blocks P j)[k]? = some (at0 (cmW p m md N rows blocks P j) k):=by rw [at0,List.getD_eq_getElem?_getD,List.getElem?_eq_getElem (by omega)];rfl
      have hxr:=wd_at (show 0 < p ^ m by omega) (hcw j hjW) k
      refine j_focusL 4 (k) 1 (j) rfl rfl (by first | assumption | omega) (by first | rfl | assumption | (simp [memB_cons,memB];done) | (simp [memB_cons,memB];omega)) (by first | assumption | omega) fun r1 hr1=>?_
      simp only [List.take_succ_cons,List.take_zero,List.cons_append,List.nil_append]
      refine wk 7 cz ?_
      intro h5 b6 o1 hz1
      refine j_step rfl (x_ld_int 0 rfl rfl ld3 fun ⟨r2,r3⟩=>?_)
      refine wk 7 cz ?_
      intro b7
      refine j_step rfl (x_appR (z:=(at0 (cmW p m md N rows blocks P j) k : Int)) 1 0 1 rfl rfl rfl rfl rfl sl22 zo22e rfl (fun w A hG=>(rd_int (by first | (simp only [InR];omega) | (simp [InR];done)))) (by omega) _ by22e (by omega) fun r4=>?_)
      refine wk 1 cz ?_
      refine j_step rfl (x_stR (vs:=[Value.slice (ad r4.bo) (j + 1) r4.cap]) (z:=(r4.bo,j + 1,r4.cap)) 2 4 (k) rfl rfl rfl rfl rfl ld22 (Nat.mul_one _).symm (by omega) (fun w A hG=>(rd_hd _ _ _)) fun cs1=>?_)
      refine wk 3 cz ?_
      rw [hdl_set,cmQ_next]
      refine j_unfocusL 5 (k) 0 1 4 rfl rfl rfl rfl (by first | assumption | omega) (by first | rfl | assumption | (simp [memB_cons,memB];done) | (simp [memB_cons,memB];omega)) ?_
      simp only [List.eraseIdx_cons_zero,List.eraseIdx_cons_succ,List.take_succ_cons,List.take_zero,List.cons_append,List.nil_append]
      rw [cmQ_upd]
      refine j_toXT 5 [1,2,3,4] [1,0,8,9,10,11,12,13,14,15,16,17,18,19,20,21,22] (by exact fra rfl) rfl rfl rfl rfl (ihk (k + 1,cs1,upd hd k (r4.bo,j + 1,r4.cap),upd cs k r4.cs) (by dsimp only;omega) (by dsimp only;omega))
     ·obtain rfl : k = N:=by omega
      clear ihk
      refine wk 7 cz ?_
      intro h5
      refine j_matCongr (cmQ p m md k rows blocks P (j + 1) 0) 1 rfl (fun t ht=>by rw [cmQ,cmQ,if_pos ht,if_neg (by omega)]) ?_
      exact tw (ih1 cA hd cs)
  ·obtain rfl : j = W:=by omega
   clear ih
   have hcm : cmB p m md rows blocks j P = true:=List.all_eq_true.2 fun t ht=>hs t (List.mem_range.1 ht)
   rw [hcm,if_pos rfl]
   refine wk 7 cz ?_
   intro h2
   refine j_hdlen 1 rfl fun hlen=>?_
   refine j_pubFamL 4 0 0 1 rfl rfl rfl rfl (fun i hi=>by rw [hlen i hi rfl];show ((List.range _).map _).length * 8 ≤ _;rw [List.length_map,List.length_range];split <;> omega) ?_
   simp only [List.take_succ_cons,List.take_zero]
   refine j_pubRb 0 0 rfl rfl (by show N * 24 ≤ 140737488355328;omega) ?_
   simp only [List.eraseIdx_cons_zero,List.eraseIdx_cons_succ]
   rw [show (List.range N).map (cmQ p m md N rows blocks P j 0) = cmR p m md N rows blocks j P from rfl]
   have hcl : (cmR p m md N rows blocks j P).length = N:=by simp [cmR]
   generalize cmR p m md N rows blocks j P = R at *
   subst hcl
   refine j_giv [0] rfl rfl rfl ⟨_,_,rfl,rfl,rfl⟩
end
set_option maxRecDepth 100000
set_option linter.unusedVariables false
set_option linter.unusedSimpArgs false
set_option maxHeartbeats 0
def sxL (n : Nat) : List Nat → Option (List Nat)
 | []=>none
 | a::l=>match sxL n l with
  | some l'=>some (a::l')
  | none=>if a + l.length + 1 = n then none else some ((List.range (l.length + 1)).map fun t=>a + 1 + t)
def rkS (n : Nat) : List Nat → Nat
 | []=>0
 | a::l=>binom (n - 1 - a) (l.length + 1) + rkS n l
def vdS (n : Nat) : List Nat → Prop
 | []=>True
 | a::l=>a + l.length < n ∧ (∀ b ∈ l,a < b) ∧ vdS n l
theorem sx_len {n : Nat} : ∀ {s s' : List Nat},sxL n s = some s' → s'.length = s.length
 | [],_,h=>by cases h
 | a::l,s',h=>by
  rw [sxL] at h
  split at h
  ·rename_i l' h1
   obtain rfl:=Option.some.inj h
   rw [List.length_cons,List.length_cons,sx_len h1]
  ·split at h
   ·cases h
   ·obtain rfl:=Option.some.inj h
    rw [List.length_map,List.length_range,List.length_cons]
theorem rk_run {n : Nat} : ∀ {r b : Nat},b + r ≤ n → rkS n ((List.range r).map fun t=>b + t) + 1 = binom (n - b) r
 | 0,b,h=>by rw [binom_zero];rfl
 | r + 1,b,h=>by
  have ih:=rk_run (n:=n) (r:=r) (b:=b + 1) (by omega)
  rw [List.range_succ_eq_map,List.map_cons,List.map_map,rkS,List.length_map,List.length_range,Nat.add_zero]
  have e : ((fun t=>b + t) ∘ Nat.succ) = fun t=>b + 1 + t:=by funext t;show b + (t + 1) = _;omega
  rw [e,show n - b = (n - b - 1) + 1 by omega,binom_succ,Nat.add_assoc,ih,show n - 1 - (b + 0) = n - b - 1 by omega,show n - (b + 1) = n - b - 1 by omega,Nat.add_comm]
theorem vd_run {n : Nat} : ∀ {r b : Nat},b + r ≤ n → vdS n ((List.range r).map fun t=>b + t)
 | 0,_,_=>trivial
 | r + 1,b,h=>by
  have e : ((fun t=>b + t) ∘ Nat.succ) = fun t=>b + 1 + t:=by funext t;show b + (t + 1) = _;omega
  rw [List.range_succ_eq_map,List.map_cons,List.map_map,vdS,e,List.length_map,List.length_range]
  refine ⟨by omega,fun c hc=>?_,vd_run (by omega)⟩
  obtain ⟨t,_,rfl⟩:=List.mem_map.1 hc
  omega
theorem sx_none {n : Nat} : ∀ {s : List Nat},sxL n s = none → rkS n s = 0
 | [],_=>rfl
 | a::l,h=>by
  rw [sxL] at h
  split at h
  ·cases h
  ·rename_i h1
   split at h
   ·rename_i h2
    rw [rkS,sx_none h1,binom_gt _ _ (by omega)]
   ·cases h
theorem sx_some {n : Nat} : ∀ {s s' : List Nat},vdS n s → sxL n s = some s' → rkS n s' + 1 = rkS n s ∧ vdS n s' ∧ ∀ c,(∀ b ∈ s,c < b) → ∀ b ∈ s',c < b
 | [],_,_,h=>by cases h
 | a::l,s',hv,h=>by
  obtain ⟨v1,v2,v3⟩:=hv
  rw [sxL] at h
  split at h
  ·rename_i l' h1
   obtain rfl:=Option.some.inj h
   obtain ⟨i1,i2,i3⟩:=sx_some v3 h1
   rw [rkS,rkS,sx_len h1]
   refine ⟨by omega,⟨by rw [sx_len h1];exact v1,i3 a v2,i2⟩,fun c hc b hb=>?_⟩
   rcases List.mem_cons.1 hb with rfl | hb
   ·exact hc _ (.head _)
   ·exact i3 c (fun b hb=>hc b (.tail _ hb)) b hb
  ·rename_i h1
   split at h
   ·cases h
   ·rename_i h2
    obtain rfl:=Option.some.inj h
    have:=rk_run (n:=n) (r:=l.length + 1) (b:=a + 1) (by omega)
    rw [rkS,sx_none h1,show n - 1 - a = n - (a + 1) by omega]
    refine ⟨by omega,vd_run (by omega),fun c hc b hb=>?_⟩
    obtain ⟨t,_,rfl⟩:=List.mem_map.1 hb
    have:=hc a (.head _)
    omega
theorem sx_app {n : Nat} {x suf : List Nat} (h : sxL n suf = some x) : ∀ {pre : List Nat},sxL n (pre++suf) = some (pre++x)
 | []=>h
 | a::pre=>by
  rw [List.cons_append,sxL,sx_app h (pre:=pre)];rfl
def enL (n : Nat) : Nat → List Nat → List (List Nat)
 | 0,s=>[s]
 | r + 1,s=>s::(match sxL n s with
  | some s'=>enL n r s'
  | none=>[])
theorem en_len {n : Nat} : ∀ {r : Nat} {s : List Nat},vdS n s → rkS n s = r → (enL n r s).length = r + 1
 | 0,s,_,_=>rfl
 | r + 1,s,hv,h=>by
  rw [enL]
  cases hs : sxL n s with
  | none=>have:=sx_none hs;omega
  | some s' =>
   obtain ⟨h1,h2,_⟩:=sx_some hv hs
   show (enL n r s').length + 1 = _
   rw [en_len h2 (by omega)]
theorem en_head {n r : Nat} {s : List Nat} : (enL n r s)[0]? = some s:=by cases r <;> rfl
theorem en_step {n : Nat} : ∀ {r : Nat} {s : List Nat} {t : Nat} {x : List Nat},vdS n s → rkS n s = r → (enL n r s)[t]? = some x → sxL n x = (enL n r s)[t + 1]? ∧ vdS n x ∧ x.length = s.length
 | 0,s,t,x,hv,h0,h=>by
  cases t with
  | zero =>
   obtain rfl : s = x:=by simpa [enL] using h
   refine ⟨?_,hv,rfl⟩
   cases hs : sxL n s with
   | none=>rfl
   | some s'=>have:=(sx_some hv hs).1;omega
  | succ t=>cases h
 | r + 1,s,t,x,hv,h0,h=>by
  rw [enL] at h ⊢
  cases hs : sxL n s with
  | none=>have:=sx_none hs;omega
  | some s' =>
   rw [hs] at h
   obtain ⟨h1,h2,_⟩:=sx_some hv hs
   cases t with
   | zero =>
    obtain rfl : s = x:=by simpa using h
    exact ⟨by rw [hs];exact en_head.symm,hv,rfl⟩
   | succ t =>
    obtain ⟨i1,i2,i3⟩:=en_step h2 (by omega) (show (enL n r s')[t]? = some x from h)
    exact ⟨i1,i2,i3.trans (sx_len hs)⟩
theorem en_cons {n : Nat} {s : List Nat} (hv : vdS n s) {s' : List Nat} (h : sxL n s = some s') : enL n (rkS n s) s = s::enL n (rkS n s') s':=by
 rw [← (sx_some hv h).1,enL,h]
theorem en_last {n : Nat} {s : List Nat} (h : sxL n s = none) : enL n (rkS n s) s = [s]:=by
 rw [sx_none h];rfl
abbrev subE (n k : Nat) : List (List Nat):=enL n (rkS n (List.range k)) (List.range k)
theorem range_run {k : Nat} : List.range k = (List.range k).map fun t=>0 + t:=by
 rw [show (fun t=>0 + t) = id from funext fun t=>Nat.zero_add t,List.map_id]
theorem sub_vd {n k : Nat} (h : k ≤ n) : vdS n (List.range k):=by rw [range_run];exact vd_run (by omega)
theorem sub_len {n k : Nat} (h : k ≤ n) : (subE n k).length = binom n k:=by
 have h1:=rk_run (n:=n) (r:=k) (b:=0) (by omega)
 rw [← range_run,Nat.sub_zero] at h1
 rw [subE,en_len (sub_vd h) rfl,h1]
theorem vd_lt {n : Nat} : ∀ {s : List Nat},vdS n s → (∀ b ∈ s,b < n) ∧ s.Pairwise (· < ·)
 | [],_=>⟨fun b h=>(List.not_mem_nil h).elim,.nil⟩
 | a::l,h=>by
  obtain ⟨h1,h2,h3⟩:=h
  obtain ⟨i1,i2⟩:=vd_lt h3
  refine ⟨fun b hb=>?_,List.pairwise_cons.2 ⟨h2,i2⟩⟩
  rcases List.mem_cons.1 hb with rfl | hb
  ·omega
  ·exact i1 b hb
theorem binom_mono {n k : Nat} : binom n k ≤ binom (n + 1) k:=by
 cases k with
 | zero=>rw [binom_zero,binom_zero];exact Nat.le_refl _
 | succ k=>rw [binom_succ];omega
theorem binom_mono' {n k : Nat} : ∀ {d : Nat},binom n k ≤ binom (n + d) k
 | 0=>Nat.le_refl _
 | d + 1=>Nat.le_trans binom_mono' (binom_mono (n:=n + d))
open Go Go.Fw
theorem td_set {α : Type} {X s : List α} {j : Nat} {x : α} (hX : X[j]? = some x) (hl : X.length = s.length) : (X.take j++s.drop j).set j x = X.take (j + 1)++s.drop (j + 1):=by
 have hj:=(List.getElem?_eq_some_iff.1 hX).1
 rw [List.set_append_right _ _ (by rw [List.length_take];omega),List.length_take,Nat.min_eq_left (by omega),Nat.sub_self,List.drop_eq_getElem_cons (by omega),List.set_cons_zero,List.take_add_one,hX,Option.toList_some,List.append_assoc]
 rfl
theorem sx_drop {n k v a : Nat} {s : List Nat} (hl : s.length = k) (ha : s[v]? = some a) (hd : sxL n (s.drop (v + 1)) = none) : (a + (k - v) = n → sxL n (s.drop v) = none) ∧ (a + (k - v) ≠ n → sxL n s = some (s.take v++(List.range (k - v)).map fun t=>a + 1 + t)):=by
 have hv:=(List.getElem?_eq_some_iff.1 ha).1
 have e : s.drop v = a::s.drop (v + 1):=by
  rw [List.drop_eq_getElem_cons hv];rw [List.getElem?_eq_getElem hv] at ha;rw [Option.some.inj ha]
 have h1 : (s.drop (v + 1)).length + 1 = k - v:=by rw [List.length_drop];omega
 refine ⟨fun h=>?_,fun h=>?_⟩
 ·rw [e,sxL,hd]
  show (if _ then _ else _) = _
  rw [if_pos (by omega)]
 ·have h2 : sxL n (s.drop v) = some ((List.range (k - v)).map fun t=>a + 1 + t):=by
   rw [e,sxL,hd]
   show (if _ then _ else _) = _
   rw [if_neg (by omega),h1]
  have:=sx_app h2 (pre:=s.take v)
  rwa [List.take_append_drop] at this
theorem S_codewrightref11_Subsets {n k : Nat} (hn : n ≤ 64) (hk : k ≤ n) (hb : binom n k ≤ 65536) : Ctr Tryz.prog 84 [.int .i64 n,.int .i64 k] [] []
  (fun v Φ β=>∃ (pb : Option Addr) (cb : Nat),v = .tuple #[.slice pb (binom n k) cb,.int .i64 0] ∧ Φ = [slF (encSl I64) pb (binom n k) cb ((subE n k).map toI)] ∧ β = []):=by
 refine Ctr_of_j' (F:=F_codewrightref11_Subsets) rfl fun C=>?_
 have c_codewrightref11_Binomial:=S_codewrightref11_Binomial (n:=n) (k:=k) hn
 have hEl:=sub_len hk
 have hEs:=fun {t : Nat} {x : List Nat}=>en_step (n:=n) (r:=rkS n (List.range k)) (s:=List.range k) (t:=t) (x:=x) (sub_vd hk) rfl
 have hE0 : (subE n k)[0]? = some (List.range k):=en_head
 rw [show enL n (rkS n (List.range k)) (List.range k) = subE n k from rfl,List.length_range] at hEs
 generalize subE n k = E at *
 obtain ⟨c,hc⟩ : ∃ c,binom n k = c:=⟨_,rfl⟩
 rw [hc] at hb hEl c_codewrightref11_Binomial ⊢
 refine wk 28 (ct @c_codewrightref11_Binomial cz) ?_
 intro h1 h2 h3 b1 b2
 (apply j_rowlit (E:=encSl I64) (n:=0) (cs:=[]) [] [] 1 (fun w A hG=>allrd_nil);(· rfl);(· rfl);(· rfl);(· rfl);(· decide))
 rw [show natCells .i64 (List.replicate k 0) = intCells .i64 ((toI (List.range k)).take 0++List.replicate (k - 0) 0) by simp [natCells,intCells]]
 refine j_loopG (X:=Nat) [0,1,4,5,6,8,9] [0] (fun j=>[(10,.int .i64 (j : Int))]) (fun j=>(some b2,3,intCells .i64 ((toI (List.range k)).take j++List.replicate (k - j) 0))::_) (fun _=>[]) (fun j=>j ≤ k) (fun j=>k - j) 0 [] rfl rfl rfl (Nat.zero_le _) (by repeat (first | exact Fr.sub_nil _ | refine Fr.sub_cons rfl ?_)) rfl rfl ?_
 rintro j hj ih
 simp only [List.cons_append,List.nil_append] at hj ih ⊢
 have hTl : (toI (List.range k)).length = k:=by rw [toI,List.length_map,List.length_range]
 by_cases hjk : j < k
 ·have hT : (toI (List.range k))[j]? = some (j : Int):=toI_at (List.getElem?_range hjk)
  have ih':=ih (j + 1) (by omega) (by omega)
  rw [← take_set hT hjk] at ih'
  have hln : ((toI (List.range k)).take j++List.replicate (k - j) 0).length = k:=by rw [List.length_append,List.length_take,List.length_replicate];omega
  generalize (toI (List.range k)).take j++List.replicate (k - j) 0 = L at *
  clear ih
  refine wk 11 cz ?_
  intro h4
  exact tw (ih')
 ·obtain rfl : j = k:=by omega
  rw [Nat.sub_self,List.replicate_zero,List.append_nil,List.take_of_length_le (by omega)]
  clear ih
  refine wk 7 cz ?_
  intro h4
  refine j_loopG (X:=Nat × List Nat × Row) [0,1,4,5,6,9] [0] (fun z=>[(11,.int .i64 (z.1 : Int)),(8,.slice (ad z.2.2.bo) z.1 z.2.2.cap)]) (fun z=>(some b2,3,intCells .i64 (toI z.2.1))::(z.2.2.bo,22,z.2.2.cs)::_) (fun z=>[rowF (encSl I64) z.2.2 z.1 ((E.map toI).take z.1)]) (fun z=>z.1 ≤ c ∧ z.2.1.length = j ∧ (z.1 < c → E[z.1]? = some z.2.1)) (fun z=>c - z.1) (0,List.range j,⟨some b1,0,[]⟩) [0] rfl rfl rfl ⟨Nat.zero_le _,List.length_range,fun _=>hE0⟩ (by repeat (first | exact Fr.sub_nil _ | refine Fr.sub_cons rfl ?_)) rfl rfl ?_
  rintro ⟨t,s,r⟩ ⟨ht,hs,he⟩ ih
  simp only [List.cons_append,List.nil_append] at ht hs he ih ⊢
  by_cases htc : t < c
  ·obtain ⟨hx1,hx2,hx3⟩:=hEs (he htc)
   have hET : (E.map toI)[t]? = some (toI s):=by rw [List.getElem?_map,he htc];rfl
   have hsl : (toI s).length = j:=by rw [toI_len,hs]
   have hsb:=(vd_lt hx2).1
   have hsr : ∀ u ∈ toI s,InR .i64 u:=fun u hu=>by
    obtain ⟨a,ha,rfl⟩:=List.mem_map.1 hu
    have:=hsb a ha
    simp only [InR];omega
   have ih1:=fun s r (hs : s.length = j) (he : t + 1 < c → E[t + 1]? = some s)=>ih (t + 1,s,r) (by dsimp only;omega) (by dsimp only;exact ⟨by omega,hs,he⟩)
   dsimp only at ih1
   rw [List.take_add_one (l:=E.map toI),hET,Option.toList_some] at ih1
   clear ih
   refine wk 8 cz ?_
   intro h5 b3
   (apply j_rowlit (E:=encInt IntKind.i64 8) (n:=0) (cs:=[]) [] [] 0 (fun w A hG=>allrd_nil);(· rfl);(· rfl);(· rfl);(· rfl);(· decide))
   refine j_step rfl (x_appO 0 1 0 rfl rfl rfl rfl rfl (by first | rfl | omega | assumption) (by first | assumption | (intro u hu;simp only [InR];omega)) sl22 zo22e rfl (by omega) _ by22e (by omega) fun r1=>?_)
   refine wk 1 cz ?_
   intro b4
   refine j_pubR 1 0 rfl rfl (by show (0 + j) * 8 ≤ 140737488355328;omega) ?_
   refine j_step rfl (x_appR (z:=[]++toI s) 2 0 3 rfl rfl rfl rfl rfl sl25 zo25e rfl (fun w A hG=>(rd_of_slF (hG _ (fact_mem (n:=0) rfl)))) (by omega) _ by25e (by omega) fun r2=>?_)
   refine wk 4 cz ?_
   simp only [List.nil_append]
   refine j_loopG (X:=Nat) [0,1,4,5,6,8,9,11,44,45,46,49,50,51,52,53,54,55,56] [0,1,2,3,4,5] (fun u=>[(12,.int .i64 ((u : Int) - 1))]) (fun _=>_) (fun _=>[]) (fun u=>u ≤ j ∧ sxL n (s.drop u) = none) (fun u=>u) j [] rfl rfl rfl ⟨Nat.le_refl _,by rw [List.drop_of_length_le (by omega)];rfl⟩ (by repeat (first | exact Fr.sub_nil _ | refine Fr.sub_cons rfl ?_)) rfl rfl ?_
   rintro u ⟨hu,hsu⟩ ihu
   simp only [List.cons_append,List.nil_append] at hu hsu ihu ⊢
   rcases Nat.eq_zero_or_pos u with hu0 | hu0
   ·subst hu0
    rw [List.drop_zero] at hsu
    rw [hsu] at hx1
    clear ihu
    refine wk 11 cz ?_
    intro h6
    refine j_toX [2,0] [0,5] (by exact fra rfl) rfl rfl rfl (ih1 s r2 hs fun h=>by
     have:=(List.getElem?_eq_some_iff.2 ⟨show t + 1 < E.length by omega,rfl⟩).symm.trans hx1.symm
     cases this)
   ·obtain ⟨v,rfl⟩ : ∃ v,u = v + 1:=⟨u - 1,by omega⟩
    rw [show (((v + 1 : Nat) : Int) - 1) = (v : Int) by omega]
    obtain ⟨a,ha⟩ : ∃ a,s[v]? = some a:=⟨_,List.getElem?_eq_getElem (by omega)⟩
    have at_a:=toI_at ha
    have haN:=hsb a (List.mem_of_getElem? ha)
    obtain ⟨hd1,hd2⟩:=sx_drop hs ha hsu
    by_cases hav : a + (j - v) = n
    ·have ihu':=ihu v (Nat.lt_succ_self v) ⟨by omega,hd1 hav⟩
     clear ihu
     refine wk 4 cz ?_
     intro h6
     refine j_gstep rfl rfl (x_bld_int 2 rfl rfl ld3 (by first | omega | (simp;omega)) fun z1 hz1=>?_)
     obtain rfl : _ = z1:=Option.some.inj (at_a.symm.trans hz1)
     refine wk 6 cz ?_
     intro h7
     exact tw (ihu')
    ·have hX:=hd2 hav
     clear ihu
     have hXl:=sx_len hX
     obtain ⟨X,hXe⟩ : ∃ X,s.take v++(List.range (j - v)).map (fun t=>a + 1 + t) = X:=⟨_,rfl⟩
     have hXa : X[v]? = some (a + 1):=by
      rw [← hXe,List.getElem?_append_right (by rw [List.length_take];omega),List.length_take,Nat.min_eq_left (by omega),Nat.sub_self,List.getElem?_map,List.getElem?_range (by omega)];rfl
     have hXs : ∀ i b,v ≤ i → X[i]? = some b → i + 1 < j → X[i + 1]? = some (b + 1):=fun i b hi hb hij=>by
      have e : ∀ q,v ≤ q → q < j → X[q]? = some (a + 1 + (q - v)):=fun q h1 h2=>by
       rw [← hXe,List.getElem?_append_right (by rw [List.length_take];omega),List.length_take,Nat.min_eq_left (by omega),List.getElem?_map,List.getElem?_range (by omega)];rfl
      rw [e i hi (by omega)] at hb
      rw [e (i + 1) (by omega) hij,← Option.some.inj hb]
      congr 1;omega
     have hXt : X.take v = s.take v:=by rw [← hXe,List.take_append_of_le_length (by rw [List.length_take];omega),List.take_take,Nat.min_self]
     rw [hXe] at hX hXl
     rw [hX] at hx1
     have hXl2 : (toI X).length = (toI s).length:=by rw [toI_len,toI_len,hXl]
     have hset : (toI s).set v ((a : Int) + 1) = (toI X).take (v + 1)++(toI s).drop (v + 1):=by
      have h1:=td_set (toI_at hXa) hXl2
      rw [show (toI X).take v = (toI s).take v by rw [toI,toI,← List.map_take,← List.map_take,hXt],List.take_append_drop] at h1
      exact h1
     refine wk 4 cz ?_
     intro h6
     refine j_gstep rfl rfl (x_bld_int 2 rfl rfl ld3 (by first | omega | (simp;omega)) fun z1 hz1=>?_)
     obtain rfl : _ = z1:=Option.some.inj (at_a.symm.trans hz1)
     refine wk 10 cz ?_
     intro h7 h8
     refine j_step rfl (x_bld_int 2 rfl rfl ld3 (by first | omega | (simp;omega)) fun z1 hz2=>?_)
     obtain rfl : _ = z1:=Option.some.inj (at_a.symm.trans hz2)
     refine wk 6 cz ?_
     rw [hset]
     simp only [setB,List.eraseIdx_cons_zero,List.eraseIdx_cons_succ,Nat.zero_add]
     refine j_loopG (X:=Nat) [0,1,4,5,6,8,9,11,12,44,45,46,49,50,51,52,53,54,55,56,57,58,59,60,61,62,63,64,65,66,67,68,69,70,73,74,75,76,77,78,79,80,81,82] [0,1,2,3,4,5] (fun i=>[(13,.int .i64 (i : Int))]) (fun i=>_::_::(some b2,3,intCells .i64 ((toI X).take i++(toI s).drop i))::_) (fun _=>[]) (fun i=>v + 1 ≤ i ∧ i ≤ j) (fun i=>j - i) (v + 1) [] rfl rfl rfl ⟨Nat.le_refl _,by omega⟩ (by repeat (first | exact Fr.sub_nil _ | refine Fr.sub_cons rfl ?_)) rfl rfl ?_
     rintro i ⟨hi1,hi2⟩ ihi
     simp only [List.cons_append,List.nil_append] at ihi ⊢
     by_cases hij : i < j
     ·obtain ⟨q,rfl⟩ : ∃ q,i = q + 1:=⟨i - 1,by omega⟩
      obtain ⟨b,hb⟩ : ∃ b,X[q]? = some b:=⟨_,List.getElem?_eq_getElem (by omega)⟩
      have hb2:=hXs q b (by omega) hb hij
      have ihi':=ihi (q + 1 + 1) (by omega) ⟨by omega,by omega⟩
      rw [← td_set (toI_at hb2) hXl2] at ihi'
      have at_b : ((toI X).take (q + 1)++(toI s).drop (q + 1))[q]? = some (b : Int):=by
       rw [List.getElem?_append_left (by rw [List.length_take];omega),List.getElem?_take,if_pos (by omega)];exact toI_at hb
      have hLl : ((toI X).take (q + 1)++(toI s).drop (q + 1)).length = j:=by rw [List.length_append,List.length_take,List.length_drop];omega
      have hbN : b < n:=(vd_lt (sx_some hx2 hX).2.1).1 b (List.mem_of_getElem? hb)
      generalize (toI X).take (q + 1)++(toI s).drop (q + 1) = L at *
      clear ihi
      refine wk 7 cz ?_
      intro h9
      refine j_step rfl (x_bld_int 2 rfl rfl ld3 (by first | omega | (simp;omega)) fun z1 hz3=>?_)
      obtain rfl : _ = z1:=Option.some.inj (at_b.symm.trans hz3)
      refine wk 6 cz ?_
      exact tw (ihi')
     ·obtain rfl : i = j:=by omega
      rw [List.take_of_length_le (by omega),List.drop_of_length_le (by omega),List.append_nil]
      clear ihi
      refine wk 7 cz ?_
      intro h9
      refine j_toX [2,0] [0,5] (by exact fra rfl) rfl rfl rfl (ih1 X r2 (by omega) fun h=>hx1.symm)
  ·obtain rfl : t = c:=by omega
   clear ih
   rw [List.take_of_length_le (by rw [List.length_map];omega)]
   refine wk 7 cz ?_
   intro h5
   refine j_pubR 1 0 rfl rfl (by show t * 24 ≤ 140737488355328;omega) ?_
   simp only [List.eraseIdx_cons_zero,List.eraseIdx_cons_succ]
   refine j_giv [0] rfl rfl rfl ⟨_,_,rfl,rfl,rfl⟩
theorem sorted_eq {l l' : List Nat} (h : l.Pairwise (· < ·)) (h' : l'.Pairwise (· < ·)) (he : ∀ x,x ∈ l ↔ x ∈ l') : l = l' :=
 ((List.perm_ext_iff_of_nodup (h.imp fun h=>Nat.ne_of_lt h) (h'.imp fun h=>Nat.ne_of_lt h)).2 he).eq_of_pairwise (fun a b _ _ h1 h2=>absurd h1 (by omega)) h h'
theorem filt_self {n : Nat} {s : List Nat} (h : s.Pairwise (· < ·)) (hn : ∀ b ∈ s,b < n) : ((List.range n).filter fun i=>decide (i ∈ s)) = s :=
 sorted_eq (List.pairwise_lt_range.filter _) h fun x=>by
  rw [List.mem_filter,List.mem_range,decide_eq_true_eq]
  exact ⟨fun h=>h.2,fun h=>⟨hn x h,h⟩⟩
def prL (blocks : List (List Int)) : List Nat:=(List.range blocks.length).filter fun b=>decide (0 < (row0 blocks b).length)
abbrev outC (pres s : List Nat) : List Nat:=s.map fun i=>pres.getD i 0
abbrev knC (pres s : List Nat) : List Nat:=((List.range pres.length).filter fun i=>!decide (i ∈ s)).map fun i=>pres.getD i 0
noncomputable def deK (p m : Nat) (md : List Int) (rows blocks : List (List Int)) (W : Nat) (k : Nat) : Option (List Nat):=(subE (prL blocks).length k).find? fun s=>cmB p m md rows blocks W (knC (prL blocks) s)
def deA (f : Nat → Option (List Nat)) : Nat → Nat → Option (List Nat)
 | 0,_=>none
 | c + 1,k=>match f k with
  | some s=>some s
  | none=>deA f c (k + 1)
noncomputable def deR (p m : Nat) (md : List Int) (N : Nat) (rows blocks : List (List Int)) (dd : Int) (W : Nat) : Option (List Nat) :=
 if dd ≤ (N : Int) - (prL blocks).length then none else deA (deK p m md rows blocks W) (((dd - 1 - ((N : Int) - (prL blocks).length)) / 2).toNat + 1) 0
abbrev DeQ (R : List (List Int)) (w : List Int) (e : Int) : Value → List Fact → List Blk → Prop:=fun v Φ β=>∃ (pb : Option Addr) (cb : Nat) (pw : Option Addr) (cw : Nat),v = .tuple #[.slice pb R.length cb,.slice pw w.length cw,.int .i64 e] ∧ Φ = [slF (encSl I64) pb R.length cb R,slF I64 pw w.length cw w] ∧ β = []
noncomputable def deO (p m : Nat) (md : List Int) (N : Nat) (rows blocks : List (List Int)) (W : Nat) : Option (List Nat) → Value → List Fact → List Blk → Prop
 | some s=>DeQ (cmR p m md N rows blocks W (knC (prL blocks) s)) (toI (outC (prL blocks) s)) 0
 | none=>DeQ [] [] 19
theorem pr_lt {blocks : List (List Int)} {b : Nat} (h : b ∈ prL blocks) : b < blocks.length ∧ 0 < (row0 blocks b).length:=by
 obtain ⟨h1,h2⟩:=List.mem_filter.1 h
 exact ⟨List.mem_range.1 h1,of_decide_eq_true h2⟩
theorem pr_len {blocks : List (List Int)} : (prL blocks).length ≤ blocks.length:=by
 have:=List.length_filter_le (fun b=>decide (0 < (row0 blocks b).length)) (List.range blocks.length)
 rwa [List.length_range] at this
theorem toI_app {l k : List Nat} : toI (l++k) = toI l++toI k:=List.map_append
theorem range_filt {P : Nat → Bool} {i : Nat} : (List.range (i + 1)).filter P = (List.range i).filter P++(if P i = true then [i] else []):=by
 rw [List.range_succ,List.filter_append,List.filter_cons];rfl
section
variable {p m N n c nm cm nt ct nr cr nb cb W : Nat} {pm ps pt pr pb : Option Addr} {dd : Int} {md : List Int} {rows blocks : List (List Int)}
theorem S_store_decode (CC : Cok p m md N rows) (hd1 : 1 ≤ dd) (hd2 : dd ≤ N + 1) (hW1 : 1 ≤ W) (hW : W ≤ 16) (hBl : blocks.length = N) (hB : ∀ b,b < N → row0 blocks b = [] ∨ Wd (p ^ m) W (row0 blocks b)) :
  Ctr Tryz.prog 49 [.agg #[.int .i64 p,.int .i64 m,.slice pm nm cm,.int .i64 N,.slice ps n c,.int .i64 dd,.slice pt nt ct,.slice pr nr cr,.int .i64 W],.slice pb nb cb] [] [slF I64 pm nm cm md,slF (encSl I64) ps n c rows,slF (encSl I64) pb nb cb blocks]
   (deO p m md N rows blocks W (deR p m md N rows blocks dd W)):=by
 refine Ctr_of_j' (F:=F_store_decode) rfl fun C=>?_
 refine j_len 1 rfl fun hn hb1 _=>?_
 subst hn
 refine j_len 2 rfl fun hn hb2 _=>?_
 subst hn
 subst hBl
 have h64:=CC.n64
 have hpl:=pr_len (blocks:=blocks)
 refine wk 10 cz ?_
 intro b1
 refine j_row0 I64 3 ?_
 refine j_loopG (X:=Nat × Row × List Nat) [1,2,4,5,6,22,23] [0,1,2,3] (fun z=>[(24,.int .i64 (z.1 : Int)),(7,.slice (ad z.2.1.bo) z.2.2.length z.2.1.cap)]) (fun z=>(z.2.1.bo,3,z.2.1.cs)::_) (fun z=>[rowF I64 z.2.1 z.2.2.length (toI z.2.2)]) (fun z=>z.1 ≤ blocks.length ∧ z.2.2.length ≤ z.1 ∧ z.2.2 = (List.range z.1).filter fun b=>decide (0 < (row0 blocks b).length)) (fun z=>blocks.length - z.1) (0,⟨none,0,[]⟩,[]) [0] rfl rfl rfl ⟨Nat.zero_le _,Nat.le_refl _,rfl⟩ (by repeat (first | exact Fr.sub_nil _ | refine Fr.sub_cons rfl ?_)) rfl rfl ?_
 rintro ⟨i,r,y⟩ ⟨hi,hyl,hy⟩ ih
 simp only [List.cons_append,List.nil_append] at hi hyl hy ih ⊢
 by_cases hil : i < blocks.length
 ·have at_u : blocks[i]? = some (row0 blocks i):=by rw [row0,List.getD_eq_getElem?_getD,List.getElem?_eq_getElem hil];rfl
  by_cases h0 : 0 < (row0 blocks i).length
  ·have ih1:=fun r=>ih (i + 1,r,y++[i]) (by dsimp only;omega) (by dsimp only;exact ⟨by omega,by rw [List.length_append];exact Nat.add_le_add_right hyl 1,by rw [range_filt,← hy,if_pos (decide_eq_true h0)]⟩)
   dsimp only at ih1
   rw [List.length_append,List.length_singleton,toI_app,show toI [i] = [(i : Int)] from rfl] at ih1
   clear ih
   refine wk 18 cz ?_
   intro h1 b2 o1 hz1 pa1 ca1 h2 b3
   refine j_step rfl (x_appR (z:=(↑i : Int)) 1 0 2 rfl rfl rfl rfl rfl sl22 zo22e rfl (fun w A hG=>(rd_int (by first | (simp only [InR];omega) | (simp [InR];done)))) (by omega) _ by22e (by omega) fun r1=>?_)
   refine wk 4 cz ?_
   refine j_toM [true,false,true] [0,4,5,6,7] (by exact fra rfl) rfl rfl (ih1 r1)
  ·have ih1:=ih (i + 1,r,y) (by dsimp only;omega) (by dsimp only;exact ⟨by omega,by omega,by rw [range_filt,← hy,if_neg (by simpa using h0),List.append_nil]⟩)
   dsimp only at ih1
   clear ih
   refine wk 18 cz ?_
   intro h1 b2 o1 hz1 pa1 ca1 h2
   exact tw (ih1)
 ·obtain rfl : i = blocks.length:=by omega
  clear ih
  obtain rfl : y = prL blocks:=hy
  refine j_pubR 0 0 rfl rfl (by show (prL blocks).length * 8 ≤ 140737488355328;omega) ?_
  simp only [List.eraseIdx_cons_zero,List.eraseIdx_cons_succ]
  have hprs : (prL blocks).Pairwise (· < ·):=List.pairwise_lt_range.filter _
  have hprm:=fun {b}=>pr_lt (blocks:=blocks) (b:=b)
  obtain ⟨O,hO⟩ : ∃ O,deR p m md blocks.length rows blocks dd W = O:=⟨_,rfl⟩
  rw [hO]
  rw [deR] at hO
  obtain ⟨pres,hpr⟩ : ∃ q,prL blocks = q:=⟨_,rfl⟩
  have hdK : ∀ k,deK p m md rows blocks W k = (subE pres.length k).find? fun s=>cmB p m md rows blocks W (knC pres s):=fun k=>by rw [deK,hpr]
  have hO2 : ∀ s,deO p m md blocks.length rows blocks W (some s) = DeQ (cmR p m md blocks.length rows blocks W (knC pres s)) (toI (outC pres s)) 0:=fun s=>by rw [deO,hpr]
  rw [hpr] at hO hprs hpl ⊢
  have hpm : ∀ b ∈ pres,b < blocks.length ∧ Wd (p ^ m) W (row0 blocks b):=fun b hb=>by
   rw [← hpr] at hb
   obtain ⟨h1,h2⟩:=pr_lt hb
   rcases hB b h1 with h | h
   ·rw [h] at h2;cases h2
   ·exact ⟨h1,h⟩
  clear hpr hprm hB
  have hpi : (toI pres).length = pres.length:=toI_len _
  by_cases hlo : dd ≤ (blocks.length : Int) - pres.length
  ·rw [if_pos hlo] at hO
   subst hO
   rw [deO]
   refine j_add (slF (encSl I64) none 0 0 []) (fun w A _=>slF_nil _ w A none 0) ?_
   refine j_add (slF I64 none 0 0 []) (fun w A _=>slF_nil _ w A none 0) ?_
   refine wk 21 cz ?_
   intro h1 h2
   refine j_giv [1,0] rfl rfl rfl ⟨_,_,_,_,rfl,rfl,rfl⟩
  ·rw [if_neg hlo] at hO
   obtain ⟨K,hK⟩:=Int.eq_ofNat_of_zero_le (show 0 ≤ (dd - 1 - ((blocks.length : Int) - pres.length)) / 2 by omega)
   rw [hK,Int.toNat_natCast] at hO
   have hKn : K ≤ pres.length:=by omega
   refine wk 21 cz ?_
   intro h1 h2
   refine j_loopG (X:=Nat) [1,2,7,10] [0,1,2,3,4,5] (fun k=>[(11,.int .i64 (k : Int))]) (fun _=>_) (fun _=>[]) (fun k=>k ≤ K + 1 ∧ deA (deK p m md rows blocks W) (K + 1 - k) k = O) (fun k=>K + 1 - k) 0 [] rfl rfl rfl ⟨Nat.zero_le _,hO⟩ (by repeat (first | exact Fr.sub_nil _ | refine Fr.sub_cons rfl ?_)) rfl rfl ?_
   rintro k ⟨hk,hg⟩ ihk
   simp only [List.cons_append,List.nil_append] at hk hg ihk ⊢
   by_cases hkK : k ≤ K
   ·rw [show K + 1 - k = (K - k) + 1 by omega,deA] at hg
    have hkn : k ≤ pres.length:=by omega
    have hTl : (toI (List.range k)).length = k:=by rw [toI,List.length_map,List.length_range]
    refine wk 16 cz ?_
    intro h3 b2
    rw [show natCells .i64 (List.replicate k 0) = intCells .i64 ((toI (List.range k)).take 0++List.replicate (k - 0) 0) by simp [natCells,intCells]]
    refine j_loopG (X:=Nat) [1,2,7,10,11,12,47,48,49,50,51,52,53,54,57,58,59,60] [0,1,2,3,4,5] (fun j=>[(61,.int .i64 (j : Int))]) (fun j=>(some b2,3,intCells .i64 ((toI (List.range k)).take j++List.replicate (k - j) 0))::_) (fun _=>[]) (fun j=>j ≤ k) (fun j=>k - j) 0 [] rfl rfl rfl (Nat.zero_le _) (by repeat (first | exact Fr.sub_nil _ | refine Fr.sub_cons rfl ?_)) rfl rfl ?_
    rintro j hj ihj
    simp only [List.cons_append,List.nil_append] at hj ihj ⊢
    by_cases hjk : j < k
    ·have hT : (toI (List.range k))[j]? = some (j : Int):=toI_at (List.getElem?_range hjk)
     have ih':=ihj (j + 1) (by omega) (by omega)
     rw [← take_set hT hjk] at ih'
     have hln : ((toI (List.range k)).take j++List.replicate (k - j) 0).length = k:=by rw [List.length_append,List.length_take,List.length_replicate];omega
     generalize (toI (List.range k)).take j++List.replicate (k - j) 0 = L at *
     clear ihj ihk
     refine wk 13 cz ?_
     intro h4
     exact tw (ih')
    ·obtain rfl : j = k:=by omega
     rw [Nat.sub_self,List.replicate_zero,List.append_nil,List.take_of_length_le (by omega)]
     clear ihj
     have ih1:=ihk (j + 1) (by omega)
     clear ihk
     rw [hdK] at hg
     refine wk 5 cz ?_
     intro h4
     refine j_loopG (X:=List Nat) [1,2,7,10,11,12,47,48,49,50,51,52,53,54,57,58,59,60,61,62] [0,1,2,3,4,5] (fun _=>[]) (fun s=>(some b2,3,intCells .i64 (toI s))::_) (fun _=>[]) (fun s=>vdS pres.length s ∧ s.length = j ∧ (subE pres.length j).find? (fun s=>cmB p m md rows blocks W (knC pres s)) = (enL pres.length (rkS pres.length s) s).find? fun s=>cmB p m md rows blocks W (knC pres s)) (fun s=>rkS pres.length s) (List.range j) [] rfl rfl rfl ⟨sub_vd hkn,List.length_range,rfl⟩ (by repeat (first | exact Fr.sub_nil _ | refine Fr.sub_cons rfl ?_)) rfl rfl ?_
     rintro s ⟨hv,hs,hf⟩ ihs
     simp only [List.cons_append,List.nil_append] at hv hs hf ihs ⊢
     have hsl : (toI s).length = j:=by rw [toI_len,hs]
     obtain ⟨hsb,hsp⟩:=vd_lt hv
     have hsr : ∀ u ∈ toI s,InR .i64 u:=fun u hu=>by
      obtain ⟨a,ha,rfl⟩:=List.mem_map.1 hu
      have:=hsb a ha
      simp only [InR];omega
     refine wk 7 cz ?_
     refine j_row0 I64 3 ?_
     refine j_row0 I64 3 ?_
     refine j_rowInt 2 rfl hsl.symm hsr (by omega) ?_
     refine j_loopG (X:=Nat × Row × Row × List Nat × List Nat) [1,2,7,10,11,12,47,48,49,50,51,52,53,54,57,58,59,60,61,62,69,70] [0,1,2,3,4,5,6,7,8] (fun z=>[(71,.int .i64 (z.1 : Int)),(14,.slice (ad z.2.1.bo) z.2.2.2.1.length z.2.1.cap),(15,.slice (ad z.2.2.1.bo) z.2.2.2.2.length z.2.2.1.cap)])
      (fun z=>(z.2.1.bo,3,z.2.1.cs)::(z.2.2.1.bo,3,z.2.2.1.cs)::_) (fun z=>[rowF I64 z.2.1 z.2.2.2.1.length (toI z.2.2.2.1),rowF I64 z.2.2.1 z.2.2.2.2.length (toI z.2.2.2.2)])
      (fun z=>z.1 ≤ pres.length ∧ z.2.2.2.1 = ((List.range z.1).filter fun i=>!decide (i ∈ s)).map (fun i=>pres.getD i 0) ∧ z.2.2.2.2 = ((List.range z.1).filter fun i=>decide (i ∈ s)).map fun i=>pres.getD i 0) (fun z=>pres.length - z.1) (0,⟨none,0,[]⟩,⟨none,0,[]⟩,[],[]) [1,2] rfl rfl rfl ⟨Nat.zero_le _,rfl,rfl⟩ (by repeat (first | exact Fr.sub_nil _ | refine Fr.sub_cons rfl ?_)) rfl rfl ?_
     rintro ⟨i,rk,ro,y1,y2⟩ ⟨hi,hy1,hy2⟩ ihi
     simp only [List.cons_append,List.nil_append] at hi hy1 hy2 ihi ⊢
     have hl1 : y1.length ≤ i:=by
      have:=List.length_filter_le (fun i=>!decide (i ∈ s)) (List.range i)
      rw [hy1,List.length_map];rwa [List.length_range] at this
     have hl2 : y2.length ≤ i:=by
      have:=List.length_filter_le (fun i=>decide (i ∈ s)) (List.range i)
      rw [hy2,List.length_map];rwa [List.length_range] at this
     by_cases hil : i < pres.length
     ·have hb : pres[i]? = some (pres.getD i 0):=by rw [List.getD_eq_getElem?_getD,List.getElem?_eq_getElem hil];rfl
      have at_b:=toI_at hb
      have hbN:=(hpm _ (List.mem_of_getElem? hb)).1
      have hmem : ((i : Int) ∈ toI s) ↔ i ∈ s:=by
       rw [toI,List.mem_map]
       exact ⟨fun ⟨a, ha, e⟩ => by have : a = i := by omega
                                   exact this ▸ ha, fun h => ⟨i, h, rfl⟩⟩
      have hcon : ∀ {res : Bool},decide ((i : Int) ∈ toI s) = res → Ctr Tryz.prog 81 [.slice (some ⟨b2,0,none⟩) j j,.int .i64 i] [(some b2,3,intCells .i64 (toI s))] [rowF I64 ⟨some b2,j,intCells .i64 (toI s)⟩ j (toI s)] (fun v Φ β=>v = .bool res ∧ Φ = [rowF I64 ⟨some b2,j,intCells .i64 (toI s)⟩ j (toI s)] ∧ β = [(some b2,3,intCells .i64 (toI s))]):=fun h=>(S_slices_Contains___int_int_ (pl:=some ⟨b2,0,none⟩) (nl:=j) (cl:=j) (l:=toI s) (x:=(i : Int)) h).lend (e:=3) (r:=⟨some b2,j,intCells .i64 (toI s)⟩) (by show j * 8 ≤ 140737488355328;omega)
      by_cases his : i ∈ s
      ·have c_slices_Contains___int_int_:=hcon (decide_eq_true (hmem.2 his))
       have ih2:=fun ro=>ihi (i + 1,rk,ro,y1,y2++[pres.getD i 0]) (by dsimp only;omega) (by dsimp only;refine ⟨by omega,?_,?_⟩ <;> rw [range_filt,List.map_append] <;> simp [his,hy1,hy2])
       dsimp only at ih2
       rw [List.length_append,List.length_singleton,toI_app,show toI [pres.getD i 0] = [((pres.getD i 0 : Nat) : Int)] from rfl] at ih2
       clear ihi ihs
       refine wk 6 cz ?_
       intro h5
       refine j_rowB 6 rfl (by omega) fun b3 cap1 cs1 hr1=>?_
       subst hr1
       dsimp only
       refine wk 1 cz ?_
       intro b4 o1 hz1
       refine j_step rfl (x_ld_int 0 rfl rfl ld3 fun ⟨r1,r2⟩=>?_)
       refine wk 3 cz ?_
       refine j_step rfl (x_callB 2 [3] rfl rfl (c_slices_Contains___int_int_) rfl ?_)
       rintro _ _ _ ⟨rfl,rfl,rfl⟩
       simp only [List.cons_append,List.nil_append]
       refine wk 5 cz ?_
       intro b5
       refine j_step rfl (x_appR (z:=(↑(pres.getD i 0) : Int)) 3 0 3 rfl rfl rfl rfl rfl sl22 zo22e rfl (fun w A hG=>(rd_int (by first | (simp only [InR];omega) | (simp [InR];done)))) (by omega) _ by22e (by omega) fun r3=>?_)
       refine wk 4 cz ?_
       refine j_toX [3,0,2,4] [3,0,1,6,6,8,9,6,11,12,13] (by exact fra rfl) rfl rfl rfl (ih2 r3)
      ·have c_slices_Contains___int_int_:=hcon (decide_eq_false (mt hmem.1 his))
       have ih2:=fun rk=>ihi (i + 1,rk,ro,y1++[pres.getD i 0],y2) (by dsimp only;omega) (by dsimp only;refine ⟨by omega,?_,?_⟩ <;> rw [range_filt,List.map_append] <;> simp [his,hy1,hy2])
       dsimp only at ih2
       rw [List.length_append,List.length_singleton,toI_app,show toI [pres.getD i 0] = [((pres.getD i 0 : Nat) : Int)] from rfl] at ih2
       clear ihi ihs
       refine wk 6 cz ?_
       intro h5
       refine j_rowB 6 rfl (by omega) fun b3 cap1 cs1 hr1=>?_
       subst hr1
       dsimp only
       refine wk 1 cz ?_
       intro b4 o1 hz1
       refine j_step rfl (x_ld_int 0 rfl rfl ld3 fun ⟨r1,r2⟩=>?_)
       refine wk 3 cz ?_
       refine j_step rfl (x_callB 2 [3] rfl rfl (c_slices_Contains___int_int_) rfl ?_)
       rintro _ _ _ ⟨rfl,rfl,rfl⟩
       simp only [List.cons_append,List.nil_append]
       refine wk 5 cz ?_
       intro b5
       refine j_step rfl (x_appR (z:=(↑(pres.getD i 0) : Int)) 2 0 2 rfl rfl rfl rfl rfl sl22 zo22e rfl (fun w A hG=>(rd_int (by first | (simp only [InR];omega) | (simp [InR];done)))) (by omega) _ by22e (by omega) fun r3=>?_)
       refine wk 4 cz ?_
       refine j_toX [0,3,2,4] [0,4,1,6,6,8,9,6,11,12,13] (by exact fra rfl) rfl rfl rfl (ih2 r3)
     ·obtain rfl : i = pres.length:=by omega
      clear ihi
      rw [filt_self hsp hsb] at hy2
      have hy1' : y1 = knC pres s:=hy1
      have hy2' : y2 = outC pres s:=hy2
      have hyB : ∀ b ∈ y1,b < blocks.length ∧ b < blocks.length ∧ Wd (p ^ m) W (row0 blocks b):=fun b hb=>by
       rw [hy1] at hb
       obtain ⟨a,ha,rfl⟩:=List.mem_map.1 hb
       have h1:=List.mem_range.1 (List.mem_filter.1 ha).1
       have h2 : pres.getD a 0 ∈ pres:=by rw [List.getD_eq_getElem?_getD,List.getElem?_eq_getElem h1];exact List.getElem_mem h1
       exact ⟨(hpm _ h2).1,(hpm _ h2).1,(hpm _ h2).2⟩
      refine j_pubR 0 0 rfl rfl (by show y1.length * 8 ≤ 140737488355328;omega) ?_
      simp only [List.eraseIdx_cons_zero,List.eraseIdx_cons_succ]
      refine j_pubR 0 2 rfl rfl (by show y2.length * 8 ≤ 140737488355328;omega) ?_
      simp only [List.eraseIdx_cons_zero,List.eraseIdx_cons_succ]
      have c_store_complete:=fun {n c nm cm nt ct nr cr nb cb nk ck : Nat} {pm ps pt pr pb pk : Option Addr}=>S_store_complete (n:=n) (c:=c) (nm:=nm) (cm:=cm) (nt:=nt) (ct:=ct) (nr:=nr) (cr:=cr) (nb:=nb) (cb:=cb) (nk:=nk) (ck:=ck) (pm:=pm) (ps:=ps) (pt:=pt) (pr:=pr) (pb:=pb) (pk:=pk) (dd:=dd) (P:=y1) CC hW hyB (by omega)
      cases hcm : cmB p m md rows blocks W y1 with
      | true =>
       have hfs : (enL pres.length (rkS pres.length s) s).find? (fun s=>cmB p m md rows blocks W (knC pres s)) = some s:=by
        cases hr : rkS pres.length s with
        | zero=>rw [enL,List.find?_cons,← hy1',hcm]
        | succ r=>rw [enL,List.find?_cons,← hy1',hcm]
       rw [hf,hfs] at hg
       obtain rfl : some s = O:=hg
       rw [hO2,← hy1',← hy2']
       rw [hcm,if_pos rfl] at c_store_complete
       obtain ⟨w,hw⟩ : ∃ w,toI y2 = w:=⟨_,rfl⟩
       have hwl : y2.length = w.length:=by rw [← hw,toI_len]
       rw [hw,hwl]
       clear ihs ih1
       refine wk 7 cz ?_
       intro h5
       refine j_step rfl (x_call [10,11,12,1] rfl (c_store_complete) rfl ?_)
       rintro _ _ _ ⟨pa1,ca1,rfl,rfl,rfl⟩
       simp only [List.cons_append,List.nil_append]
       refine wk 8 cz ?_
       refine j_giv [0,1] rfl rfl rfl ⟨_,_,_,_,rfl,rfl,rfl⟩
      | false =>
       rw [hcm,if_neg (by simp)] at c_store_complete
       refine wk 7 cz ?_
       intro h5
       refine j_step rfl (x_call [10,11,12,1] rfl (c_store_complete) rfl ?_)
       rintro _ _ _ ⟨pa1,ca1,rfl,rfl,rfl⟩
       simp only [List.cons_append,List.nil_append]
       refine wk 8 cz ?_
       refine j_loopG (X:=Nat) [1,2,7,10,11,12,14,15,18,19,47,48,49,50,51,52,53,54,57,58,59,60,61,62,69,70,71,72,88,89,90,91,92,93,94,95,98,99] [8,9,10,11,12,13] (fun u=>[(20,.int .i64 ((u : Int) - 1))]) (fun _=>_) (fun _=>[]) (fun u=>u ≤ j ∧ sxL pres.length (s.drop u) = none) (fun u=>u) j [] rfl rfl rfl ⟨Nat.le_refl _,by rw [List.drop_of_length_le (by omega)];rfl⟩ (by repeat (first | exact Fr.sub_nil _ | refine Fr.sub_cons rfl ?_)) rfl rfl ?_
       rintro u ⟨hu,hsu⟩ ihu
       simp only [List.cons_append,List.nil_append] at hu hsu ihu ⊢
       have hfs : (enL pres.length (rkS pres.length s) s).find? (fun s=>cmB p m md rows blocks W (knC pres s)) = match sxL pres.length s with
         | some X=>(enL pres.length (rkS pres.length X) X).find? fun s=>cmB p m md rows blocks W (knC pres s)
         | none=>none:=by
        cases hX : sxL pres.length s with
        | none=>rw [en_last hX,List.find?_cons,← hy1',hcm];rfl
        | some X=>rw [en_cons hv hX,List.find?_cons,← hy1',hcm]
       rcases Nat.eq_zero_or_pos u with hu0 | hu0
       ·subst hu0
        rw [List.drop_zero] at hsu
        rw [hsu] at hfs
        rw [hf,hfs] at hg
        have ih1':=ih1 ⟨by omega,by rw [show K + 1 - (j + 1) = K - j by omega];exact hg⟩
        clear ihu ihs ih1
        refine wk 11 cz ?_
        intro h6
        refine j_toM [false,true] [0,1,2,3,4,5] (by exact fra rfl) rfl rfl (ih1')
       ·obtain ⟨v,rfl⟩ : ∃ v,u = v + 1:=⟨u - 1,by omega⟩
        rw [show (((v + 1 : Nat) : Int) - 1) = (v : Int) by omega]
        obtain ⟨a,ha⟩ : ∃ a,s[v]? = some a:=⟨_,List.getElem?_eq_getElem (by omega)⟩
        have at_a:=toI_at ha
        have haN:=hsb a (List.mem_of_getElem? ha)
        obtain ⟨hd1,hd2⟩:=sx_drop hs ha hsu
        by_cases hav : a + (j - v) = pres.length
        ·have ihu':=ihu v (Nat.lt_succ_self v) ⟨by omega,hd1 hav⟩
         clear ihu ihs ih1
         refine wk 4 cz ?_
         intro h6
         refine j_gstep rfl rfl (x_bld_int 0 rfl rfl ld3 (by first | omega | (simp;omega)) fun z1 hz1=>?_)
         obtain rfl : _ = z1:=Option.some.inj (at_a.symm.trans hz1)
         refine wk 8 cz ?_
         intro h7
         exact tw (ihu')
        ·have hX:=hd2 hav
         clear ihu ih1
         have hXl:=sx_len hX
         obtain ⟨X,hXe⟩ : ∃ X,s.take v++(List.range (j - v)).map (fun t=>a + 1 + t) = X:=⟨_,rfl⟩
         have hXa : X[v]? = some (a + 1):=by
          rw [← hXe,List.getElem?_append_right (by rw [List.length_take];omega),List.length_take,Nat.min_eq_left (by omega),Nat.sub_self,List.getElem?_map,List.getElem?_range (by omega)];rfl
         have hXs : ∀ i b,v ≤ i → X[i]? = some b → i + 1 < j → X[i + 1]? = some (b + 1):=fun i b hi hb hij=>by
          have e : ∀ q,v ≤ q → q < j → X[q]? = some (a + 1 + (q - v)):=fun q h1 h2=>by
           rw [← hXe,List.getElem?_append_right (by rw [List.length_take];omega),List.length_take,Nat.min_eq_left (by omega),List.getElem?_map,List.getElem?_range (by omega)];rfl
          rw [e i hi (by omega)] at hb
          rw [e (i + 1) (by omega) hij,← Option.some.inj hb]
          congr 1;omega
         have hXt : X.take v = s.take v:=by rw [← hXe,List.take_append_of_le_length (by rw [List.length_take];omega),List.take_take,Nat.min_self]
         rw [hXe] at hX hXl
         rw [hX] at hfs
         obtain ⟨hXr,hXv,_⟩:=sx_some hv hX
         have ihX:=ihs X (by omega) ⟨hXv,by omega,hf.trans hfs⟩
         clear ihs
         have hXl2 : (toI X).length = (toI s).length:=by rw [toI_len,toI_len,hXl]
         have hset : (toI s).set v ((a : Int) + 1) = (toI X).take (v + 1)++(toI s).drop (v + 1):=by
          have h1:=td_set (toI_at hXa) hXl2
          rw [show (toI X).take v = (toI s).take v by rw [toI,toI,← List.map_take,← List.map_take,hXt],List.take_append_drop] at h1
          exact h1
         refine wk 4 cz ?_
         intro h6
         refine j_gstep rfl rfl (x_bld_int 0 rfl rfl ld3 (by first | omega | (simp;omega)) fun z1 hz1=>?_)
         obtain rfl : _ = z1:=Option.some.inj (at_a.symm.trans hz1)
         refine wk 12 cz ?_
         intro h7 h8
         refine j_step rfl (x_bld_int 0 rfl rfl ld3 (by first | omega | (simp;omega)) fun z1 hz2=>?_)
         obtain rfl : _ = z1:=Option.some.inj (at_a.symm.trans hz2)
         refine wk 6 cz ?_
         rw [hset]
         simp only [setB,List.eraseIdx_cons_zero,List.eraseIdx_cons_succ,Nat.zero_add]
         refine j_loopG (X:=Nat) [1,2,7,10,11,12,14,15,18,19,20,47,48,49,50,51,52,53,54,57,58,59,60,61,62,69,70,71,72,88,89,90,91,92,93,94,95,98,99,100,101,102,103,104,105,106,107,108,109,110,111,112,113,114,117,118,119,120,121,122,123,124,125,126] [0,1,2,3,4,5] (fun i=>[(21,.int .i64 (i : Int))]) (fun i=>(some b2,3,intCells .i64 ((toI X).take i++(toI s).drop i))::_) (fun _=>[]) (fun i=>v + 1 ≤ i ∧ i ≤ j) (fun i=>j - i) (v + 1) [] rfl rfl rfl ⟨Nat.le_refl _,by omega⟩ (by repeat (first | exact Fr.sub_nil _ | refine Fr.sub_cons rfl ?_)) rfl rfl ?_
         rintro i ⟨hi1,hi2⟩ ihi
         simp only [List.cons_append,List.nil_append] at ihi ⊢
         by_cases hij : i < j
         ·obtain ⟨q,rfl⟩ : ∃ q,i = q + 1:=⟨i - 1,by omega⟩
          obtain ⟨b,hb⟩ : ∃ b,X[q]? = some b:=⟨_,List.getElem?_eq_getElem (by omega)⟩
          have hb2:=hXs q b (by omega) hb hij
          have ihi':=ihi (q + 1 + 1) (by omega) ⟨by omega,by omega⟩
          rw [← td_set (toI_at hb2) hXl2] at ihi'
          have at_b : ((toI X).take (q + 1)++(toI s).drop (q + 1))[q]? = some (b : Int):=by
           rw [List.getElem?_append_left (by rw [List.length_take];omega),List.getElem?_take,if_pos (by omega)];exact toI_at hb
          have hLl : ((toI X).take (q + 1)++(toI s).drop (q + 1)).length = j:=by rw [List.length_append,List.length_take,List.length_drop];omega
          have hbN : b < pres.length:=(vd_lt hXv).1 b (List.mem_of_getElem? hb)
          generalize (toI X).take (q + 1)++(toI s).drop (q + 1) = L at *
          clear ihi ihX
          refine wk 7 cz ?_
          intro h9
          refine j_step rfl (x_bld_int 0 rfl rfl ld3 (by first | omega | (simp;omega)) fun z1 hz3=>?_)
          obtain rfl : _ = z1:=Option.some.inj (at_b.symm.trans hz3)
          refine wk 6 cz ?_
          exact tw (ihi')
         ·obtain rfl : i = j:=by omega
          rw [List.take_of_length_le (by omega),List.drop_of_length_le (by omega),List.append_nil]
          clear ihi
          refine wk 5 cz ?_
          intro h9
          exact tw (ihX)
   ·obtain rfl : k = K + 1:=by omega
    clear ihk
    rw [Nat.sub_self,deA] at hg
    subst hg
    rw [deO]
    refine j_add (slF (encSl I64) none 0 0 []) (fun w A _=>slF_nil _ w A none 0) ?_
    refine j_add (slF I64 none 0 0 []) (fun w A _=>slF_nil _ w A none 0) ?_
    refine wk 10 cz ?_
    intro h3
    refine j_giv [1,0] rfl rfl rfl ⟨_,_,_,_,rfl,rfl,rfl⟩
end
open Go Go.Fw
set_option maxRecDepth 100000
set_option linter.unusedVariables false
set_option linter.unusedSimpArgs false
set_option maxHeartbeats 0
noncomputable def stE (P M : Int) (md : List Int) (N : Int) (rows : List (List Int)) (dd : Int) (sets : List (List Int)) (racks : List Int) (W : Int) (blocks : List (List Int)) : Int :=
 if cfE P M md N rows dd sets racks W ≠ 0 then cfE P M md N rows dd sets racks W else if ¬ ((blocks.length : Int) = N ∧ ∀ r ∈ blocks,r.length = 0 ∨ (r.length : Int) = W) then 3
 else if ¬ ∀ r ∈ blocks,∀ x ∈ r,0 ≤ x ∧ x < ((P.toNat ^ M.toNat : Nat) : Int) then 2 else 0
abbrev cfgC (P M : Int) (pm : Option Addr) (nm cm : Nat) (N : Int) (ps : Option Addr) (n c : Nat) (dd : Int) (pt : Option Addr) (nt ct : Nat) (pr : Option Addr) (nr cr : Nat) (W : Int) : List Value:=[.int .i64 P,.int .i64 M,.slice pm nm cm,.int .i64 N,.slice ps n c,.int .i64 dd,.slice pt nt ct,.slice pr nr cr,.int .i64 W]
section
variable {P M N dd W e : Int} {n c nm cm nt ct nr cr nb cb : Nat} {pm ps pt pr pb : Option Addr} {md racks : List Int} {rows sets blocks : List (List Int)}
theorem S_store_Decode_1 {b1 : Nat} {pa : Option Addr} {ca : Nat} {r : List Int} : Ctr Tryz.prog 44 [.slice pa r.length ca,.pointer (some ⟨b1,0,none⟩)] [] [slF I64 pa r.length ca r,celF b1 (cfgC P M pm nm cm N ps n c dd pt nt ct pr nr cr W)] (Rv (.bool (!decide (r.length = 0 ∨ (r.length : Int) = W))) []):=by
 refine Ctr_of_j' (F:=F_store_Decode_1) rfl fun C=>?_
 by_cases h0 : r.length = 0
 ·rw [decide_eq_true (Or.inl h0)]
  refine wk 10 cz ?_
  intro h1
  exact ge
 ·rw [show decide (r.length = 0 ∨ (r.length : Int) = W) = decide ((r.length : Int) = W) by simp [h0]]
  refine wk 14 cz ?_
  intro h1
  exact ge
theorem S_store_Decode_2 {p m b c0 q ng cg ne ce nl cl : Nat} {pg pe pl : Option Addr} {x : Int} {res : Bool} (hq : q ≤ 256) (hr : (!decide (0 ≤ x ∧ x < (q : Int))) = res) :
  Ctr Tryz.prog 47 [.int .i64 x,.pointer (some ⟨c0,0,none⟩)] [] [celF c0 [.pointer (some ⟨b,0,none⟩)],gfC b p m q pg ng cg pe ne ce pl nl cl] (Rv (.bool res) []):=by
 refine Ctr_of_j' (F:=F_store_Decode_2) rfl fun C=>?_
 subst hr
 refine wk 8 (ct @S_field_GF__Is cz) ?_
 exact ge
theorem stE_rng : 0 ≤ stE P M md N rows dd sets racks W blocks ∧ stE P M md N rows dd sets racks W blocks ≤ 13:=by
 have h1:=cfE_rng (P:=P) (M:=M) (N:=N) (dd:=dd) (md:=md) (rows:=rows) (sets:=sets) (racks:=racks) (W:=W)
 rw [stE]
 (repeat' split) <;> omega
theorem S_codewrightref54_Stripe (hN : InR .i64 N) (hd : InR .i64 dd) (h : stE P M md N rows dd sets racks W blocks = e) : Ctr Tryz.prog 50 [.agg (cfgC P M pm nm cm N ps n c dd pt nt ct pr nr cr W).toArray,.slice pb nb cb] [] [slF I64 pm nm cm md,slF (encSl I64) ps n c rows,slF (encSl I64) pt nt ct sets,slF I64 pr nr cr racks,slF (encSl I64) pb nb cb blocks] (Rv (.int .i64 e) []):=by
 refine Ctr_of_j' (F:=F_codewrightref54_Stripe) rfl fun C=>?_
 refine j_len 4 rfl fun hn hb _=>?_
 subst hn
 have hb' : blocks.length * 24 ≤ 140737488355328:=hb
 have hcr:=cfE_rng (P:=P) (M:=M) (N:=N) (dd:=dd) (md:=md) (rows:=rows) (sets:=sets) (racks:=racks) (W:=W)
 have c_codewrightref54_CheckConfig:=fun {n c nm cm nt ct nr cr : Nat} {pm ps pt pr : Option Addr}=>S_codewrightref54_CheckConfig (P:=P) (M:=M) (N:=N) (dd:=dd) (md:=md) (rows:=rows) (sets:=sets) (racks:=racks) (W:=W) (n:=n) (c:=c) (nm:=nm) (cm:=cm) (nt:=nt) (ct:=ct) (nr:=nr) (cr:=cr) (pm:=pm) (ps:=ps) (pt:=pt) (pr:=pr) hN hd rfl
 rw [stE] at h
 by_cases h0 : cfE P M md N rows dd sets racks W = 0
 ·rw [if_neg (fun e=>e h0)] at h
  rw [h0] at c_codewrightref54_CheckConfig
  obtain ⟨p,m,N,rfl,rfl,rfl,K⟩:=cf_ok h0
  have h64:=K.CC.n64
  rw [Int.toNat_natCast,Int.toNat_natCast] at h
  by_cases hl : (blocks.length : Int) = N
  ·refine wk 5 cz ?_
   intro b1
   refine j_step rfl (x_call [0,1,2,3] rfl (c_codewrightref54_CheckConfig) rfl ?_)
   rintro _ _ _ ⟨rfl,rfl,rfl⟩
   simp only [List.cons_append,List.nil_append]
   refine wk 17 cz ?_
   intro h1 h2
   refine j_loopG (X:=Nat) [1,2,5] [0,1,2,3,4] (fun i=>[(6,.int .i64 (i : Int))]) (fun _=>_) (fun _=>[]) (fun i=>i ≤ blocks.length ∧ ∀ r ∈ blocks.take i,r.length = 0 ∨ (r.length : Int) = W) (fun i=>blocks.length - i) 0 [] rfl rfl rfl ⟨Nat.zero_le _,fun r h=>absurd h List.not_mem_nil⟩ (by repeat (first | exact Fr.sub_nil _ | refine Fr.sub_cons rfl ?_)) rfl rfl ?_
   rintro i ⟨hi,hs⟩ ih
   simp only [List.cons_append,List.nil_append] at hi ih ⊢
   by_cases h9 : i < blocks.length
   ·obtain ⟨r,at_r⟩ : ∃ r,blocks[i]? = some r:=⟨_,List.getElem?_eq_getElem h9⟩
    have hgr:=gd_at at_r
    by_cases hr0 : r.length = 0
    ·have hq0 : (blocks.getD i default).length = 0:=by rw [hgr];exact hr0
     have ih':=ih (i + 1) (by omega) ⟨by omega,tk_all at_r hs (.inl hr0)⟩
     clear ih
     refine wk 7 cz ?_
     intro h3
     (apply j_drawK it mx 16;(· rfl);(· rfl))
     (apply lxk_run 2;(· rfl);(· simp))
     (apply lxk_pt;(· rfl);(· exact d_x fun _=>x_idx 4 (i) rfl rfl rfl sl25 rfl (by omega) fun z1 hz1 b2 o1=>(dk_ptD default hz1 0 rfl));intro b2 o1)
     (apply lxk_sl;(· rfl);(· exact d_x fun _=>x_ld_sl 0 rfl rfl ld22 fun pa1 ca1=>(dk_sl 0 rfl));intro pa1 ca1)
     (apply lxk_eq;(· rfl);(· exact d_x fun _=>x_len sl22 rfl dk_eq))
     (apply lxk_eq;(· rfl);(· exact d_x fun _=>x_falseN it rfl (by trivial) (by omega) dk_eq))
     (apply lxk_run 8;(· rfl);(· simp))
     (apply lxk_run 2;(· rfl);(· simp))
     refine lxk_end rfl ?_
     simp only [List.map_cons,List.map_nil,List.cons_append,List.nil_append]
     refine wk 5 cz ?_
     exact tw (ih')
    ·have hq0 : ¬ (blocks.getD i default).length = 0:=by rw [hgr];exact hr0
     by_cases hrW : (r.length : Int) = W
     ·have hq1 : ((blocks.getD i default).length : Int) = W:=by rw [hgr];exact hrW
      have ih':=ih (i + 1) (by omega) ⟨by omega,tk_all at_r hs (.inr hrW)⟩
      clear ih
      refine wk 7 cz ?_
      intro h3
      (apply j_drawK it mx 16;(· rfl);(· rfl))
      (apply lxk_run 2;(· rfl);(· simp))
      (apply lxk_pt;(· rfl);(· exact d_x fun _=>x_idx 4 (i) rfl rfl rfl sl25 rfl (by omega) fun z1 hz1 b2 o1=>(dk_ptD default hz1 0 rfl));intro b2 o1)
      (apply lxk_sl;(· rfl);(· exact d_x fun _=>x_ld_sl 0 rfl rfl ld22 fun pa1 ca1=>(dk_sl 0 rfl));intro pa1 ca1)
      (apply lxk_eq;(· rfl);(· exact d_x fun _=>x_len sl22 rfl dk_eq))
      (apply lxk_eq;(· rfl);(· exact d_x fun _=>x_trueN it rfl (by trivial) (by omega) dk_eq))
      (apply lxk_run 3;(· rfl);(· simp))
      (apply lxk_pt;(· rfl);(· exact d_x fun _=>x_idx 6 (i) rfl rfl rfl sl25 rfl (by omega) fun z1 hz1 b3 o2=>(dk_ptD default hz1 0 rfl));intro b3 o2)
      (apply lxk_sl;(· rfl);(· exact d_x fun _=>x_ld_sl 0 rfl rfl ld22 fun pa2 ca2=>(dk_sl 0 rfl));intro pa2 ca2)
      (apply lxk_eq;(· rfl);(· exact d_x fun _=>x_len sl22 rfl dk_eq))
      (apply lxk_eq;(· rfl);(· exact d_x fun _=>x_field rfl fd31_4 dk_eq))
      (apply lxk_eq;(· rfl);(· exact d_bld 0 rfl rfl ld3 rfl))
      (apply lxk_eq;(· rfl);(· exact d_x fun _=>x_falseN it rfl (by trivial) (by omega) dk_eq))
      (apply lxk_run 1;(· rfl);(· simp))
      refine lxk_end rfl ?_
      simp only [List.map_cons,List.map_nil,List.cons_append,List.nil_append]
      refine wk 5 cz ?_
      exact tw (ih')
     ·have hq1 : ¬ ((blocks.getD i default).length : Int) = W:=by rw [hgr];exact hrW
      rw [if_pos (fun hh=>(hh.2 r (List.mem_of_getElem? at_r)).elim hr0 hrW)] at h
      subst h
      clear ih
      refine wk 7 cz ?_
      intro h3
      (apply j_drawK it mx 16;(· rfl);(· rfl))
      (apply lxk_run 2;(· rfl);(· simp))
      (apply lxk_pt;(· rfl);(· exact d_x fun _=>x_idx 4 (i) rfl rfl rfl sl25 rfl (by omega) fun z1 hz1 b2 o1=>(dk_ptD default hz1 0 rfl));intro b2 o1)
      (apply lxk_sl;(· rfl);(· exact d_x fun _=>x_ld_sl 0 rfl rfl ld22 fun pa1 ca1=>(dk_sl 0 rfl));intro pa1 ca1)
      (apply lxk_eq;(· rfl);(· exact d_x fun _=>x_len sl22 rfl dk_eq))
      (apply lxk_eq;(· rfl);(· exact d_x fun _=>x_trueN it rfl (by trivial) (by omega) dk_eq))
      (apply lxk_run 3;(· rfl);(· simp))
      (apply lxk_pt;(· rfl);(· exact d_x fun _=>x_idx 6 (i) rfl rfl rfl sl25 rfl (by omega) fun z1 hz1 b3 o2=>(dk_ptD default hz1 0 rfl));intro b3 o2)
      (apply lxk_sl;(· rfl);(· exact d_x fun _=>x_ld_sl 0 rfl rfl ld22 fun pa2 ca2=>(dk_sl 0 rfl));intro pa2 ca2)
      (apply lxk_eq;(· rfl);(· exact d_x fun _=>x_len sl22 rfl dk_eq))
      (apply lxk_eq;(· rfl);(· exact d_x fun _=>x_field rfl fd31_4 dk_eq))
      (apply lxk_eq;(· rfl);(· exact d_bld 0 rfl rfl ld3 rfl))
      (apply lxk_eq;(· rfl);(· exact d_x fun _=>x_trueN it rfl (by trivial) (by omega) dk_eq))
      (apply lxk_run 1;(· rfl);(· simp))
      refine lxk_end rfl ?_
      simp only [List.map_cons,List.map_nil,List.cons_append,List.nil_append]
      refine wk 5 cz ?_
      exact ge
   ·obtain rfl : i = blocks.length:=by omega
    clear ih
    rw [List.take_length] at hs
    rw [if_neg (fun hh=>hh ⟨hl,hs⟩)] at h
    refine wk 9 cz ?_
    intro h3
    refine j_loopG (X:=Nat) [1,2] [0,1,2,3,4] (fun i=>[(7,.int .i64 (i : Int)),(5,.int .i64 0)]) (fun _=>_) (fun _=>[]) (fun i=>i ≤ blocks.length ∧ ∀ r ∈ blocks.take i,∀ x ∈ r,0 ≤ x ∧ x < ((p ^ m : Nat) : Int)) (fun i=>blocks.length - i) 0 [] rfl rfl rfl ⟨Nat.zero_le _,fun r h=>absurd h List.not_mem_nil⟩ (by repeat (first | exact Fr.sub_nil _ | refine Fr.sub_cons rfl ?_)) rfl rfl ?_
    rintro i ⟨hi,hs2⟩ ih
    simp only [List.cons_append,List.nil_append] at hi ih ⊢
    by_cases h9 : i < blocks.length
    ·obtain ⟨r,at_r⟩ : ∃ r,blocks[i]? = some r:=⟨_,List.getElem?_eq_getElem h9⟩
     have hgr:=gd_at at_r
     have c_codewrightref09_Entries:=fun {nm cm n c : Nat} {pm ps : Option Addr}=>S_codewrightref09_Entries (nm:=nm) (cm:=cm) (n:=n) (c:=c) (pm:=pm) (ps:=ps) (l:=blocks.getD i default) K.CC.K
     by_cases hr : ∀ x ∈ r,0 ≤ x ∧ x < ((p ^ m : Nat) : Int)
     ·rw [hgr,entE,if_pos hr,← hgr] at c_codewrightref09_Entries
      have ih':=ih (i + 1) (by omega) ⟨by omega,tk_all at_r hs2 hr⟩
      clear ih
      refine wk 7 cz ?_
      intro h4
      (apply j_drawK it mx 8;(· rfl);(· rfl))
      (apply lxk_eq;(· rfl);(· exact d_x fun _=>x_field rfl fd31_0 dk_eq))
      (apply lxk_eq;(· rfl);(· exact d_x fun _=>x_field rfl fd27_0 dk_eq))
      (apply lxk_eq;(· rfl);(· exact d_bld_agg 0 rfl rfl ld24 rfl rfl))
      (apply lxk_run 2;(· rfl);(· simp))
      (apply lxk_pt;(· rfl);(· exact d_x fun _=>x_idx 4 (i) rfl rfl rfl sl25 rfl (by omega) fun z1 hz1 b2 o1=>(dk_ptD default hz1 0 rfl));intro b2 o1)
      (apply lxk_sl;(· rfl);(· exact d_x fun _=>x_ld_sl 0 rfl rfl ld22 fun pa1 ca1=>(dk_sl 0 rfl));intro pa1 ca1)
      (apply lxk_eq;(· rfl);(· exact d_x fun _=>x_call [0] rfl (c_codewrightref09_Entries) rfl (by rintro _ _ _ ⟨rfl,rfl,rfl⟩;exact dk_eq)))
      refine lxk_end rfl ?_
      simp only [List.map_cons,List.map_nil,List.cons_append,List.nil_append]
      refine wk 8 cz ?_
      intro h5
      exact tw (ih')
     ·rw [hgr,entE,if_neg hr,← hgr] at c_codewrightref09_Entries
      rw [if_pos (fun hh=>hr (hh r (List.mem_of_getElem? at_r)))] at h
      subst h
      clear ih
      refine wk 7 cz ?_
      intro h4
      (apply j_drawK it mx 8;(· rfl);(· rfl))
      (apply lxk_eq;(· rfl);(· exact d_x fun _=>x_field rfl fd31_0 dk_eq))
      (apply lxk_eq;(· rfl);(· exact d_x fun _=>x_field rfl fd27_0 dk_eq))
      (apply lxk_eq;(· rfl);(· exact d_bld_agg 0 rfl rfl ld24 rfl rfl))
      (apply lxk_run 2;(· rfl);(· simp))
      (apply lxk_pt;(· rfl);(· exact d_x fun _=>x_idx 4 (i) rfl rfl rfl sl25 rfl (by omega) fun z1 hz1 b2 o1=>(dk_ptD default hz1 0 rfl));intro b2 o1)
      (apply lxk_sl;(· rfl);(· exact d_x fun _=>x_ld_sl 0 rfl rfl ld22 fun pa1 ca1=>(dk_sl 0 rfl));intro pa1 ca1)
      (apply lxk_eq;(· rfl);(· exact d_x fun _=>x_call [0] rfl (c_codewrightref09_Entries) rfl (by rintro _ _ _ ⟨rfl,rfl,rfl⟩;exact dk_eq)))
      refine lxk_end rfl ?_
      simp only [List.map_cons,List.map_nil,List.cons_append,List.nil_append]
      refine wk 8 cz ?_
      intro h5
      exact ge
    ·obtain rfl : i = blocks.length:=by omega
     rw [List.take_length] at hs2
     rw [if_neg (fun hh=>hh hs2)] at h
     subst h
     clear ih
     refine wk 9 cz ?_
     intro h4
     exact ge
  ·rw [if_pos (fun hh=>hl hh.1)] at h
   subst h
   refine wk 5 cz ?_
   intro b1
   refine j_step rfl (x_call [0,1,2,3] rfl (c_codewrightref54_CheckConfig) rfl ?_)
   rintro _ _ _ ⟨rfl,rfl,rfl⟩
   simp only [List.cons_append,List.nil_append]
   refine wk 17 cz ?_
   intro h1 h2
   exact ge
 ·rw [if_pos h0] at h
  subst h
  refine wk 5 cz ?_
  intro b1
  refine j_step rfl (x_call [0,1,2,3] rfl (c_codewrightref54_CheckConfig) rfl ?_)
  rintro _ _ _ ⟨rfl,rfl,rfl⟩
  simp only [List.cons_append,List.nil_append]
  refine wk 8 cz ?_
  intro h1
  exact ge
end
open Go Go.Fw
set_option maxRecDepth 100000
set_option linter.unusedVariables false
set_option linter.unusedSimpArgs false
set_option maxHeartbeats 0
theorem so_true {N : Nat} {E : List (List Int) × List Nat} (hs : slB N E = true) : SoQ N E = fun v Φ β=>∃ (pb : Option Addr) (cb : Nat),v = .tuple #[.slice pb (slX N E).length cb,.int .i64 0] ∧ Φ = [slF I64 pb (slX N E).length cb (slX N E)] ∧ β = []:=by
 funext v Φ β;show (∃ _ _,_) = _;rw [hs];rfl
theorem so_false {N : Nat} {E : List (List Int) × List Nat} (hs : slB N E = false) : SoQ N E = fun v Φ β=>∃ (pb : Option Addr) (cb : Nat),v = .tuple #[.slice pb 0 cb,.int .i64 11] ∧ Φ = [slF I64 pb 0 cb []] ∧ β = []:=by
 funext v Φ β;show (∃ _ _,_) = _;rw [hs];rfl
section
variable {P : Program} {F : Fun P} {C : Cx} {S : List It} {R : Value → World → Prop} {β : List Blk} {Γ : List Fact} {it : List (TypeId × IntKind)} {L : List Oper} {pt : List (List Nat)} {p : List Nat} {σ κ : Fr} {fs : List (Nat × Fact)} {al : List Blk} {i : Nat}
theorem lxk_endWB {k m : Nat} {A : List Nat} {x0 : List Blk} (hk : i = k) (h : WIN F C p A m k S σ (al++(x0++β)) (fs.map (·.2)++Γ) R) : LxK it F C p (.win A m::S) L pt β Γ R k i [] κ σ fs al (some x0):=⟨by simpa using hk,by subst hk;exact h⟩
end
theorem S_codewrightref09_Vector {p m nm cm n c k : Nat} {pm ps : Option Addr} {md l : List Int} (K : Fok p m md) (hl : Wd (p ^ m) k l) : Ctr Tryz.prog 148 [.agg #[.int .i64 p,.int .i64 m,.slice pm nm cm],.slice ps n c,.int .i64 k] [] [slF I64 ps n c l] (Rv (.int .i64 0) []):=by
 refine Ctr_of_j' (F:=F_codewrightref09_Vector) rfl fun C=>?_
 refine j_len 0 rfl fun hn hb _=>?_
 subst hn
 have hll:=hl.1
 have c_codewrightref09_Entries:=fun {nm cm n c : Nat} {pm ps : Option Addr}=>S_codewrightref09_Entries (nm:=nm) (cm:=cm) (pm:=pm) (ps:=ps) (n:=n) (c:=c) (l:=l) K
 rw [entE,if_pos hl.2] at c_codewrightref09_Entries
 refine wk 15 (ct @c_codewrightref09_Entries cz) ?_
 intro b1 h1
 exact ge
theorem S_codewrightref09_Solve {p m n c nm cm N nb cb : Nat} {pm ps pb : Option Addr} {md b : List Int} {rows : List (List Int)} (K : Fok p m md) (hN : N ≤ 256) (hl : rows.length ≤ 256) (hM : Mat (p ^ m) N rows) (hb : Wd (p ^ m) rows.length b) :
  Ctr Tryz.prog 122 [.agg #[.int .i64 p,.int .i64 m,.slice pm nm cm],.agg #[.int .i64 N,.slice ps n c],.slice pb nb cb] [] [slF I64 pm nm cm md,slF (encSl I64) ps n c rows,slF I64 pb nb cb b]
   (SoQ N (elP p m md N 0 0 (auL rows b))):=by
 refine Ctr_of_j' (F:=F_codewrightref09_Solve) rfl fun C=>?_
 have O:=fok_fo K
 have hq:=K.q
 refine j_len 1 rfl fun hn hbs _=>?_
 subst hn
 refine j_len 2 rfl fun hn hbb _=>?_
 have hbl:=hb.1
 rw [hbl] at hn
 subst hn
 have hbs' : rows.length * 24 ≤ 140737488355328:=hbs
 have hau : (auL rows b).length = rows.length:=auL_len hbl
 have hmk : mkE p m md N rows = 0:=by rw [mkE,if_neg (fun h=>h (fok_chk K)),Int.toNat_natCast,Int.toNat_natCast];exact mtE_ok hN hl hM
 have c_codewrightref09_Check:=fun {nm cm n c : Nat} {pm ps : Option Addr}=>S_codewrightref09_Check (nm:=nm) (cm:=cm) (n:=n) (c:=c) (pm:=pm) (ps:=ps) (show InR .i64 (N : Int) by simp only [InR];omega) hmk
 have c_codewrightref09_Vector:=fun {nm cm n c : Nat} {pm ps : Option Addr}=>S_codewrightref09_Vector (nm:=nm) (cm:=cm) (n:=n) (c:=c) (pm:=pm) (ps:=ps) K hb
 refine wk 30 (ct @c_codewrightref09_Check (ct @c_codewrightref09_Vector cz)) ?_
 intro b1 b2 h1 h2
 refine j_row0 (encSl I64) 22 ?_
 refine j_loopG (X:=Nat × Row) [2,3,4,6,7] [0,1,2,3] (fun x=>[(10,.int .i64 (x.1 : Int)),(9,.slice (ad x.2.bo) x.1 x.2.cap)]) (fun x=>(x.2.bo,22,x.2.cs)::_) (fun x=>[rowF (encSl I64) x.2 x.1 ((auL rows b).take x.1)]) (fun x=>x.1 ≤ rows.length) (fun x=>rows.length - x.1) (0,⟨none,0,[]⟩) [0] rfl rfl rfl (Nat.zero_le _) (by repeat (first | exact Fr.sub_nil _ | refine Fr.sub_cons rfl ?_)) rfl rfl ?_
 rintro ⟨i,r⟩ hi ih
 simp only [List.cons_append,List.nil_append] at hi ih ⊢
 by_cases h9 : i < rows.length
 ·obtain ⟨x,at_x⟩ : ∃ x,b[i]? = some x:=⟨_,List.getElem?_eq_getElem (by omega)⟩
  obtain ⟨u,at_u⟩ : ∃ u,rows[i]? = some u:=⟨_,List.getElem?_eq_getElem h9⟩
  have ex:=gd_at at_x
  have eu:=gd_at at_u
  have hul:=(hM u (List.mem_of_getElem? at_u)).1
  rw [← eu] at hul
  obtain ⟨x0,x1⟩:=hb.2 x (List.mem_of_getElem? at_x)
  have ih':=fun r=>ih (i + 1,r) (by dsimp only;omega) (by dsimp only;omega)
  simp only [List.take_add_one,auL_at at_u at_x,Option.toList_some] at ih'
  clear ih
  refine wk 7 cz ?_
  intro h3
  (apply j_drawKW (x0:=some []) it mx 0 14 [0] 1;(· rfl);(· rfl);(· rfl);(· decide))
  simp only [List.drop_zero]
  (apply lxk_run 1;(· rfl);(· simp))
  (apply lxk_lit0 (encInt IntKind.i64 8);(· rfl);(· exact sl22);intro pa1)
  (apply lxk_eq;(· rfl);(· exact d_x fun _=>x_field rfl fd88_1 dk_eq))
  (apply lxk_eq;(· rfl);(· exact d_bld 1 rfl rfl ld25 rfl))
  (apply lxk_run 1;(· rfl);(· simp))
  (apply lxk_pt;(· rfl);(· exact d_x fun _=>x_idx 3 (i) rfl rfl rfl sl25 rfl (by omega) fun z1 hz1 b3 o1=>(dk_ptD default hz1 0 rfl));intro b3 o1)
  (apply lxk_sl;(· rfl);(· exact d_x fun _=>x_ld_sl 0 rfl rfl ld22 fun pa2 ca1=>(dk_sl 0 rfl));intro pa2 ca1)
  (apply lxk_appL (keep:=[]) 2 0;(· rfl);(· rfl);(· rfl);(· rfl);(· rfl);(· exact sl22);(· exact zo22e);(· rfl);(· (first | omega | (simp only [List.length_cons,List.length_nil];omega)));(· exact by22e);(· (first | omega | (simp only [List.length_cons,List.length_nil];omega)));intro pa3 cap1 b4 cs1)
  (apply lxk_run 2;(· rfl);(· simp))
  (apply lxk_pt;(· rfl);(· exact d_x fun _=>x_idx 4 (i) rfl rfl rfl sl22 rfl (by omega) fun z1 hz1 b5 o2=>(dk_ptD default hz1 0 rfl));intro b5 o2)
  (apply lxk_eq;(· rfl);(· exact d_x fun _=>x_ld_int 0 rfl rfl ld3 fun ⟨r1,r2⟩=>dk_eq))
  (apply lxk_sl;(· rfl);(· exact d_x fun _=>x_lit sl22 zo22e rfl rfl rfl rfl (by decide) (by decide) rfl fun b6=>dk_all (E:=I64) [[Value.int IntKind.i64 (b.getD i default)]] [b.getD i default] (fun w A hG=>(allrd_cons ⟨rfl,by first | assumption | (simp only [InR];omega)⟩ allrd_nil)) rfl rfl rfl (by first | decide | exact Nat.le_of_ble_eq_true rfl));intro pa4 ca2)
  (apply lxk_appZi 2 0;(· rfl);(· rfl);(· rfl);(· rfl);(· rfl);(· exact sl22);(· exact zo22e);(· rfl);(· (first | omega | (simp only [List.length_cons,List.length_nil];omega)));(· exact by22e);(· (first | omega | (simp only [List.length_cons,List.length_nil];omega)));intro pa5 cap2 b6 cs2) --ok
  refine lxk_endWB rfl ?_
  all_goals try rfl
  simp only [List.map_cons,List.map_nil,List.cons_append,List.nil_append,List.append_nil]
  refine win_step it rfl rfl ⟨⟨_,_,_,_,rfl,rfl,rfl,rfl,rfl,rfl,(by first | trivial | (repeat' first | exact trivial | apply And.intro | omega))⟩,trivial⟩ (x_lit sl25 zo25e rfl rfl rfl rfl (by decide) (by decide) rfl fun b7=>?_)
  refine win_end it ⟨⟨_,_,_,_,rfl,rfl,rfl,rfl,rfl,rfl,(by first | trivial | (repeat' first | exact trivial | apply And.intro | omega))⟩,trivial⟩ ?_ --ok
  refine j_pubZ 1 0 rfl rfl (by show (0 + (rows.getD i default).length + 1) * 8 ≤ 140737488355328;omega) ?_
  simp only [List.take_succ_cons,List.take_zero,List.cons_append,List.nil_append]
  rw [← eu,← ex] at ih'
  refine j_step rfl (x_appR (z:=rows.getD i default++[b.getD i default]) 1 0 8 rfl rfl rfl rfl rfl sl25 zo25e rfl (fun w A hG=>(rd_of_slF (hG _ (fact_mem (n:=0) rfl)))) (by omega) _ by25e (by omega) fun r1=>?_)
  refine wk 4 cz ?_
  refine j_toM [true,false,true,true] [0,10,11,12,13] (by exact fra rfl) rfl rfl (ih' r1)
 ·obtain rfl : i = rows.length:=by omega
  clear ih
  rw [List.take_of_length_le (by omega)]
  refine j_pubR 0 0 rfl rfl (by show rows.length * 24 ≤ 140737488355328;omega) ?_
  simp only [List.eraseIdx_cons_zero,List.eraseIdx_cons_succ]
  have hM2:=auL_mat hM hb.2
  have c_codewrightref09_Eliminate:=fun {nm cm c : Nat} {pm ps : Option Addr}=>S_codewrightref09_Eliminate (nm:=nm) (cm:=cm) (c:=c) (pm:=pm) (ps:=ps) K (n:=rows.length) (by omega) (Nat.le_succ N) (by omega) hau hM2
  have hEl : (elP p m md N 0 0 (auL rows b)).1.length = rows.length:=by rw [elP,elimL_len,hau]
  have hEM : Mat (p ^ m) (N + 1) (elP p m md N 0 0 (auL rows b)).1:=((fok_fo K).elim (m:=N) hM2).1
  have hEe : Ech (elP p m md N 0 0 (auL rows b)).1 N (elP p m md N 0 0 (auL rows b)).2:=((fok_fo K).elim (m:=N) hM2).2.1
  have hEk:=hEe.le
  rw [hEl] at hEk
  generalize elP p m md N 0 0 (auL rows b) = E at *
  refine wk 18 (ct @c_codewrightref09_Eliminate cz) ?_
  intro h3 pb1 pp1 cb1 cp1
  refine j_loopG (X:=Nat) [4,11,12] [0,1,2,3,4,5,6,7] (fun i=>[(13,.int .i64 (i : Int))]) (fun _=>_) (fun _=>[]) (fun i=>E.2.length ≤ i ∧ i ≤ rows.length ∧ ∀ j,E.2.length ≤ j → j < i → en E.1 j N = 0) (fun i=>rows.length - i) E.2.length [] rfl rfl rfl ⟨Nat.le_refl _,hEk,fun j h1 h2=>by omega⟩ (by repeat (first | exact Fr.sub_nil _ | refine Fr.sub_cons rfl ?_)) rfl rfl ?_
  rintro i ⟨hi1,hi2,hno⟩ ih
  simp only [List.cons_append,List.nil_append] at hi1 hi2 ih ⊢
  by_cases h9 : i < rows.length
  ·have hr : E.1[i]? = some (row0 E.1 i):=by rw [row0,List.getD_eq_getElem?_getD,List.getElem?_eq_getElem (by omega)];rfl
   have er:=gd_at hr
   have hrl : (E.1.getD i default).length = N + 1:=by rw [er];exact (hEM.row (by omega)).1
   have een : en E.1 i N = (E.1.getD i default).getD N default:=by rw [er];rfl
   by_cases h8 : en E.1 i N = 0
   ·have h7 : (E.1.getD i default).getD N default = 0:=by rw [← een];exact h8
    refine wk 13 cz ?_
    intro h4 b3 o1 pa1 ca1 b4 o2 h5
    exact tw (ih (i + 1) (by omega) ⟨by omega,by omega,fun j h1 h2=>by
     rcases Nat.lt_succ_iff_lt_or_eq.1 h2 with h | rfl
     ·exact hno j h1 h
     ·exact h8⟩)
   ·have h7 : (E.1.getD i default).getD N default ≠ 0:=by rw [← een];exact h8
    rw [so_false (Bool.eq_false_iff.2 fun e=>h8 (slB_iff.1 e i hi1 (by omega)))]
    clear ih
    refine wk 13 cz ?_
    intro h4 b3 o1 pa1 ca1 b4 o2 h5
    refine j_add (slF I64 none 0 0 []) (fun w A _=>slF_nil I64 w A none 0) ?_
    refine j_giv [0] rfl rfl rfl ⟨_,_,rfl,rfl,rfl⟩
  ·rw [so_true (slB_iff.2 fun j h1 h2=>hno j h1 (by omega))]
   clear ih
   refine wk 14 cz ?_
   intro h4 b3
   rw [show natCells .i64 (List.replicate N 0) = intCells .i64 (slK N E 0) by rw [slK_zero];simp [natCells,intCells,zW]]
   refine j_loopG (X:=Nat) [4,11,12,14] [0,1,2,3,4,5,6,7] (fun i=>[(15,.int .i64 (i : Int))]) (fun i=>(some b3,3,intCells .i64 (slK N E i))::_) (fun _=>[]) (fun i=>i ≤ E.2.length) (fun i=>E.2.length - i) 0 [] rfl rfl rfl (Nat.zero_le _) (by repeat (first | exact Fr.sub_nil _ | refine Fr.sub_cons rfl ?_)) rfl rfl ?_
   rintro i hi ih
   simp only [List.cons_append,List.nil_append] at hi ih ⊢
   by_cases h9 : i < E.2.length
   ·obtain ⟨a,hpa⟩ : ∃ a,E.2[i]? = some a:=⟨_,List.getElem?_eq_getElem h9⟩
    have at_p : (toI E.2)[i]? = some (a : Int):=by rw [toI,List.getElem?_map,hpa];rfl
    have ep:=gd_at at_p
    have haN:=hEe.lt a (List.mem_of_getElem? hpa)
    have hr : E.1[i]? = some (row0 E.1 i):=by rw [row0,List.getD_eq_getElem?_getD,List.getElem?_eq_getElem (by omega)];rfl
    have er:=gd_at hr
    have hrl : (E.1.getD i default).length = N + 1:=by rw [er];exact (hEM.row (by omega)).1
    have hpl : (toI E.2).length = E.2.length:=List.length_map _
    have ih':=ih (i + 1) (by omega) (by omega)
    rw [← slK_set hEe hpa,en,← er,show at0 (E.1.getD i default) N = (E.1.getD i default).getD N default from rfl] at ih'
    have hln:=slK_len (n:=N) (k:=i) (E:=E)
    generalize slK N E i = L at *
    refine wk 13 cz ?_
    intro h5 b4 o1 b5 o2 pa1 ca1 b6 o3
    simp only [setB]
    rw [show ((toI E.2).getD i default).toNat = a by rw [ep,Int.toNat_natCast]]
    exact tw (ih')
   ·obtain rfl : i = E.2.length:=by omega
    rw [slK_end]
    clear ih
    have hX:=(fok_fo K).slX_wd hEM hEe
    have hXl:=hX.1
    generalize slX N E = X at *
    refine wk 9 cz ?_
    intro h5
    refine j_rowInt 0 rfl hXl.symm (fun y hy=>by have:=hX.2 y hy;simp only [InR];omega) (by omega) ?_
    refine j_pubR 0 0 rfl rfl (by show N * 8 ≤ 140737488355328;omega) ?_
    simp only [List.eraseIdx_cons_zero,List.eraseIdx_cons_succ]
    rw [← hXl]
    refine j_giv [0] rfl rfl rfl ⟨_,_,rfl,rfl,rfl⟩
open Go Go.Fw
set_option maxRecDepth 100000
set_option linter.unusedVariables false
set_option linter.unusedSimpArgs false
set_option maxHeartbeats 0
noncomputable def ftT (p m : Nat) (md : List Int) (N : Nat) (rows blocks : List (List Int)) (W : Nat) (P : List Nat) (k : Nat) : List Int:=(List.range W).map fun t=>at0 (cmW p m md N rows blocks P t) k
noncomputable def ftQ (p m : Nat) (md : List Int) (N : Nat) (rows blocks : List (List Int)) (W : Nat) (P : List Nat) (j b k : Nat) : List Int:=(ftT p m md N rows blocks W P k).take (if k < b then j + 1 else j)++List.replicate (W - (if k < b then j + 1 else j)) 0
theorem ftT_len {p m : Nat} {md : List Int} {N : Nat} {rows blocks : List (List Int)} {W : Nat} {P : List Nat} {k : Nat} : (ftT p m md N rows blocks W P k).length = W:=by rw [ftT,List.length_map,List.length_range]
theorem ftQ_len {p m : Nat} {md : List Int} {N : Nat} {rows blocks : List (List Int)} {W : Nat} {P : List Nat} {j b k : Nat} (hj : j + 1 ≤ W ∨ k ≥ b ∧ j ≤ W) : (ftQ p m md N rows blocks W P j b k).length = W:=by
 rw [ftQ,List.length_append,List.length_take,List.length_replicate,ftT_len]
 split <;> omega
theorem ftQ_set {p m : Nat} {md : List Int} {N : Nat} {rows blocks : List (List Int)} {W : Nat} {P : List Nat} {j k : Nat} (hj : j < W) : (ftQ p m md N rows blocks W P j k k).set j (at0 (cmW p m md N rows blocks P j) k) = ftQ p m md N rows blocks W P j (k + 1) k:=by
 rw [ftQ,ftQ,if_neg (by omega),if_pos (by omega)]
 exact take_set (by rw [ftT,List.getElem?_map,List.getElem?_range hj];rfl) hj
theorem ftQ_upd {p m : Nat} {md : List Int} {N : Nat} {rows blocks : List (List Int)} {W : Nat} {P : List Nat} {j k : Nat} : upd (ftQ p m md N rows blocks W P j k) k (ftQ p m md N rows blocks W P j (k + 1) k) = ftQ p m md N rows blocks W P j (k + 1):=by
 funext t
 by_cases h : t = k
 ·subst h;rw [upd_self]
 ·rw [upd_ne h,ftQ,ftQ]
  by_cases h2 : t < k
  ·rw [if_pos h2,if_pos (by omega)]
  ·rw [if_neg h2,if_neg (by omega)]
section
variable {p m N n c nm cm nt ct nr cr nb cb nk ck W : Nat} {pm ps pt pr pb pk : Option Addr} {dd : Int} {md : List Int} {rows blocks : List (List Int)} {P : List Nat}
theorem S_codewrightref54_Fits (CC : Cok p m md N rows) (hW : W ≤ 16) (hB : ∀ b ∈ P,b < N ∧ b < blocks.length ∧ Wd (p ^ m) W (row0 blocks b)) (hP : P.length ≤ 64) :
  Ctr Tryz.prog 87 [.agg #[.int .i64 p,.int .i64 m,.slice pm nm cm,.int .i64 N,.slice ps n c,.int .i64 dd,.slice pt nt ct,.slice pr nr cr,.int .i64 W],.slice pb nb cb,.slice pk nk ck] [] [slF I64 pm nm cm md,slF (encSl I64) ps n c rows,slF (encSl I64) pb nb cb blocks,slF I64 pk nk ck (toI P)]
   (ReL (cmB p m md rows blocks W P) (if cmB p m md rows blocks W P = true then cmR p m md N rows blocks W P else [])):=by
 refine Ctr_of_j' (F:=F_codewrightref54_Fits) rfl fun C=>?_
 refine j_len 1 rfl fun hn hb1 _=>?_
 subst hn
 refine j_len 2 rfl fun hn hb2 _=>?_
 subst hn
 refine j_len 3 rfl fun hn hb3 _=>?_
 subst hn
 have h64:=CC.n64
 have hln:=CC.len
 have hq:=CC.K.q
 have hq2:=(fok_fn CC.K).q2
 have hPl : (toI P).length = P.length:=List.length_map _
 have c_codewrightref09_Turn:=fun {n c : Nat} {ps : Option Addr}=>S_codewrightref09_Turn (n:=n) (c:=c) (ps:=ps) (N:=N) (W:=N) (rows:=rows) (by omega) (Nat.le_refl N) fun r hr=>(CC.mat r hr).1
 refine wk 13 cz ?_
 intro b1 b2
 refine j_step rfl (x_call [1] rfl (c_codewrightref09_Turn) rfl ?_)
 rintro _ _ _ ⟨pb1,cb1,rfl,rfl,rfl⟩
 simp only [List.cons_append,List.nil_append]
 refine wk 7 cz ?_
 intro b3
 (apply j_rowlit (E:=encSl I64) (n:=0) (cs:=[]) [] [] 0 (fun w A hG=>allrd_nil);(· rfl);(· rfl);(· rfl);(· rfl);(· decide))
 refine j_loopG (X:=Nat × Row) [1,2,3,6,7,8,9] [0,1,2,3,4,5] (fun x=>[(11,.int .i64 (x.1 : Int)),(10,.slice (ad x.2.bo) x.1 x.2.cap)]) (fun x=>(x.2.bo,22,x.2.cs)::_) (fun x=>[rowF (encSl I64) x.2 x.1 (kcL rows (P.take x.1))]) (fun x=>x.1 ≤ P.length) (fun x=>P.length - x.1) (0,⟨some b3,0,[]⟩) [0] rfl rfl rfl (Nat.zero_le _) (by repeat (first | exact Fr.sub_nil _ | refine Fr.sub_cons rfl ?_)) rfl rfl ?_
 rintro ⟨i,r⟩ hi ih
 simp only [List.cons_append,List.nil_append] at hi ih ⊢
 by_cases hil : i < P.length
 ·obtain ⟨b,hb⟩ : ∃ b,P[i]? = some b:=⟨_,List.getElem?_eq_getElem hil⟩
  have at_b : (toI P)[i]? = some (b : Int):=by rw [toI,List.getElem?_map,hb];rfl
  obtain ⟨hbN,hbl,hbW⟩:=hB b (List.mem_of_getElem? hb)
  have hcl : (colL rows b).length = rows.length:=List.length_map _
  have at_u : (trL N rows)[b]? = some (colL rows b):=by rw [trL,List.getElem?_map,List.getElem?_range (by omega)];rfl
  have ih1:=fun r=>ih (i + 1,r) (by dsimp only;omega) (by dsimp only;omega)
  dsimp only at ih1
  rw [List.take_add_one (l:=P),hb,Option.toList_some,kcL,List.map_append,List.map_cons,List.map_nil] at ih1
  clear ih
  refine wk 9 cz ?_
  intro h1 b4 o1 hz1
  refine j_step rfl (x_ld_int 0 rfl rfl ld3 fun ⟨r1,r2⟩=>?_)
  refine wk 3 cz ?_
  intro b5 o2 hz2 pa1 ca1 b6
  refine j_step rfl (x_appR (z:=colL rows b) 1 0 3 rfl rfl rfl rfl rfl sl25 zo25e rfl (fun w A hG=>(rd_of_slF (hG _ (fact_mem (n:=0) rfl)))) (by omega) _ by25e (by omega) fun r3=>?_)
  refine wk 4 cz ?_
  refine j_toM [true,false,true,true] [0,5,6,7,8,9,10] (by exact fra rfl) rfl rfl (ih1 r3)
 ·obtain rfl : i = P.length:=by omega
  clear ih
  rw [List.take_length]
  refine j_pubR 0 0 rfl rfl (by show P.length * 24 ≤ 140737488355328;omega) ?_
  simp only [List.eraseIdx_cons_zero,List.eraseIdx_cons_succ]
  have hKM : Mat (p ^ m) rows.length (kcL rows P):=fun u hu=>by
   obtain ⟨b,_,rfl⟩:=List.mem_map.1 hu
   exact wd_col (by omega) CC.mat b
  have hkl : (kcL rows P).length = P.length:=List.length_map _
  have hwd : ∀ j,j < W → Wd (p ^ m) (kcL rows P).length (wnL blocks P j):=fun j hj=>⟨by rw [hkl];exact List.length_map _,fun x hx=>by
   obtain ⟨b,hb,rfl⟩:=List.mem_map.1 hx
   exact wd_at (by omega) (hB b hb).2.2 j⟩
  have hSX : ∀ j,j < W → Wd (p ^ m) rows.length (slX rows.length (cmE p m md rows blocks P j)):=fun j hj=>by
   have h:=(fok_fo CC.K).elim (m:=rows.length) (auL_mat hKM (hwd j hj).2)
   exact (fok_fo CC.K).slX_wd h.1 h.2.1
  have hcw : ∀ j,j < W → Wd (p ^ m) N (cmW p m md N rows blocks P j):=fun j hj=>(fok_fo CC.K).cmb_wd (hSX j hj).2 CC.mat
  refine wk 9 cz ?_
  intro h1
  refine j_step rfl (x_make (N) _ rfl rfl sl25 zo25e rfl rfl by25e (by omega) (by omega) (by omega) fun b4=>?_)
  refine wk 4 cz ?_
  refine j_hd0 0 rfl (by omega) fun csA=>?_
  refine j_famNil I64 3 0 ?_
  simp only [setB,List.cons_append,List.nil_append]
  refine j_matCongr (fun _=>List.replicate W 0) 0 rfl (fun g hg=>absurd hg (Nat.not_lt_zero g)) ?_
  refine j_loopG (X:=Nat × List Value × (Nat → Hd) × (Nat → List Value)) [1,2,3,6,7,8,10,12] [0,1,2,3,4,5,6,7,8,9,10] (fun x=>[(13,.int .i64 (x.1 : Int))])
   (fun x=>(some b4,22,x.2.1)::_::_::famB 3 x.2.2.1 x.2.2.2 x.1 [])
   (fun x=>[rowF hdE ⟨some b4,N,x.2.1⟩ N (hdl x.2.2.1 N),matF I64 x.2.2.1 x.2.2.2 (fun _=>List.replicate W 0) x.1 []])
   (fun x=>x.1 ≤ N) (fun x=>N - x.1) (0,csA,fun _=>(none,0,0),fun _=>[]) [2,0] rfl rfl rfl (Nat.zero_le _) (by repeat (first | exact Fr.sub_nil _ | refine Fr.sub_cons rfl ?_)) rfl rfl ?_
  rintro ⟨k,hc,hd,cs⟩ hk ih
  simp only [List.cons_append,List.nil_append] at hk ih ⊢
  by_cases hkN : k < N
  ·have ih1:=fun hc hd cs=>ih (k + 1,hc,hd,cs) (by dsimp only;omega) (by dsimp only;omega)
   dsimp only at ih1
   clear ih
   refine wk 13 cz ?_
   intro h2 b5
   refine j_step rfl (x_stR (vs:=[Value.slice (some { block:=b5,off:=0 }) W W]) (z:=(some b5,W,W)) 1 0 (k) rfl rfl rfl rfl rfl ld22 (Nat.mul_one _).symm (by omega) (fun w A hG=>(rd_hd (some _) _ _)) fun cs1=>?_)
   refine wk 3 cz ?_
   rw [hdl_set,show natCells .i64 (List.replicate W 0) = intCells .i64 (List.replicate W 0) by simp [natCells,intCells]]
   refine j_rowInt 0 rfl List.length_replicate.symm (fun z hz=>by rw [(List.mem_replicate.1 hz).2];simp only [InR];omega) (by omega) ?_
   refine j_push 3 0 0 3 rfl rfl rfl rfl ?_
   simp only [List.eraseIdx_cons_zero,List.eraseIdx_cons_succ,List.take_succ_cons,List.take_zero,List.cons_append,List.nil_append]
   refine j_matCongr (fun _=>List.replicate W 0) 0 rfl (fun g hg=>by
    by_cases e : g = k
    ·subst e;rw [upd_self]
    ·rw [upd_ne e]) ?_
   exact tw (ih1 cs1 (upd hd k (some b5,W,W)) (upd cs k (intCells .i64 (List.replicate W 0))))
  ·obtain rfl : k = N:=by omega
   clear ih
   refine j_matCongr (ftQ p m md k rows blocks W P 0 0) 1 rfl (fun t ht=>by rw [ftQ,if_neg (by omega),List.take_zero,List.nil_append,Nat.sub_zero]) ?_
   refine wk 10 cz ?_
   intro h2
   refine j_loopG (X:=Nat × List Value × (Nat → Hd) × (Nat → List Value)) [1,2,3,8,10,12] [0,1,2,3,4,5,6,7,8,9,10,11,12,13] (fun x=>[(14,.int .i64 (x.1 : Int))])
    (fun x=>(some b4,22,x.2.1)::_::_::famB 3 x.2.2.1 x.2.2.2 k [])
    (fun x=>[rowF hdE ⟨some b4,k,x.2.1⟩ k (hdl x.2.2.1 k),matF I64 x.2.2.1 x.2.2.2 (ftQ p m md k rows blocks W P x.1 0) k []])
    (fun x=>x.1 ≤ W ∧ ∀ j,j < x.1 → slB rows.length (cmE p m md rows blocks P j) = true) (fun x=>W - x.1) (0,hc,hd,cs) [1,0] rfl rfl rfl ⟨Nat.zero_le _,fun j h=>absurd h (Nat.not_lt_zero j)⟩ (by repeat (first | exact Fr.sub_nil _ | refine Fr.sub_cons rfl ?_)) rfl rfl ?_
   rintro ⟨j,cA,hd,cs⟩ ⟨hj,hs⟩ ih
   simp only [List.cons_append,List.nil_append] at hj hs ih ⊢
   by_cases hjW : j < W
   ·have hTl : (wnL blocks P j).length = P.length:=List.length_map _
    have hTr : ∀ z ∈ wnL blocks P j,InR .i64 z:=fun z hz=>by
     have:=(hwd j hjW).2 z hz
     simp only [InR];omega
    refine wk 15 cz ?_
    intro h3 b5
    rw [show natCells .i64 (List.replicate (toI P).length 0) = intCells .i64 ((wnL blocks P j).take 0++List.replicate ((toI P).length - 0) 0) by simp [natCells,intCells]]
    refine j_loopG (X:=Nat) [1,2,3,8,10,12,14,15,60,61,62,63,66,67,68] [0,1,2,3,4,5,6,7,8,9,10,11,12,13,14,15] (fun k=>[(16,.int .i64 (k : Int))]) (fun k=>(some b5,3,intCells .i64 ((wnL blocks P j).take k++List.replicate ((toI P).length - k) 0))::_) (fun _=>[]) (fun k=>k ≤ (toI P).length) (fun k=>(toI P).length - k) 0 [] rfl rfl rfl (Nat.zero_le _) (by repeat (first | exact Fr.sub_nil _ | refine Fr.sub_cons rfl ?_)) rfl rfl ?_
    rintro t ht iht
    simp only [List.cons_append,List.nil_append] at ht iht ⊢
    by_cases h8 : t < (toI P).length
    ·obtain ⟨b,hb⟩ : ∃ b,P[t]? = some b:=⟨_,List.getElem?_eq_getElem (by omega)⟩
     have at_b : (toI P)[t]? = some (b : Int):=by rw [toI,List.getElem?_map,hb];rfl
     obtain ⟨hbN,hbl,hbW⟩:=hB b (List.mem_of_getElem? hb)
     have hul:=hbW.1
     have at_u : blocks[b]? = some (row0 blocks b):=by rw [row0,List.getD_eq_getElem?_getD,List.getElem?_eq_getElem hbl];rfl
     have at_y : (row0 blocks b)[j]? = some (at0 (row0 blocks b) j):=by rw [at0,List.getD_eq_getElem?_getD,List.getElem?_eq_getElem (by omega)];rfl
     have hT : (wnL blocks P j)[t]? = some (at0 (row0 blocks b) j):=by rw [wnL,List.getElem?_map,hb];rfl
     have ih':=iht (t + 1) (by omega) (by omega)
     rw [← take_set hT h8] at ih'
     have hln : ((wnL blocks P j).take t++List.replicate ((toI P).length - t) 0).length = (toI P).length:=by rw [List.length_append,List.length_take,List.length_replicate];omega
     generalize (wnL blocks P j).take t++List.replicate ((toI P).length - t) 0 = L at *
     clear ih iht
     refine wk 9 cz ?_
     intro h4 b6 o1 hz1
     refine j_step rfl (x_ld_int 0 rfl rfl ld3 fun ⟨r1,r2⟩=>?_)
     refine wk 4 cz ?_
     intro b7 o2 hz2 pa1 ca1 b8 o3 hz3
     refine j_step rfl (x_ld_int 0 rfl rfl ld3 fun ⟨r3,r4⟩=>?_)
     refine wk 5 cz ?_
     exact tw (ih')
    ·obtain rfl : t = (toI P).length:=by omega
     rw [Nat.sub_self,List.replicate_zero,List.append_nil,List.take_of_length_le (by omega)]
     clear iht
     refine j_rowInt 0 rfl (hPl.trans hTl.symm) hTr (by omega) ?_
     refine j_pubRb 0 0 rfl rfl (by show (toI P).length * 8 ≤ 140737488355328;omega) ?_
     simp only [List.eraseIdx_cons_zero,List.eraseIdx_cons_succ]
     have c_codewrightref09_Solve:=fun {pm ps pb : Option Addr} {nm cm n c nb cb : Nat}=>S_codewrightref09_Solve (pm:=pm) (ps:=ps) (pb:=pb) (nm:=nm) (cm:=cm) (n:=n) (c:=c) (nb:=nb) (cb:=cb) CC.K (show rows.length ≤ 256 by omega) (show (kcL rows P).length ≤ 256 by omega) hKM (hwd j hjW)
     cases hsl : slB rows.length (cmE p m md rows blocks P j) with
     | false =>
      have hcm : cmB p m md rows blocks W P = false:=by
       rw [cmB,List.all_eq_false]
       exact ⟨j,List.mem_range.2 hjW,by rw [hsl];simp⟩
      rw [hcm,if_neg (by simp)]
      rw [so_no hsl] at c_codewrightref09_Solve
      refine j_add (slF (encSl I64) none 0 0 []) (fun w A _=>slF_nil _ w A none 0) ?_
      clear ih
      refine wk 15 cz ?_
      intro h4
      refine j_step rfl (x_call [15,11,1] rfl (c_codewrightref09_Solve) rfl ?_)
      rintro _ _ _ ⟨pb2,cb2,rfl,rfl,rfl⟩
      simp only [List.cons_append,List.nil_append]
      refine wk 8 cz ?_
      intro h5
      refine j_giv [1] rfl rfl rfl ⟨_,_,rfl,rfl,rfl⟩
     | true =>
      rw [so_ok hsl] at c_codewrightref09_Solve
      have c_codewrightref09_Combine:=fun {nm cm nx cx n c : Nat} {pm px ps : Option Addr}=>S_codewrightref09_Combine (nm:=nm) (cm:=cm) (nx:=nx) (cx:=cx) (n:=n) (c:=c) (pm:=pm) (px:=px) (ps:=ps) CC.K (show k ≤ 1000000 by omega) CC.mat (hSX j hjW)
      rw [show cbP p m md k (slX rows.length (cmE p m md rows blocks P j)) rows = cmW p m md k rows blocks P j from rfl] at c_codewrightref09_Combine
      have hcwl:=(hcw j hjW).1
      have ih1:=fun cA hd cs=>ih (j + 1,cA,hd,cs) (by dsimp only;omega) (by dsimp only;exact ⟨by omega,fun t ht=>by
       by_cases e : t = j
       ·subst e;exact hsl
       ·exact hs t (by omega)⟩)
      dsimp only at ih1
      clear ih
      refine wk 15 cz ?_
      intro h4
      refine j_step rfl (x_call [14,10,0] rfl (c_codewrightref09_Solve) rfl ?_)
      rintro _ _ _ ⟨pb2,cb2,rfl,rfl,rfl⟩
      simp only [List.cons_append,List.nil_append]
      refine wk 13 cz ?_
      intro h5
      refine j_step rfl (x_call [15,0,16] rfl (c_codewrightref09_Combine) rfl ?_)
      rintro _ _ _ ⟨pb3,cb3,rfl,rfl,rfl⟩
      simp only [List.cons_append,List.nil_append]
      simp only [decide_true]
      refine wk 4 cz ?_
      refine j_loopG (X:=Nat × List Value × (Nat → Hd) × (Nat → List Value)) [1,2,3,8,10,12,14,15,16,17,18,19,60,61,62,63,66,67,68,69,70,71,72,88,89,90,91,92,93,94,95,96,97,98,99,100,101,102,103,104,105,106,107,108,109] [0,1,2,3,4,5,6,7,8,9,10,11,12,13,14,15,16,17,18,19] (fun x=>[(20,.int .i64 (x.1 : Int))])
       (fun x=>(some b4,22,x.2.1)::_::_::famB 3 x.2.2.1 x.2.2.2 k [])
       (fun x=>[rowF hdE ⟨some b4,k,x.2.1⟩ k (hdl x.2.2.1 k),matF I64 x.2.2.1 x.2.2.2 (ftQ p m md k rows blocks W P j x.1) k []])
       (fun x=>x.1 ≤ k) (fun x=>k - x.1) (0,cA,hd,cs) [4,5] rfl rfl rfl (Nat.zero_le _) (by repeat (first | exact Fr.sub_nil _ | refine Fr.sub_cons rfl ?_)) rfl rfl ?_
      rintro ⟨t,cA,hd,cs⟩ ht iht
      simp only [List.cons_append,List.nil_append] at ht iht ⊢
      by_cases htk : t < k
      ·have hfl : (ftQ p m md k rows blocks W P j t t).length = W:=ftQ_len (.inl (by omega))
       refine j_hdlen 1 rfl fun hlen=>?_
       have hN' : (hd t).2.1 = W:=by rw [hlen t htk rfl,hfl]
       have at_x : (cmW p m md k rows blocks P j)[t]? = some (at0 (cmW p m md k rows blocks P j) t):=by rw [at0,List.getD_eq_getElem?_getD,List.getElem?_eq_getElem (by omega)];rfl
       have hxr:=wd_at (show 0 < p ^ m by omega) (hcw j hjW) t
       have hgx:=gd_at at_x
       refine j_focusL 3 (t) 1 (W) rfl rfl (by first | assumption | omega) (by first | rfl | assumption | (simp [memB_cons,memB];done) | (simp [memB_cons,memB];omega)) (by first | assumption | omega) fun r1 hr1=>?_
       simp only [List.take_succ_cons,List.take_zero,List.cons_append,List.nil_append]
       refine wk 9 cz ?_
       intro h6 b6 o1
       refine j_rowB 1 rfl (by omega) fun b7 cap1 cs1 hr2=>?_
       subst hr2
       dsimp only
       refine wk 1 cz ?_
       refine j_step rfl (x_stR (vs:=[Value.int IntKind.i64 ((cmW p m md k rows blocks P j).getD t default)]) (z:=((cmW p m md k rows blocks P j).getD t default : Int)) 0 1 (j) rfl rfl rfl rfl rfl ld3 (Nat.mul_one _).symm (by omega) (fun w A hG=>(rd_int (by first | (simp only [InR];omega) | (simp [InR];done)))) fun cs2=>?_)
       refine wk 3 cz ?_
       rw [hgx,ftQ_set hjW]
       refine j_unfocusL 3 (t) 0 0 3 rfl rfl rfl rfl (by first | assumption | omega) (by first | rfl | assumption | (simp [memB_cons,memB];done) | (simp [memB_cons,memB];omega)) ?_
       simp only [List.eraseIdx_cons_zero,List.eraseIdx_cons_succ,List.take_succ_cons,List.take_zero,List.cons_append,List.nil_append]
       rw [ftQ_upd,upd_id (hdl_at hr1 htk)]
       exact tw (iht (t + 1,cA,hd,upd cs t cs2) (by dsimp only;omega) (by dsimp only;omega))
      ·obtain rfl : t = k:=by omega
       clear iht
       refine wk 10 cz ?_
       intro h6
       refine j_matCongr (ftQ p m md t rows blocks W P (j + 1) 0) 1 rfl (fun a ha=>by rw [ftQ,ftQ,if_pos ha,if_neg (by omega)]) ?_
       exact tw (ih1 cA hd cs)
   ·obtain rfl : j = W:=by omega
    clear ih
    have hcm : cmB p m md rows blocks j P = true:=List.all_eq_true.2 fun t ht=>hs t (List.mem_range.1 ht)
    rw [hcm,if_pos rfl]
    refine wk 10 cz ?_
    intro h3
    refine j_hdlen 1 rfl fun hlen=>?_
    refine j_pubFamL 3 0 0 1 rfl rfl rfl rfl (fun i hi=>by rw [hlen i hi rfl,ftQ_len (.inr ⟨Nat.zero_le _,Nat.le_refl _⟩)];show j * 8 ≤ _;omega) ?_
    simp only [List.take_succ_cons,List.take_zero]
    refine j_pubRb 0 0 rfl rfl (by show k * 24 ≤ 140737488355328;omega) ?_
    simp only [List.eraseIdx_cons_zero,List.eraseIdx_cons_succ]
    rw [show (List.range k).map (ftQ p m md k rows blocks j P j 0) = cmR p m md k rows blocks j P from List.map_congr_left fun b hb=>by
     rw [ftQ,if_neg (by omega),Nat.sub_self,List.replicate_zero,List.append_nil,List.take_of_length_le (by rw [ftT_len];omega)];rfl]
    have hcl : (cmR p m md k rows blocks j P).length = k:=by simp [cmR]
    generalize cmR p m md k rows blocks j P = R at *
    subst hcl
    refine j_giv [0] rfl rfl rfl ⟨_,_,rfl,rfl,rfl⟩
end
open Go Go.Fw
set_option maxRecDepth 100000
set_option linter.unusedVariables false
set_option linter.unusedSimpArgs false
set_option maxHeartbeats 0
theorem pres_map {pres : List Nat} : (List.range pres.length).map (fun i=>pres.getD i 0) = pres :=
 List.ext_getElem? fun i=>by
  rw [List.getElem?_map]
  by_cases h : i < pres.length
  ·rw [List.getElem?_range h,List.getElem?_eq_getElem h]
   show some (pres.getD i 0) = _
   rw [List.getD_eq_getElem?_getD,List.getElem?_eq_getElem h];rfl
  ·rw [List.getElem?_eq_none (by rw [List.length_range];omega),List.getElem?_eq_none (by omega)];rfl
theorem kn_filt {pres s : List Nat} (hp : pres.Pairwise (· < ·)) (hs : ∀ b ∈ s,b < pres.length) : pres.filter (fun b=>!decide (b ∈ outC pres s)) = knC pres s:=by
 have h1 : (List.range pres.length).filter (fun i=>!decide (i ∈ s)) = (List.range pres.length).filter ((fun b=>!decide (b ∈ outC pres s)) ∘ fun i=>pres.getD i 0):=by
  refine List.filter_congr fun i hi=>?_
  have hi:=List.mem_range.1 hi
  show _ = !decide (pres.getD i 0 ∈ outC pres s)
  congr 1
  refine decide_eq_decide.2 ⟨fun h=>List.mem_map.2 ⟨i,h,rfl⟩,fun h=>?_⟩
  obtain ⟨a,ha,he⟩:=List.mem_map.1 h
  have hal:=hs a ha
  have e : ∀ q,q < pres.length → pres[q]? = some (pres.getD q 0):=fun q hq=>by rw [List.getD_eq_getElem?_getD,List.getElem?_eq_getElem hq];rfl
  have : pres[a]? = pres[i]?:=by rw [e a hal,e i hi,he]
  have:=(List.getElem?_inj hal (hp.imp fun h=>Nat.ne_of_lt h)).1 this
  exact this ▸ ha
 rw [knC,h1,← List.filter_map,pres_map]
theorem out_pi {pres s : List Nat} : piL (toI pres) (toI s) = toI (outC pres s):=by
 show (s.map fun x : Nat=>(x : Int)).map (fun j=>at0 (toI pres) j.toNat) = (s.map fun i=>pres.getD i 0).map fun x : Nat=>(x : Int)
 rw [List.map_map,List.map_map]
 refine List.map_congr_left fun a _=>?_
 show at0 (toI pres) (Int.toNat (a : Int)) = _
 rw [Int.toNat_natCast,at0,List.getD_eq_getElem?_getD,toI,List.getElem?_map]
 show _ = ((pres.getD a 0 : Nat) : Int)
 rw [List.getD_eq_getElem?_getD]
 cases pres[a]? <;> rfl
theorem toI_mem {l : List Nat} {a : Nat} : (a : Int) ∈ toI l ↔ a ∈ l:=by
 rw [toI,List.mem_map]
 exact ⟨fun ⟨b, hb, e⟩ => by have : b = a := by omega
                             exact this ▸ hb, fun h => ⟨a, h, rfl⟩⟩
theorem cum_binom {n k K : Nat} (h : k ≤ K) : binom n k ≤ cumN n (K + 1):=by
 have:=cumN_le (n:=n) (k:=k + 1) (d:=K - k)
 rw [show k + 1 + (K - k) = K + 1 by omega,cumN] at this
 omega
section
variable {p m N n c nm cm nt ct nr cr nb cb W : Nat} {pm ps pt pr pb : Option Addr} {dd : Int} {md : List Int} {rows blocks : List (List Int)}
theorem S_codewrightref54_Present (hl : blocks.length ≤ 1000000) : Ctr Tryz.prog 83 [.slice pb nb cb] [] [slF (encSl I64) pb nb cb blocks] (fun v Φ β=>∃ (pw : Option Addr) (cw : Nat),v = .slice pw (prL blocks).length cw ∧ Φ = [slF I64 pw (prL blocks).length cw (toI (prL blocks))] ∧ β = []):=by
 refine Ctr_of_j' (F:=F_codewrightref54_Present) rfl fun C=>?_
 refine j_len 0 rfl fun hn hb _=>?_
 subst hn
 have hpl:=pr_len (blocks:=blocks)
 refine wk 8 cz ?_
 intro b1
 (apply j_rowlit (E:=I64) (n:=0) (cs:=[]) [] [] 0 (fun w A hG=>allrd_nil);(· rfl);(· rfl);(· rfl);(· rfl);(· decide))
 refine j_loopG (X:=Nat × Row × List Nat) [0,2] [0,1] (fun z=>[(4,.int .i64 (z.1 : Int)),(3,.slice (ad z.2.1.bo) z.2.2.length z.2.1.cap)]) (fun z=>(z.2.1.bo,3,z.2.1.cs)::_) (fun z=>[rowF I64 z.2.1 z.2.2.length (toI z.2.2)]) (fun z=>z.1 ≤ blocks.length ∧ z.2.2.length ≤ z.1 ∧ z.2.2 = (List.range z.1).filter fun b=>decide (0 < (row0 blocks b).length)) (fun z=>blocks.length - z.1) (0,⟨some b1,0,[]⟩,[]) [0] rfl rfl rfl ⟨Nat.zero_le _,Nat.le_refl _,rfl⟩ (by repeat (first | exact Fr.sub_nil _ | refine Fr.sub_cons rfl ?_)) rfl rfl ?_
 rintro ⟨i,r,y⟩ ⟨hi,hyl,hy⟩ ih
 simp only [List.cons_append,List.nil_append] at hi hyl hy ih ⊢
 by_cases hil : i < blocks.length
 ·have at_u : blocks[i]? = some (row0 blocks i):=by rw [row0,List.getD_eq_getElem?_getD,List.getElem?_eq_getElem hil];rfl
  by_cases h0 : 0 < (row0 blocks i).length
  ·have ih1:=fun r=>ih (i + 1,r,y++[i]) (by dsimp only;omega) (by dsimp only;exact ⟨by omega,by rw [List.length_append];exact Nat.add_le_add_right hyl 1,by rw [range_filt,← hy,if_pos (decide_eq_true h0)]⟩)
   dsimp only at ih1
   rw [List.length_append,List.length_singleton,toI_app,show toI [i] = [(i : Int)] from rfl] at ih1
   clear ih
   refine wk 17 cz ?_
   intro h1 b2 o1 hz1 pa1 ca1 h2 b3
   refine j_step rfl (x_appR (z:=(↑i : Int)) 1 0 2 rfl rfl rfl rfl rfl sl22 zo22e rfl (fun w A hG=>(rd_int (by first | (simp only [InR];omega) | (simp [InR];done)))) (by omega) _ by22e (by omega) fun r1=>?_)
   refine wk 4 cz ?_
   refine j_toM [true,false] [0,4,5] (by exact fra rfl) rfl rfl (ih1 r1)
  ·have ih1:=ih (i + 1,r,y) (by dsimp only;omega) (by dsimp only;exact ⟨by omega,by omega,by rw [range_filt,← hy,if_neg (by simpa using h0),List.append_nil]⟩)
   dsimp only at ih1
   clear ih
   refine wk 17 cz ?_
   intro h1 b2 o1 hz1 pa1 ca1 h2
   exact tw (ih1)
 ·obtain rfl : i = blocks.length:=by omega
  clear ih
  obtain rfl : y = prL blocks:=hy
  refine wk 9 cz ?_
  intro h1
  refine j_pubR 0 0 rfl rfl (by show (prL blocks).length * 8 ≤ 140737488355328;omega) ?_
  simp only [List.eraseIdx_cons_zero,List.eraseIdx_cons_succ]
  refine j_giv [0] rfl rfl rfl ⟨_,_,rfl,rfl,rfl⟩
theorem S_codewrightref54_decode (CC : Cok p m md N rows) (hd1 : 1 ≤ dd) (hd2 : dd ≤ N + 1) (hcum : cumN N (((dd - 1) / 2).toNat + 1) ≤ 65536) (hW1 : 1 ≤ W) (hW : W ≤ 16) (hBl : blocks.length = N) (hB : ∀ b,b < N → row0 blocks b = [] ∨ Wd (p ^ m) W (row0 blocks b)) :
  Ctr Tryz.prog 51 [.agg #[.int .i64 p,.int .i64 m,.slice pm nm cm,.int .i64 N,.slice ps n c,.int .i64 dd,.slice pt nt ct,.slice pr nr cr,.int .i64 W],.slice pb nb cb] [] [slF I64 pm nm cm md,slF (encSl I64) ps n c rows,slF (encSl I64) pb nb cb blocks]
   (deO p m md N rows blocks W (deR p m md N rows blocks dd W)):=by
 refine Ctr_of_j' (F:=F_codewrightref54_decode) rfl fun C=>?_
 refine j_len 1 rfl fun hn hb1 _=>?_
 subst hn
 refine j_len 2 rfl fun hn hb2 _=>?_
 subst hn
 subst hBl
 have h64:=CC.n64
 have hpl:=pr_len (blocks:=blocks)
 have c_codewrightref54_Present:=fun {nb cb : Nat} {pb : Option Addr}=>S_codewrightref54_Present (nb:=nb) (cb:=cb) (pb:=pb) (blocks:=blocks) (by omega)
 have hprs : (prL blocks).Pairwise (· < ·):=List.pairwise_lt_range.filter _
 obtain ⟨O,hO⟩ : ∃ O,deR p m md blocks.length rows blocks dd W = O:=⟨_,rfl⟩
 rw [hO]
 rw [deR] at hO
 obtain ⟨pres,hpr⟩ : ∃ q,prL blocks = q:=⟨_,rfl⟩
 have hdK : ∀ k,deK p m md rows blocks W k = (subE pres.length k).find? fun s=>cmB p m md rows blocks W (knC pres s):=fun k=>by rw [deK,hpr]
 have hO2 : ∀ s,deO p m md blocks.length rows blocks W (some s) = DeQ (cmR p m md blocks.length rows blocks W (knC pres s)) (toI (outC pres s)) 0:=fun s=>by rw [deO,hpr]
 rw [hpr] at hO hprs hpl c_codewrightref54_Present
 have hpm : ∀ b ∈ pres,b < blocks.length ∧ Wd (p ^ m) W (row0 blocks b):=fun b hb=>by
  rw [← hpr] at hb
  obtain ⟨h1,h2⟩:=pr_lt hb
  rcases hB b h1 with h | h
  ·rw [h] at h2;cases h2
  ·exact ⟨h1,h⟩
 clear hpr hB
 have hpi : (toI pres).length = pres.length:=toI_len _
 by_cases hlo : dd ≤ (blocks.length : Int) - pres.length
 ·rw [if_pos hlo] at hO
  subst hO
  rw [deO]
  refine j_add (slF (encSl I64) none 0 0 []) (fun w A _=>slF_nil _ w A none 0) ?_
  refine j_add (slF I64 none 0 0 []) (fun w A _=>slF_nil _ w A none 0) ?_
  refine wk 5 cz ?_
  intro b1
  refine j_step rfl (x_call [4] rfl (c_codewrightref54_Present) rfl ?_)
  rintro _ _ _ ⟨pw1,cw1,rfl,rfl,rfl⟩
  simp only [List.cons_append,List.nil_append]
  refine wk 18 cz ?_
  intro h1
  refine j_giv [2,1] rfl rfl rfl ⟨_,_,_,_,rfl,rfl,rfl⟩
 ·rw [if_neg hlo] at hO
  obtain ⟨K,hK⟩:=Int.eq_ofNat_of_zero_le (show 0 ≤ (dd - 1 - ((blocks.length : Int) - pres.length)) / 2 by omega)
  rw [hK,Int.toNat_natCast] at hO
  have hKn : K ≤ pres.length:=by omega
  have hKc : K ≤ ((dd - 1) / 2).toNat:=by omega
  refine wk 5 cz ?_
  intro b1
  refine j_step rfl (x_call [2] rfl (c_codewrightref54_Present) rfl ?_)
  rintro _ _ _ ⟨pw1,cw1,rfl,rfl,rfl⟩
  simp only [List.cons_append,List.nil_append]
  refine wk 18 cz ?_
  intro h1
  refine j_loopG (X:=Nat) [1,2,7,8] [0,1,2,3] (fun k=>[(9,.int .i64 (k : Int))]) (fun _=>_) (fun _=>[]) (fun k=>k ≤ K + 1 ∧ deA (deK p m md rows blocks W) (K + 1 - k) k = O) (fun k=>K + 1 - k) 0 [] rfl rfl rfl ⟨Nat.zero_le _,hO⟩ (by repeat (first | exact Fr.sub_nil _ | refine Fr.sub_cons rfl ?_)) rfl rfl ?_
  rintro k ⟨hk,hg⟩ ihk
  simp only [List.cons_append,List.nil_append] at hk hg ihk ⊢
  by_cases hkK : k ≤ K
  ·rw [show K + 1 - k = (K - k) + 1 by omega,deA] at hg
   have hkn : k ≤ pres.length:=by omega
   have hbn : binom pres.length k ≤ 65536:=by
    have h1:=binom_mono' (n:=pres.length) (k:=k) (d:=blocks.length - pres.length)
    rw [show pres.length + (blocks.length - pres.length) = blocks.length by omega] at h1
    have h2:=cum_binom (n:=blocks.length) (show k ≤ ((dd - 1) / 2).toNat by omega)
    omega
   have c_codewrightref11_Subsets:=S_codewrightref11_Subsets (n:=pres.length) (k:=k) (by omega) hkn hbn
   have hEl:=sub_len hkn
   have hEs:=fun {t : Nat} {x : List Nat}=>en_step (n:=pres.length) (r:=rkS pres.length (List.range k)) (s:=List.range k) (t:=t) (x:=x) (sub_vd hkn) rfl
   rw [show enL pres.length (rkS pres.length (List.range k)) (List.range k) = subE pres.length k from rfl,List.length_range] at hEs
   rw [hdK] at hg
   generalize subE pres.length k = E at *
   rw [← hEl] at c_codewrightref11_Subsets
   have hEm : (E.map toI).length = E.length:=List.length_map _
   have ih1:=ihk (k + 1) (by omega)
   clear ihk
   refine wk 16 cz ?_
   intro h2 h3
   refine j_step rfl (x_call [] rfl (c_codewrightref11_Subsets) rfl ?_)
   rintro _ _ _ ⟨pb1,cb1,rfl,rfl,rfl⟩
   simp only [List.cons_append,List.nil_append]
   refine wk 4 cz ?_
   refine j_loopG (X:=Nat) [1,2,7,8,9,10,32,33,34,35,36,37,38,39,40,41,44,45,46,47,48,49,50] [0,1,2,3,4] (fun i=>[(12,.int .i64 (i : Int))]) (fun _=>_) (fun _=>[]) (fun i=>i ≤ E.length ∧ (match (E.drop i).find? (fun s=>cmB p m md rows blocks W (knC pres s)) with | some s=>some s | none=>deA (deK p m md rows blocks W) (K - k) (k + 1)) = O) (fun i=>E.length - i) 0 [] rfl rfl rfl ⟨Nat.zero_le _,hg⟩ (by repeat (first | exact Fr.sub_nil _ | refine Fr.sub_cons rfl ?_)) rfl rfl ?_
   rintro i ⟨hi,hgi⟩ ihi
   simp only [List.cons_append,List.nil_append] at hi hgi ihi ⊢
   by_cases hil : i < E.length
   ·obtain ⟨s,hs⟩ : ∃ s,E[i]? = some s:=⟨_,List.getElem?_eq_getElem hil⟩
    have at_s : (E.map toI)[i]? = some (toI s):=by rw [List.getElem?_map,hs];rfl
    obtain ⟨_,hv,hsk⟩:=hEs hs
    obtain ⟨hsb,hsp⟩:=vd_lt hv
    have hsl : (toI s).length = k:=by rw [toI_len,hsk]
    have hst : ∀ x ∈ toI s,0 ≤ x ∧ x < (pres.length : Int):=fun x hx=>by
     obtain ⟨a,ha,rfl⟩:=List.mem_map.1 hx
     have:=hsb a ha
     omega
    have hwp : Wd 64 pres.length (toI pres):=⟨hpi,fun x hx=>by
     obtain ⟨a,ha,rfl⟩:=List.mem_map.1 hx
     have:=(hpm a ha).1
     omega⟩
    have c_codewrightref09_Pick:=fun {nw cw nh ch : Nat} {pw ph : Option Addr}=>S_codewrightref09_Pick (nw:=nw) (cw:=cw) (nh:=nh) (ch:=ch) (pw:=pw) (ph:=ph) (q:=64) (by omega) (by omega) hwp (by omega) (show (toI s).length ≤ 1000000 by omega) hst
    rw [out_pi] at c_codewrightref09_Pick
    have hgi':=hgi
    rw [List.drop_eq_getElem_cons hil,List.find?_cons,show E[i] = s from by rw [List.getElem?_eq_getElem hil] at hs;exact Option.some.inj hs] at hgi'
    have hkf:=kn_filt hprs hsb
    have how : (toI (outC pres s)).length = k:=by rw [toI_len,outC,List.length_map,hsk]
    refine wk 10 cz ?_
    intro h4 b2 o1 hz1 pa1 ca1
    refine j_step rfl (x_call [3,0] rfl (c_codewrightref09_Pick) rfl ?_)
    rintro _ _ _ ⟨pb2,cb2,rfl,rfl,rfl⟩
    simp only [List.cons_append,List.nil_append]
    refine wk 7 cz ?_
    intro b3
    (apply j_rowlit (E:=I64) (n:=0) (cs:=[]) [] [] 0 (fun w A hG=>allrd_nil);(· rfl);(· rfl);(· rfl);(· rfl);(· decide))
    refine j_loopG (X:=Nat × Row × List Nat) [1,2,7,8,9,10,12,13,32,33,34,35,36,37,38,39,40,41,44,45,46,47,48,49,50,51,52,53,54,57,58,59,60,61,62,63] [0,1,2,3,4,5,6,7,8] (fun z=>[(15,.int .i64 (z.1 : Int)),(14,.slice (ad z.2.1.bo) z.2.2.length z.2.1.cap)]) (fun z=>(z.2.1.bo,3,z.2.1.cs)::_) (fun z=>[rowF I64 z.2.1 z.2.2.length (toI z.2.2)]) (fun z=>z.1 ≤ pres.length ∧ z.2.2.length ≤ z.1 ∧ z.2.2 = (pres.take z.1).filter fun b=>!decide (b ∈ outC pres s)) (fun z=>pres.length - z.1) (0,⟨some b3,0,[]⟩,[]) [0] rfl rfl rfl ⟨Nat.zero_le _,Nat.le_refl _,rfl⟩ (by repeat (first | exact Fr.sub_nil _ | refine Fr.sub_cons rfl ?_)) rfl rfl ?_
    rintro ⟨j,r,y⟩ ⟨hj,hyl,hy⟩ ihj
    simp only [List.cons_append,List.nil_append] at hj hyl hy ihj ⊢
    by_cases hjl : j < pres.length
    ·obtain ⟨b,hb⟩ : ∃ b,pres[j]? = some b:=⟨_,List.getElem?_eq_getElem hjl⟩
     have at_b:=toI_at hb
     have hbN:=(hpm b (List.mem_of_getElem? hb)).1
     have htk : pres.take (j + 1) = pres.take j++[b]:=by rw [List.take_add_one,hb];rfl
     by_cases hbo : b ∈ outC pres s
     ·have hd:=decide_eq_true (toI_mem.2 hbo)
      have ih2:=ihj (j + 1,r,y) (by dsimp only;omega) (by dsimp only;exact ⟨by omega,by omega,by rw [htk,List.filter_append,← hy,List.filter_cons,decide_eq_true hbo];simp⟩)
      dsimp only at ih2
      clear ihj ihi ih1
      refine wk 9 cz ?_
      intro h5 b4 o2 hz2
      refine j_step rfl (x_ld_int 0 rfl rfl ld3 fun ⟨r1,r2⟩=>?_)
      refine j_step rfl (x_call [3] rfl (S_codewrightref53_In (by omega)) rfl ?_)
      rintro _ _ _ ⟨rfl,rfl,rfl⟩
      simp only [List.cons_append,List.nil_append]
      refine wk 6 cz ?_
      exact tw (ih2)
     ·have hd:=decide_eq_false (mt toI_mem.1 hbo)
      have ih2:=fun r=>ihj (j + 1,r,y++[b]) (by dsimp only;omega) (by dsimp only;exact ⟨by omega,by rw [List.length_append];exact Nat.add_le_add_right hyl 1,by rw [htk,List.filter_append,← hy,List.filter_cons,decide_eq_false hbo];simp⟩)
      dsimp only at ih2
      rw [List.length_append,List.length_singleton,toI_app,show toI [b] = [(b : Int)] from rfl] at ih2
      clear ihj ihi ih1
      refine wk 9 cz ?_
      intro h5 b4 o2 hz2
      refine j_step rfl (x_ld_int 0 rfl rfl ld3 fun ⟨r1,r2⟩=>?_)
      refine j_step rfl (x_call [3] rfl (S_codewrightref53_In (by omega)) rfl ?_)
      rintro _ _ _ ⟨rfl,rfl,rfl⟩
      simp only [List.cons_append,List.nil_append]
      refine wk 6 cz ?_
      intro b5 o3 hz3
      refine j_step rfl (x_ld_int 0 rfl rfl ld3 fun ⟨r3,r4⟩=>?_)
      refine wk 1 cz ?_
      intro b6
      refine j_step rfl (x_appR (z:=(↑b : Int)) 1 0 2 rfl rfl rfl rfl rfl sl22 zo22e rfl (fun w A hG=>(rd_int (by first | (simp only [InR];omega) | (simp [InR];done)))) (by omega) _ by22e (by omega) fun r5=>?_)
      refine wk 4 cz ?_
      refine j_toM [true,false,true] [0,4,5,6,7,8,9,10,11,12] (by exact fra rfl) rfl rfl (ih2 r5)
    ·obtain rfl : j = pres.length:=by omega
     clear ihj
     rw [List.take_length,hkf] at hy
     have hyB : ∀ b ∈ y,b < blocks.length ∧ b < blocks.length ∧ Wd (p ^ m) W (row0 blocks b):=fun b hb=>by
      rw [hy] at hb
      obtain ⟨a,ha,rfl⟩:=List.mem_map.1 hb
      have h1:=List.mem_range.1 (List.mem_filter.1 ha).1
      have h2 : pres.getD a 0 ∈ pres:=by rw [List.getD_eq_getElem?_getD,List.getElem?_eq_getElem h1];exact List.getElem_mem h1
      exact ⟨(hpm _ h2).1,(hpm _ h2).1,(hpm _ h2).2⟩
     refine j_pubR 0 0 rfl rfl (by show y.length * 8 ≤ 140737488355328;omega) ?_
     simp only [List.eraseIdx_cons_zero,List.eraseIdx_cons_succ]
     have c_codewrightref54_Fits:=fun {n c nm cm nt ct nr cr nb cb nk ck : Nat} {pm ps pt pr pb pk : Option Addr}=>S_codewrightref54_Fits (n:=n) (c:=c) (nm:=nm) (cm:=cm) (nt:=nt) (ct:=ct) (nr:=nr) (cr:=cr) (nb:=nb) (cb:=cb) (nk:=nk) (ck:=ck) (pm:=pm) (ps:=ps) (pt:=pt) (pr:=pr) (pb:=pb) (pk:=pk) (dd:=dd) (P:=y) CC hW hyB (by omega)
     cases hcm : cmB p m md rows blocks W y with
     | true =>
      rw [← hy,hcm] at hgi'
      obtain rfl : some s = O:=hgi'
      rw [hO2,← hy]
      rw [hcm,if_pos rfl] at c_codewrightref54_Fits
      obtain ⟨w,hw⟩ : ∃ w,toI (outC pres s) = w:=⟨_,rfl⟩
      rw [hw] at how ⊢
      rw [hsl,← how]
      clear ih1 ihi
      refine wk 9 cz ?_
      intro h5
      refine j_step rfl (x_call [8,9,10,0] rfl (c_codewrightref54_Fits) rfl ?_)
      rintro _ _ _ ⟨pa2,ca2,rfl,rfl,rfl⟩
      simp only [List.cons_append,List.nil_append]
      refine wk 8 cz ?_
      refine j_giv [0,4] rfl rfl rfl ⟨_,_,_,_,rfl,rfl,rfl⟩
     | false =>
      rw [← hy,hcm] at hgi'
      rw [hcm,if_neg (by simp)] at c_codewrightref54_Fits
      have ih2:=ihi (i + 1) (by omega) ⟨by omega,hgi'⟩
      clear ih1 ihi
      refine wk 9 cz ?_
      intro h5
      refine j_step rfl (x_call [8,9,10,0] rfl (c_codewrightref54_Fits) rfl ?_)
      rintro _ _ _ ⟨pa2,ca2,rfl,rfl,rfl⟩
      simp only [List.cons_append,List.nil_append]
      refine wk 8 cz ?_
      exact tw (ih2)
   ·obtain rfl : i = E.length:=by omega
    rw [List.drop_length,List.find?_nil] at hgi
    have ih2:=ih1 ⟨by omega,by rw [show K + 1 - (k + 1) = K - k by omega];exact hgi⟩
    clear ih1 ihi
    refine wk 9 cz ?_
    intro h4
    exact tw (ih2)
  ·obtain rfl : k = K + 1:=by omega
   clear ihk
   rw [Nat.sub_self,deA] at hg
   subst hg
   rw [deO]
   refine j_add (slF (encSl I64) none 0 0 []) (fun w A _=>slF_nil _ w A none 0) ?_
   refine j_add (slF I64 none 0 0 []) (fun w A _=>slF_nil _ w A none 0) ?_
   refine wk 13 cz ?_
   intro h2
   refine j_giv [1,0] rfl rfl rfl ⟨_,_,_,_,rfl,rfl,rfl⟩
end
open Go Go.Fw
set_option maxRecDepth 100000
set_option linter.unusedVariables false
set_option linter.unusedSimpArgs false
set_option maxHeartbeats 0
theorem any_sh {W : Int} {blocks : List (List Int)} : (blocks.any fun r=>!decide (r.length = 0 ∨ (r.length : Int) = W)) = false ↔ ∀ r ∈ blocks,r.length = 0 ∨ (r.length : Int) = W:=by
 rw [List.any_eq_false]
 exact forall_congr' fun r=>imp_congr_right fun _=>by rw [Bool.not_eq_true,Bool.not_eq_false',decide_eq_true_eq]
section
variable {P M N dd W : Int} {n c nm cm nt ct nr cr nb cb : Nat} {pm ps pt pr pb : Option Addr} {md racks : List Int} {rows sets blocks : List (List Int)}
noncomputable def deQ (P M : Int) (md : List Int) (N : Int) (rows : List (List Int)) (dd : Int) (sets : List (List Int)) (racks : List Int) (W : Int) (blocks : List (List Int)) : Value → List Fact → List Blk → Prop :=
 if stE P M md N rows dd sets racks W blocks ≠ 0 then DeQ [] [] (stE P M md N rows dd sets racks W blocks) else deO P.toNat M.toNat md N.toNat rows blocks W.toNat (deR P.toNat M.toNat md N.toNat rows blocks dd W.toNat)
theorem st_ok (h : stE P M md N rows dd sets racks W blocks = 0) : ∃ p m n w : Nat,P = p ∧ M = m ∧ N = n ∧ W = w ∧ CfOk p m md n rows dd sets racks W ∧ blocks.length = n ∧ (∀ r ∈ blocks,r.length = 0 ∨ r.length = w) ∧ (∀ r ∈ blocks,∀ x ∈ r,0 ≤ x ∧ x < ((p ^ m : Nat) : Int)) ∧ ∀ b,b < n → row0 blocks b = [] ∨ Wd (p ^ m) w (row0 blocks b):=by
 rw [stE] at h
 by_cases h0 : cfE P M md N rows dd sets racks W = 0
 ·rw [if_neg (fun e=>e h0)] at h
  obtain ⟨p,m,n,rfl,rfl,rfl,K⟩:=cf_ok h0
  obtain ⟨w,rfl⟩:=Int.eq_ofNat_of_zero_le (show 0 ≤ W by have:=K.w1;omega)
  rw [Int.toNat_natCast,Int.toNat_natCast] at h
  by_cases h1 : (blocks.length : Int) = n ∧ ∀ r ∈ blocks,r.length = 0 ∨ (r.length : Int) = w
  ·rw [if_neg (fun e=>e h1)] at h
   by_cases h2 : ∀ r ∈ blocks,∀ x ∈ r,0 ≤ x ∧ x < ((p ^ m : Nat) : Int)
   ·obtain ⟨a1,a2⟩:=h1
    refine ⟨p,m,n,w,rfl,rfl,rfl,rfl,K,by omega,fun r hr=>(a2 r hr).imp id fun h=>by omega,h2,fun b hb=>?_⟩
    have hm : row0 blocks b ∈ blocks:=row0_mem (by omega)
    rcases a2 _ hm with h | h
    ·exact .inl (List.length_eq_zero_iff.1 h)
    ·exact .inr ⟨by omega,h2 _ hm⟩
   ·rw [if_pos h2] at h;cases h
  ·rw [if_pos h1] at h;cases h
 ·rw [if_pos h0] at h;exact absurd h h0
theorem S_codewrightref54_Decode (hN : InR .i64 N) (hd : InR .i64 dd) : Ctr Tryz.prog 21 [.agg (cfgC P M pm nm cm N ps n c dd pt nt ct pr nr cr W).toArray,.slice pb nb cb] [] [slF I64 pm nm cm md,slF (encSl I64) ps n c rows,slF (encSl I64) pt nt ct sets,slF I64 pr nr cr racks,slF (encSl I64) pb nb cb blocks] (deQ P M md N rows dd sets racks W blocks):=by
 refine Ctr_of_j' (F:=F_codewrightref54_Decode) rfl fun C=>?_
 have hcr:=stE_rng (P:=P) (M:=M) (N:=N) (dd:=dd) (md:=md) (rows:=rows) (sets:=sets) (racks:=racks) (W:=W) (blocks:=blocks)
 have c_codewrightref54_Stripe:=fun {n c nm cm nt ct nr cr nb cb : Nat} {pm ps pt pr pb : Option Addr}=>S_codewrightref54_Stripe (P:=P) (M:=M) (N:=N) (dd:=dd) (md:=md) (rows:=rows) (sets:=sets) (racks:=racks) (W:=W) (blocks:=blocks) (n:=n) (c:=c) (nm:=nm) (cm:=cm) (nt:=nt) (ct:=ct) (nr:=nr) (cr:=cr) (nb:=nb) (cb:=cb) (pm:=pm) (ps:=ps) (pt:=pt) (pr:=pr) (pb:=pb) hN hd rfl
 rw [deQ]
 by_cases h0 : stE P M md N rows dd sets racks W blocks = 0
 ·rw [h0] at c_codewrightref54_Stripe
  rw [if_neg (fun e=>e h0)]
  obtain ⟨p,m,n',w,rfl,rfl,rfl,rfl,K,hbl,hsh,hel,hB⟩:=st_ok h0
  simp only [Int.toNat_natCast]
  have hcd:=cd_ok K.CC K.cd
  have hw1:=K.w1
  have hw2:=K.w2
  have c_codewrightref54_decode:=fun {n c nm cm nt ct nr cr nb cb : Nat} {pm ps pt pr pb : Option Addr}=>S_codewrightref54_decode (n:=n) (c:=c) (nm:=nm) (cm:=cm) (nt:=nt) (ct:=ct) (nr:=nr) (cr:=cr) (nb:=nb) (cb:=cb) (pm:=pm) (ps:=ps) (pt:=pt) (pr:=pr) (pb:=pb) (dd:=dd) (W:=w) K.CC hcd.1 hcd.2 K.cum (by omega) (by omega) hbl hB
  cases hO : deR p m md n' rows blocks dd w with
  | none =>
   rw [hO] at c_codewrightref54_decode
   simp only [deO] at c_codewrightref54_decode ⊢
   refine wk 6 cz ?_
   intro b1
   refine j_step rfl (x_call [0,1,2,3,4] rfl (c_codewrightref54_Stripe) rfl ?_)
   rintro _ _ _ ⟨rfl,rfl,rfl⟩
   simp only [List.cons_append,List.nil_append]
   refine wk 8 cz ?_
   intro h1
   refine j_step rfl (x_call [0,1,4] rfl (c_codewrightref54_decode) rfl ?_)
   rintro _ _ _ ⟨pb1,cb1,pw1,cw1,rfl,rfl,rfl⟩
   simp only [List.cons_append,List.nil_append]
   simp only [decide_true]
   refine wk 2 cz ?_
   refine j_giv [0,1] rfl rfl rfl ⟨_,_,_,_,rfl,rfl,rfl⟩
  | some s =>
   rw [hO] at c_codewrightref54_decode
   simp only [deO] at c_codewrightref54_decode ⊢
   generalize cmR p m md n' rows blocks w (knC (prL blocks) s) = R at *
   generalize toI (outC (prL blocks) s) = O at *
   refine wk 6 cz ?_
   intro b1
   refine j_step rfl (x_call [0,1,2,3,4] rfl (c_codewrightref54_Stripe) rfl ?_)
   rintro _ _ _ ⟨rfl,rfl,rfl⟩
   simp only [List.cons_append,List.nil_append]
   refine wk 8 cz ?_
   intro h1
   refine j_step rfl (x_call [0,1,4] rfl (c_codewrightref54_decode) rfl ?_)
   rintro _ _ _ ⟨pb1,cb1,pw1,cw1,rfl,rfl,rfl⟩
   simp only [List.cons_append,List.nil_append]
   simp only [decide_true]
   refine wk 2 cz ?_
   refine j_giv [0,1] rfl rfl rfl ⟨_,_,_,_,rfl,rfl,rfl⟩
 ·rw [if_pos h0]
  refine j_add (slF (encSl I64) none 0 0 []) (fun w A _=>slF_nil _ w A none 0) ?_
  refine j_add (slF I64 none 0 0 []) (fun w A _=>slF_nil _ w A none 0) ?_
  refine wk 6 cz ?_
  intro b1
  refine j_step rfl (x_call [2,3,4,5,6] rfl (c_codewrightref54_Stripe) rfl ?_)
  rintro _ _ _ ⟨rfl,rfl,rfl⟩
  simp only [List.cons_append,List.nil_append]
  refine wk 8 cz ?_
  intro h1
  refine j_giv [1,0] rfl rfl rfl ⟨_,_,_,_,rfl,rfl,rfl⟩
theorem S_store_Decode (hN : InR .i64 N) (hd : InR .i64 dd) : Ctr Tryz.prog 20 [.agg (cfgC P M pm nm cm N ps n c dd pt nt ct pr nr cr W).toArray,.slice pb nb cb] [] [slF I64 pm nm cm md,slF (encSl I64) ps n c rows,slF (encSl I64) pt nt ct sets,slF I64 pr nr cr racks,slF (encSl I64) pb nb cb blocks] (deQ P M md N rows dd sets racks W blocks):=by
 refine Ctr_of_j' (F:=F_store_Decode) rfl fun C=>?_
 refine j_len 4 rfl fun hn hb _=>?_
 subst hn
 have hb' : blocks.length * 24 ≤ 140737488355328:=hb
 have hcr:=cfE_rng (P:=P) (M:=M) (N:=N) (dd:=dd) (md:=md) (rows:=rows) (sets:=sets) (racks:=racks) (W:=W)
 have c_store_CheckConfig:=fun {n c nm cm nt ct nr cr : Nat} {pm ps pt pr : Option Addr}=>S_store_CheckConfig (P:=P) (M:=M) (N:=N) (dd:=dd) (md:=md) (rows:=rows) (sets:=sets) (racks:=racks) (W:=W) (n:=n) (c:=c) (nm:=nm) (cm:=cm) (nt:=nt) (ct:=ct) (nr:=nr) (cr:=cr) (pm:=pm) (ps:=ps) (pt:=pt) (pr:=pr) hN hd rfl
 refine j_add (slF (encSl I64) none 0 0 []) (fun w A _=>slF_nil _ w A none 0) ?_
 refine j_add (slF I64 none 0 0 []) (fun w A _=>slF_nil _ w A none 0) ?_
 refine wk 4 cz ?_
 intro b1
 refine j_pubC 0 rfl ?_
 simp only [List.eraseIdx_cons_zero]
 rw [deQ]
 have hst : stE P M md N rows dd sets racks W blocks = stE P M md N rows dd sets racks W blocks:=rfl
 by_cases h0 : cfE P M md N rows dd sets racks W = 0
 ·rw [h0] at c_store_CheckConfig
  by_cases hl : (blocks.length : Int) = N
  ·by_cases hsh : ∀ r ∈ blocks,r.length = 0 ∨ (r.length : Int) = W
   ·have hany:=any_sh.2 hsh
    have c_slices_ContainsFunc_____int___int_:=fun {ps' : Option Addr} {n' c' : Nat}=>S_slices_ContainsFunc_____int___int_ (f:=44) (caps:=[.pointer (some ⟨b1,0,none⟩)]) (ps:=ps') (n:=n') (c:=c') (l:=blocks) (g:=celF b1 (cfgC P M pm nm cm N ps n c dd pt nt ct pr nr cr W)) fun r _ pa ca=>S_store_Decode_1
    rw [hany] at c_slices_ContainsFunc_____int___int_
    obtain ⟨p,m,n',rfl,rfl,rfl,K⟩:=cf_ok h0
    have hcd:=cd_ok K.CC K.cd
    have hw1:=K.w1
    have hw2:=K.w2
    have h64:=K.CC.n64
    have hq:=K.CC.K.q
    obtain ⟨w,rfl⟩:=Int.eq_ofNat_of_zero_le (show 0 ≤ W by omega)
    have c_field_New:=fun {pm : Option Addr} {nm cm : Nat}=>S_field_New_ok (pm:=pm) (nm:=nm) (cm:=cm) K.CC.K
    simp only [Int.toNat_natCast]
    refine wk 1 cz ?_
    refine j_step rfl (x_call [3,4,5,6] rfl (c_store_CheckConfig) rfl ?_)
    rintro _ _ _ ⟨rfl,rfl,rfl⟩
    simp only [List.cons_append,List.nil_append]
    refine wk 15 cz ?_
    intro h1 h2
    refine j_gstep rfl rfl (x_call [7,0] rfl (c_slices_ContainsFunc_____int___int_) rfl ?_)
    rintro _ _ _ ⟨rfl,rfl,rfl⟩
    simp only [List.cons_append,List.nil_append]
    simp only [decide_true]
    refine wk 7 cz ?_
    refine j_step rfl (x_call [3] rfl (c_field_New) rfl ?_)
    rintro _ _ _ ⟨b2,pg1,cg1,pe1,ce1,pl1,cl1,rfl,rfl,rfl⟩
    simp only [List.cons_append,List.nil_append]
    refine wk 9 cz ?_
    intro b3
    refine j_pubC 0 rfl ?_
    simp only [setB,List.set_cons_zero,List.eraseIdx_cons_zero]
    refine j_conj [0,1] rfl ?_
    refine j_loopG (X:=Nat) [1,2,8,35,36] [0,1,2,3,4,5,6,7,8,9,10,11,12,13] (fun i=>[(37,.int .i64 (i : Int))]) (fun _=>_) (fun _=>[]) (fun i=>i ≤ blocks.length ∧ ∀ r ∈ blocks.take i,∀ x ∈ r,0 ≤ x ∧ x < ((p ^ m : Nat) : Int)) (fun i=>blocks.length - i) 0 [] rfl rfl rfl ⟨Nat.zero_le _,fun r h=>absurd h List.not_mem_nil⟩ (by repeat (first | exact Fr.sub_nil _ | refine Fr.sub_cons rfl ?_)) rfl rfl ?_
    rintro i ⟨hi,hs2⟩ ih
    simp only [List.cons_append,List.nil_append] at hi ih ⊢
    by_cases h9 : i < blocks.length
    ·obtain ⟨r,at_r⟩ : ∃ r,blocks[i]? = some r:=⟨_,List.getElem?_eq_getElem h9⟩
     have c_slices_ContainsFunc___int_int_:=fun {ps' : Option Addr} {n' c' : Nat}=>S_slices_ContainsFunc___int_int_ (f:=47) (caps:=[.pointer (some ⟨b3,0,none⟩)]) (ps:=ps') (n:=n') (c:=c') (l:=r) (g:=conjF [celF b3 [.pointer (some ⟨b2,0,none⟩)],gfC b2 p m (p ^ m) pg1 md.length cg1 pe1 (p ^ m - 1) ce1 pl1 (p ^ m) cl1]) fun x _=>(S_store_Decode_2 hq rfl).conj
     by_cases hr : ∀ x ∈ r,0 ≤ x ∧ x < ((p ^ m : Nat) : Int)
     ·rw [any_not.2 hr] at c_slices_ContainsFunc___int_int_
      have ih':=ih (i + 1) (by omega) ⟨by omega,tk_all at_r hs2 hr⟩
      clear ih
      refine wk 10 cz ?_
      intro h3 b4 o1 hz1 pa1 ca1
      refine j_step rfl (x_call [0,2] rfl (c_slices_ContainsFunc___int_int_) rfl ?_)
      rintro _ _ _ ⟨rfl,rfl,rfl⟩
      simp only [List.cons_append,List.nil_append]
      refine wk 5 cz ?_
      exact tw (ih')
     ·rw [show (r.any fun x=>!decide (0 ≤ x ∧ x < ((p ^ m : Nat) : Int))) = true from (Bool.not_eq_false _).mp (mt any_not.1 hr)] at c_slices_ContainsFunc___int_int_
      have h3 : stE p m md n' rows dd sets racks w blocks = 2:=by rw [stE,if_neg (fun e=>e h0),if_neg (fun hh=>hh ⟨hl,hsh⟩),Int.toNat_natCast,Int.toNat_natCast,if_pos (fun hh=>hr (hh r (List.mem_of_getElem? at_r)))]
      rw [if_pos (by omega),h3]
      clear ih
      refine wk 10 cz ?_
      intro h4 b4 o1 hz1 pa1 ca1
      refine j_step rfl (x_call [0,2] rfl (c_slices_ContainsFunc___int_int_) rfl ?_)
      rintro _ _ _ ⟨rfl,rfl,rfl⟩
      simp only [List.cons_append,List.nil_append]
      refine wk 5 cz ?_
      refine j_giv [10,9] rfl rfl rfl ⟨_,_,_,_,rfl,rfl,rfl⟩
    ·obtain rfl : i = blocks.length:=by omega
     rw [List.take_length] at hs2
     have h3 : stE p m md n' rows dd sets racks w blocks = 0:=by rw [stE,if_neg (fun e=>e h0),if_neg (fun hh=>hh ⟨hl,hsh⟩),Int.toNat_natCast,Int.toNat_natCast,if_neg (fun hh=>hh hs2)]
     rw [if_neg (by omega)]
     clear ih
     obtain ⟨_,_,_,_,e1,e2,e3,e4,_,_,_,_,hB⟩:=st_ok h3
     obtain rfl:=Int.ofNat_inj.1 e1
     obtain rfl:=Int.ofNat_inj.1 e2
     obtain rfl:=Int.ofNat_inj.1 e3
     obtain rfl:=Int.ofNat_inj.1 e4
     have c_store_decode:=fun {n c nm cm nt ct nr cr nb cb : Nat} {pm ps pt pr pb : Option Addr}=>S_store_decode (n:=n) (c:=c) (nm:=nm) (cm:=cm) (nt:=nt) (ct:=ct) (nr:=nr) (cr:=cr) (nb:=nb) (cb:=cb) (pm:=pm) (ps:=ps) (pt:=pt) (pr:=pr) (pb:=pb) (dd:=dd) (W:=w) K.CC hcd.1 hcd.2 (by omega) (by omega) (by omega) hB
     cases hO : deR p m md n' rows blocks dd w with
     | none =>
      rw [hO] at c_store_decode
      simp only [deO] at c_store_decode ⊢
      refine wk 7 cz ?_
      intro h4
      refine j_step rfl (x_call [9,10,13] rfl (c_store_decode) rfl ?_)
      rintro _ _ _ ⟨pb1,cb1,pw1,cw1,rfl,rfl,rfl⟩
      simp only [List.cons_append,List.nil_append]
      refine wk 2 cz ?_
      refine j_giv [0,1] rfl rfl rfl ⟨_,_,_,_,rfl,rfl,rfl⟩
     | some s =>
      rw [hO] at c_store_decode
      simp only [deO] at c_store_decode ⊢
      generalize cmR p m md n' rows blocks w (knC (prL blocks) s) = R at *
      generalize toI (outC (prL blocks) s) = O at *
      refine wk 7 cz ?_
      intro h4
      refine j_step rfl (x_call [9,10,13] rfl (c_store_decode) rfl ?_)
      rintro _ _ _ ⟨pb1,cb1,pw1,cw1,rfl,rfl,rfl⟩
      simp only [List.cons_append,List.nil_append]
      refine wk 2 cz ?_
      refine j_giv [0,1] rfl rfl rfl ⟨_,_,_,_,rfl,rfl,rfl⟩
   ·have hany : (blocks.any fun r=>!decide (r.length = 0 ∨ (r.length : Int) = W)) = true:=(Bool.not_eq_false _).mp (mt any_sh.1 hsh)
    have c_slices_ContainsFunc_____int___int_:=fun {ps' : Option Addr} {n' c' : Nat}=>S_slices_ContainsFunc_____int___int_ (f:=44) (caps:=[.pointer (some ⟨b1,0,none⟩)]) (ps:=ps') (n:=n') (c:=c') (l:=blocks) (g:=celF b1 (cfgC P M pm nm cm N ps n c dd pt nt ct pr nr cr W)) fun r _ pa ca=>S_store_Decode_1
    rw [hany] at c_slices_ContainsFunc_____int___int_
    have h3 : stE P M md N rows dd sets racks W blocks = 3:=by rw [stE,if_neg (fun e=>e h0),if_pos (fun hh=>hsh hh.2)]
    rw [if_pos (by omega),h3]
    refine wk 1 cz ?_
    refine j_step rfl (x_call [3,4,5,6] rfl (c_store_CheckConfig) rfl ?_)
    rintro _ _ _ ⟨rfl,rfl,rfl⟩
    simp only [List.cons_append,List.nil_append]
    refine wk 15 cz ?_
    intro h1 h2
    refine j_gstep rfl rfl (x_call [7,0] rfl (c_slices_ContainsFunc_____int___int_) rfl ?_)
    rintro _ _ _ ⟨rfl,rfl,rfl⟩
    simp only [List.cons_append,List.nil_append]
    simp only [decide_true]
    refine wk 6 cz ?_
    refine j_giv [2,1] rfl rfl rfl ⟨_,_,_,_,rfl,rfl,rfl⟩
  ·have h3 : stE P M md N rows dd sets racks W blocks = 3:=by rw [stE,if_neg (fun e=>e h0),if_pos (fun hh=>hl hh.1)]
   rw [if_pos (by omega),h3]
   refine wk 1 cz ?_
   refine j_step rfl (x_call [3,4,5,6] rfl (c_store_CheckConfig) rfl ?_)
   rintro _ _ _ ⟨rfl,rfl,rfl⟩
   simp only [List.cons_append,List.nil_append]
   refine wk 20 cz ?_
   intro h1 h2
   refine j_giv [2,1] rfl rfl rfl ⟨_,_,_,_,rfl,rfl,rfl⟩
 ·have h3 : stE P M md N rows dd sets racks W blocks = cfE P M md N rows dd sets racks W:=by rw [stE,if_pos h0]
  rw [if_pos (by omega),h3]
  refine wk 1 cz ?_
  refine j_step rfl (x_call [3,4,5,6] rfl (c_store_CheckConfig) rfl ?_)
  rintro _ _ _ ⟨rfl,rfl,rfl⟩
  simp only [List.cons_append,List.nil_append]
  refine wk 8 cz ?_
  intro h1
  refine j_giv [2,1] rfl rfl rfl ⟨_,_,_,_,rfl,rfl,rfl⟩
end
open Go Go.Fw
set_option maxRecDepth 100000
set_option linter.unusedVariables false
set_option linter.unusedSimpArgs false
set_option maxHeartbeats 0
theorem S_codewrightref54_SameStripe {pl pk : Option Addr} {nl cl nk ck : Nat} {l : List (List Int)} : Ctr Tryz.prog 22 [.slice pl nl cl,.slice pk nk ck] [] [slF (encSl I64) pl nl cl l,slF (encSl I64) pk nk ck l] (Rv (.bool true) []):=by
 refine Ctr_of_j' (F:=F_codewrightref54_SameStripe) rfl fun C=>?_
 have c_codewrightref11_SameLists:=fun {pl pk : Option Addr} {nl cl nk ck : Nat}=>S_codewrightref11_SameLists (pl:=pl) (pk:=pk) (nl:=nl) (cl:=cl) (nk:=nk) (ck:=ck) (l:=l)
 refine wk 7 (ct @c_codewrightref11_SameLists cz) ?_
 exact ge
theorem S_r11_Same {pl pk : Option Addr} {nl cl nk ck : Nat} {l : List Int} : Ctr Tryz.prog 23 [.slice pl nl cl,.slice pk nk ck] [] [slF I64 pl nl cl l,slF I64 pk nk ck l] (Rv (.bool true) []):=by
 refine Ctr_of_j' (F:=F_codewrightref11_Same) rfl fun C=>?_
 obtain ⟨z,hz⟩ : ∃ z : Int,z = 0:=⟨0,rfl⟩
 have c_codewrightref11_Compare:=fun {pl pk : Option Addr} {nl cl nk ck : Nat} {l : List Int}=>S_codewrightref11_CompareS (pl:=pl) (pk:=pk) (nl:=nl) (cl:=cl) (nk:=nk) (ck:=ck) (l:=l) hz
 refine wk 7 (ct @c_codewrightref11_Compare cz) ?_
 rw [decide_eq_true hz]
 exact ge
section
variable {P M N dd W : Int} {n c nm cm nt ct nr cr nb cb : Nat} {pm ps pt pr pb : Option Addr} {md racks : List Int} {rows sets blocks : List (List Int)}
theorem deQ_is : ∃ R w e,deQ P M md N rows dd sets racks W blocks = DeQ R w e ∧ 0 ≤ e ∧ e ≤ 19:=by
 have:=stE_rng (P:=P) (M:=M) (N:=N) (dd:=dd) (md:=md) (rows:=rows) (sets:=sets) (racks:=racks) (W:=W) (blocks:=blocks)
 rw [deQ]
 split
 ·exact ⟨_,_,_,rfl,by omega,by omega⟩
 ·cases deR P.toNat M.toNat md N.toNat rows blocks dd W.toNat with
  | none=>exact ⟨_,_,_,rfl,by omega,by omega⟩
  | some s=>exact ⟨_,_,_,rfl,by omega,by omega⟩
theorem S_codewrightlaw54_StoreDecodes (hN : InR .i64 N) (hd : InR .i64 dd) : Ctr Tryz.prog 7 [.agg (cfgC P M pm nm cm N ps n c dd pt nt ct pr nr cr W).toArray,.slice pb nb cb] [] [slF I64 pm nm cm md,slF (encSl I64) ps n c rows,slF (encSl I64) pt nt ct sets,slF I64 pr nr cr racks,slF (encSl I64) pb nb cb blocks] (Rv (.bool true) []):=by
 refine Ctr_of_j' (F:=F_codewrightlaw54_StoreDecodes) rfl fun C=>?_
 refine j_len 4 rfl fun hn hb _=>?_
 subst hn
 have c_codewrightlaw54_alive:=S_codewrightlaw54_alive
 have c_codewrightlaw54_fit:=fun {P M N dd W : Int} {n c nm cm nt ct nr cr : Nat} {pm ps pt pr : Option Addr} {res : Bool} (hr : (decide ((sets.length : Int) ≤ 300) && decide (N ≤ 8)) = res)=>S_codewrightlaw54_fit (P:=P) (M:=M) (N:=N) (dd:=dd) (W:=W) (n:=n) (c:=c) (nm:=nm) (cm:=cm) (nt:=nt) (ct:=ct) (nr:=nr) (cr:=cr) (pm:=pm) (ps:=ps) (pt:=pt) (pr:=pr) hr
 cases hf : (decide ((sets.length : Int) ≤ 300) && decide (N ≤ 8)) with
 | false =>
  refine wk 5 cz ?_
  intro b1
  refine j_step rfl (x_call [2] rfl (c_codewrightlaw54_fit (by omega)) rfl ?_)
  rintro _ _ _ ⟨rfl,rfl,rfl⟩
  simp only [List.cons_append,List.nil_append]
  refine wk 4 cz ?_
  refine j_step rfl (x_call [] rfl (c_codewrightlaw54_alive) rfl ?_)
  rintro _ _ _ ⟨rfl,rfl,rfl⟩
  simp only [List.cons_append,List.nil_append]
  refine wk 2 cz ?_
  exact ge
 | true =>
  by_cases hl : (100 : Int) < blocks.length
  ·refine wk 5 cz ?_
   intro b1
   refine j_step rfl (x_call [2] rfl (c_codewrightlaw54_fit (by omega)) rfl ?_)
   rintro _ _ _ ⟨rfl,rfl,rfl⟩
   simp only [List.cons_append,List.nil_append]
   refine wk 6 cz ?_
   intro h1
   refine j_step rfl (x_call [] rfl (c_codewrightlaw54_alive) rfl ?_)
   rintro _ _ _ ⟨rfl,rfl,rfl⟩
   simp only [List.cons_append,List.nil_append]
   refine wk 2 cz ?_
   exact ge
  ·obtain ⟨R,w,e,hq,he1,he2⟩:=deQ_is (P:=P) (M:=M) (N:=N) (dd:=dd) (md:=md) (rows:=rows) (sets:=sets) (racks:=racks) (W:=W) (blocks:=blocks)
   have c_store_Decode:=fun {n c nm cm nt ct nr cr nb cb : Nat} {pm ps pt pr pb : Option Addr}=>S_store_Decode (n:=n) (c:=c) (nm:=nm) (cm:=cm) (nt:=nt) (ct:=ct) (nr:=nr) (cr:=cr) (nb:=nb) (cb:=cb) (pm:=pm) (ps:=ps) (pt:=pt) (pr:=pr) (pb:=pb) (P:=P) (M:=M) (md:=md) (rows:=rows) (sets:=sets) (racks:=racks) (W:=W) (blocks:=blocks) hN hd
   have c_codewrightref54_Decode:=fun {n c nm cm nt ct nr cr nb cb : Nat} {pm ps pt pr pb : Option Addr}=>S_codewrightref54_Decode (n:=n) (c:=c) (nm:=nm) (cm:=cm) (nt:=nt) (ct:=ct) (nr:=nr) (cr:=cr) (nb:=nb) (cb:=cb) (pm:=pm) (ps:=ps) (pt:=pt) (pr:=pr) (pb:=pb) (P:=P) (M:=M) (md:=md) (rows:=rows) (sets:=sets) (racks:=racks) (W:=W) (blocks:=blocks) hN hd
   rw [hq] at c_store_Decode c_codewrightref54_Decode
   have c_codewrightref54_SameStripe:=fun {pl pk : Option Addr} {nl cl nk ck : Nat}=>S_codewrightref54_SameStripe (pl:=pl) (pk:=pk) (nl:=nl) (cl:=cl) (nk:=nk) (ck:=ck) (l:=R)
   have c_codewrightref11_Same:=fun {pl pk : Option Addr} {nl cl nk ck : Nat}=>S_r11_Same (pl:=pl) (pk:=pk) (nl:=nl) (cl:=cl) (nk:=nk) (ck:=ck) (l:=w)
   clear hq
   refine wk 5 cz ?_
   intro b1
   refine j_step rfl (x_call [2] rfl (c_codewrightlaw54_fit (by omega)) rfl ?_)
   rintro _ _ _ ⟨rfl,rfl,rfl⟩
   simp only [List.cons_append,List.nil_append]
   refine wk 8 cz ?_
   intro h1
   refine j_step rfl (x_call [0,1,2,3,4] rfl (c_store_Decode) rfl ?_)
   rintro _ _ _ ⟨pb1,cb1,pw1,cw1,rfl,rfl,rfl⟩
   simp only [List.cons_append,List.nil_append]
   refine wk 4 cz ?_
   refine j_step rfl (x_call [2,3,4,5,6] rfl (c_codewrightref54_Decode) rfl ?_)
   rintro _ _ _ ⟨pb2,cb2,pw2,cw2,rfl,rfl,rfl⟩
   simp only [List.cons_append,List.nil_append]
   refine wk 8 cz ?_
   intro h2
   refine j_gstep rfl rfl (x_call [2,0] rfl (c_codewrightref54_SameStripe) rfl ?_)
   rintro _ _ _ ⟨rfl,rfl,rfl⟩
   simp only [List.cons_append,List.nil_append]
   simp only [decide_true]
   refine wk 1 cz ?_
   refine j_gstep rfl rfl (x_call [3,1] rfl (c_codewrightref11_Same) rfl ?_)
   rintro _ _ _ ⟨rfl,rfl,rfl⟩
   simp only [List.cons_append,List.nil_append]
   refine wk 1 cz ?_
   refine j_gstep rfl rfl (x_call [] rfl (c_codewrightlaw54_alive) rfl ?_)
   rintro _ _ _ ⟨rfl,rfl,rfl⟩
   simp only [List.cons_append,List.nil_append]
   refine wk 2 cz ?_
   exact ge
end
end Go.Proofs.YteadncphjconmaaGreat
