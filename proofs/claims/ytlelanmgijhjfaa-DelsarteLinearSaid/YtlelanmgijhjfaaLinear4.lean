/-
The words that rows generate, as the document lists them. All words of a length, as the document lists them. The words that are orthogonal to rows, as the document lists them. The weights of words, as the document counts them. The words of a law: a code, its dual, all words. Moments of the weights of a code and of its dual. The words that rows generate are closed, differ from each other, and any of them moves the list onto itself; distances between codewords. The division of long numbers, limb by limb (Knuth's algorithm D): the arithmetic of one step. The division of long numbers: how many digits a shifted number has, and what the whole division comes to. Contracts of nat.Cmp and nat.Sub. The contract of nat.step, first part: what is done when the guess was too great by one. The contract of nat.shift. The contract of nat.step, second part: multiplied and taken away. The contract of nat.step. The contract of nat.long, and of bits.LeadingZeros32. The contracts of nat.DivMod and nat.Gcd. The contracts of rational.one, canonical, Trim, Neg, Sign. The contract of nat.Trim, where the caller goes on writing in what it gets. The contract of nat.Sub. The contracts of rational.plus, Add, Sub, Cmp, Mul. The contracts of rational.Sub, Cmp, Mul. The document's fractions compared as data. The document's Cmp and Sub. The document's shift. The document's DivMod and Gcd. The document's fractions: Make, Trim, Sign, Neg, Mul. The document's integers among the fractions: abs, Of, Int, Nat, Nil; Order. The document's fractions: Add, Sub, Cmp. Sums of products of two rows of fractions: rational.Dot, simplex.product, the document's Dot. Check of a linear program, the program's and the document's: the contracts. The program's tests of linear programs: positive, feasible, column, covers. The program's numbers with a sign: plus, minus, times, small, ratio. The program's table of Krawtchouk numbers. The program's sums of products with Krawtchouk numbers; wrong. The program's Transform. Apart; the columns of the layer delsarte; Of of the program.
-/
import Derived.Test.YtlelanmgijhjfaaLinear3
set_option linter.unusedVariables false
set_option linter.unusedSimpArgs false
namespace Go.Proofs.Ytlelanmgijhjfaa
open Go Go.Fw
set_option maxRecDepth 100000
set_option linter.unusedVariables false
set_option linter.unusedSimpArgs false
set_option maxHeartbeats 8000000
theorem dist_zero : ∀ {u v : List Int},u.length = v.length → (dist u v = 0 ↔ u = v)
 | [],[],_=>⟨fun _=>rfl,fun _=>rfl⟩
 | [],_::_,h=>by simp at h
 | _::_,[],h=>by simp at h
 | x::u,y::v,h=>by
  have ih:=dist_zero (u:=u) (v:=v) (by simpa using h)
  rw [dist,List.cons.injEq,← ih]
  by_cases e : x = y
  ·rw [if_pos e];exact ⟨fun h=>⟨e,by omega⟩,fun h=>by omega⟩
  ·rw [if_neg e];exact ⟨fun h=>by omega,fun h=>absurd h.1 e⟩
theorem S_codewrightref24_has {pl pw : Option Addr} {nl cl nw cw n : Nat} {L : List (List Int)} {w : List Int} (hL : ∀ u ∈ L,u.length = n) (hw : w.length = n) {res : Bool} (hres : decide (w ∈ L) = res) :
  Ctr Try.prog 57 [.slice pl nl cl,.slice pw nw cw] [] [slF (encSl I64) pl nl cl L,slF I64 pw nw cw w] (Rv (.bool res) []):=by
 subst hres
 refine Ctr_of_j' (F:=F_codewrightref24_has) rfl fun C=>?_
 refine j_len 0 rfl fun e1 hb1 _=>?_
 refine j_len 1 rfl fun e2 _ _=>?_
 have hb1' : L.length * 24 ≤ 140737488355328:=hb1
 subst e1
 rw [hw] at e2
 subst e2
 refine j_nf [_,_] rfl (j_run it 1 rfl (by simp) ?_)
 refine j_nf [_,_,_] rfl (j_run it 1 rfl (by simp) ?_)
 refine j_nf [_,_,_] rfl ?_
 refine j_loopG (X:=Nat) [0,1] [0,1] (fun i=>[(5,.int .i64 (i : Int))]) (fun _=>[]) (fun _=>[]) (fun i=>i ≤ L.length ∧ w ∉ L.take i) (fun i=>L.length - i) 0 [] rfl rfl rfl ⟨Nat.zero_le _,by simp⟩ (by repeat (first | exact Fr.sub_nil _ | refine Fr.sub_cons rfl ?_)) rfl rfl ?_
 rintro i ⟨hi,hn⟩ ih
 simp only [List.cons_append,List.nil_append] at hi hn ih ⊢
 by_cases hil : i < L.length
 ·have hz : L[i]? = some (L.getD i default):=by rw [List.getD_eq_getElem?_getD,List.getElem?_eq_getElem hil];rfl
  have hl:=hL _ (List.mem_of_getElem? hz)
  have hdz:=dist_zero (u:=L.getD i default) (v:=w) (by rw [hl,hw])
  have htk : L.take (i + 1) = L.take i++[L.getD i default]:=by rw [List.take_succ_eq_append_getElem hil,List.getD_eq_getElem?_getD,List.getElem?_eq_getElem hil];rfl
  by_cases hd : dist (L.getD i default) w = 0
  ·rw [decide_eq_true (by rw [← hdz.1 hd];exact List.mem_of_getElem? hz)]
   refine j_nf [_,_,_,_,_,_] rfl (j_run it 2 rfl (by simp) ?_)
   refine j_step rfl (x_len sl25 rfl ?_)
   refine j_run it 1 rfl (by simp) ?_
   refine j_nf [_,_,_,_,_] rfl (j_if rfl rfl (fun h1=>?_) (fun h1=>by exfalso;omega))
   refine j_nf [_,_,_,_,_,_,_] rfl (j_run it 2 rfl (by simp) ?_)
   refine j_step rfl (x_idx 0 (i) rfl rfl rfl sl25 rfl (by omega) fun z1 hz1 b1 o1=>?_)
   refine j_step rfl (x_ld_sl 0 rfl rfl ld22 fun pa1 ca1=>?_)
   refine j_run it 1 rfl (by simp) ?_
   obtain rfl : z1 = L.getD i default:=Option.some.inj (hz1.symm.trans hz)
   refine j_step rfl (x_call [0,3] rfl (S_codewrightref24_Distance (by omega)) rfl ?_)
   rintro _ _ _ ⟨rfl,rfl,rfl⟩
   simp only [List.cons_append,List.nil_append]
   refine j_run it 1 rfl (by simp) ?_
   refine j_nf [_,_,_,_,_,_] rfl (j_if rfl rfl (fun h2=>?_) (fun h2=>by exfalso;omega))
   refine j_nf [_,_,_,_,_,_,_] rfl (j_run it 1 rfl (by simp) ?_)
   refine j_nf [_,_,_,_,_,_] rfl ?_
   refine j_giv [] rfl rfl rfl ⟨rfl,rfl,rfl⟩
  ·refine j_nf [_,_,_,_,_,_] rfl (j_run it 2 rfl (by simp) ?_)
   refine j_step rfl (x_len sl25 rfl ?_)
   refine j_run it 1 rfl (by simp) ?_
   refine j_nf [_,_,_,_,_] rfl (j_if rfl rfl (fun h1=>?_) (fun h1=>by exfalso;omega))
   refine j_nf [_,_,_,_,_,_,_] rfl (j_run it 2 rfl (by simp) ?_)
   refine j_step rfl (x_idx 0 (i) rfl rfl rfl sl25 rfl (by omega) fun z1 hz1 b1 o1=>?_)
   refine j_step rfl (x_ld_sl 0 rfl rfl ld22 fun pa1 ca1=>?_)
   refine j_run it 1 rfl (by simp) ?_
   obtain rfl : z1 = L.getD i default:=Option.some.inj (hz1.symm.trans hz)
   refine j_step rfl (x_call [0,3] rfl (S_codewrightref24_Distance (by omega)) rfl ?_)
   rintro _ _ _ ⟨rfl,rfl,rfl⟩
   simp only [List.cons_append,List.nil_append]
   refine j_run it 1 rfl (by simp) ?_
   refine j_nf [_,_,_,_,_,_] rfl (j_if rfl rfl (fun h2=>by exfalso;omega) (fun h2=>?_))
   refine j_nf [_,_,_,_] rfl (j_run it 3 rfl ⟨trivial,⟨by omega,by omega⟩,trivial,trivial⟩ ?_)
   refine j_nfn 1 [.lp [1,0,1,0,0],.blk 0,.c [1,1]] rfl ?_
   refine j_to [2,3] (by exact fra rfl) rfl rfl (ih (i + 1) (by omega) ⟨by omega,fun hm=>by
    rw [htk] at hm
    rcases List.mem_append.1 hm with h | h
    ·exact hn h
    ·rw [List.mem_singleton] at h
     exact hd (by rw [← h];exact (dist_zero rfl).2 rfl)⟩)
 ·obtain rfl : i = L.length:=by omega
  rw [List.take_length] at hn
  rw [decide_eq_false hn]
  refine j_nf [_,_,_,_,_,_] rfl (j_run it 2 rfl (by simp) ?_)
  refine j_step rfl (x_len sl25 rfl ?_)
  refine j_run it 1 rfl (by simp) ?_
  refine j_nf [_,_,_,_,_] rfl (j_if rfl rfl (fun h1=>by exfalso;omega) (fun h1=>?_))
  refine j_nf [_,_] rfl (j_run it 1 rfl (by simp) ?_)
  refine j_nf [_] rfl ?_
  refine j_giv [] rfl rfl rfl ⟨rfl,rfl,rfl⟩
theorem wd_nth {q n : Nat} {L : List (List Int)} (h : ∀ u ∈ L,Wd q n u) {i : Nat} (hi : i < L.length) : Wd q n (L.getD i default):=h _ (List.mem_of_getElem? (i:=i) (by rw [List.getD_eq_getElem?_getD,List.getElem?_eq_getElem hi];rfl))
theorem axp_at {A M : Int → Int → Int} {a : Int} {r u : List Int} {k n : Nat} (hr : r.length = n) (hu : u.length = n) (hk : k < n) : (axp A M a r u)[k]? = some (A (u.getD k default) (M a (r.getD k default))):=by
 rw [axp,List.getElem?_zipWith,List.getD_eq_getElem?_getD,List.getD_eq_getElem?_getD,List.getElem?_eq_getElem (by omega),List.getElem?_eq_getElem (by omega)];rfl
abbrev SpanE (n : Nat) (o : Option (List (List Int))) : Value → List Fact → List Blk → Prop:=fun v Φ β=>∃ (L : List (List Int)) (pa : Option Addr) (ca : Nat),L = o.getD [] ∧ v = .slice pa L.length ca ∧ Φ = [slF (encSl I64) pa L.length ca L] ∧ β = []
theorem S_codewrightref24_Span {p m nm cm n most nr cr : Nat} {md : List Int} {pm pr : Option Addr} {rows : List (List Int)} (K : Fok p m md) (hn : n ≤ 100) (hmost : most ≤ 100000) :
  Ctr Try.prog 26 [.agg #[.int .i64 p,.int .i64 m,.slice pm nm cm],.int .i64 n,.slice pr nr cr,.int .i64 most] [] [slF I64 pm nm cm md,slF (encSl I64) pr nr cr rows]
   (SpanE n (spanS (p ^ m) most (aF p m) (mF p m md) (rows.map (rowW ((p ^ m : Nat) : Int) n)) [zW n])):=by
 refine Ctr_of_j' (F:=F_codewrightref24_Span) rfl fun C=>?_
 have F:=K.fi
 have hq2:=F.q2
 have hq:=K.q
 have hord:=K.ord
 have hordP : ordP (p : Int) (m : Int):=by
  have:=K.p2;have:=K.m1;have:=K.m8
  exact ⟨by omega,by omega,by omega,by simpa using K.q⟩
 refine j_len 1 rfl fun e1 hb1 _=>?_
 have hb1' : rows.length * 24 ≤ 140737488355328:=hb1
 subst e1
 have c_codewrightref04_Mul:=fun {x y : Int} (x0 : 0 ≤ x) (x1 : x < ((p ^ m : Nat) : Int)) (y0 : 0 ≤ y) (y1 : y < ((p ^ m : Nat) : Int))=>S_codewrightref04_Mul (pm:=pm) (nm:=nm) (cm:=cm) K x0 x1 y0 y1
 have c_codewrightref04_Add:=fun {x y : Int} (x0 : 0 ≤ x) (x1 : x < ((p ^ m : Nat) : Int)) (y0 : 0 ≤ y) (y1 : y < ((p ^ m : Nat) : Int))=>S_codewrightref04_Add (pm:=pm) (nm:=nm) (cm:=cm) K x0 x1 y0 y1
 have c_codewrightref04_Order:=S_codewrightref04_Order (P:=(p : Int)) (M:=(m : Int)) (pm:=pm) (n:=nm) (c:=cm) hord
 have c_codewrightref24_Row:=fun {pl : Option Addr} {nl cl : Nat} {l : List Int}=>S_codewrightref24_Row (P:=(p : Int)) (M:=(m : Int)) (n:=n) (nm:=nm) (cm:=cm) (nl:=nl) (cl:=cl) (pm:=pm) (pl:=pl) (l:=l) hordP (by omega)
 rw [hord] at c_codewrightref24_Row
 have hqI : (2 : Int) ≤ ((p ^ m : Nat) : Int) ∧ ((p ^ m : Nat) : Int) ≤ 256:=by omega
 generalize hQ : p ^ m = q at *
 refine j_nf [_,_] rfl ?_
 refine j_step rfl (x_box_agg rfl fun b1=>?_)
 refine j_run it 1 rfl (by simp) ?_
 refine j_nf [_,_] rfl ?_
 refine j_run it 1 rfl (by simp) ?_
 refine j_step rfl (x_make_nat (n) _ rfl rfl sl22 zo22e by22e (by omega) (by omega) (by omega) fun b2=>?_)
 refine j_step rfl (x_lit sl25 zo25e rfl rfl rfl rfl (by decide) (by decide) rfl fun b3=>?_)
 refine j_run it 1 rfl (by simp) ?_
 refine j_nf [_,_,_] rfl ?_
 refine j_run it 1 rfl (by simp) ?_
 refine j_nf [_,_,_] rfl ?_
 rw [natCells_toI,toI_zeros]
 refine j_pub_madei (n:=n) 8 (zW n) 1 rfl (by simp) (fun x hx=>by rw [(List.mem_replicate.1 hx).2];simp [InR]) (by omega) (by omega) ?_
 simp only [List.eraseIdx_cons_zero,List.eraseIdx_cons_succ]
 refine j_pub_row (E:=I64) (n:=1) [0] [[.slice (some ⟨b2,0,none⟩) n n]] [zW n] 0 rfl rfl ⟨rfl,trivial⟩ rfl rfl (by decide) ?_
 simp only [List.eraseIdx_cons_zero]
 have rwd : ∀ l,Wd q n (rowW (q : Int) n l):=fun l=>rowW_wd (by omega) l
 generalize hR : rows.map (rowW (q : Int) n) = rows' at *
 have lR : rows'.length = rows.length:=by rw [← hR,List.length_map]
 have zR : ∀ i,i < rows.length → rows'.drop i = rowW (q : Int) n (rows.getD i default)::rows'.drop (i + 1):=fun i hi=>by
  rw [List.drop_eq_getElem_cons (by omega)]
  congr 1
  subst hR
  rw [List.getElem_map,List.getD_eq_getElem?_getD,List.getElem?_eq_getElem hi];rfl
 generalize hS : spanS q most (aF p m) (mF p m md) rows' [zW n] = res
 refine j_loopG (X:=Nat × List (List Int) × Option Addr × Nat) [1,2,3,4] [1,2,3] (fun x=>[(10,.int .i64 (x.1 : Int)),(9,.slice x.2.2.1 x.2.1.length x.2.2.2)]) (fun _=>[(some b1,24,[.int .i64 p,.int .i64 m,.slice pm nm cm])]) (fun x=>[slF (encSl I64) x.2.2.1 x.2.1.length x.2.2.2 x.2.1])
  (fun x=>x.1 ≤ rows.length ∧ (∀ u ∈ x.2.1,Wd q n u) ∧ x.2.1.length ≤ 100000 ∧ spanS q most (aF p m) (mF p m md) (rows'.drop x.1) x.2.1 = res) (fun x=>rows.length - x.1) (0,[zW n],some ⟨b3,0,none⟩,1) [0] rfl rfl rfl ⟨Nat.zero_le _,fun u hu=>by rw [List.mem_singleton.1 hu];exact zW_wd hq2,by simp,hS⟩ (by repeat (first | exact Fr.sub_nil _ | refine Fr.sub_cons rfl ?_)) rfl rfl ?_
 rintro ⟨i,L,pa,ca⟩ ⟨hi,hw,hlen,he⟩ ih
 simp only [List.cons_append,List.nil_append] at hi hw hlen he ih ⊢
 by_cases hil : i < rows.length
 ·have hz : rows[i]? = some (rows.getD i default):=by rw [List.getD_eq_getElem?_getD,List.getElem?_eq_getElem hil];rfl
  rw [zR i hil,spanS] at he
  have hrw:=rwd (rows.getD i default)
  have c_codewrightref24_has:=fun {pl pw : Option Addr} {nl cl nw cw : Nat} {res : Bool} hres=>S_codewrightref24_has (pl:=pl) (pw:=pw) (nl:=nl) (cl:=cl) (nw:=nw) (cw:=cw) (n:=n) (L:=L) (w:=rowW (q : Int) n (rows.getD i default)) (fun u hu=>(hw u hu).1) hrw.1 (res:=res) hres
  by_cases hm : rowW (q : Int) n (rows.getD i default) ∈ L
  ·rw [if_pos hm] at he
   have hd:=decide_eq_true hm
   refine j_nf [_,_,_,_,_,_] rfl ?_
   refine j_run it 2 rfl (by simp) ?_
   refine j_step rfl (x_len sl25 rfl ?_)
   refine j_run it 1 rfl (by simp) ?_
   refine j_nf [_,_,_,_,_] rfl ?_
   refine j_if rfl rfl (fun h1=>?_) (fun h1=>by exfalso;omega)
   refine j_nf [_,_,_,_,_,_,_] rfl ?_
   (apply j_drawK it mx 7;(· rfl);(· rfl))
   (apply lxk_eq;(· rfl);(· exact d_bld_all 0 rfl rfl ld24 rfl))
   (apply lxk_run 3;(· rfl);(· simp))
   (apply lxk_pt;(· rfl);(· exact d_x fun _=>x_idx 3 (i) rfl rfl rfl sl25 rfl (by omega) fun z1 hz1 b4 o1=>(dk_ptD default hz1 0 rfl));intro b4 o1)
   (apply lxk_sl;(· rfl);(· exact d_x fun _=>x_ld_sl 0 rfl rfl ld22 fun pa1 ca1=>(dk_sl 0 rfl));intro pa1 ca1)
   (apply lxk_sl;(· rfl);(· exact d_x fun _=>x_call [0] rfl (c_codewrightref24_Row) rfl (by rintro _ _ _ ⟨pa2,ca2,rfl,rfl,rfl⟩;exact (dk_sl 0 rfl)));intro pa2 ca2)
   refine lxk_end rfl ?_
   simp only [List.map_cons,List.map_nil,List.cons_append,List.nil_append]
   refine j_run it 1 rfl (by simp) ?_
   refine j_nf [_,_,_,_,_,_,_,_] rfl ?_
   refine j_run it 2 rfl (by simp) ?_
   refine j_step rfl (x_call [3,0] rfl (c_codewrightref24_has (by omega)) rfl ?_)
   rintro _ _ _ ⟨rfl,rfl,rfl⟩
   simp only [List.cons_append,List.nil_append]
   refine j_nf [_,_,_,_,_,_,_] rfl ?_
   refine j_true rfl rfl ?_
   refine j_nf [_,_,_,_] rfl ?_
   refine j_run it 3 rfl ⟨trivial,⟨by omega,by omega⟩,trivial,trivial⟩ ?_
   refine j_nfn 1 [.lp (pL 116),.blk 0,.c [1,1,1]] rfl ?_
   refine j_to [3,4,5,6] (by exact fra rfl) rfl rfl (ih (i + 1,L,pa,ca) (by dsimp only;omega) ⟨by dsimp only;omega,hw,hlen,he⟩)
  ·rw [if_neg hm] at he
   have hd:=decide_eq_false hm
   have hdiv : (most : Int) / (q : Int) = ((most / q : Nat) : Int):=(Int.natCast_ediv _ _).symm
   by_cases hb : most / q < L.length
   ·rw [if_pos hb] at he
    subst he
    refine j_nf [_,_,_,_,_,_] rfl ?_
    refine j_run it 2 rfl (by simp) ?_
    refine j_step rfl (x_len sl25 rfl ?_)
    refine j_run it 1 rfl (by simp) ?_
    refine j_nf [_,_,_,_,_] rfl ?_
    refine j_if rfl rfl (fun h1=>?_) (fun h1=>by exfalso;omega)
    refine j_nf [_,_,_,_,_,_,_] rfl ?_
    (apply j_drawK it mx 7;(· rfl);(· rfl))
    (apply lxk_eq;(· rfl);(· exact d_bld_all 0 rfl rfl ld24 rfl))
    (apply lxk_run 3;(· rfl);(· simp))
    (apply lxk_pt;(· rfl);(· exact d_x fun _=>x_idx 3 (i) rfl rfl rfl sl25 rfl (by omega) fun z1 hz1 b4 o1=>(dk_ptD default hz1 0 rfl));intro b4 o1)
    (apply lxk_sl;(· rfl);(· exact d_x fun _=>x_ld_sl 0 rfl rfl ld22 fun pa1 ca1=>(dk_sl 0 rfl));intro pa1 ca1)
    (apply lxk_sl;(· rfl);(· exact d_x fun _=>x_call [0] rfl (c_codewrightref24_Row) rfl (by rintro _ _ _ ⟨pa2,ca2,rfl,rfl,rfl⟩;exact (dk_sl 0 rfl)));intro pa2 ca2)
    refine lxk_end rfl ?_
    simp only [List.map_cons,List.map_nil,List.cons_append,List.nil_append]
    refine j_run it 1 rfl (by simp) ?_
    refine j_nf [_,_,_,_,_,_,_,_] rfl ?_
    refine j_run it 2 rfl (by simp) ?_
    refine j_step rfl (x_call [3,0] rfl (c_codewrightref24_has (by omega)) rfl ?_)
    rintro _ _ _ ⟨rfl,rfl,rfl⟩
    simp only [List.cons_append,List.nil_append]
    refine j_nf [_,_,_,_,_,_,_] rfl ?_
    refine j_false rfl rfl ?_
    refine j_nf [_,_,_,_,_,_,_,_] rfl ?_
    refine j_run it 1 rfl (by simp) ?_
    refine j_step rfl (x_len sl25 rfl ?_)
    refine j_run it 1 rfl (by simp) ?_
    refine j_step rfl (x_bld_all 0 rfl rfl ld24 rfl ?_)
    refine j_step rfl (x_call [] rfl (c_codewrightref04_Order) rfl ?_)
    rintro _ _ _ ⟨rfl,rfl,rfl⟩
    simp only [List.cons_append,List.nil_append]
    refine j_run it 2 rfl ⟨trivial,⟨by omega,by omega,by omega,by omega⟩,trivial⟩ ?_
    refine j_nf [_,_,_,_,_,_,_] rfl ?_
    refine j_if rfl rfl (fun h2=>?_) (fun h2=>by exfalso;omega)
    refine j_nf [_,_,_,_,_,_,_,_] rfl ?_
    refine j_run it 1 rfl (by simp) ?_
    refine j_nf [_,_,_,_,_,_,_] rfl ?_
    refine j_add (slF (encSl I64) none 0 0 []) (fun w A _=>slF_nil _ _ _ _ _) ?_
    refine j_giv [0] rfl rfl rfl ⟨[],_,_,rfl,rfl,rfl,rfl⟩
   ·rw [if_neg hb] at he
    have hqL : q * L.length ≤ 100000:=by
     have h1 : q * L.length ≤ q * (most / q):=Nat.mul_le_mul_left _ (by omega)
     have h2:=Nat.mul_div_le most q
     omega
    refine j_nf [_,_,_,_,_,_] rfl ?_
    refine j_run it 2 rfl (by simp) ?_
    refine j_step rfl (x_len sl25 rfl ?_)
    refine j_run it 1 rfl (by simp) ?_
    refine j_nf [_,_,_,_,_] rfl ?_
    refine j_if rfl rfl (fun h1=>?_) (fun h1=>by exfalso;omega)
    refine j_nf [_,_,_,_,_,_,_] rfl ?_
    (apply j_drawK it mx 7;(· rfl);(· rfl))
    (apply lxk_eq;(· rfl);(· exact d_bld_all 0 rfl rfl ld24 rfl))
    (apply lxk_run 3;(· rfl);(· simp))
    (apply lxk_pt;(· rfl);(· exact d_x fun _=>x_idx 3 (i) rfl rfl rfl sl25 rfl (by omega) fun z1 hz1 b4 o1=>(dk_ptD default hz1 0 rfl));intro b4 o1)
    (apply lxk_sl;(· rfl);(· exact d_x fun _=>x_ld_sl 0 rfl rfl ld22 fun pa1 ca1=>(dk_sl 0 rfl));intro pa1 ca1)
    (apply lxk_sl;(· rfl);(· exact d_x fun _=>x_call [0] rfl (c_codewrightref24_Row) rfl (by rintro _ _ _ ⟨pa2,ca2,rfl,rfl,rfl⟩;exact (dk_sl 0 rfl)));intro pa2 ca2)
    refine lxk_end rfl ?_
    simp only [List.map_cons,List.map_nil,List.cons_append,List.nil_append]
    refine j_run it 1 rfl (by simp) ?_
    refine j_nf [_,_,_,_,_,_,_,_] rfl ?_
    refine j_run it 2 rfl (by simp) ?_
    refine j_step rfl (x_call [3,0] rfl (c_codewrightref24_has (by omega)) rfl ?_)
    rintro _ _ _ ⟨rfl,rfl,rfl⟩
    simp only [List.cons_append,List.nil_append]
    refine j_nf [_,_,_,_,_,_,_] rfl ?_
    refine j_false rfl rfl ?_
    refine j_nf [_,_,_,_,_,_,_,_] rfl ?_
    refine j_run it 1 rfl (by simp) ?_
    refine j_step rfl (x_len sl25 rfl ?_)
    refine j_run it 1 rfl (by simp) ?_
    refine j_step rfl (x_bld_all 0 rfl rfl ld24 rfl ?_)
    refine j_step rfl (x_call [] rfl (c_codewrightref04_Order) rfl ?_)
    rintro _ _ _ ⟨rfl,rfl,rfl⟩
    simp only [List.cons_append,List.nil_append]
    refine j_run it 2 rfl ⟨trivial,⟨by omega,by omega,by omega,by omega⟩,trivial⟩ ?_
    refine j_nf [_,_,_,_,_,_,_] rfl ?_
    refine j_if rfl rfl (fun h2=>by exfalso;omega) (fun h2=>?_)
    refine j_nf [_,_,_,_,_,_,_] rfl ?_
    refine j_run it 1 rfl (by simp) ?_
    refine j_nf [_,_,_,_,_,_,_,_] rfl ?_
    refine j_run it 1 rfl (by simp) ?_
    refine j_nf [_,_,_,_,_,_,_,_] rfl ?_
    clear c_codewrightref24_has
    generalize rowW (q : Int) n (rows.getD i default) = R at *
    refine j_row0 (encSl I64) 22 ?_
    refine j_loopG (X:=Nat × Row) [1,2,3,4,9,10,11,20,21,22,23,26,27,28,29,30,31,32,33,34,35,36,37,38,39,40,41,42] [0,1,2,3,4,5,6,7] (fun x=>[(13,.int .i64 (x.1 : Int)),(12,.slice (ad x.2.bo) (L.length * x.1) x.2.cap)]) (fun x=>[(x.2.bo,22,x.2.cs),(some b1,24,[.int .i64 p,.int .i64 m,.slice pm nm cm])]) (fun x=>[rowF (encSl I64) x.2 (L.length * x.1) ((List.range x.1).flatMap fun a : Nat=>L.map fun u=>axp (aF p m) (mF p m md) a R u)])
     (fun x=>x.1 ≤ q) (fun x=>q - x.1) (0,⟨none,0,[]⟩) [0] rfl rfl rfl (Nat.zero_le _) (by repeat (first | exact Fr.sub_nil _ | refine Fr.sub_cons rfl ?_)) rfl rfl ?_
    rintro ⟨a,r⟩ ha ih2
    simp only [List.cons_append,List.nil_append] at ha ih2 ⊢
    by_cases haq : a < q
    ·have hk : L.length * a + L.length ≤ 100000:=by
      have : L.length * a + L.length = L.length * (a + 1):=rfl
      have:=Nat.mul_le_mul_left L.length (show a + 1 ≤ q by omega)
      rw [Nat.mul_comm q] at hqL
      omega
     have ih2':=fun r1=>ih2 (a + 1,r1) (by dsimp only;omega) (by dsimp only;omega)
     dsimp only at ih2'
     clear ih2
     rw [Nat.mul_succ,List.range_succ,List.flatMap_append,List.flatMap_cons,List.flatMap_nil,List.append_nil] at ih2'
     generalize hf : ((List.range a).flatMap fun a : Nat=>L.map fun u=>axp (aF p m) (mF p m md) a R u) = fl at *
     generalize hal : L.length * a = al at *
     refine j_nf [_,_,_,_,_,_,_,_,_,_,_] rfl ?_
     refine j_run it 1 rfl (by simp) ?_
     refine j_step rfl (x_bld_all 1 rfl rfl ld24 rfl ?_)
     refine j_step rfl (x_call [] rfl (c_codewrightref04_Order) rfl ?_)
     rintro _ _ _ ⟨rfl,rfl,rfl⟩
     simp only [List.cons_append,List.nil_append]
     refine j_run it 1 rfl (by simp) ?_
     refine j_nf [_,_,_,_,_,_,_,_,_,_] rfl ?_
     refine j_if rfl rfl (fun h3=>?_) (fun h3=>by exfalso;omega)
     refine j_nf [_,_,_,_,_,_,_,_,_,_,_,_] rfl ?_
     refine j_run it 1 rfl (by simp) ?_
     refine j_nf [_,_,_,_,_,_,_,_,_,_,_,_] rfl ?_
     rw [show fl = fl++(L.take 0).map fun u=>axp (aF p m) (mF p m md) a R u by simp]
     refine j_loopG (X:=Nat × Row) [1,2,3,4,9,10,11,13,20,21,22,23,26,27,28,29,30,31,32,33,34,35,36,37,38,39,40,41,42,43,44,45,46] [0,1,2,3,4,5,6,7,8] (fun x=>[(14,.int .i64 (x.1 : Int)),(12,.slice (ad x.2.bo) (al + x.1) x.2.cap)]) (fun x=>[(x.2.bo,22,x.2.cs),(some b1,24,[.int .i64 p,.int .i64 m,.slice pm nm cm])]) (fun x=>[rowF (encSl I64) x.2 (al + x.1) (fl++(L.take x.1).map fun u=>axp (aF p m) (mF p m md) a R u)])
      (fun x=>x.1 ≤ L.length) (fun x=>L.length - x.1) (0,r) [0] rfl rfl rfl (Nat.zero_le _) (by repeat (first | exact Fr.sub_nil _ | refine Fr.sub_cons rfl ?_)) rfl rfl ?_
     rintro ⟨j,r2⟩ hj ih3
     simp only [List.cons_append,List.nil_append] at hj ih3 ⊢
     by_cases hjl : j < L.length
     ·have hz2 : L[j]? = some (L.getD j default):=by rw [List.getD_eq_getElem?_getD,List.getElem?_eq_getElem hjl];rfl
      have wu:=wd_nth hw hjl
      have ih3':=fun r1=>ih3 (j + 1,r1) (by dsimp only;omega) (by dsimp only;omega)
      dsimp only at ih3'
      clear ih3
      rw [← Nat.add_assoc,show L.take (j + 1) = L.take j++[L.getD j default] by rw [List.take_succ_eq_append_getElem hjl,List.getD_eq_getElem?_getD,List.getElem?_eq_getElem hjl];rfl,List.map_append,List.map_cons,List.map_nil,← List.append_assoc] at ih3'
      refine j_nf [_,_,_,_,_,_,_,_,_,_,_,_,_,_,_] rfl ?_
      refine j_run it 2 rfl (by simp) ?_
      refine j_step rfl (x_len sl25 rfl ?_)
      refine j_run it 1 rfl (by simp) ?_
      refine j_nf [_,_,_,_,_,_,_,_,_,_,_,_,_,_] rfl ?_
      refine j_if rfl rfl (fun h4=>?_) (fun h4=>by exfalso;omega)
      refine j_nf [_,_,_,_,_,_,_,_,_,_,_,_,_,_,_,_] rfl ?_
      refine j_run it 1 rfl (by simp) ?_
      refine j_step rfl (x_make_nat (n) _ rfl rfl sl22 zo22e by22e (by omega) (by omega) (by omega) fun b5=>?_)
      refine j_run it 1 rfl (by simp) ?_
      refine j_nf [_,_,_,_,_,_,_,_,_,_,_,_,_,_,_,_,_] rfl ?_
      refine j_run it 1 rfl (by simp) ?_
      refine j_nf [_,_,_,_,_,_,_,_,_,_,_,_,_,_,_,_,_] rfl ?_
      have wW : Wd q n (axp (aF p m) (mF p m md) a R (L.getD j default)):=F.axw (by omega) (by omega) hrw wu
      have lu:=wu.1
      have lR2:=hrw.1
      have tz : ∀ k,k < n → (axp (aF p m) (mF p m md) a R (L.getD j default))[k]? = some (aF p m ((L.getD j default).getD k default) (mF p m md a (R.getD k default))):=fun k hk=>axp_at lR2 lu hk
      have eT:=toI_toNat fun x hx=>(wW.2 x hx).1
      have lN : ((axp (aF p m) (mF p m md) a R (L.getD j default)).map Int.toNat).length = n:=by rw [List.length_map,wW.1]
      have nz : ∀ k,k < n → ((axp (aF p m) (mF p m md) a R (L.getD j default)).map Int.toNat)[k]? = some (aF p m ((L.getD j default).getD k default) (mF p m md a (R.getD k default))).toNat:=fun k hk=>by
       rw [List.getElem?_map,tz k hk];rfl
      have rN : ∀ d ∈ (axp (aF p m) (mF p m md) a R (L.getD j default)).map Int.toNat,d ≤ 9223372036854775807:=fun d hd=>by
       obtain ⟨x,hx,rfl⟩:=List.mem_map.1 hd
       have:=wW.2 x hx;omega
      rw [← eT] at ih3'
      generalize (axp (aF p m) (mF p m md) a R (L.getD j default)).map Int.toNat = T at *
      rw [show List.replicate n 0 = T.take 0++List.replicate (n - 0) 0 by simp]
      refine j_loopG (X:=Nat) [1,2,3,4,9,10,11,12,13,14,15,20,21,22,23,26,27,28,29,30,31,32,33,34,35,36,37,38,39,40,41,42,43,44,45,46,49,50,51,52,55,56] [0,1,2,3,4,5,6,7,8,9] (fun k=>[(16,.int .i64 (k : Int))]) (fun k=>[(some b5,3,natCells .i64 (T.take k++List.replicate (n - k) 0)),(r2.bo,22,r2.cs),(some b1,24,[.int .i64 p,.int .i64 m,.slice pm nm cm])]) (fun _=>[]) (fun k=>k ≤ n) (fun k=>n - k) 0 [] rfl rfl rfl (Nat.zero_le _) (by repeat (first | exact Fr.sub_nil _ | refine Fr.sub_cons rfl ?_)) rfl rfl ?_
      rintro k hk4 ih4
      simp only [List.cons_append,List.nil_append] at hk4 ih4 ⊢
      by_cases hkn : k < n
      ·have ih4':=ih4 (k + 1) (by omega) (by omega)
       have zz:=nz k hkn
       rw [← fill_set lN hkn zz] at ih4'
       have lf : (T.take k++List.replicate (n - k) 0).length = n:=by rw [List.length_append,List.length_take,List.length_replicate];omega
       have wa:=wd_at wu hkn
       have wb:=wd_at hrw hkn
       obtain ⟨m0,m1⟩:=F.ml a _ (by omega) (by omega) wb.1 wb.2
       obtain ⟨a0,a1⟩:=F.al _ _ wa.1 wa.2 m0 m1
       have en : (((aF p m ((L.getD j default).getD k default) (mF p m md a (R.getD k default))).toNat : Nat) : Int) = aF p m ((L.getD j default).getD k default) (mF p m md a (R.getD k default)):=Int.toNat_of_nonneg a0
       refine j_nf [_,_,_,_,_,_,_,_,_,_,_,_,_,_,_,_,_,_,_,_] rfl ?_
       refine j_run it 3 rfl (by simp) ?_
       refine j_nf [_,_,_,_,_,_,_,_,_,_,_,_,_,_,_,_,_,_,_] rfl ?_
       refine j_if rfl rfl (fun h5=>?_) (fun h5=>by exfalso;omega)
       refine j_nf [_,_,_,_,_,_,_,_,_,_,_,_,_,_,_,_,_,_,_,_] rfl ?_
       (apply j_drawK it mx 18;(· rfl);(· rfl))
       (apply lxk_run 2;(· rfl);(· simp))
       (apply lxk_eq;(· rfl);(· exact d_bld_all 2 rfl rfl ld24 rfl))
       (apply lxk_run 2;(· rfl);(· simp))
       (apply lxk_pt;(· rfl);(· exact d_x fun _=>x_idx 6 (j) rfl rfl rfl sl25 rfl (by omega) fun z1 hz1 b6 o2=>(dk_ptD default hz1 0 rfl));intro b6 o2)
       (apply lxk_sl;(· rfl);(· exact d_x fun _=>x_ld_sl 0 rfl rfl ld22 fun pa3 ca3=>(dk_sl 0 rfl));intro pa3 ca3)
       (apply lxk_run 1;(· rfl);(· simp))
       (apply lxk_pt;(· rfl);(· exact d_x fun _=>x_idx 0 (k) rfl rfl rfl sl22 rfl (by omega) fun z1 hz1 b7 o3=>(dk_ptD default hz1 0 rfl));intro b7 o3)
       (apply lxk_eq;(· rfl);(· exact d_x fun _=>x_ld_int 0 rfl rfl ld3 fun ⟨r1,r3⟩=>dk_eq))
       (apply lxk_eq;(· rfl);(· exact d_bld_all 2 rfl rfl ld24 rfl))
       (apply lxk_run 3;(· rfl);(· simp))
       (apply lxk_pt;(· rfl);(· exact d_x fun _=>x_idx 3 (k) rfl rfl rfl sl22 rfl (by omega) fun z1 hz1 b8 o4=>(dk_ptD default hz1 0 rfl));intro b8 o4)
       (apply lxk_eq;(· rfl);(· exact d_x fun _=>x_ld_int 0 rfl rfl ld3 fun ⟨r1,r3⟩=>dk_eq))
       (apply lxk_eq;(· rfl);(· exact d_x fun _=>x_call [9] rfl (c_codewrightref04_Mul (by omega) (by omega) (by omega) (by omega)) rfl (by rintro _ _ _ ⟨rfl,rfl,rfl⟩;exact dk_eq)))
       (apply lxk_eq;(· rfl);(· exact d_x fun _=>x_call [] rfl (c_codewrightref04_Add (by omega) (by omega) (by omega) (by omega)) rfl (by rintro _ _ _ ⟨rfl,rfl,rfl⟩;exact dk_eq)))
       refine lxk_end rfl ?_
       simp only [List.map_cons,List.map_nil,List.cons_append,List.nil_append]
       refine j_step rfl (x_idx_own (k) (k) rfl rfl sl22 rfl (by omega) (Nat.mul_one _) ?_)
       refine j_step rfl (x_bst_nat 0 ((liftI (fA p m) ((L.getD j default).getD k default) (liftI (fM p (fpo m md)) (↑a) (R.getD k default)) : Int).toNat) rfl rfl rfl ld3 (by first | rfl | omega) (by first | omega | (simp;omega)) ?_)
       refine j_nf [_,_,_,_,_,_,_,_,_,_,_,_,_,_,_,_,_,_] rfl ?_
       refine j_run it 3 rfl ⟨trivial,⟨by omega,by omega⟩,trivial,trivial⟩ ?_
       refine j_nfn 1 [.lp (pL 3913098388),.blk 6,.c (pL 489137299),.blk 5,.c (pL 61142163),.lp (pL 15285540),.blk 4,.blk 3,.c (pL 955347),.lp (pL 238836),.blk 2,.c (pL 29855),.blk 1,.c (pL 467),.lp (pL 116),.blk 0,.c [1,1,1]] rfl ?_
       refine j_to [4,5,6,7,8,9,10,11,12,13] (by exact fra rfl) rfl rfl (ih4')
      ·obtain rfl : k = n:=by omega
       rw [Nat.sub_self,List.replicate_zero,List.append_nil,List.take_of_length_le (by omega),natCells_toI]
       refine j_pub_madei 8 (toI T) 0 rfl (by rw [toI_len,lN]) (toI_rng rN) (by omega) (by omega) ?_
       simp only [List.eraseIdx_cons_zero]
       refine j_nf [_,_,_,_,_,_,_,_,_,_,_,_,_,_,_,_,_,_,_,_] rfl ?_
       refine j_run it 3 rfl (by simp) ?_
       refine j_nf [_,_,_,_,_,_,_,_,_,_,_,_,_,_,_,_,_,_,_] rfl ?_
       refine j_if rfl rfl (fun h5=>by exfalso;omega) (fun h5=>?_)
       refine j_nf [_,_,_,_,_,_,_,_,_,_,_,_,_,_,_] rfl ?_
       refine j_run it 2 rfl (by simp) ?_
       refine j_step rfl (x_lit sl25 zo25e rfl rfl rfl rfl (by decide) (by decide) rfl fun b6=>?_)
       refine j_step rfl (x_appR (z:=toI T) 1 0 1 rfl rfl rfl rfl rfl sl25 zo25e rfl (fun w A hG=>(rd_of_slF (hG _ (fact_mem (n:=0) rfl)))) (by omega) _ by25e (by omega) fun r1=>?_)
       refine j_run it 1 rfl (by simp) ?_
       refine j_nf [_,_,_,_,_,_,_,_,_,_,_,_,_] rfl ?_
       refine j_run it 3 rfl ⟨trivial,⟨by omega,by omega⟩,trivial,trivial⟩ ?_
       refine j_nfn 1 [.lp (pL 15285540),.blk 4,.blk 3,.c (pL 955347),.lp (pL 238836),.blk 2,.c (pL 29855),.blk 1,.c (pL 467),.lp (pL 116),.blk 0,.c [1,1,1]] rfl ?_
       refine j_toM [true,false,true] [0,3,4,5,6,7,8,9,10,11] (by exact fra rfl) rfl rfl (ih3' r1)
     ·obtain rfl : j = L.length:=by omega
      rw [List.take_length]
      refine j_nf [_,_,_,_,_,_,_,_,_,_,_,_,_,_,_] rfl ?_
      refine j_run it 2 rfl (by simp) ?_
      refine j_step rfl (x_len sl25 rfl ?_)
      refine j_run it 1 rfl (by simp) ?_
      refine j_nf [_,_,_,_,_,_,_,_,_,_,_,_,_,_] rfl ?_
      refine j_if rfl rfl (fun h4=>by exfalso;omega) (fun h4=>?_)
      refine j_nf [_,_,_,_,_,_,_,_,_] rfl ?_
      refine j_run it 3 rfl ⟨trivial,⟨by omega,by omega⟩,trivial,trivial⟩ ?_
      refine j_nfn 1 [.lp (pL 238836),.blk 2,.c (pL 29855),.blk 1,.c (pL 467),.lp (pL 116),.blk 0,.c [1,1,1]] rfl ?_
      refine j_to [0,2,3,4,5,6,7,8,9] (by exact fra rfl) rfl rfl (ih2' r2)
    ·obtain rfl : a = q:=by omega
     have hlx : (extL a (aF p m) (mF p m md) L R).length = L.length * a:=by
      rw [ext_len,Nat.mul_comm]
     rw [← extL]
     refine j_nf [_,_,_,_,_,_,_,_,_,_,_] rfl ?_
     refine j_run it 1 rfl (by simp) ?_
     refine j_step rfl (x_bld_all 1 rfl rfl ld24 rfl ?_)
     refine j_step rfl (x_call [] rfl (c_codewrightref04_Order) rfl ?_)
     rintro _ _ _ ⟨rfl,rfl,rfl⟩
     simp only [List.cons_append,List.nil_append]
     refine j_run it 1 rfl (by simp) ?_
     refine j_nf [_,_,_,_,_,_,_,_,_,_] rfl ?_
     refine j_if rfl rfl (fun h3=>by exfalso;omega) (fun h3=>?_)
     refine j_nf [_,_,_,_,_,_] rfl ?_
     refine j_run it 2 rfl (by simp) ?_
     refine j_nf [_,_,_,_] rfl ?_
     refine j_run it 3 rfl ⟨trivial,⟨by omega,by omega⟩,trivial,trivial⟩ ?_
     refine j_nfn 1 [.lp (pL 116),.blk 0,.c [1,1,1]] rfl ?_
     refine j_pubR 0 0 rfl rfl (by show L.length * a * 24 ≤ _;rw [Nat.mul_comm a] at hqL;omega) ?_
     rw [← hlx]
     refine j_to [0,7,8,9] (by exact fra rfl) rfl rfl (ih (i + 1,extL a (aF p m) (mF p m md) L R,ad r.bo,r.cap) (by dsimp only;omega) ⟨by dsimp only;omega,fun u hu=>by obtain ⟨a',v,ha',hv,rfl⟩:=ext_mem hu;exact F.axw (by omega) (by omega) hrw (hw v hv),by dsimp only;rw [hlx,Nat.mul_comm];omega,he⟩)
 ·obtain rfl : i = rows.length:=by omega
  rw [List.drop_of_length_le (by omega),spanS] at he
  subst he
  refine j_nf [_,_,_,_,_,_] rfl ?_
  refine j_run it 2 rfl (by simp) ?_
  refine j_step rfl (x_len sl25 rfl ?_)
  refine j_run it 1 rfl (by simp) ?_
  refine j_nf [_,_,_,_,_] rfl ?_
  refine j_if rfl rfl (fun h1=>by exfalso;omega) (fun h1=>?_)
  refine j_nf [_,_] rfl ?_
  refine j_run it 2 rfl (by simp) ?_
  refine j_nf [_] rfl ?_
  refine j_giv [0] rfl rfl rfl ⟨_,_,_,rfl,rfl,rfl,rfl⟩
abbrev SvL (L : List (List Int)) : Value → List Fact → List Blk → Prop:=fun v Φ β=>∃ (pa : Option Addr) (ca : Nat),v = .slice pa L.length ca ∧ Φ = [slF (encSl I64) pa L.length ca L] ∧ β = []
def cwN (L : List (List Int)) (j : Nat) : Nat:=(L.filter fun u=>decide (wt u = j)).length
theorem cwN_snoc (L : List (List Int)) (u : List Int) (j : Nat) : cwN (L++[u]) j = cwN L j + if wt u = j then 1 else 0:=by
 rw [cwN,List.filter_append,List.length_append,← cwN]
 congr 1
 by_cases h : wt u = j
 ·rw [if_pos h,List.filter_cons,if_pos (decide_eq_true h)];rfl
 ·rw [if_neg h,List.filter_cons,if_neg (by simp [h])];rfl
theorem cwN_le (L : List (List Int)) (j : Nat) : cwN L j ≤ L.length:=List.length_filter_le _ _
theorem cntW_cw : ∀ (L : List (List Int)) (j : Nat),cntW L j = (cwN L j : Int)
 | [],j=>rfl
 | u::L,j=>by
  have ih:=cntW_cw L j
  rw [cntW] at ih ⊢
  rw [lsum,ih,cwN,cwN,List.filter_cons]
  by_cases h : wt u = j
  ·rw [if_pos h,if_pos (decide_eq_true h),List.length_cons];omega
  ·rw [if_neg h,if_neg (by simp [h])];omega
def cwS (n : Nat) (L : List (List Int)) : List Nat:=(List.range (n + 1)).map (cwN L)
theorem cwS_len (n : Nat) (L : List (List Int)) : (cwS n L).length = n + 1:=by simp [cwS]
theorem cwS_at {n j : Nat} {L : List (List Int)} (h : j ≤ n) : (cwS n L)[j]? = some (cwN L j):=by rw [cwS,List.getElem?_map,List.getElem?_range (by omega)];rfl
theorem cwS_snoc {n : Nat} {L : List (List Int)} {u : List Int} : cwS n (L++[u]) = (cwS n L).set (wt u) (cwN L (wt u) + 1):=by
 refine List.ext_getElem? fun k=>?_
 rw [List.getElem?_set]
 by_cases hk : k ≤ n
 ·rw [cwS_at hk,cwN_snoc]
  by_cases e : wt u = k
  ·rw [if_pos e,if_pos e,cwS_len,if_pos (by omega),e]
  ·rw [if_neg e,if_neg e,cwS_at hk];rfl
 ·rw [List.getElem?_eq_none (by rw [cwS_len];omega),List.getElem?_eq_none (by rw [cwS_len];omega),cwS_len]
  by_cases e : wt u = k
  ·rw [if_pos e,if_neg (by omega)]
  ·rw [if_neg e]
theorem cwS_nil (n : Nat) : cwS n [] = List.replicate (n + 1) 0:=by
 refine List.ext_getElem? fun k=>?_
 rw [List.getElem?_replicate]
 by_cases hk : k ≤ n
 ·rw [cwS_at hk,if_pos (by omega)];rfl
 ·rw [List.getElem?_eq_none (by rw [cwS_len];omega),if_neg (by omega)]
def cwL (n : Nat) (L : List (List Int)) : List (List Nat):=(List.range (n + 1)).map fun j=>limbs (cwN L j)
theorem S_codewrightref24_Weights {n nl cl : Nat} {pl : Option Addr} {L : List (List Int)} (hn : n ≤ 100) (hL : ∀ u ∈ L,u.length = n) :
  Ctr Try.prog 12 [.int .i64 n,.slice pl nl cl] [] [slF (encSl I64) pl nl cl L] (fun v Φ β=>∃ pa ca,v = .slice pa (n + 1) ca ∧ Φ = [slF NatE pa (n + 1) ca (cwL n L)] ∧ β = []):=by
 refine Ctr_of_j' (F:=F_codewrightref24_Weights) rfl fun C=>?_
 refine j_len 0 rfl fun e1 hb1 _=>?_
 have hb1' : L.length * 24 ≤ 140737488355328:=hb1
 subst e1
 refine j_nf [_,_] rfl (j_run it 1 rfl (by simp) ?_)
 refine j_nf [_,_] rfl (j_run it 2 rfl ⟨⟨by omega,by omega⟩,trivial,trivial⟩ ?_)
 refine j_step rfl (x_make_nat ((n) + 1) _ rfl rfl sl22 zo22e by22e (by omega) (by omega) (by omega) fun b1=>?_)
 refine j_run it 1 rfl (by simp) ?_
 refine j_nf [_,_] rfl (j_run it 1 rfl (by simp) ?_)
 refine j_step rfl (x_make_nat (n) _ rfl rfl sl22 zo22e by22e (by omega) (by omega) (by omega) fun b2=>?_)
 refine j_run it 1 rfl (by simp) ?_
 refine j_nf [_,_,_] rfl (j_run it 1 rfl (by simp) ?_)
 refine j_nf [_,_,_] rfl ?_
 rw [show natCells .i64 (List.replicate n 0) = intCells .i64 (zW n) from by rw [natCells_toI,toI_zeros]]
 refine j_pub_madei (kd:=.i64) (n:=n) 8 (zW n) 0 rfl (by simp) (fun x hx=>by rw [(List.mem_replicate.1 hx).2];simp [InR]) (by omega) (by omega) ?_
 simp only [List.eraseIdx_cons_zero,List.eraseIdx_cons_succ]
 rw [← cwS_nil]
 refine j_loopG (X:=Nat) [0,1,4,5,6] [0,1] (fun i=>[(7,.int .i64 (i : Int))]) (fun i=>[(some b1,3,natCells .i64 (cwS n (L.take i)))]) (fun _=>[]) (fun i=>i ≤ L.length) (fun i=>L.length - i) 0 [] rfl rfl rfl (Nat.zero_le _) (by repeat (first | exact Fr.sub_nil _ | refine Fr.sub_cons rfl ?_)) rfl rfl ?_
 rintro i hi ih
 simp only [List.cons_append,List.nil_append] at hi ih ⊢
 by_cases hil : i < L.length
 ·have hz : L[i]? = some (L.getD i default):=by rw [List.getD_eq_getElem?_getD,List.getElem?_eq_getElem hil];rfl
  have hl:=hL _ (List.mem_of_getElem? hz)
  have ih':=ih (i + 1) (by omega) (by omega)
  rw [show L.take (i + 1) = L.take i++[L.getD i default] by rw [List.take_succ_eq_append_getElem hil,List.getD_eq_getElem?_getD,List.getElem?_eq_getElem hil];rfl,cwS_snoc] at ih'
  have hdw:=dist_zW n _ hl
  have hwn:=wt_le (L.getD i default)
  rw [hl] at hwn
  have hsa:=cwS_at (L:=L.take i) hwn
  have hlc:=cwS_len n (L.take i)
  have hcl : cwN (L.take i) (wt (L.getD i default)) ≤ L.length:=by
   have:=cwN_le (L.take i) (wt (L.getD i default))
   rw [List.length_take] at this;omega
  rw [← hdw] at ih' hsa hwn hcl
  refine j_nf [_,_,_,_,_,_] rfl (j_run it 2 rfl (by simp) ?_)
  refine j_step rfl (x_len sl25 rfl ?_)
  refine j_run it 1 rfl (by simp) ?_
  refine j_nf [_,_,_,_,_] rfl (j_if rfl rfl (fun h1=>?_) (fun h1=>by exfalso;omega))
  refine j_nf [_,_,_,_,_,_] rfl (j_run it 3 rfl (by simp) ?_)
  refine j_step rfl (x_idx 1 (i) rfl rfl rfl sl25 rfl (by omega) fun z1 hz1 b3 o1=>?_)
  refine j_step rfl (x_ld_sl 0 rfl rfl ld22 fun pa1 ca1=>?_)
  refine j_run it 1 rfl (by simp) ?_
  obtain rfl : z1 = L.getD i default:=Option.some.inj (hz1.symm.trans hz)
  refine j_step rfl (x_call [0,2] rfl (S_codewrightref24_Distance (by omega)) rfl ?_)
  rintro _ _ _ ⟨rfl,rfl,rfl⟩
  simp only [List.cons_append,List.nil_append]
  refine j_step rfl (x_idx_own (dist (L.getD i default) (zW n)) (dist (L.getD i default) (zW n)) rfl rfl sl22 rfl (by omega) (Nat.mul_one _) ?_)
  refine j_step rfl (x_bld_nat 0 rfl rfl ld3 (by first | omega | (simp;omega)) fun z1 hz2=>?_) --ok
  obtain rfl:=Option.some.inj (hz2.symm.trans hsa)
  refine j_run it 1 rfl ⟨⟨by omega,by omega⟩,trivial⟩ ?_
  refine j_step rfl (x_idx_own (dist (L.getD i default) (zW n)) (dist (L.getD i default) (zW n)) rfl rfl sl22 rfl (by omega) (Nat.mul_one _) ?_)
  refine j_step rfl (x_bst_nat 0 ((cwN (List.take i L) (dist (L.getD i default) (zW n))) + 1) rfl rfl rfl ld3 (by first | rfl | omega) (by first | omega | (simp;omega)) ?_)
  refine j_nf [_,_,_,_] rfl (j_run it 3 rfl ⟨trivial,⟨by omega,by omega⟩,trivial,trivial⟩ ?_)
  refine j_nfn 1 [.lp (pL 244),.blk 0,.c [1,1,1,1]] rfl ?_
  refine j_to [2,3] (by exact fra rfl) rfl rfl (ih')
 ·obtain rfl : i = L.length:=by omega
  rw [List.take_length]
  have hlc:=cwS_len n L
  refine j_nf [_,_,_,_,_,_] rfl (j_run it 2 rfl (by simp) ?_)
  refine j_step rfl (x_len sl25 rfl ?_)
  refine j_run it 1 rfl (by simp) ?_
  refine j_nf [_,_,_,_,_] rfl (j_if rfl rfl (fun h1=>by exfalso;omega) (fun h1=>?_))
  refine j_nf [_,_] rfl (j_run it 1 rfl (by simp) ?_)
  refine j_nf [_,_,_] rfl (j_run it 1 rfl (by simp) ?_)
  refine j_nf [_,_,_] rfl ?_
  refine j_row0 NatE 29 ?_
  refine j_loopG (X:=Nat × Row) [0,4,5] [0,1,2] (fun x=>[(9,.int .i64 (x.1 : Int)),(8,.slice (ad x.2.bo) x.1 x.2.cap)]) (fun x=>[(x.2.bo,29,x.2.cs),(some b1,3,natCells .i64 (cwS n L))]) (fun x=>[rowF NatE x.2 x.1 ((List.range x.1).map fun j=>limbs (cwN L j))])
   (fun x=>x.1 ≤ n + 1) (fun x=>n + 1 - x.1) (0,⟨none,0,[]⟩) [0] rfl rfl rfl (Nat.zero_le _) (by repeat (first | exact Fr.sub_nil _ | refine Fr.sub_cons rfl ?_)) rfl rfl ?_
  rintro ⟨k,r⟩ hk ih2
  simp only [List.cons_append,List.nil_append] at hk ih2 ⊢
  by_cases hkn : k < n + 1
  ·have ih2':=fun r1=>ih2 (k + 1,r1) (by dsimp only;omega) (by dsimp only;omega)
   dsimp only at ih2'
   rw [range_snoc] at ih2'
   have hsa:=cwS_at (L:=L) (show k ≤ n by omega)
   have hcl:=cwN_le L k
   refine j_nf [_,_,_,_,_,_] rfl (j_run it 3 rfl (by simp) ?_)
   refine j_nf [_,_,_,_,_] rfl (j_if rfl rfl (fun h2=>?_) (fun h2=>by exfalso;omega))
   refine j_nf [_,_,_,_,_,_] rfl (j_run it 3 rfl (by simp) ?_)
   refine j_step rfl (x_idx_own (k) (k) rfl rfl sl22 rfl (by omega) (Nat.mul_one _) ?_)
   refine j_step rfl (x_bld_nat 1 rfl rfl ld3 (by first | omega | (simp;omega)) fun z1 hz1=>?_)
   refine j_step rfl (x_conv_u64 it rfl rfl rfl ?_)
   refine j_recast (t:=42) ((((z1) % 18446744073709551616) : Nat) : Int) rfl (by omega) ?_
   refine j_step rfl (x_call [] rfl (S_codewrightref01_Of (by omega)) rfl ?_)
   rintro _ _ _ ⟨pa1,ca1,rfl,rfl,rfl⟩
   simp only [List.cons_append,List.nil_append]
   refine j_step rfl (x_lit sl33 zo33e rfl rfl rfl rfl (by decide) (by decide) rfl fun b3=>?_)
   refine j_step rfl (x_appR (z:=limbs (z1 % 18446744073709551616)) 1 0 1 rfl rfl rfl rfl rfl sl33 zo33e rfl (fun w A hG=>(rd_of_slF (hG _ (fact_mem (n:=0) rfl)))) (by omega) _ by33e (by omega) fun r1=>?_)
   refine j_run it 1 rfl (by simp) ?_
   refine j_nf [_,_,_,_] rfl (j_run it 3 rfl ⟨trivial,⟨by omega,by omega⟩,trivial,trivial⟩ ?_)
   refine j_nfn 1 [.lp (pL 1012),.blk 2,.c (pL 127)] rfl ?_
   obtain rfl:=Option.some.inj (hz1.symm.trans hsa)
   rw [Nat.mod_eq_of_lt (show cwN L k < 18446744073709551616 by omega)]
   refine j_toM [true,false,true] [0,3,4,5] (by exact fra rfl) rfl rfl (ih2' r1)
  ·obtain rfl : k = n + 1:=by omega
   refine j_nf [_,_,_,_,_,_] rfl (j_run it 3 rfl (by simp) ?_)
   refine j_nf [_,_,_,_,_] rfl (j_if rfl rfl (fun h2=>by exfalso;omega) (fun h2=>?_))
   refine j_nf [_,_] rfl (j_run it 2 rfl (by simp) ?_)
   refine j_nf [_] rfl ?_
   refine j_pubR 0 0 rfl rfl (by show (n + 1) * 24 ≤ _;omega) ?_
   refine j_giv [0] rfl rfl rfl ⟨_,_,rfl,rfl,rfl⟩
theorem spanE_some (n : Nat) (L : List (List Int)) : SpanE n (some L) = SvL L:=by
 funext v Φ β;exact propext ⟨fun ⟨_,pa,ca,e,h⟩=>by subst e;exact ⟨pa,ca,h⟩,fun ⟨pa,ca,h⟩=>⟨L,pa,ca,rfl,h⟩⟩
theorem spanE_none (n : Nat) : SpanE n none = SvL []:=by
 funext v Φ β;exact propext ⟨fun ⟨_,pa,ca,e,h⟩=>by subst e;exact ⟨pa,ca,h⟩,fun ⟨pa,ca,h⟩=>⟨[],pa,ca,rfl,h⟩⟩
theorem cwL_at {n j : Nat} {L : List (List Int)} (h : j ≤ n) : (cwL n L).getD j default = limbs (cwN L j):=by
 rw [List.getD_eq_getElem?_getD,cwL,List.getElem?_map,List.getElem?_range (by omega)];rfl
theorem spanS_le {q most : Nat} {A M : Int → Int → Int} : ∀ {rs L K : List (List Int)},L.length ≤ most → spanS q most A M rs L = some K → K.length ≤ most
 | [],L,K,h,e=>by
  rw [spanS,Option.some.injEq] at e;subst e;exact h
 | r::rs,L,K,h,e=>by
  rw [spanS] at e
  by_cases h1 : r ∈ L
  ·rw [if_pos h1] at e;exact spanS_le h e
  ·rw [if_neg h1] at e
   by_cases h2 : most / q < L.length
   ·rw [if_pos h2] at e;cases e
   ·rw [if_neg h2] at e
    refine spanS_le ?_ e
    rw [ext_len]
    exact Nat.le_trans (Nat.mul_le_mul_left q (by omega)) (Nat.mul_div_le most q)
section
variable {q : Nat} {A M : Int → Int → Int} (F : FI q A M)
include F
end
set_option maxRecDepth 100000
set_option linter.unusedVariables false
set_option linter.unusedSimpArgs false
section
variable {q : Nat} {A M : Int → Int → Int} (F : FI q A M)
include F
theorem FI.mdr {x y z : Int} (x0 : 0 ≤ x) (x1 : x < q) (y0 : 0 ≤ y) (y1 : y < q) (z0 : 0 ≤ z) (z1 : z < q) : M (A x y) z = A (M x z) (M y z):=by
 obtain ⟨a0,a1⟩:=F.al x y x0 x1 y0 y1
 rw [F.mc _ z a0 a1 z0 z1,F.md z x y z0 z1 x0 x1 y0 y1,F.mc z x z0 z1 x0 x1,F.mc z y z0 z1 y0 y1]
theorem FI.one : (0 : Int) ≤ 1 ∧ (1 : Int) < q:=by have:=F.q2;omega
theorem FI.m1l {x : Int} (x0 : 0 ≤ x) (x1 : x < q) : M 1 x = x:=by
 rw [F.mc 1 x F.one.1 F.one.2 x0 x1,F.m1 x x0 x1]
theorem FI.zl {x : Int} (x0 : 0 ≤ x) (x1 : x < q) : A 0 x = x:=by
 rw [F.ac 0 x (Int.le_refl 0) F.z x0 x1,F.a0 x x0 x1]
theorem FI.inv {s : Int} (s0 : 0 ≤ s) (s1 : s < q) (hs : s ≠ 0) : ∃ t : Int,(0 ≤ t ∧ t < q) ∧ M t s = 1:=by
 have hq:=F.q2
 have h:=inj_all (q:=q) (φ:=fun a : Nat=>(M s a).toNat) (fun a ha=>by have:=F.ml s a s0 s1 (by omega) (by omega);show (M s a).toNat < q;omega) (fun a b ha hb e=>by
  have l1:=F.ml s a s0 s1 (by omega) (by omega)
  have l2:=F.ml s b s0 s1 (by omega) (by omega)
  have e : (M s a).toNat = (M s b).toNat:=e
  have:=F.mcancel s0 s1 hs (show (0 : Int) ≤ (a : Int) by omega) (by omega) (show (0 : Int) ≤ (b : Int) by omega) (by omega) (by omega)
  omega) (y:=1) (by omega)
 refine Classical.byContradiction fun hno=>?_
 have : sm q (fun x=>if (M s x).toNat = 1 then (1 : Int) else 0) = 0:=by
  refine (sm_congr (g:=fun _=>0) fun a ha=>if_neg fun e=>hno ⟨a,⟨by omega,by omega⟩,?_⟩).trans (sm_zero q)
  have:=F.ml s a s0 s1 (by omega) (by omega)
  rw [F.mc a s (by omega) (by omega) s0 s1]
  omega
 rw [this] at h
 exact absurd h (by decide)
theorem FI.ax2 {a b c : Int} (a0 : 0 ≤ a) (a1 : a < q) (b0 : 0 ≤ b) (b1 : b < q) (c0 : 0 ≤ c) (c1 : c < q) : ∀ {n : Nat} {r u v : List Int},Wd q n r → Wd q n u → Wd q n v →
  axp A M c (axp A M b r v) (axp A M a r u) = axp A M (A a (M c b)) r (axp A M c v u)
 | 0,r,u,v,hr,hu,hv=>by
  rw [List.length_eq_zero_iff.1 hr.1,List.length_eq_zero_iff.1 hu.1,List.length_eq_zero_iff.1 hv.1];rfl
 | n + 1,[],_,_,h,_,_=>by have:=h.1;simp at this
 | n + 1,_::_,[],_,_,h,_=>by have:=h.1;simp at this
 | n + 1,_::_,_::_,[],_,_,h=>by have:=h.1;simp at this
 | n + 1,z::r,x::u,y::v,hr,hu,hv=>by
  obtain ⟨z0,z1⟩:=hr.2 z (.head _)
  obtain ⟨x0,x1⟩:=hu.2 x (.head _)
  obtain ⟨y0,y1⟩:=hv.2 y (.head _)
  have ih:=FI.ax2 a0 a1 b0 b1 c0 c1 (n:=n) (r:=r) (u:=u) (v:=v) ⟨by simpa using hr.1,fun w hw=>hr.2 w (.tail _ hw)⟩ ⟨by simpa using hu.1,fun w hw=>hu.2 w (.tail _ hw)⟩ ⟨by simpa using hv.1,fun w hw=>hv.2 w (.tail _ hw)⟩
  obtain ⟨p0,p1⟩:=F.ml a z a0 a1 z0 z1
  obtain ⟨s0,s1⟩:=F.ml b z b0 b1 z0 z1
  obtain ⟨t0,t1⟩:=F.ml c y c0 c1 y0 y1
  obtain ⟨m0,m1⟩:=F.ml c b c0 c1 b0 b1
  obtain ⟨k0,k1⟩:=F.ml (M c b) z m0 m1 z0 z1
  show A (A x (M a z)) (M c (A y (M b z)))::axp A M c (axp A M b r v) (axp A M a r u) = A (A x (M c y)) (M (A a (M c b)) z)::axp A M (A a (M c b)) r (axp A M c v u)
  rw [ih,F.md c y _ c0 c1 y0 y1 s0 s1,← F.ma c b z c0 c1 b0 b1 z0 z1,F.mdr a0 a1 m0 m1 z0 z1,F.swap4 x0 x1 p0 p1 t0 t1 k0 k1]
structure SpJ (q n : Nat) (A M : Int → Int → Int) (L : List (List Int)) : Prop where
 wd : ∀ u ∈ L,Wd q n u
 z : zW n ∈ L
 cl : ∀ u ∈ L,∀ v ∈ L,∀ a : Int,0 ≤ a → a < q → axp A M a v u ∈ L
 nd : L.Nodup
 tr : ∀ w ∈ L,∀ g : List Int → Int,lsum L (fun u=>g (axp A M 1 w u)) = lsum L g
theorem FI.axz : ∀ {n : Nat} {a : Int} {u : List Int},0 ≤ a → a < q → Wd q n u → axp A M a (zW n) u = u
 | 0,a,u,_,_,h=>by rw [List.length_eq_zero_iff.1 h.1];rfl
 | n + 1,a,[],_,_,h=>by have:=h.1;simp at this
 | n + 1,a,x::u,a0,a1,h=>by
  obtain ⟨x0,x1⟩:=h.2 x (.head _)
  show A x (M a 0)::axp A M a (zW n) u = x::u
  rw [FI.axz (n:=n) a0 a1 ⟨by simpa using h.1,fun w hw=>h.2 w (.tail _ hw)⟩,F.m0 a0 a1,F.a0 x x0 x1]
theorem spJ_start (n : Nat) : SpJ q n A M [zW n] where
 wd:=fun u hu=>by rw [List.mem_singleton.1 hu];exact zW_wd F.q2
 z:=.head _
 cl:=fun u hu v hv a a0 a1=>by
  rw [List.mem_singleton.1 hu,List.mem_singleton.1 hv,F.axz a0 a1 (zW_wd F.q2)];exact .head _
 nd:=List.nodup_cons.2 ⟨by simp,List.nodup_nil⟩
 tr:=fun w hw g=>by
  rw [List.mem_singleton.1 hw,lsum,lsum,lsum,lsum,F.axz F.one.1 F.one.2 (zW_wd F.q2)]
omit F in
theorem nodup_flat {α β : Type} {f : α → List β} : ∀ {l : List α},l.Nodup → (∀ a ∈ l,(f a).Nodup) → (∀ a ∈ l,∀ b ∈ l,∀ x ∈ f a,x ∈ f b → a = b) → (l.flatMap f).Nodup
 | [],_,_,_=>List.nodup_nil
 | a::l,h,h1,h2=>by
  rw [List.flatMap_cons,List.nodup_append]
  obtain ⟨ha,hl⟩:=List.nodup_cons.1 h
  refine ⟨h1 a (.head _),nodup_flat hl (fun b hb=>h1 b (.tail _ hb)) (fun b hb c hc=>h2 b (.tail _ hb) c (.tail _ hc)),fun x hx y hy e=>?_⟩
  subst e
  obtain ⟨b,hb,hxb⟩:=List.mem_flatMap.1 hy
  exact ha (by rw [h2 a (.head _) b (.tail _ hb) x hx hxb];exact hb)
omit F in
theorem nodup_map_on {α β : Type} {f : α → β} : ∀ {l : List α},l.Nodup → (∀ a ∈ l,∀ b ∈ l,f a = f b → a = b) → (l.map f).Nodup
 | [],_,_=>List.nodup_nil
 | a::l,h,h1=>by
  obtain ⟨ha,hl⟩:=List.nodup_cons.1 h
  rw [List.map_cons,List.nodup_cons]
  refine ⟨fun hm=>?_,nodup_map_on hl fun b hb c hc=>h1 b (.tail _ hb) c (.tail _ hc)⟩
  obtain ⟨b,hb,e⟩:=List.mem_map.1 hm
  exact ha (by rw [h1 a (.head _) b (.tail _ hb) e.symm];exact hb)
theorem FI.back {n : Nat} {a b : Int} (a0 : 0 ≤ a) (a1 : a < q) (b0 : 0 ≤ b) (b1 : b < q) {r u : List Int} (hr : Wd q n r) (hu : Wd q n u) : axp A M b r (axp A M a r u) = axp A M (A a b) r u:=by
 have h:=F.ax2 a0 a1 F.one.1 F.one.2 b0 b1 hr hu (zW_wd (n:=n) F.q2)
 have e1 : axp A M 1 r (zW n) = r:=by
  have key : ∀ {n : Nat} {r : List Int},Wd q n r → axp A M 1 r (zW n) = r:=by
   intro n
   induction n with
   | zero=>intro r hr;rw [List.length_eq_zero_iff.1 hr.1];rfl
   | succ n ih =>
    intro r hr
    cases r with
    | nil=>have:=hr.1;simp at this
    | cons x r =>
     obtain ⟨x0,x1⟩:=hr.2 x (.head _)
     show A 0 (M 1 x)::axp A M 1 r (zW n) = x::r
     rw [ih ⟨by simpa using hr.1,fun w hw=>hr.2 w (.tail _ hw)⟩,F.m1l x0 x1,F.zl x0 x1]
  exact key hr
 rw [e1,F.axz b0 b1 hu,F.m1 b b0 b1] at h
 exact h
theorem FI.toRow {n : Nat} {s : Int} (s0 : 0 ≤ s) (s1 : s < q) (hs : s ≠ 0) {r u : List Int} (hr : Wd q n r) (hu : Wd q n u) {L : List (List Int)} (h : SpJ q n A M L) (h1 : u ∈ L) (h2 : axp A M s r u ∈ L) : r ∈ L:=by
 obtain ⟨t,⟨t0,t1⟩,e⟩:=F.inv s0 s1 hs
 obtain ⟨w,⟨w0,w1⟩,ew⟩:=F.an 1 F.one.1 F.one.2
 -- the difference of the two
 have h3:=h.cl _ h2 u h1 w w0 w1
 have h4:=h.cl _ h.z _ h3 t t0 t1
 have key : ∀ {n : Nat} {r u : List Int},Wd q n r → Wd q n u → axp A M t (axp A M w u (axp A M s r u)) (zW n) = r:=by
  intro n
  induction n with
  | zero=>intro r u hr hu;rw [List.length_eq_zero_iff.1 hr.1,List.length_eq_zero_iff.1 hu.1];rfl
  | succ n ih =>
   intro r u hr hu
   cases r with
   | nil=>have:=hr.1;simp at this
   | cons x r =>
    cases u with
    | nil=>have:=hu.1;simp at this
    | cons y u =>
     obtain ⟨x0,x1⟩:=hr.2 x (.head _)
     obtain ⟨y0,y1⟩:=hu.2 y (.head _)
     obtain ⟨p0,p1⟩:=F.ml s x s0 s1 x0 x1
     obtain ⟨k0,k1⟩:=F.ml w y w0 w1 y0 y1
     show A 0 (M t (A (A y (M s x)) (M w y)))::axp A M t (axp A M w u (axp A M s r u)) (zW n) = x::r
     have e1 : A (A y (M s x)) (M w y) = M s x:=by
      rw [F.ac y _ y0 y1 p0 p1,F.aa _ y _ p0 p1 y0 y1 k0 k1]
      have e2 : A y (M w y) = 0:=by
       have e3 : A (M 1 y) (M w y) = 0:=by rw [← F.mdr F.one.1 F.one.2 w0 w1 y0 y1,ew,F.mc 0 y (Int.le_refl 0) F.z y0 y1,F.m0 y0 y1]
       rwa [F.m1l y0 y1] at e3
      rw [e2,F.a0 _ p0 p1]
     rw [e1,← F.ma t s x t0 t1 s0 s1 x0 x1,e,F.m1l x0 x1,F.zl x0 x1,ih ⟨by simpa using hr.1,fun w hw=>hr.2 w (.tail _ hw)⟩ ⟨by simpa using hu.1,fun w hw=>hu.2 w (.tail _ hw)⟩]
 rw [key hr hu] at h4
 exact h4
theorem spJ_ext {n : Nat} {L : List (List Int)} {r : List Int} (h : SpJ q n A M L) (hr : Wd q n r) (hn : r ∉ L) : SpJ q n A M (extL q A M L r) where
 wd:=fun u hu=>by
  obtain ⟨a,v,ha,hv,rfl⟩:=ext_mem hu
  exact F.axw (by omega) (by omega) hr (h.wd v hv)
 z:=by
  rw [extL,List.mem_flatMap]
  refine ⟨0,List.mem_range.2 (by have:=F.q2;omega),List.mem_map.2 ⟨zW n,h.z,?_⟩⟩
  exact F.ax0 hr (zW_wd F.q2)
 cl:=fun u hu v hv c c0 c1=>by
  obtain ⟨a,u,ha,hu',rfl⟩:=ext_mem hu
  obtain ⟨b,v,hb,hv',rfl⟩:=ext_mem hv
  clear hu hv
  obtain ⟨m0,m1⟩:=F.ml c b c0 c1 (by omega) (by omega)
  obtain ⟨k0,k1⟩:=F.al a (M c b) (by omega) (by omega) m0 m1
  rw [F.ax2 (by omega) (by omega) (by omega) (by omega) c0 c1 hr (h.wd u hu') (h.wd v hv'),extL,List.mem_flatMap]
  refine ⟨(A a (M c b)).toNat,List.mem_range.2 (by omega),List.mem_map.2 ⟨_,h.cl u hu' v hv' c c0 c1,?_⟩⟩
  show axp A M (((A a (M c b)).toNat : Nat) : Int) r _ = _
  rw [Int.toNat_of_nonneg k0]
 nd:=by
  have key : ∀ a b : Nat,a < q → b < q → ∀ u ∈ L,∀ v ∈ L,axp A M a r u = axp A M b r v → a = b ∧ u = v:=fun a b ha hb u hu v hv e=>by
   obtain ⟨w,⟨w0,w1⟩,ew⟩:=F.an b (by omega) (by omega)
   have e1 : axp A M w r (axp A M a r u) = axp A M w r (axp A M b r v):=by rw [e]
   obtain ⟨s0,s1⟩:=F.al a w (by omega) (by omega) w0 w1
   rw [F.back (by omega) (by omega) w0 w1 hr (h.wd u hu),F.back (by omega) (by omega) w0 w1 hr (h.wd v hv),ew,F.ax0 hr (h.wd v hv)] at e1
   by_cases hs : A a w = 0
   ·rw [hs,F.ax0 hr (h.wd u hu)] at e1
    refine ⟨?_,e1⟩
    have e2 : A w a = A w b:=by rw [F.ac w a w0 w1 (by omega) (by omega),hs,F.ac w b w0 w1 (by omega) (by omega),ew]
    have:=F.cancel w0 w1 (show (0 : Int) ≤ (a : Int) by omega) (by omega) (show (0 : Int) ≤ (b : Int) by omega) (by omega) e2
    omega
   ·exact absurd (F.toRow s0 s1 hs hr (h.wd u hu) h hu (by rw [e1];exact hv)) hn
  refine nodup_flat List.nodup_range (fun a ha=>nodup_map_on h.nd fun u hu v hv e=>(key a a (List.mem_range.1 ha) (List.mem_range.1 ha) u hu v hv e).2) fun a ha b hb x hx hy=>?_
  obtain ⟨u,hu,rfl⟩:=List.mem_map.1 hx
  obtain ⟨v,hv,e⟩:=List.mem_map.1 hy
  exact (key a b (List.mem_range.1 ha) (List.mem_range.1 hb) u hu v hv e.symm).1
 tr:=fun w hw g=>by
  obtain ⟨b,w,hb,hw',rfl⟩:=ext_mem hw
  clear hw
  rw [extL,lsum_flat,lsum_flat]
  have e1 : ∀ a : Nat,a < q → lsum (L.map fun u=>axp A M a r u) (fun u=>g (axp A M 1 (axp A M b r w) u)) = (fun z : Nat=>lsum (L.map fun u=>axp A M z r u) g) ((fun a : Nat=>(A a b).toNat) a):=fun a ha=>by
   obtain ⟨k0,k1⟩:=F.al a b (by omega) (by omega) (by omega) (by omega)
   show _ = lsum (L.map fun u=>axp A M (((A a b).toNat : Nat) : Int) r u) g
   rw [Int.toNat_of_nonneg k0,lsum_map,lsum_map]
   refine Eq.trans (lsum_congr fun u hu=>?_) (h.tr w hw' fun u=>g (axp A M (A a b) r u))
   rw [F.ax2 (by omega) (by omega) (by omega) (by omega) F.one.1 F.one.2 hr (h.wd u hu) (h.wd w hw'),F.m1l (by omega) (by omega)]
  rw [sm_congr e1]
  refine inj_sum (q:=q) (φ:=fun a : Nat=>(A a b).toNat) (g:=fun z : Nat=>lsum (L.map fun u=>axp A M z r u) g) (fun a ha=>by have:=F.al a b (by omega) (by omega) (by omega) (by omega);show (A a b).toNat < q;omega) (fun a c ha hc e=>?_)
  have l1:=F.al a b (by omega) (by omega) (by omega) (by omega)
  have l2:=F.al c b (by omega) (by omega) (by omega) (by omega)
  have e : (A a b).toNat = (A c b).toNat:=e
  have e2 : A b a = A b c:=by rw [F.ac b a (by omega) (by omega) (by omega) (by omega),F.ac b c (by omega) (by omega) (by omega) (by omega)];omega
  have:=F.cancel (show (0 : Int) ≤ (b : Int) by omega) (by omega) (show (0 : Int) ≤ (a : Int) by omega) (by omega) (show (0 : Int) ≤ (c : Int) by omega) (by omega) e2
  omega
theorem spJ_span {most n : Nat} : ∀ {rs L K : List (List Int)},SpJ q n A M L → (∀ r ∈ rs,Wd q n r) → spanS q most A M rs L = some K → SpJ q n A M K
 | [],L,K,h,_,e=>by
  rw [spanS,Option.some.injEq] at e
  subst e;exact h
 | r::rs,L,K,h,hr,e=>by
  rw [spanS] at e
  by_cases hm : r ∈ L
  ·rw [if_pos hm] at e
   exact spJ_span h (fun x hx=>hr x (.tail _ hx)) e
  ·rw [if_neg hm] at e
   by_cases hb : most / q < L.length
   ·rw [if_pos hb] at e;cases e
   ·rw [if_neg hb] at e
    exact spJ_span (spJ_ext F h (hr r (.head _)) hm) (fun x hx=>hr x (.tail _ hx)) e
theorem FI.dtr : ∀ {n : Nat} {u w : List Int},Wd q n u → Wd q n w → dist (axp A M 1 w u) w = wt u
 | 0,u,w,hu,hw=>by rw [List.length_eq_zero_iff.1 hu.1,List.length_eq_zero_iff.1 hw.1];rfl
 | n + 1,[],_,h,_=>by have:=h.1;simp at this
 | n + 1,_::_,[],_,h=>by have:=h.1;simp at this
 | n + 1,x::u,y::w,hu,hw=>by
  obtain ⟨x0,x1⟩:=hu.2 x (.head _)
  obtain ⟨y0,y1⟩:=hw.2 y (.head _)
  have ih:=FI.dtr (n:=n) (u:=u) (w:=w) ⟨by simpa using hu.1,fun z hz=>hu.2 z (.tail _ hz)⟩ ⟨by simpa using hw.1,fun z hz=>hw.2 z (.tail _ hz)⟩
  show (if A x (M 1 y) = y then 0 else 1) + dist (axp A M 1 w u) w = (if x = 0 then 0 else 1) + wt u
  rw [ih,F.m1l y0 y1]
  by_cases h : x = 0
  ·subst h;rw [if_pos (F.zl y0 y1),if_pos rfl]
  ·rw [if_neg h,if_neg fun e=>h ?_]
   have e2 : A y x = A y 0:=by rw [F.ac y x y0 y1 x0 x1,e,F.a0 y y0 y1]
   exact F.cancel y0 y1 x0 x1 (Int.le_refl 0) F.z e2
theorem dist_wt {n : Nat} {L : List (List Int)} (h : SpJ q n A M L) {w : List Int} (hw : w ∈ L) (i : Nat) : lsum L (fun u=>if dist u w = i then 1 else 0) = cntW L i:=by
 rw [← h.tr w hw,cntW]
 exact lsum_congr fun u hu=>by rw [F.dtr (h.wd u hu) (h.wd w hw)]
end
set_option maxRecDepth 100000
set_option linter.unusedVariables false
set_option linter.unusedSimpArgs false
theorem val_top3 {l : List Nat} {k x y z : Nat} (hl : l.length = k + 3) (hx : l[k]? = some x) (hy : l[k + 1]? = some y) (hz : l[k + 2]? = some z) : val l = val (l.take k) + 4294967296 ^ k * (x + 4294967296 * (y + 4294967296 * z)):=by
 rw [val_take_drop l k (by omega),val_drop hx,val_drop hy,val_drop hz,List.drop_of_length_le (by omega)]
 rfl
theorem val_top2 {l : List Nat} {k x y : Nat} (hl : l.length = k + 2) (hx : l[k]? = some x) (hy : l[k + 1]? = some y) : val l = val (l.take k) + 4294967296 ^ k * (x + 4294967296 * y):=by
 rw [val_take_drop l k (by omega),val_drop hx,val_drop hy,List.drop_of_length_le (by omega)]
 rfl
section
variable {P U V ul vl U0 U1 U2 V1 V2 q r : Nat}
theorem kn_low (hU : U = ul + P * (U2 + 4294967296 * (U1 + 4294967296 * U0))) (hul : ul < P) : U < P * (U2 + 4294967296 * (U1 + 4294967296 * U0) + 1):=by
 rw [Nat.mul_succ];omega
theorem kn_high (hV : V = vl + P * (V2 + 4294967296 * V1)) (hvl : vl < P) : V ≤ P * (V2 + 4294967296 * V1 + 1):=by
 rw [Nat.mul_succ];omega
theorem kn_mul (hU : U = ul + P * (U2 + 4294967296 * (U1 + 4294967296 * U0))) (hul : ul < P) (hV : V = vl + P * (V2 + 4294967296 * V1)) (h : q * V ≤ U) : q * (V2 + 4294967296 * V1) ≤ U2 + 4294967296 * (U1 + 4294967296 * U0):=by
 have h1:=kn_low hU hul
 have h2 : P * (q * (V2 + 4294967296 * V1)) ≤ q * V:=by rw [hV,← Nat.mul_assoc,Nat.mul_comm P q,Nat.mul_assoc];exact Nat.mul_le_mul_left _ (Nat.le_add_left _ _)
 have h3 : P * (q * (V2 + 4294967296 * V1)) < P * (U2 + 4294967296 * (U1 + 4294967296 * U0) + 1):=Nat.lt_of_le_of_lt (Nat.le_trans h2 h) h1
 have:=Nat.lt_of_mul_lt_mul_left h3
 omega
theorem kn_first (hU : U = ul + P * (U2 + 4294967296 * (U1 + 4294967296 * U0))) (hul : ul < P) (hV : V = vl + P * (V2 + 4294967296 * V1)) (hV1 : 0 < V1) (hU2 : U2 < 4294967296) (hq : q * V ≤ U) : q ≤ (U1 + 4294967296 * U0) / V1:=by
 have h:=kn_mul hU hul hV hq
 rw [Nat.le_div_iff_mul_le hV1]
 have e : q * (V2 + 4294967296 * V1) = q * V2 + 4294967296 * (q * V1):=by rw [Nat.mul_add,Nat.mul_left_comm]
 rw [e] at h
 have : 4294967296 * (q * V1) < 4294967296 * (U1 + 4294967296 * U0 + 1):=by omega
 have:=Nat.lt_of_mul_lt_mul_left this
 omega
theorem kn_less (hU : U = ul + P * (U2 + 4294967296 * (U1 + 4294967296 * U0))) (hul : ul < P) (hV : V = vl + P * (V2 + 4294967296 * V1)) (htop : q * V1 + r = U1 + 4294967296 * U0) (hq : q * V ≤ U) : q * V2 ≤ r * 4294967296 + U2:=by
 have h:=kn_mul hU hul hV hq
 have e : q * (V2 + 4294967296 * V1) = q * V2 + 4294967296 * (q * V1):=by rw [Nat.mul_add,Nat.mul_left_comm]
 rw [e,← htop] at h
 omega
theorem kn_end (hU : U = ul + P * (U2 + 4294967296 * (U1 + 4294967296 * U0))) (hV : V = vl + P * (V2 + 4294967296 * V1)) (hvl : vl < P) (htop : (q + 1) * V1 + r = U1 + 4294967296 * U0) (hq : q + 1 < 4294967296) (hV1 : 1 ≤ V1) (h : (q + 1) * V2 ≤ r * 4294967296 + U2) : q * V ≤ U:=by
 have h1 : q * V ≤ P * (q * (V2 + 4294967296 * V1 + 1)):=by
  rw [← Nat.mul_assoc,Nat.mul_comm P q,Nat.mul_assoc];exact Nat.mul_le_mul_left _ (kn_high hV hvl)
 have e2 : q * (V2 + 4294967296 * V1 + 1) = q * V2 + 4294967296 * (q * V1) + q:=by rw [Nat.mul_succ,Nat.mul_add,Nat.mul_left_comm]
 have e3 : (q + 1) * V2 = q * V2 + V2:=Nat.succ_mul _ _
 have e4 : (q + 1) * V1 = q * V1 + V1:=Nat.succ_mul _ _
 rw [e3] at h
 rw [e4] at htop
 have h3 : q * (V2 + 4294967296 * V1 + 1) ≤ U2 + 4294967296 * (U1 + 4294967296 * U0):=by rw [e2];omega
 have h4:=Nat.mul_le_mul_left P h3
 omega
theorem kn_top (hU : U = ul + P * (U2 + 4294967296 * (U1 + 4294967296 * U0))) (hV : V = vl + P * (V2 + 4294967296 * V1)) (hvl : vl < P) (hV2 : V2 < 4294967296) (h : U < 4294967296 * V) : U0 ≤ V1:=by
 rcases Nat.lt_or_ge V1 U0 with h1 | h1
 ·exfalso
  have h2:=kn_high hV hvl
  have h3 : P * (V2 + 4294967296 * V1 + 1) ≤ P * (4294967296 * U0):=Nat.mul_le_mul_left _ (by omega)
  have h4 : P * (4294967296 * (4294967296 * U0)) ≤ P * (U2 + 4294967296 * (U1 + 4294967296 * U0)):=Nat.mul_le_mul_left _ (by omega)
  have h5 : P * (4294967296 * (4294967296 * U0)) = 4294967296 * (P * (4294967296 * U0)):=Nat.mul_left_comm _ _ _
  omega
 ·exact h1
end
theorem mulsub_step {A U P c b q y u p d : Nat} {W : Nat} (h : A + q * W = U + P * (c + b)) (hb : b ≤ 1) (hu : u < 4294967296) (hp : p = q * y + c) (hd : d = ((u + 18446744073709551616 - p % 4294967296) % 18446744073709551616 + 18446744073709551616 - b) % 18446744073709551616) :
  A + P * (d % 4294967296) + q * (W + P * y) = U + P * u + P * 4294967296 * (p / 4294967296 + d / 9223372036854775808) ∧ d / 9223372036854775808 ≤ 1:=by
 have e : d % 4294967296 + p % 4294967296 + b = u + 4294967296 * (d / 9223372036854775808) ∧ d / 9223372036854775808 ≤ 1:=by omega
 refine ⟨?_,e.2⟩
 have e1:=e.1
 have e2 : P * (d % 4294967296) + P * (q * y) + P * (c + b) = P * u + P * 4294967296 * (p / 4294967296 + d / 9223372036854775808):=by
  have e3 : d % 4294967296 + q * y + (c + b) = u + 4294967296 * (p / 4294967296 + d / 9223372036854775808):=by clear hd h;omega
  rw [Nat.mul_assoc,← Nat.mul_add,← Nat.mul_add,← Nat.mul_add,e3]
 have e4 : q * (W + P * y) = q * W + P * (q * y):=by rw [Nat.mul_add,Nat.mul_left_comm]
 have e5 : P * (c + b) = P * c + P * b:=Nat.mul_add _ _ _
 rw [e4]
 clear hd hp e1 e
 omega
theorem kn_right {u V q R Q U P uk c b : Nat} (hU : U = u + P * uk) (h : R + q * V = u + P * (c + b)) (hle : c + b ≤ uk) (hQ : Q = U / V) (hQq : Q ≤ q) (hV : 0 < V) : q = Q ∧ R + P * (uk - (c + b)) = U % V:=by
 have e : R + P * (uk - (c + b)) + q * V = U:=by
  have : P * uk = P * (uk - (c + b)) + P * (c + b):=by rw [← Nat.mul_add];congr 1;omega
  omega
 have hq : q ≤ Q:=by rw [hQ,Nat.le_div_iff_mul_le hV];omega
 have hqQ : q = Q:=by omega
 refine ⟨hqQ,?_⟩
 have h2:=Nat.div_add_mod U V
 rw [← hQ,← hqQ,Nat.mul_comm] at h2
 omega
theorem kn_wrong {u V q R Q U P uk c b : Nat} (hU : U = u + P * uk) (h : R + q * V = u + P * (c + b)) (hlt : uk < c + b) (hR : R < P) (hQ : Q = U / V) (hQ1 : q ≤ Q + 1) (hV : 0 < V) : q = Q + 1 ∧ R + V + P * uk = U % V + P * (c + b):=by
 have e : R + q * V + P * uk = U + P * (c + b):=by omega
 have h1 : P * (uk + 1) ≤ P * (c + b):=Nat.mul_le_mul_left _ hlt
 have hgt : U < q * V:=by rw [Nat.mul_succ] at h1;omega
 have h2:=Nat.div_add_mod U V
 rw [← hQ,Nat.mul_comm] at h2
 have hq : q = Q + 1:=by
  rcases Nat.lt_or_ge Q q with h | h
  ·omega
  ·have:=Nat.mul_le_mul_right V h
   omega
 refine ⟨hq,?_⟩
 rw [hq,Nat.succ_mul] at e
 omega
theorem shr_digit {x y z n : Nat} (hn : n < 32) : ((x + 4294967296 * (y + 4294967296 * z)) / 2 ^ n) % 4294967296 = ((x + 4294967296 * y) / 2 ^ n) % 4294967296:=by
 have hB : (4294967296 : Nat) = 2 ^ n * 2 ^ (32 - n):=by rw [← Nat.pow_add,show n + (32 - n) = 32 by omega]
 have e : x + 4294967296 * (y + 4294967296 * z) = (x + 4294967296 * y) + 2 ^ n * (4294967296 * (2 ^ (32 - n) * z)):=by
  have : 2 ^ n * (4294967296 * (2 ^ (32 - n) * z)) = 4294967296 * (4294967296 * z):=by
   rw [Nat.mul_left_comm,← Nat.mul_assoc (2 ^ n),← hB]
  rw [this];omega
 rw [e,Nat.add_mul_div_left _ _ (Nat.pow_pos (by decide)),Nat.add_mul_mod_self_left]
theorem two_parts {a b P x y : Nat} (h : a + P * x = b + P * y) (ha : a < P) (hb : b < P) : a = b ∧ x = y:=by
 have hP : 0 < P:=by omega
 have e1 : (a + P * x) % P = a:=by rw [Nat.add_mul_mod_self_left,Nat.mod_eq_of_lt ha]
 have e2 : (b + P * y) % P = b:=by rw [Nat.add_mul_mod_self_left,Nat.mod_eq_of_lt hb]
 have e3 : a = b:=by rw [← e1,h,e2]
 refine ⟨e3,?_⟩
 have : P * x = P * y:=by omega
 exact Nat.eq_of_mul_eq_mul_left hP this
theorem kn_back {w R V U P uk c b cy : Nat} (h1 : w + P * cy = R + V) (h2 : R + V + P * uk = U % V + P * (c + b)) (hw : w < P) (hV : V ≤ P) (hV0 : 0 < V) : w = U % V ∧ cy + uk = c + b:=by
 have h3 : w + P * (cy + uk) = U % V + P * (c + b):=by rw [Nat.mul_add];omega
 exact two_parts h3 hw (Nat.lt_of_lt_of_le (Nat.mod_lt _ hV0) hV)
theorem prod_fits {q z c : Nat} (hq : q < 4294967296) (hz : z < 4294967296) (hc : c < 4294967296) : (q * z + c) / 4294967296 < 4294967296 ∧ q * z + c < 18446744073709551616:=by
 have h : q * z ≤ 4294967295 * 4294967295:=Nat.mul_le_mul (by omega) (by omega)
 omega
set_option maxRecDepth 100000
set_option linter.unusedVariables false
set_option linter.unusedSimpArgs false
theorem blen_lt (n : Nat) : n < 2 ^ blen n:=by
 induction n using Nat.strongRecOn with
 | _ n ih =>
  by_cases h : n = 0
  ·subst h;rw [blen_zero];decide
  ·rw [blen_pos h,Nat.pow_succ]
   have:=ih (n / 2) (by omega)
   omega
theorem blen_ge {n : Nat} (h : n ≠ 0) : 2 ^ (blen n - 1) ≤ n:=by
 induction n using Nat.strongRecOn with
 | _ n ih =>
  rw [blen_pos h,Nat.add_sub_cancel]
  by_cases h1 : n / 2 = 0
  ·rw [h1,blen_zero];show 1 ≤ n;omega
  ·have:=ih (n / 2) (by omega) h1
   have e : blen (n / 2) = (blen (n / 2) - 1) + 1:=by have:=blen_pos h1;omega
   rw [e,Nat.pow_succ]
   omega
theorem norm_limb {t : Nat} (h0 : t ≠ 0) (ht : t < 4294967296) : 2147483648 ≤ t * 2 ^ (32 - blen t) ∧ (t + 1) * 2 ^ (32 - blen t) ≤ 4294967296:=by
 have h1:=blen_lt t
 have h2:=blen_ge h0
 have h3 : blen t ≤ 32:=blen_le (by simpa using ht)
 have h4 : 1 ≤ blen t:=by have:=blen_pos h0;omega
 constructor
 ·have:=Nat.mul_le_mul_right (2 ^ (32 - blen t)) h2
  rw [← Nat.pow_add,show blen t - 1 + (32 - blen t) = 31 by omega] at this
  exact this
 ·have:=Nat.mul_le_mul_right (2 ^ (32 - blen t)) (show t + 1 ≤ 2 ^ blen t from h1)
  rw [← Nat.pow_add,show blen t + (32 - blen t) = 32 by omega] at this
  exact this
theorem top_split {l : List Nat} {k t : Nat} (hl : l.length = k + 1) (ht : l[k]? = some t) : val l = val (l.take k) + 4294967296 ^ k * t:=by
 have h:=val_take_succ ht
 rwa [List.take_of_length_le (by omega)] at h
theorem norm_div {b : List Nat} {k t : Nat} (hb : ∀ x ∈ b,x < 4294967296) (hl : b.length = k + 1) (ht : b[k]? = some t) (h0 : t ≠ 0) :
  (limbs (val b * 2 ^ (32 - blen t))).length = k + 1 ∧ ∃ w,(limbs (val b * 2 ^ (32 - blen t)))[k]? = some w ∧ 2147483648 ≤ w:=by
 have htl:=hb t (List.mem_of_getElem? ht)
 obtain ⟨h1,h2⟩:=norm_limb h0 htl
 have hv:=top_split hl ht
 have hlow:=take_lt (k:=k) hb (by omega)
 generalize hS : 2 ^ (32 - blen t) = s at *
 have hup : val b * s < 4294967296 ^ (k + 1):=by
  have h3 : val b < 4294967296 ^ k * (t + 1):=by rw [Nat.mul_succ];omega
  have h4 : 4294967296 ^ k * (t + 1) * s ≤ 4294967296 ^ k * 4294967296:=by rw [Nat.mul_assoc];exact Nat.mul_le_mul_left _ h2
  have hs : 0 < s:=by rw [← hS];exact Nat.pow_pos (by decide)
  have h5 : val b * s < 4294967296 ^ k * (t + 1) * s:=Nat.mul_lt_mul_of_pos_right h3 hs
  rw [Nat.pow_succ]
  omega
 have hdn : 4294967296 ^ k * 2147483648 ≤ val b * s:=by
  have h3 : 4294967296 ^ k * (t * s) ≤ val b * s:=by rw [← Nat.mul_assoc];exact Nat.mul_le_mul_right _ (by omega)
  exact Nat.le_trans (Nat.mul_le_mul_left _ h1) h3
 have hle:=limbs_length_le hup
 have hge : k + 1 ≤ (limbs (val b * s)).length:=by
  rcases Nat.lt_or_ge (limbs (val b * s)).length (k + 1) with h | h
  ·have h3:=limbs_le_length (n:=val b * s) (k:=k) (by omega)
   have : 4294967296 ^ k * 1 ≤ 4294967296 ^ k * 2147483648:=Nat.mul_le_mul_left _ (by decide)
   omega
  ·exact h
 have hlen : (limbs (val b * s)).length = k + 1:=by omega
 refine ⟨hlen,(limbs (val b * s))[k],by simp [hlen],?_⟩
 have hx : (limbs (val b * s))[k]? = some (limbs (val b * s))[k]:=by simp [hlen]
 have h3:=top_split hlen hx
 rw [val_limbs] at h3
 have h4:=take_lt (k:=k) (limbs_lt (val b * s)) (by omega)
 generalize (limbs (val b * s))[k] = w at *
 rcases Nat.lt_or_ge w 2147483648 with h | h
 ·have : 4294967296 ^ k * (w + 1) ≤ 4294967296 ^ k * 2147483648:=Nat.mul_le_mul_left _ h
  rw [Nat.mul_succ] at this
  omega
 ·exact h
theorem drop_zero {l : List Nat} {k : Nat} (h : val l < 4294967296 ^ k) : val (l.drop k) = 0:=by
 rcases Nat.le_total l.length k with h1 | h1
 ·rw [List.drop_of_length_le h1];rfl
 ·have e:=val_take_drop l k h1
  rcases Nat.eq_zero_or_pos (val (l.drop k)) with h2 | h2
  ·exact h2
  ·have : 4294967296 ^ k * 1 ≤ 4294967296 ^ k * val (l.drop k):=Nat.mul_le_mul_left _ h2
   omega
theorem drop_div {l : List Nat} (hl : ∀ x ∈ l,x < 4294967296) (k : Nat) (hk : k ≤ l.length) : val (l.drop k) = val l / 4294967296 ^ k:=by
 have e:=val_take_drop l k hk
 have h:=take_lt hl hk
 rw [e,Nat.add_mul_div_left _ _ (Nat.pow_pos (by decide)),Nat.div_eq_of_lt h,Nat.zero_add]
theorem long_start {A V n la k m : Nat} {uu : List Nat} (huu : ∀ x ∈ uu,x < 4294967296) (hlen : uu.length = la + 1) (hU : val uu = A * 2 ^ n) (hA : A < 4294967296 ^ la) (hV : 4294967296 ^ k * 2 ^ n ≤ V) (hm : m + k = la) (hml : m ≤ uu.length) : val (uu.drop m) < V:=by
 rw [drop_div huu m hml,hU]
 refine Nat.lt_of_lt_of_le ?_ hV
 rw [Nat.div_lt_iff_lt_mul (Nat.pow_pos (by decide))]
 have h1 : A * 2 ^ n < 4294967296 ^ la * 2 ^ n:=Nat.mul_lt_mul_of_pos_right hA (Nat.pow_pos (by decide))
 have e : 4294967296 ^ k * 2 ^ n * 4294967296 ^ m = 4294967296 ^ la * 2 ^ n:=by rw [← hm,Nat.pow_add];simp only [Nat.mul_comm,Nat.mul_left_comm,Nat.mul_assoc]
 rw [e];exact h1
theorem long_step {P V pre mid Q N q r : Nat} (he : pre + P * mid + P * 4294967296 * V * Q = N) (hq : q = mid / V) (hr : r = mid % V) : pre + P * r + P * V * (q + 4294967296 * Q) = N:=by
 have h:=Nat.div_add_mod mid V
 rw [← hq,← hr] at h
 rw [← h] at he
 rw [← he,Nat.mul_add,Nat.mul_add]
 simp only [Nat.mul_comm,Nat.mul_left_comm,Nat.mul_assoc]
 omega
theorem long_end {U V Q A B s : Nat} (h : U + V * Q = A * s) (hV : V = B * s) (hU : U < V) (hs : 0 < s) : Q = A / B ∧ U = (A % B) * s:=by
 have e1 : A * s / V = Q:=by
  rw [← h,Nat.add_mul_div_left _ _ (by omega),Nat.div_eq_of_lt hU,Nat.zero_add]
 have e2 : A * s % V = U:=by
  rw [← h,Nat.add_mul_mod_self_left,Nat.mod_eq_of_lt hU]
 subst hV
 rw [Nat.mul_div_mul_right _ _ hs] at e1
 rw [Nat.mul_mod_mul_right] at e2
 exact ⟨e1.symm,e2.symm⟩
theorem rem_digit {l : List Nat} {i x y n : Nat} (hl : ∀ z ∈ l,z < 4294967296) (hx : l[i]? = some x) (hy : l[i + 1]? = some y) (hn : n < 32) : val l / 2 ^ n % 4294967296 ^ (i + 1) = val l / 2 ^ n % 4294967296 ^ i + 4294967296 ^ i * ((x + 4294967296 * y) / 2 ^ n % 4294967296):=by
 have hi : i < l.length:=(List.getElem?_eq_some_iff.1 hx).1
 have e : val l / 2 ^ n / 4294967296 ^ i = (x + 4294967296 * (y + 4294967296 * val (l.drop (i + 2)))) / 2 ^ n:=by
  rw [Nat.div_div_eq_div_mul,Nat.mul_comm,← Nat.div_div_eq_div_mul,← drop_div hl i (by omega),val_drop hx,val_drop hy]
 rw [Nat.pow_succ,Nat.mod_mul,e,shr_digit hn]
theorem limbs_top {n k : Nat} (h : (limbs n).length = k + 1) : ∃ t,(limbs n)[k]? = some t ∧ t ≠ 0:=by
 have ht : (limbs n)[k]? = some (limbs n)[k]:=by simp [h]
 refine ⟨_,ht,fun h0=>?_⟩
 have h3:=top_split h ht
 rw [h0,Nat.mul_zero,Nat.add_zero,val_limbs] at h3
 have h4:=take_lt (k:=k) (limbs_lt n) (by omega)
 have:=limbs_length_le (n:=n) (k:=k) (by omega)
 omega
open Go Go.Fw
set_option maxHeartbeats 1000000
theorem S_nat_Cmp {pa pb : Option Addr} {n m ca cb : Nat} {a b : List Nat} :
  Ctr Try.prog 64 [.slice pa n ca,.slice pb m cb] [] [slF U32 pa n ca a,slF U32 pb m cb b] (Rv (.int .i64 (cmpN (val a) (val b))) []):=by
 refine Ctr_of_j' (F:=F_nat_Cmp) rfl fun C=>?_
 refine j_len 0 rfl fun hn hba _=>?_
 refine j_len 1 rfl fun hm hbb _=>?_
 subst hn;subst hm
 have hba' : a.length * 4 ≤ 140737488355328:=hba
 have hbb' : b.length * 4 ≤ 140737488355328:=hbb
 refine j_range 0 rfl fun hra=>?_
 refine j_range 1 rfl fun hrb=>?_
 have hra' : ∀ x ∈ a,x < 4294967296:=fun x hx=>by have:=hra x hx;simp only [InR] at this;omega
 have hrb' : ∀ x ∈ b,x < 4294967296:=fun x hx=>by have:=hrb x hx;simp only [InR] at this;omega
 have ea:=trim_eq hra'
 have eb:=trim_eq hrb'
 have la:=trim_length_le a
 have lb:=trim_length_le b
 by_cases hA : (trim a).length < (trim b).length
 ·have : val a < val b:=lt_of_len (by rw [← ea,← eb];exact hA)
  rw [cmpN_lt this]
  refine j_nf [_,_] rfl ?_
  refine j_run it 1 rfl (by simp) ?_
  refine j_nf [_,_] rfl ?_
  refine j_run it 1 rfl (by simp) ?_
  refine j_step rfl (x_call [0] rfl (S_nat_short) rfl ?_)
  rintro _ _ _ ⟨rfl,rfl,rfl⟩
  simp only [List.cons_append,List.nil_append]
  refine j_run it 1 rfl (by simp) ?_
  refine j_step rfl (x_call [2] rfl (S_nat_short) rfl ?_)
  rintro _ _ _ ⟨rfl,rfl,rfl⟩
  simp only [List.cons_append,List.nil_append]
  refine j_run it 2 rfl (by simp) ?_
  refine j_nf [_,_,_] rfl ?_
  refine j_run it 1 rfl (by simp) ?_
  refine j_step rfl (x_len sl29 rfl ?_)
  refine j_run it 1 rfl (by simp) ?_
  refine j_step rfl (x_len sl29 rfl ?_)
  refine j_run it 1 rfl (by simp) ?_
  refine j_nf [_,_] rfl ?_
  refine j_ifn rfl rfl (fun h1=>?_) (fun h1=>by exfalso;omega)
  refine j_nf [_,_,_,_] rfl ?_
  refine j_run it 1 rfl (by simp) ?_
  refine j_step rfl (x_len sl29 rfl ?_)
  refine j_run it 1 rfl (by simp) ?_
  refine j_step rfl (x_len sl29 rfl ?_)
  refine j_run it 1 rfl (by simp) ?_
  refine j_nf [_,_,_] rfl ?_
  refine j_if rfl rfl (fun h2=>?_) (fun h2=>by exfalso;omega)
  refine j_nf [_,_,_,_] rfl ?_
  refine j_run it 1 rfl (by simp) ?_
  refine j_nf [_,_,_] rfl ?_
  refine j_giv [] rfl rfl rfl ⟨rfl,rfl,rfl⟩
 by_cases hB : (trim b).length < (trim a).length
 ·have : val b < val a:=lt_of_len (by rw [← ea,← eb];exact hB)
  rw [cmpN_gt this]
  refine j_nf [_,_] rfl ?_
  refine j_run it 1 rfl (by simp) ?_
  refine j_nf [_,_] rfl ?_
  refine j_run it 1 rfl (by simp) ?_
  refine j_step rfl (x_call [0] rfl (S_nat_short) rfl ?_)
  rintro _ _ _ ⟨rfl,rfl,rfl⟩
  simp only [List.cons_append,List.nil_append]
  refine j_run it 1 rfl (by simp) ?_
  refine j_step rfl (x_call [2] rfl (S_nat_short) rfl ?_)
  rintro _ _ _ ⟨rfl,rfl,rfl⟩
  simp only [List.cons_append,List.nil_append]
  refine j_run it 2 rfl (by simp) ?_
  refine j_nf [_,_,_] rfl ?_
  refine j_run it 1 rfl (by simp) ?_
  refine j_step rfl (x_len sl29 rfl ?_)
  refine j_run it 1 rfl (by simp) ?_
  refine j_step rfl (x_len sl29 rfl ?_)
  refine j_run it 1 rfl (by simp) ?_
  refine j_nf [_,_] rfl ?_
  refine j_ifn rfl rfl (fun h1=>?_) (fun h1=>by exfalso;omega)
  refine j_nf [_,_,_,_] rfl ?_
  refine j_run it 1 rfl (by simp) ?_
  refine j_step rfl (x_len sl29 rfl ?_)
  refine j_run it 1 rfl (by simp) ?_
  refine j_step rfl (x_len sl29 rfl ?_)
  refine j_run it 1 rfl (by simp) ?_
  refine j_nf [_,_,_] rfl ?_
  refine j_if rfl rfl (fun h2=>by exfalso;omega) (fun h2=>?_)
  refine j_nf [_,_,_] rfl ?_
  refine j_run it 1 rfl (by simp) ?_
  refine j_nf [_,_] rfl ?_
  refine j_giv [] rfl rfl rfl ⟨rfl,rfl,rfl⟩
 have hta : ∀ x ∈ trim a,x < 4294967296:=fun x hx=>hra' x (mem_trim hx)
 have htb : ∀ x ∈ trim b,x < 4294967296:=fun x hx=>hrb' x (mem_trim hx)
 have va : val (trim a) = val a:=val_trim a
 have vb : val (trim b) = val b:=val_trim b
 refine j_nf [_,_] rfl ?_
 refine j_run it 1 rfl (by simp) ?_
 refine j_nf [_,_] rfl ?_
 refine j_run it 1 rfl (by simp) ?_
 refine j_step rfl (x_call [0] rfl (S_nat_short) rfl ?_)
 rintro _ _ _ ⟨rfl,rfl,rfl⟩
 simp only [List.cons_append,List.nil_append]
 refine j_run it 1 rfl (by simp) ?_
 refine j_step rfl (x_call [2] rfl (S_nat_short) rfl ?_)
 rintro _ _ _ ⟨rfl,rfl,rfl⟩
 simp only [List.cons_append,List.nil_append]
 refine j_run it 2 rfl (by simp) ?_
 refine j_nf [_,_,_] rfl ?_
 refine j_run it 1 rfl (by simp) ?_
 refine j_step rfl (x_len sl29 rfl ?_)
 refine j_run it 1 rfl (by simp) ?_
 refine j_step rfl (x_len sl29 rfl ?_)
 refine j_run it 1 rfl (by simp) ?_
 refine j_nf [_,_] rfl ?_
 refine j_ifn rfl rfl (fun h1=>by exfalso;omega) (fun h1=>?_)
 refine j_nf [_,_,_] rfl ?_
 refine j_run it 1 rfl (by simp) ?_
 refine j_step rfl (x_len sl29 rfl ?_)
 refine j_run it 2 rfl ⟨trivial,⟨by omega,by omega⟩,trivial⟩ ?_
 refine j_nf [_,_,_] rfl ?_
 refine j_loopG (X:=Nat) [0,1] [0,1,2,3] (fun k=>[(5,.int .i64 ((k : Int) - 1))]) (fun _=>[]) (fun _=>[]) (fun k=>k ≤ (trim a).length ∧ (trim a).drop k = (trim b).drop k) (fun k=>k) (trim a).length [] rfl rfl rfl ⟨Nat.le_refl _,by rw [List.drop_length,List.drop_of_length_le (by omega)]⟩ (by repeat (first | exact Fr.sub_nil _ | refine Fr.sub_cons rfl ?_)) rfl rfl ?_
 intro k ⟨hk,hd⟩ ih
 simp only [List.cons_append,List.nil_append] at ih ⊢
 by_cases hkl : 0 < k
 ·obtain ⟨j,rfl⟩ : ∃ j,k = j + 1:=⟨k - 1,by omega⟩
  have hx:=get_some (l:=trim a) (i:=j) (dflt:=default) (by omega)
  have hy:=get_some (l:=trim b) (i:=j) (dflt:=default) (by omega)
  generalize hgx : (trim a).getD j default = x at hx
  generalize hgy : (trim b).getD j default = y at hy
  rw [show (((j + 1 : Nat) : Int) - 1) = (j : Int) by omega]
  refine j_nf [_,_,_,_,_,_] rfl ?_
  refine j_run it 2 rfl (by simp) ?_
  refine j_nf [_,_,_,_,_] rfl ?_
  refine j_if rfl rfl (fun h2=>?_) (fun h2=>by exfalso;omega)
  refine j_nf [_,_,_,_,_,_,_,_] rfl ?_
  (apply j_drawK it mx 9;(· rfl);(· rfl))
  (apply lxk_run 2;(· rfl);(· simp))
  (apply lxk_pt;(· rfl);(· exact d_x fun _=>x_idx 1 (j) rfl rfl rfl sl29 rfl (by omega) fun z1 hz1 b1 o1=>(dk_ptD default hz1 0 rfl));intro b1 o1)
  (apply lxk_eq;(· rfl);(· exact d_x fun _=>x_ld_nat 0 rfl rfl ld76 fun ⟨r1,r2⟩=>dk_eq))
  (apply lxk_run 2;(· rfl);(· simp))
  (apply lxk_pt;(· rfl);(· exact d_x fun _=>x_idx 0 (j) rfl rfl rfl sl29 rfl (by omega) fun z1 hz1 b2 o2=>(dk_ptD default hz1 0 rfl));intro b2 o2)
  (apply lxk_eq;(· rfl);(· exact d_x fun _=>x_ld_nat 0 rfl rfl ld76 fun ⟨r1,r2⟩=>dk_eq))
  (apply lxk_run 1;(· rfl);(· simp))
  refine lxk_end rfl ?_
  simp only [List.map_cons,List.map_nil,List.cons_append,List.nil_append]
  refine j_nf [_,_,_,_,_,_,_] rfl ?_
  refine j_if rfl rfl (fun h3=>?_) (fun h3=>?_)
  ·rw [hgx,hgy] at h3
   have : val a < val b:=by rw [← va,← vb];exact lt_of_top hta (by rw [hd]) hx hy (by omega)
   rw [cmpN_lt this]
   refine j_nf [_,_,_,_,_,_,_,_] rfl ?_
   refine j_run it 1 rfl (by simp) ?_
   refine j_nf [_,_,_,_,_,_,_] rfl ?_
   refine j_giv [] rfl rfl rfl ⟨rfl,rfl,rfl⟩
  ·refine j_nf [_,_,_,_,_,_,_] rfl ?_
   (apply j_drawK it mx 9;(· rfl);(· rfl))
   (apply lxk_run 2;(· rfl);(· simp))
   (apply lxk_pt;(· rfl);(· exact d_x fun _=>x_idx 3 (j) rfl rfl rfl sl29 rfl (by omega) fun z1 hz1 b3 o3=>(dk_ptD default hz1 0 rfl));intro b3 o3)
   (apply lxk_eq;(· rfl);(· exact d_x fun _=>x_ld_nat 0 rfl rfl ld76 fun ⟨r1,r2⟩=>dk_eq))
   (apply lxk_run 2;(· rfl);(· simp))
   (apply lxk_pt;(· rfl);(· exact d_x fun _=>x_idx 2 (j) rfl rfl rfl sl29 rfl (by omega) fun z1 hz1 b4 o4=>(dk_ptD default hz1 0 rfl));intro b4 o4)
   (apply lxk_eq;(· rfl);(· exact d_x fun _=>x_ld_nat 0 rfl rfl ld76 fun ⟨r1,r2⟩=>dk_eq))
   (apply lxk_run 1;(· rfl);(· simp))
   refine lxk_end rfl ?_
   simp only [List.map_cons,List.map_nil,List.cons_append,List.nil_append]
   refine j_nf [_,_,_,_,_,_] rfl ?_
   refine j_if rfl rfl (fun h4=>?_) (fun h4=>?_)
   ·rw [hgx,hgy] at h4
    have : val b < val a:=by rw [← va,← vb];exact lt_of_top htb (by rw [hd]) hy hx (by omega)
    rw [cmpN_gt this]
    refine j_nf [_,_,_,_,_,_,_] rfl ?_
    refine j_run it 1 rfl (by simp) ?_
    refine j_nf [_,_,_,_,_,_] rfl ?_
    refine j_giv [] rfl rfl rfl ⟨rfl,rfl,rfl⟩
   ·rw [hgx,hgy] at h3 h4
    have hxy : x = y:=by omega
    subst hxy
    refine j_nf [_,_,_,_] rfl ?_
    refine j_run it 3 rfl ⟨trivial,⟨by omega,by omega⟩,trivial,trivial⟩ ?_
    refine j_nfn 1 [.lp (pL 244),.blk 0,.c [1,1,1,1]] rfl ?_
    refine j_to [4,5,6,7] (by exact fra rfl) rfl rfl (ih j (by omega) ⟨by omega,drop_step hd hx hy⟩)
 ·have e0 : k = 0:=by omega
  subst e0
  have e : trim a = trim b:=by simpa using hd
  rw [cmpN_eq (by rw [← va,← vb,e])]
  refine j_nf [_,_,_,_,_,_] rfl ?_
  refine j_run it 2 rfl (by simp) ?_
  refine j_nf [_,_,_,_,_] rfl ?_
  refine j_if rfl rfl (fun h2=>by exfalso;omega) (fun h2=>?_)
  refine j_nf [_,_] rfl ?_
  refine j_run it 1 rfl (by simp) ?_
  refine j_nf [_] rfl ?_
  refine j_giv [] rfl rfl rfl ⟨rfl,rfl,rfl⟩
set_option maxHeartbeats 2000000
abbrev StepQ (b k U V : Nat) (pre post : List Nat) : Value → List Fact → List Blk → Prop:=fun w Φ β=>w = .int .u32 (U / V : Nat) ∧ Φ = [] ∧ ∃ u',u'.length = k + 3 ∧ (∀ x ∈ u',x < 4294967296) ∧ val u' = U % V ∧ β = [(some b,76,natCells .u32 (pre++u'++post))]
theorem step_back {C : Cx} {b o cap cb k q U V P R uk cc : Nat} {pb : Option Addr} {pre w0 post v : List Nat} (hpre : pre.length = o) (hl0 : w0.length = k + 3) (hvl : v.length = k + 2) (hcap : k + 3 ≤ cap) (hsz : v.length ≤ 1099511627776)
  (hs0 : ∀ x ∈ w0,x < 4294967296) (hv : ∀ x ∈ v,x < 4294967296) (hP : 4294967296 ^ v.length = P) (hV : val v = V) (hV0 : 0 < V) (hVP : V ≤ P) (hR : val (w0.take v.length) = R) (hmod : R + V + P * uk = U % V + P * cc) (huk : uk < cc) (hcc : cc ≤ 4294967296)
  (hg0 : w0[v.length]? = some (uk + 4294967296 - cc)) (hq : q = U / V + 1) (hqB : q < 4294967296) :
  J F_nat_step C [.c (pL 4095)] [(0,.slice (some ⟨b,o,none⟩) (k + 3) cap),(1,.slice pb v.length cb),(4,.int .u32 0),(5,.int .i64 v.length),(7,.int .u64 q)]
   [(some b,76,natCells .u32 (pre++w0++post))] [slF U32 pb v.length cb v] (Gives C (StepQ b k U V pre post)):=by
 refine j_nf [_,_] rfl ?_
 refine j_run it 1 rfl (by simp) ?_
 refine j_nf [_,_,_] rfl ?_
 refine j_run it 1 rfl (by simp) ?_
 refine j_step rfl (x_len sl29 rfl ?_)
 refine j_run it 1 rfl (by simp) ?_
 refine j_nf [_,_,_] rfl ?_
 refine j_loopG (X:=Nat × Nat × List Nat) [0,1,4,5,7,139] [0] (fun x=>[(10,.int .u64 x.2.1),(140,.int .i64 x.1)]) (fun x=>[(some b,76,natCells .u32 (pre++x.2.2++post))]) (fun _=>[])
  (fun x=>x.1 ≤ v.length ∧ x.2.2.length = k + 3 ∧ x.2.1 ≤ 1 ∧ (∀ z ∈ x.2.2,z < 4294967296) ∧ val (x.2.2.take x.1) + 4294967296 ^ x.1 * x.2.1 = val (w0.take x.1) + val (v.take x.1) ∧ x.2.2.drop x.1 = w0.drop x.1)
  (fun x=>v.length - x.1) (0,0,w0) [] rfl rfl rfl ⟨Nat.zero_le _,hl0,Nat.zero_le _,hs0,by simp [val],rfl⟩ (by repeat (first | exact Fr.sub_nil _ | refine Fr.sub_cons rfl ?_)) rfl rfl ?_
 rintro ⟨i,cy,w⟩ ⟨hi2,hl2,hc2,hw2,he2,hd2⟩ ih2
 simp only [List.cons_append,List.nil_append] at hi2 hl2 hc2 hw2 he2 hd2 ih2 ⊢
 have hdi2 : ∀ j,i ≤ j → w[j]? = w0[j]?:=fun j hj=>by
  have h:=congrArg (fun l : List Nat=>l[j - i]?) hd2
  simp only [List.getElem?_drop] at h
  rwa [show i + (j - i) = j by omega] at h
 by_cases hil2 : i < v.length
 ·obtain ⟨y,hy⟩ : ∃ y,w[i]? = some y:=⟨w[i],by simp⟩
  have hyl:=hw2 _ (List.mem_of_getElem? hy)
  have hx:=get_some (l:=v) (i:=i) (dflt:=default) hil2
  have hxl:=hv _ (List.mem_of_getElem? hx)
  refine j_nf [_,_,_,_,_] rfl ?_
  refine j_run it 1 rfl (by simp) ?_
  refine j_nf [_,_,_,_,_] rfl ?_
  refine j_if rfl rfl (fun h1=>?_) (fun h1=>by exfalso;omega)
  refine j_nf [_,_,_,_,_,_,_] rfl ?_
  refine j_run it 2 rfl (by simp) ?_
  refine j_nf [_,_,_,_,_,_,_] rfl ?_
  (apply j_drawK it mx 13;(· rfl);(· rfl))
  (apply lxk_run 2;(· rfl);(· simp))
  (apply lxk_eq;(· rfl);(· exact d_x fun _=>x_idx_ownO (i) _ rfl rfl sl29 rfl (by omega) rfl dk_eq))
  (apply lxk_eq;(· rfl);(· exact d_bld_mid 0 (i) rfl rfl ld76 (by omega) (by assumption)))
  (apply lxk_run 3;(· rfl);(· exact ⟨trivial,trivial,⟨by omega,by omega⟩,trivial⟩))
  (apply lxk_pt;(· rfl);(· exact d_x fun _=>x_idx 0 (i) rfl rfl rfl sl29 rfl (by omega) fun z1 hz1 b1 o1=>(dk_ptD default hz1 0 rfl));intro b1 o1)
  (apply lxk_eq;(· rfl);(· exact d_x fun _=>x_ld_nat 0 rfl rfl ld76 fun ⟨r1,r2⟩=>dk_eq))
  (apply lxk_run 4;(· rfl);(· exact ⟨⟨by omega,by omega⟩,trivial,⟨by omega,by omega⟩,⟨by omega,by omega⟩,trivial⟩))
  refine lxk_end rfl ?_
  simp only [List.map_cons,List.map_nil,List.cons_append,List.nil_append]
  refine j_run it 1 rfl (by simp) ?_
  refine j_nf [_,_,_,_,_,_,_] rfl ?_
  refine j_run it 3 rfl (by simp) ?_
  refine j_step rfl (x_conv_u32 it rfl rfl rfl ?_)
  refine j_step rfl (x_idx_ownO (i) _ rfl rfl sl29 rfl (by omega) rfl ?_)
  refine j_step rfl (x_bst_mid 0 (i) ((((y) + (v.getD i default)) + (cy)) % 4294967296) rfl rfl rfl ld76 (by first | rfl | omega) (by omega) (by first | omega | (simp;omega)) ?_)
  refine j_nf [_,_,_,_,_,_] rfl ?_
  refine j_run it 3 rfl (by simp) ?_
  refine j_nf [_,_,_,_] rfl ?_
  refine j_run it 2 rfl ⟨trivial,⟨by omega,by omega⟩,trivial⟩ ?_
  refine j_nfn 1 [.lp (pL 131060),.blk 4,.c (pL 16383)] rfl ?_
  have hy0 : w0[i]? = some y:=by rw [← hdi2 i (Nat.le_refl _)];exact hy
  generalize v.getD i default = x at hx hxl ⊢
  refine j_to [1] (by exact fra rfl) rfl rfl (ih2 (i + 1,(y + x + cy) / 4294967296,w.set i ((y + x + cy) % 4294967296)) (by simp only;omega) ⟨by simp only;omega,by simpa using hl2,by simp only;omega,set_lt hw2 (by omega),by
   simp only
   rw [val_set_take (by omega),Nat.pow_succ,val_take_succ hy0,val_take_succ hx];exact carry_step he2 (by omega),by simp only;rw [List.drop_set_of_lt (by omega),← List.drop_drop,hd2,List.drop_drop]⟩)
 ·have ei : i = v.length:=by omega
  subst ei
  rw [List.take_length,hR,hV,hP] at he2
  have hwP:=take_lt (k:=v.length) hw2 (by omega)
  rw [hP] at hwP
  obtain ⟨hb1',hb2'⟩:=kn_back (c:=cc) (b:=0) he2 hmod hwP hVP hV0
  have hwn : w[v.length]? = some (uk + 4294967296 - cc):=by rw [hdi2 _ (Nat.le_refl _)];exact hg0
  have hcy : cy = 1:=by omega
  subst hcy
  have e3 : uk + 4294967296 - cc = 4294967295:=by omega
  rw [e3] at hwn
  refine j_nf [_,_,_,_,_] rfl ?_
  refine j_run it 1 rfl (by simp) ?_
  refine j_nf [_,_,_,_,_] rfl ?_
  refine j_if rfl rfl (fun h1=>by exfalso;omega) (fun h1=>?_)
  refine j_nf [_,_] rfl ?_
  refine j_run it 2 rfl (by simp) ?_
  refine j_step rfl (x_idx_ownO (v.length) _ rfl rfl sl29 rfl (by omega) rfl ?_)
  refine j_step rfl (x_bld_mid 0 (v.length) rfl rfl ld76 (by omega) (by assumption) (by first | omega | (simp;omega)) fun z1 hz1 hlt1=>?_)
  refine j_run it 2 rfl ⟨⟨by omega,by omega⟩,trivial,trivial⟩ ?_
  refine j_step rfl (x_add_u32 rfl rfl ?_)
  refine j_step rfl (x_idx_ownO (v.length) _ rfl rfl sl29 rfl (by omega) rfl ?_)
  refine j_step rfl (x_bst_mid 0 (v.length) (((z1) + (1)) % 4294967296) rfl rfl rfl ld76 (by first | rfl | omega) (by omega) (by first | omega | (simp;omega)) ?_)
  refine j_nf [_,_] rfl ?_
  refine j_run it 1 rfl (by simp) ?_
  refine j_step rfl (x_sub_u64 rfl rfl ?_)
  refine j_step rfl (x_conv_u32 it rfl rfl rfl ?_)
  refine j_run it 1 rfl (by simp) ?_
  refine j_nf [_] rfl ?_
  obtain rfl : z1 = 4294967295:=Option.some.inj (hz1.symm.trans hwn)
  refine j_gives [] rfl rfl rfl ⟨?_,rfl,w.set v.length 0,by simpa using hl2,set_lt hw2 (by decide),?_,rfl⟩
  ·have e : ((q : Int) - 1) % 18446744073709551616 % 4294967296 = ((U / V : Nat) : Int):=by
    generalize U / V = Q at hq ⊢
    omega
   show Value.int .u32 _ = _
   rw [e]
  ·have h:=val_set_take (l:=w) (k:=v.length) (z:=0) (by omega)
   rw [List.take_of_length_le (by simp;omega),Nat.mul_zero,Nat.add_zero] at h
   rw [h,hb1']
set_option maxHeartbeats 1000000
theorem or_low {x n c : Nat} (h : c < 2 ^ n) : x * 2 ^ n ||| c = x * 2 ^ n + c:=by
 rw [Nat.mul_comm,← Nat.two_pow_add_eq_or_of_lt h]
theorem shl_lt {x n : Nat} (hx : x < 4294967296) (hn : n < 32) : x * 2 ^ n + 2 ^ n ≤ 9223372036854775808 ∧ 1 ≤ 2 ^ n ∧ 2 ^ n ≤ 2147483648:=by
 have h1 : 2 ^ n ≤ 2 ^ 31:=Nat.pow_le_pow_right (by decide) (by omega)
 have h2 : (x + 1) * 2 ^ n ≤ 4294967296 * 2 ^ 31:=Nat.mul_le_mul (by omega) h1
 rw [Nat.succ_mul] at h2
 refine ⟨by omega,Nat.pow_pos (by decide),by omega⟩
abbrev Mv (e : TypeId) (l : List Nat) : Value → List Fact → List Blk → Prop:=fun v Φ β=>∃ b,v = .slice (some ⟨b,0,none⟩) l.length l.length ∧ Φ = [] ∧ β = [(some b,e,natCells .u32 l)]
theorem O_nat_shift {pa : Option Addr} {m ca n : Nat} {a : List Nat} (ha : a.length ≤ 1099511627776) (hn : n < 32) :
  Ctr Try.prog 108 [.slice pa m ca,.int .i64 n] [] [slF U32 pa m ca a] (fun v Φ β=>∃ l,l.length = a.length + 1 ∧ (∀ x ∈ l,x < 4294967296) ∧ val l = val a * 2 ^ n ∧ Mv 76 l v Φ β):=by
 refine Ctr_of_j' (F:=F_nat_shift) rfl fun C=>?_
 refine j_len 0 rfl fun hm hba _=>?_
 subst hm
 refine j_range 0 rfl fun hra=>?_
 have hra' : ∀ x ∈ a,x < 4294967296:=fun x hx=>by have:=hra x hx;simp only [InR] at this;omega
 refine j_nf [_,_] rfl ?_
 refine j_run it 1 rfl (by simp) ?_
 refine j_nf [_,_] rfl ?_
 refine j_run it 1 rfl (by simp) ?_
 refine j_step rfl (x_len sl29 rfl ?_)
 refine j_run it 1 rfl ⟨⟨by omega,by omega⟩,trivial⟩ ?_
 refine j_step rfl (x_make_nat ((a.length) + 1) _ rfl rfl sl29 zo29e by29e (by omega) (by omega) (by omega) fun b1=>?_)
 refine j_run it 1 rfl (by simp) ?_
 refine j_nf [_,_] rfl ?_
 refine j_run it 1 rfl (by simp) ?_
 refine j_nf [_,_,_] rfl ?_
 refine j_run it 1 rfl (by simp) ?_
 refine j_step rfl (x_len sl29 rfl ?_)
 refine j_run it 1 rfl (by simp) ?_
 refine j_nf [_,_,_] rfl ?_
 refine j_loopG (X:=Nat × Nat × List Nat) [0,1,4,5,14,15] [0] (fun x=>[(6,.int .u64 x.2.1),(16,.int .i64 x.1)]) (fun x=>[(some b1,76,natCells .u32 x.2.2)]) (fun _=>[])
  (fun x=>x.1 ≤ a.length ∧ x.2.2.length = a.length + 1 ∧ x.2.1 < 2 ^ n ∧ (∀ z ∈ x.2.2,z < 4294967296) ∧ val (x.2.2.take x.1) + 4294967296 ^ x.1 * x.2.1 = val (a.take x.1) * 2 ^ n)
  (fun x=>a.length - x.1) (0,0,List.replicate (a.length + 1) 0) [] rfl rfl rfl ⟨Nat.zero_le _,by simp,Nat.pow_pos (by decide),rep_lt (by decide),by simp [val]⟩ (by repeat (first | exact Fr.sub_nil _ | refine Fr.sub_cons rfl ?_)) rfl rfl ?_
 rintro ⟨k,c,out⟩ ⟨hk,hlo,hc,ho,he⟩ ih
 simp only [List.cons_append,List.nil_append] at hk hlo hc ho he ih ⊢
 by_cases hkl : k < a.length
 ·refine j_nf [_,_,_,_,_] rfl ?_
  refine j_run it 1 rfl (by simp) ?_
  refine j_nf [_,_,_,_,_] rfl ?_
  refine j_if rfl rfl (fun h1=>?_) (fun h1=>by exfalso;omega)
  refine j_nf [_,_,_,_,_,_,_] rfl ?_
  refine j_run it 1 rfl (by simp) ?_
  refine j_step rfl (x_idx 0 (k) rfl rfl rfl sl29 rfl (by omega) fun z1 hz1 b2 o1=>?_)
  refine j_step rfl (x_ld_nat 0 rfl rfl ld76 fun ⟨r1,r2⟩=>?_)
  refine j_run it 2 rfl (by simp) ?_
  refine j_nf [_,_,_,_,_,_,_] rfl ?_
  refine j_run it 3 rfl ⟨trivial,⟨by omega,by omega⟩,trivial,trivial⟩ ?_ --ok
  have hxl:=hra' _ (List.mem_of_getElem? hz1)
  obtain ⟨hs1,hs2,hs3⟩:=shl_lt hxl hn
  refine j_step rfl (x_shl_nat (z1) (n) rfl rfl (by first | rfl | omega) (by first | rfl | omega) (by first | decide | (simp only [IntKind.bits];omega)) (by first | assumption | (simp only [InR];omega)) ?_)
  refine j_run it 1 rfl (by simp) ?_
  refine j_step rfl (x_or_nat (z1 * 2 ^ n) (c) rfl rfl (by first | rfl | omega) (by first | rfl | omega) (by omega) (by omega) ?_)
  refine j_run it 1 rfl (by simp) ?_
  refine j_nf [_,_,_,_,_,_,_] rfl ?_
  refine j_run it 3 rfl (by simp) ?_
  refine j_step rfl (x_conv_u32 it rfl rfl rfl ?_)
  refine j_step rfl (x_idx_own (k) (k) rfl rfl sl29 rfl (by omega) (Nat.mul_one _) ?_)
  refine j_step rfl (x_bst_nat 0 ((z1 * 2 ^ n ||| c) % 4294967296) rfl rfl rfl ld76 (by first | rfl | omega) (by first | omega | (simp;omega)) ?_)
  refine j_nf [_,_,_,_,_,_] rfl ?_
  refine j_run it 3 rfl (by simp) ?_
  refine j_nf [_,_,_,_] rfl ?_
  refine j_run it 2 rfl ⟨trivial,⟨by omega,by omega⟩,trivial⟩ ?_
  refine j_nfn 1 [.lp (pL 244),.blk 0,.c [1,1,1,1]] rfl ?_
  rw [or_low hc]
  have hlt : z1 * 2 ^ n + c < 18446744073709551616:=by omega
  have hdiv : (z1 * 2 ^ n + c) / 4294967296 < 2 ^ n:=by
   rw [Nat.div_lt_iff_lt_mul (by decide)]
   have:=Nat.mul_le_mul_right (2 ^ n) hxl
   rw [Nat.succ_mul] at this
   omega
  refine j_to [1] (by exact fra rfl) rfl rfl (ih (k + 1,(z1 * 2 ^ n + c) / 4294967296,out.set k ((z1 * 2 ^ n + c) % 4294967296)) (by simp only;omega) ⟨by simp only;omega,by simpa using hlo,hdiv,set_lt ho (by omega),by
   simp only
   rw [val_set_take (by omega),Nat.pow_succ,val_take_succ hz1,Nat.add_mul]
   generalize hS : z1 * 2 ^ n + c = s
   have e : s % 4294967296 + 4294967296 * (s / 4294967296) = s:=by omega
   have e2 : 4294967296 ^ k * (s % 4294967296) + 4294967296 ^ k * 4294967296 * (s / 4294967296) = 4294967296 ^ k * (z1 * 2 ^ n) + 4294967296 ^ k * c:=by
    rw [Nat.mul_assoc,← Nat.mul_add,← Nat.mul_add,e,hS]
   rw [Nat.mul_assoc (4294967296 ^ k) z1]
   omega⟩)
 ·have e0 : k = a.length:=by omega
  subst e0
  have hs3 : 2 ^ n ≤ 2147483648:=(shl_lt (x:=0) (by decide) hn).2.2
  refine j_nf [_,_,_,_,_] rfl ?_
  refine j_run it 1 rfl (by simp) ?_
  refine j_nf [_,_,_,_,_] rfl ?_
  refine j_if rfl rfl (fun h1=>by exfalso;omega) (fun h1=>?_)
  refine j_nf [_,_] rfl ?_
  refine j_run it 2 rfl (by simp) ?_
  refine j_step rfl (x_len sl29 rfl ?_)
  refine j_run it 2 rfl ⟨⟨by omega,by omega⟩,trivial,trivial⟩ ?_
  refine j_step rfl (x_idx_own (a.length) (a.length) rfl rfl sl29 rfl (by omega) (Nat.mul_one _) ?_)
  refine j_step rfl (x_bst_nat 0 (c) rfl rfl rfl ld76 (by first | rfl | omega) (by first | omega | (simp;omega)) ?_)
  refine j_nf [_,_] rfl ?_
  refine j_run it 2 rfl (by simp) ?_
  refine j_nf [_] rfl ?_
  refine j_gives [] rfl rfl rfl ⟨out.set a.length c,by simpa using hlo,set_lt ho (by omega),?_,b1,by simp [resVal,hlo],rfl,rfl⟩
  rw [List.take_length] at he
  have h:=val_set_take (l:=out) (k:=a.length) (z:=c) (by omega)
  rw [List.take_of_length_le (by simp;omega)] at h
  rw [h,he]
set_option maxHeartbeats 2000000
theorem step_sub {C : Cx} {b o cap cb k q U0 : Nat} {pb : Option Addr} {pre u post v : List Nat} (hpre : pre.length = o) (hul : u.length = k + 3) (hvl : v.length = k + 2) (hcap : k + 3 ≤ cap) (hsz : u.length ≤ 1099511627776)
  (hu : ∀ x ∈ u,x < 4294967296) (hv : ∀ x ∈ v,x < 4294967296) (hU0 : u[v.length]? = some U0) (hv0 : 0 < val v) (hq : q < 4294967296) (hQ1 : val u / val v ≤ q) (hQ2 : q ≤ val u / val v + 1) :
  J F_nat_step C [.c (pL 127)] [(0,.slice (some ⟨b,o,none⟩) (k + 3) cap),(1,.slice pb v.length cb),(4,.int .u32 0),(5,.int .i64 v.length),(7,.int .u64 q)]
   [(some b,76,natCells .u32 (pre++u++post))] [slF U32 pb v.length cb v] (Gives C (StepQ b k (val u) (val v) pre post)):=by
 have lU0:=hu _ (List.mem_of_getElem? hU0)
 refine j_nf [_,_] rfl (j_run it 2 rfl (by simp) ?_)
 refine j_nf [_,_,_] rfl (j_run it 1 rfl (by simp) ?_)
 refine j_step rfl (x_len sl29 rfl ?_)
 refine j_run it 1 rfl (by simp) ?_
 refine j_nf [_,_,_] rfl ?_
 refine j_loopG (X:=Nat × Nat × Nat × List Nat) [0,1,4,5,7,85] [0] (fun x=>[(9,.int .u64 x.2.1),(10,.int .u64 x.2.2.1),(86,.int .i64 x.1)]) (fun x=>[(some b,76,natCells .u32 (pre++x.2.2.2++post))]) (fun _=>[])
  (fun x=>x.1 ≤ v.length ∧ x.2.2.2.length = k + 3 ∧ x.2.1 ≤ 1 ∧ x.2.2.1 < 4294967296 ∧ (∀ z ∈ x.2.2.2,z < 4294967296) ∧ val (x.2.2.2.take x.1) + q * val (v.take x.1) = val (u.take x.1) + 4294967296 ^ x.1 * (x.2.2.1 + x.2.1) ∧ x.2.2.2.drop x.1 = u.drop x.1)
  (fun x=>v.length - x.1) (0,0,0,u) [] rfl rfl rfl ⟨Nat.zero_le _,hul,Nat.zero_le _,Nat.zero_lt_succ _,hu,by simp [val],rfl⟩ (by repeat (first | exact Fr.sub_nil _ | refine Fr.sub_cons rfl ?_)) rfl rfl ?_
 rintro ⟨i,bw,c,u'⟩ ⟨hi,hl',hb1,hc,hu',he,hd⟩ ih
 simp only [List.cons_append,List.nil_append] at hi hl' hb1 hc hu' he hd ih ⊢
 have hdi : ∀ j,i ≤ j → u'[j]? = u[j]?:=fun j hj=>by
  have h:=congrArg (fun l : List Nat=>l[j - i]?) hd
  simp only [List.getElem?_drop] at h
  rwa [show i + (j - i) = j by omega] at h
 by_cases hil : i < v.length
 ·refine j_nf [_,_,_,_,_] rfl (j_run it 1 rfl (by simp) ?_)
  refine j_nf [_,_,_,_,_] rfl (j_if rfl rfl (fun h1=>?_) (fun h1=>by exfalso;omega))
  refine j_nf [_,_,_,_,_,_,_] rfl (j_run it 2 rfl (by simp) ?_)
  refine j_nf [_,_,_,_,_,_,_] rfl (j_run it 3 rfl (by simp) ?_)
  refine j_step rfl (x_idx 0 (i) rfl rfl rfl sl29 rfl (by omega) fun z1 hz1 b1 o1=>?_)
  refine j_step rfl (x_ld_nat 0 rfl rfl ld76 fun ⟨r1,r2⟩=>?_)
  refine j_run it 5 rfl ⟨trivial,⟨mul64_nn (by omega) (by omega) (by omega),mul64_2 (by omega) (by omega) (by omega) (by omega) (by omega)⟩,trivial,⟨Int.mul_nonneg (by omega) (by omega),mul64_1 (by omega) (by omega) (by omega) (by omega)⟩,⟨by omega,by omega⟩,trivial⟩ ?_
  refine j_nf [_,_,_,_,_,_,_] rfl (j_run it 3 rfl (by simp) ?_)
  refine j_nf [_,_,_,_,_,_,_] rfl (j_run it 2 rfl (by simp) ?_)
  refine j_step rfl (x_idx_ownO (i) _ rfl rfl sl29 rfl (by omega) rfl ?_)
  refine j_step rfl (x_bld_mid 0 (i) rfl rfl ld76 (by omega) (by assumption) (by first | omega | (simp;omega)) fun z2 hz2 hlt1=>?_)
  refine j_run it 2 rfl ⟨trivial,⟨by omega,by omega⟩,trivial⟩ ?_
  refine j_step rfl (x_conv_u32 it rfl rfl rfl ?_)
  refine j_run it 1 rfl ⟨⟨by omega,by omega⟩,trivial⟩ ?_
  refine j_step rfl (x_sub_u64 rfl rfl ?_)
  refine j_run it 1 rfl (by simp) ?_
  refine j_step rfl (x_sub_u64 rfl rfl ?_)
  refine j_run it 1 rfl (by simp) ?_
  refine j_nf [_,_,_,_,_,_,_] rfl (j_run it 3 rfl (by simp) ?_)
  refine j_step rfl (x_conv_u32 it rfl rfl rfl ?_)
  refine j_step rfl (x_idx_ownO (i) _ rfl rfl sl29 rfl (by omega) rfl ?_)
  refine j_step rfl (x_bst_mid 0 (i) ((((((z2) + 18446744073709551616 - ((((q) * (z1)) + (c)) % 4294967296)) % 18446744073709551616) + 18446744073709551616 - (bw)) % 18446744073709551616) % 4294967296) rfl rfl rfl ld76 (by first | rfl | omega) (by omega) (by first | omega | (simp;omega)) ?_)
  refine j_nf [_,_,_,_,_,_] rfl (j_run it 3 rfl (by simp) ?_)
  refine j_nf [_,_,_,_] rfl (j_run it 2 rfl ⟨trivial,⟨by omega,by omega⟩,trivial⟩ ?_)
  refine j_nfn 1 [.lp (pL 4084),.blk 2,.c (pL 511)] rfl ?_
  have hz2u : u[i]? = some z2:=by rw [← hdi i (Nat.le_refl _)];exact hz2
  have hz1v:=hv _ (List.mem_of_getElem? hz1)
  have hst:=mulsub_step (q:=q) (y:=z1) he hb1 hlt1 rfl rfl
  have hpf:=prod_fits hq hz1v hc
  generalize hD : ((z2 + 18446744073709551616 - (q * z1 + c) % 4294967296) % 18446744073709551616 + 18446744073709551616 - bw) % 18446744073709551616 = D at hst ⊢
  refine j_to [1] (by exact fii rfl (by dsimp only;omega) (fcc rfl (fcc rfl (fcc rfl (fcc rfl (fcc rfl (fcc rfl (fcc rfl (fcc rfl (fzz _)))))))))) rfl rfl (ih (i + 1,D / 9223372036854775808,(q * z1 + c) / 4294967296,u'.set i (D % 4294967296)) (by simp only;omega) ⟨by simp only;omega,by simpa using hl',hst.2,hpf.1,set_lt hu' (by omega),by
   simp only
   rw [val_set_take (by omega),Nat.pow_succ,val_take_succ hz1,val_take_succ hz2u];exact hst.1,by simp only;rw [List.drop_set_of_lt (by omega),← List.drop_drop,hd,List.drop_drop]⟩)
 ·have ei : i = v.length:=by omega
  subst ei
  rw [List.take_length] at he
  have hU0' : u'[v.length]? = some U0:=by rw [hdi _ (Nat.le_refl _)];exact hU0
  have eU : val u = val (u.take v.length) + 4294967296 ^ v.length * U0:=by
   have h:=val_take_succ hU0
   rwa [List.take_of_length_le (by omega)] at h
  have hR:=take_lt (k:=v.length) hu' (by omega)
  have hVP:=val_lt hv
  generalize hP : 4294967296 ^ v.length = P at *
  by_cases hok : c + bw ≤ U0
  ·obtain ⟨hqe,hmod⟩:=kn_right eU he hok rfl hQ1 hv0
   refine j_nf [_,_,_,_,_] rfl (j_run it 1 rfl (by simp) ?_)
   refine j_nf [_,_,_,_,_] rfl (j_if rfl rfl (fun h1=>by exfalso;omega) (fun h1=>?_))
   refine j_nf [_,_] rfl (j_run it 2 rfl (by simp) ?_)
   refine j_step rfl (x_idx_ownO (v.length) _ rfl rfl sl29 rfl (by omega) rfl ?_)
   refine j_step rfl (x_bld_mid 0 (v.length) rfl rfl ld76 (by omega) (by assumption) (by first | omega | (simp;omega)) fun z1 hz1 hlt1=>?_)
   refine j_run it 2 rfl ⟨trivial,⟨by omega,by omega⟩,trivial⟩ ?_
   refine j_step rfl (x_sub_u64 rfl rfl ?_)
   refine j_run it 1 rfl (by simp) ?_
   refine j_step rfl (x_sub_u64 rfl rfl ?_)
   refine j_run it 1 rfl (by simp) ?_
   refine j_nf [_,_] rfl (j_run it 3 rfl (by simp) ?_)
   refine j_step rfl (x_conv_u32 it rfl rfl rfl ?_)
   refine j_step rfl (x_idx_ownO (v.length) _ rfl rfl sl29 rfl (by omega) rfl ?_)
   refine j_step rfl (x_bst_mid 0 (v.length) ((((((z1) + 18446744073709551616 - (c)) % 18446744073709551616) + 18446744073709551616 - (bw)) % 18446744073709551616) % 4294967296) rfl rfl rfl ld76 (by first | rfl | omega) (by omega) (by first | omega | (simp;omega)) ?_)
   refine j_nf [_,_,_] rfl (j_run it 3 rfl (by simp) ?_)
   refine j_nf [_,_] rfl (j_if rfl rfl (fun h2=>?_) (fun h2=>?_))
   ·obtain rfl : z1 = U0:=Option.some.inj (hz1.symm.trans hU0')
    refine j_nf [_,_,_] rfl (j_run it 3 rfl ⟨trivial,⟨by omega,by omega⟩,trivial,trivial⟩ ?_)
    refine j_nf [_,_] rfl ?_
    have e1 : ((z1 + 18446744073709551616 - c) % 18446744073709551616 + 18446744073709551616 - bw) % 18446744073709551616 % 4294967296 = z1 - (c + bw):=by omega
    have e2 : ((q : Int)) = ((val u / val v : Nat) : Int):=by rw [hqe]
    refine j_gives [] rfl rfl rfl ⟨by rw [← e2];rfl,rfl,u'.set v.length (z1 - (c + bw)),by simpa using hl',set_lt hu' (by omega),?_,by rw [← e1];rfl⟩
    have h:=val_set_take (l:=u') (k:=v.length) (z:=z1 - (c + bw)) (by omega)
    rw [List.take_of_length_le (by simp;omega),hP] at h
    rw [h,hmod]
   ·exfalso
    obtain rfl : z1 = U0:=Option.some.inj (hz1.symm.trans hU0')
    omega
  ·obtain ⟨hqe,hmod⟩:=kn_wrong eU he (by omega) hR rfl hQ2 hv0
   refine j_nf [_,_,_,_,_] rfl (j_run it 1 rfl (by simp) ?_)
   refine j_nf [_,_,_,_,_] rfl (j_if rfl rfl (fun h1=>by exfalso;omega) (fun h1=>?_))
   refine j_nf [_,_] rfl (j_run it 2 rfl (by simp) ?_)
   refine j_step rfl (x_idx_ownO (v.length) _ rfl rfl sl29 rfl (by omega) rfl ?_)
   refine j_step rfl (x_bld_mid 0 (v.length) rfl rfl ld76 (by omega) (by assumption) (by first | omega | (simp;omega)) fun z1 hz1 hlt1=>?_)
   refine j_run it 2 rfl ⟨trivial,⟨by omega,by omega⟩,trivial⟩ ?_
   refine j_step rfl (x_sub_u64 rfl rfl ?_)
   refine j_run it 1 rfl (by simp) ?_
   refine j_step rfl (x_sub_u64 rfl rfl ?_)
   refine j_run it 1 rfl (by simp) ?_
   refine j_nf [_,_] rfl (j_run it 3 rfl (by simp) ?_)
   refine j_step rfl (x_conv_u32 it rfl rfl rfl ?_)
   refine j_step rfl (x_idx_ownO (v.length) _ rfl rfl sl29 rfl (by omega) rfl ?_)
   refine j_step rfl (x_bst_mid 0 (v.length) ((((((z1) + 18446744073709551616 - (c)) % 18446744073709551616) + 18446744073709551616 - (bw)) % 18446744073709551616) % 4294967296) rfl rfl rfl ld76 (by first | rfl | omega) (by omega) (by first | omega | (simp;omega)) ?_)
   refine j_nf [_,_,_] rfl (j_run it 3 rfl (by simp) ?_)
   refine j_nf [_,_] rfl (j_if rfl rfl (fun h2=>?_) (fun h2=>?_))
   ·exfalso
    obtain rfl : z1 = U0:=Option.some.inj (hz1.symm.trans hU0')
    omega
   ·obtain rfl : z1 = U0:=Option.some.inj (hz1.symm.trans hU0')
    have e1 : ((z1 + 18446744073709551616 - c) % 18446744073709551616 + 18446744073709551616 - bw) % 18446744073709551616 % 4294967296 = z1 + 4294967296 - (c + bw):=by omega
    rw [e1]
    refine j_nfn 1 [.c (pL 4095)] rfl ?_
    refine j_to [0] (by repeat (first | exact Fr.sub_nil _ | refine Fr.sub_cons rfl ?_)) rfl rfl (step_back (w0:=u'.set v.length (z1 + 4294967296 - (c + bw))) (cc:=c + bw) (uk:=z1) (R:=val (u'.take v.length)) (q:=q) hpre (by simpa using hl') hvl hcap (by omega) (set_lt hu' (by omega)) hv hP rfl hv0 (Nat.le_of_lt hVP) (by rw [List.take_set_of_le (Nat.le_refl _)]) hmod (by omega) (by omega) (by rw [List.getElem?_set_self (by omega)]) hqe hq)
theorem S_nat_step {b o cap : Nat} {pb : Option Addr} {m cb k : Nat} {pre u post v : List Nat} (hpre : pre.length = o) (hul : u.length = k + 3) (hvl : v.length = k + 2) (hcap : k + 3 ≤ cap) (hsz : u.length ≤ 1099511627776)
  (hu : ∀ x ∈ u,x < 4294967296) {V1 : Nat} (hV1 : v[k + 1]? = some V1) (hV1n : 2147483648 ≤ V1) (hUV : val u < 4294967296 * val v) :
  Ctr Try.prog 109 [.slice (some ⟨b,o,none⟩) (k + 3) cap,.slice pb m cb] [(some b,76,natCells .u32 (pre++u++post))] [slF U32 pb m cb v]
   (StepQ b k (val u) (val v) pre post):=by
 refine Ctr_of_j' (F:=F_nat_step) rfl fun C=>?_
 refine j_len 0 rfl fun hm hbb _=>?_
 subst hm
 refine j_range 0 rfl fun hrv=>?_
 have hv : ∀ x ∈ v,x < 4294967296:=fun x hx=>by have:=hrv x hx;simp only [InR] at this;omega
 obtain ⟨U0,hU0⟩ : ∃ x,u[v.length]? = some x:=⟨u[v.length],by simp⟩
 obtain ⟨U1,hU1⟩ : ∃ x,u[v.length - 1]? = some x:=⟨u[v.length - 1],by simp⟩
 obtain ⟨U2,hU2⟩ : ∃ x,u[v.length - 2]? = some x:=⟨u[v.length - 2],by simp⟩
 have hV2:=get_some (l:=v) (i:=v.length - 2) (dflt:=default) (by omega)
 have hV1' : v[v.length - 1]? = some V1:=by rw [hvl];exact hV1
 have lU0:=hu _ (List.mem_of_getElem? hU0)
 have lU1:=hu _ (List.mem_of_getElem? hU1)
 have lU2:=hu _ (List.mem_of_getElem? hU2)
 have lV1:=hv _ (List.mem_of_getElem? hV1)
 have lV2:=hv _ (List.mem_of_getElem? hV2)
 have hv0 : 0 < val v:=by
  rcases Nat.eq_zero_or_pos (val v) with h | h
  ·rw [h] at hUV;omega
  ·exact h
 have exit : ∀ q : Nat,q < 4294967296 → val u / val v ≤ q → q ≤ val u / val v + 1 → J F_nat_step C [.c (pL 127)] [(0,.slice (some ⟨b,o,none⟩) (k + 3) cap),(1,.slice pb v.length cb),(4,.int .u32 0),(5,.int .i64 v.length),(7,.int .u64 q)]
   [(some b,76,natCells .u32 (pre++u++post))] [slF U32 pb v.length cb v] (Gives C (StepQ b k (val u) (val v) pre post)) :=
  fun q h1 h2 h3=>step_sub hpre hul hvl hcap hsz hu hv hU0 hv0 h1 h2 h3
 refine j_nf [_,_] rfl ?_
 refine j_run it 1 rfl (by simp) ?_
 refine j_nf [_,_] rfl ?_
 refine j_run it 1 rfl (by simp) ?_
 refine j_step rfl (x_len sl29 rfl ?_)
 refine j_run it 1 rfl (by simp) ?_
 refine j_nf [_,_] rfl ?_
 (apply j_drawK it mx 13;(· rfl);(· rfl))
 (apply lxk_run 2;(· rfl);(· simp))
 (apply lxk_eq;(· rfl);(· exact d_x fun _=>x_idx_ownO (v.length) _ rfl rfl sl29 rfl (by omega) rfl dk_eq))
 (apply lxk_eq;(· rfl);(· exact d_bld_mid 0 (v.length) rfl rfl ld76 (by omega) (by assumption)))
 (apply lxk_run 4;(· rfl);(· exact ⟨trivial,trivial,⟨by omega,by omega⟩,⟨by omega,by omega⟩,trivial⟩))
 (apply lxk_eq (v:=Value.int IntKind.i64 ((((v.length) - 1 : Nat)) : Int));(· rfl);(· exact d_x fun _=>x_asN it _ rfl ⟨by omega,by omega⟩ (by omega) dk_eq))
 simp only [Nat.add_sub_cancel]
 (apply lxk_eq;(· rfl);(· exact d_x fun _=>x_idx_ownO (v.length - 1) _ rfl rfl sl29 rfl (by omega) rfl dk_eq))
 (apply lxk_eq;(· rfl);(· exact d_bld_mid 0 (v.length - 1) rfl rfl ld76 (by omega) (by assumption)))
 (apply lxk_run 1;(· rfl);(· exact ⟨⟨by omega,by omega⟩,trivial⟩))
 (apply lxk_eq;(· rfl);(· exact d_x fun _=>x_or_shl (U0) (U1) rfl rfl (by first | rfl | omega) (by first | rfl | omega) (by omega) (by omega) dk_eq))
 refine lxk_end rfl ?_
 simp only [List.map_cons,List.map_nil,List.cons_append,List.nil_append]
 refine j_run it 1 rfl (by simp) ?_
 refine j_nf [_,_] rfl ?_
 refine j_run it 4 rfl ⟨⟨by omega,by omega⟩,trivial,trivial,trivial,trivial⟩ ?_
 refine j_step rfl (x_idx 0 ((v.length) - 1) rfl rfl rfl sl29 (by omega) (by omega) fun z1 hz1 b1 o1=>?_)
 refine j_step rfl (x_ld_nat 0 rfl rfl ld76 fun ⟨r1,r2⟩=>?_)
 refine j_run it 1 rfl ⟨⟨by omega,by omega⟩,trivial⟩ ?_ --ok
 obtain rfl : z1 = V1:=Option.some.inj (hz1.symm.trans hV1')
 refine j_run it 2 rfl ⟨trivial,⟨by omega,by omega,by omega,by omega⟩,trivial⟩ ?_
 refine j_nf [_,_] rfl ?_
 refine j_run it 4 rfl ⟨⟨by omega,by omega⟩,trivial,trivial,trivial,trivial⟩ ?_
 refine j_step rfl (x_idx 1 ((v.length) - 1) rfl rfl rfl sl29 (by omega) (by omega) fun z2 hz2 b2 o2=>?_)
 refine j_step rfl (x_ld_nat 0 rfl rfl ld76 fun ⟨r3,r4⟩=>?_)
 refine j_run it 1 rfl ⟨⟨by omega,by omega⟩,trivial⟩ ?_ --ok
 obtain rfl : z2 = z1:=Option.some.inj (hz2.symm.trans hV1')
 have eU:=val_top3 (l:=u) (k:=v.length - 2) (by omega) hU2 (by rw [show v.length - 2 + 1 = v.length - 1 by omega];exact hU1) (by rw [show v.length - 2 + 2 = v.length by omega];exact hU0)
 have eV:=val_top2 (l:=v) (k:=v.length - 2) (by omega) hV2 (by rw [show v.length - 2 + 1 = v.length - 1 by omega];exact hV1')
 have hul':=take_lt (k:=v.length - 2) hu (by omega)
 have hvl':=take_lt (k:=v.length - 2) hv (by omega)
 generalize 4294967296 ^ (v.length - 2) = P at eU eV hul' hvl'
 have hU0V:=kn_top eU eV hvl' lV2 hUV
 have hz0 : 0 < z2:=by omega
 have hQB : val u / val v < 4294967296:=by rw [Nat.div_lt_iff_lt_mul hv0];exact hUV
 have hQV : val u / val v * val v ≤ val u:=Nat.div_mul_le_self _ _
 have hfirst : val u / val v ≤ (U1 + 4294967296 * U0) / z2:=kn_first eU hul' eV hz0 lU2 hQV
 have etop : U1 + 4294967296 * U0 = U0 * 4294967296 + U1:=by omega
 rw [etop] at hfirst
 have hdm : (U0 * 4294967296 + U1) / z2 * z2 + (U0 * 4294967296 + U1) % z2 = U0 * 4294967296 + U1:=by rw [Nat.mul_comm];exact Nat.div_add_mod _ _
 have hqb : (U0 * 4294967296 + U1) / z2 ≤ 8589934592:=by
  rw [Nat.div_le_iff_le_mul hz0]
  have : 8589934592 * 2147483648 ≤ 8589934592 * z2:=Nat.mul_le_mul_left _ hV1n
  omega
 have hrb : (U0 * 4294967296 + U1) % z2 < z2:=Nat.mod_lt _ hz0
 have less : ∀ q r,q * z2 + r = U0 * 4294967296 + U1 → val u / val v ≤ q → (4294967296 ≤ q ∨ r * 4294967296 + U2 < q * v.getD (v.length - 2) default) → val u / val v + 1 ≤ q:=by
  intro q r h1 h2 h3
  rcases Nat.lt_or_ge (val u / val v) q with h | h
  ·exact h
  ·exfalso
   have e : q = val u / val v:=by omega
   rcases h3 with h3 | h3
   ·omega
   ·have:=kn_less (q:=q) (r:=r) eU hul' eV (by rw [h1,etop]) (by rw [e];exact hQV)
    omega
 have last : ∀ q r,q * z2 + r = U0 * 4294967296 + U1 → val u / val v ≤ q → (4294967296 ≤ r ∨ (q < 4294967296 ∧ ¬ r * 4294967296 + U2 < q * v.getD (v.length - 2) default)) → q < 4294967296 ∧ q ≤ val u / val v + 1:=by
  intro q r h1 h2 h3
  have hqB : q < 4294967296:=by
   rcases h3 with h3 | h3
   ·have h4 : U0 * 4294967296 ≤ z2 * 4294967296:=Nat.mul_le_mul_right _ hU0V
    have h5 : q * z2 < 4294967296 * z2:=by omega
    exact Nat.lt_of_mul_lt_mul_right h5
   ·exact h3.1
  refine ⟨hqB,?_⟩
  rcases Nat.eq_zero_or_pos q with h | h
  ·rw [h];exact Nat.zero_le _
  ·obtain ⟨q',rfl⟩ : ∃ q',q = q' + 1:=⟨q - 1,by omega⟩
   have ht : (q' + 1) * v.getD (v.length - 2) default ≤ r * 4294967296 + U2:=by
    rcases h3 with h3 | h3
    ·have : (q' + 1) * v.getD (v.length - 2) default ≤ 4294967296 * 4294967296:=Nat.mul_le_mul (by omega) (by omega)
     have : 4294967296 * 4294967296 ≤ r * 4294967296:=Nat.mul_le_mul_right _ h3
     omega
    ·omega
   have:=kn_end (q:=q') eU eV hvl' (by rw [h1,etop]) hqB hz0 ht
   have:=(Nat.le_div_iff_mul_le hv0).2 this
   omega
 have next : ∀ q r z w : Nat,q * z + r = w → 1 ≤ q → (q - 1) * z + (r + z) = w:=by
  intro q r z w h1 h2
  obtain ⟨q',rfl⟩ : ∃ q',q = q' + 1:=⟨q - 1,by omega⟩
  rw [Nat.succ_mul] at h1
  rw [Nat.add_sub_cancel]
  omega
 refine j_run it 2 rfl ⟨trivial,⟨by omega,by omega⟩,trivial⟩ ?_
 refine j_nf [_,_,_] rfl ?_
 refine j_loopG (X:=Nat × Nat) [0,1,4,5] [0,1,2] (fun x=>[(7,.int .u64 x.1),(8,.int .u64 x.2)]) (fun x=>[(some b,76,natCells .u32 (pre++u++post))]) (fun _=>[])
  (fun x=>x.1 * z2 + x.2 = U0 * 4294967296 + U1 ∧ val u / val v ≤ x.1 ∧ x.1 ≤ 8589934592 ∧ x.2 < 8589934592)
  (fun x=>8589934592 - x.2) ((U0 * 4294967296 + U1) / z2,(U0 * 4294967296 + U1) % z2) [] rfl rfl rfl ⟨hdm,hfirst,hqb,by simp only;omega⟩ (by repeat (first | exact Fr.sub_nil _ | refine Fr.sub_cons rfl ?_ | refine Fr.sub_consI rfl (by simp) ?_)) rfl rfl ?_
 rintro ⟨q,r⟩ ⟨hqr,hQq,hq8,hr8⟩ ih
 simp only [List.cons_append,List.nil_append] at hqr hQq hq8 hr8 ih ⊢
 by_cases hr : r < 4294967296
 ·by_cases hqB : 4294967296 ≤ q
  ·have hl:=less q r hqr hQq (.inl hqB)
   refine j_nf [_,_,_,_,_,_] rfl ?_
   (apply j_drawK it mx 26;(· rfl);(· rfl))
   (apply lxk_run 1;(· rfl);(· simp))
   (apply lxk_eq;(· rfl);(· exact d_x fun _=>x_true it rfl (by trivial) (by omega) dk_eq))
   (apply lxk_run 2;(· rfl);(· simp))
   (apply lxk_eq;(· rfl);(· exact d_x fun _=>x_true it rfl (by trivial) (by omega) dk_eq))
   (apply lxk_run 18;(· rfl);(· simp))
   (apply lxk_run 3;(· rfl);(· simp))
   refine lxk_end rfl ?_
   simp only [List.map_cons,List.map_nil,List.cons_append,List.nil_append]
   refine j_nf [_,_,_,_,_] rfl ?_
   refine j_true rfl rfl ?_
   refine j_nf [_,_,_,_,_,_] rfl ?_
   refine j_run it 3 rfl ⟨trivial,⟨by omega,by omega⟩,trivial,trivial⟩ ?_
   refine j_nf [_,_,_,_,_] rfl ?_
   refine j_run it 4 rfl ⟨⟨by omega,by omega⟩,trivial,trivial,trivial,trivial⟩ ?_
   refine j_step rfl (x_idx 2 ((v.length) - 1) rfl rfl rfl sl29 (by omega) (by omega) fun z1 hz3 b3 o3=>?_)
   refine j_step rfl (x_ld_nat 0 rfl rfl ld76 fun ⟨r5,r6⟩=>?_)
   refine j_run it 3 rfl ⟨trivial,⟨by omega,by omega⟩,⟨by omega,by omega⟩,trivial⟩ ?_
   refine j_nfn 2 [.lp (pL 504),.blk 0,.c (pL 127)] rfl ?_
   obtain rfl : z1 = z2:=Option.some.inj (hz3.symm.trans hV1')
   refine j_to [1,2,3] (by exact fii rfl (by omega) (fcc rfl (fcc rfl (fcc rfl (fcc rfl (fcc rfl (fzz _))))))) rfl rfl (ih (q - 1,r + z1) (by simp only;omega) ⟨next q r z1 _ hqr (by omega),by simp only;omega,by simp only;omega,by simp only;omega⟩)
  ·by_cases ht : r * 4294967296 + U2 < q * v.getD (v.length - 2) default
   ·have hl:=less q r hqr hQq (.inr ht)
    refine j_nf [_,_,_,_,_,_] rfl ?_
    (apply j_drawK it mx 26;(· rfl);(· rfl))
    (apply lxk_run 1;(· rfl);(· simp))
    (apply lxk_eq;(· rfl);(· exact d_x fun _=>x_true it rfl (by trivial) (by omega) dk_eq))
    (apply lxk_run 2;(· rfl);(· simp))
    (apply lxk_eq;(· rfl);(· exact d_x fun _=>x_false it rfl (by trivial) (by omega) dk_eq))
    (apply lxk_run 5;(· rfl);(· exact ⟨⟨by omega,by omega⟩,trivial,trivial,trivial,trivial,trivial⟩))
    (apply lxk_pt;(· rfl);(· exact d_x fun _=>x_idx 2 ((v.length) - 2) rfl rfl rfl sl29 (by omega) (by omega) fun z1 hz3 b3 o3=>(dk_ptD default hz3 0 rfl));intro b3 o3)
    (apply lxk_eq;(· rfl);(· exact d_x fun _=>x_ld_nat 0 rfl rfl ld76 fun ⟨r5,r6⟩=>dk_eq))
    (apply lxk_run 7;(· rfl);(· exact ⟨⟨by omega,by omega⟩,trivial,trivial,⟨by omega,by omega⟩,trivial,⟨by omega,mul64_1 (by omega) (by omega) (by omega) (by omega)⟩,⟨by omega,by omega⟩,trivial⟩))
    (apply lxk_eq;(· rfl);(· exact d_x fun _=>x_idx_ownO ((v.length) - 2) _ rfl rfl sl29 (by omega) (by omega) rfl dk_eq))
    (apply lxk_eq;(· rfl);(· exact d_bld_mid 0 (v.length - 2) rfl rfl ld76 (by omega) (by assumption)))
    (apply lxk_run 1;(· rfl);(· exact ⟨⟨by omega,by omega⟩,trivial⟩))
    (apply lxk_eq;(· rfl);(· exact d_x fun _=>x_or_shl (r) (U2) rfl rfl (by first | rfl | omega) (by first | rfl | omega) (by omega) (by omega) dk_eq))
    (apply lxk_eq;(· rfl);(· exact d_x fun _=>x_true it rfl (by trivial) (by omega) dk_eq))
    (apply lxk_run 2;(· rfl);(· simp))
    refine lxk_end rfl ?_
    simp only [List.map_cons,List.map_nil,List.cons_append,List.nil_append]
    refine j_nf [_,_,_,_,_] rfl ?_
    refine j_true rfl rfl ?_
    refine j_nf [_,_,_,_,_,_] rfl ?_
    refine j_run it 1 rfl (by simp) ?_
    refine j_step rfl (x_sub_u64 rfl rfl ?_)
    refine j_run it 1 rfl (by simp) ?_
    refine j_nf [_,_,_,_,_] rfl ?_
    refine j_run it 4 rfl ⟨⟨by omega,by omega⟩,trivial,trivial,trivial,trivial⟩ ?_
    refine j_step rfl (x_idx 3 ((v.length) - 1) rfl rfl rfl sl29 (by omega) (by omega) fun z1 hz3 b4 o4=>?_)
    refine j_step rfl (x_ld_nat 0 rfl rfl ld76 fun ⟨r5,r6⟩=>?_)
    refine j_run it 3 rfl ⟨trivial,⟨by omega,by omega⟩,⟨by omega,by omega⟩,trivial⟩ ?_
    refine j_nfn 2 [.lp (pL 504),.blk 0,.c (pL 127)] rfl ?_
    obtain rfl : z1 = z2:=Option.some.inj (hz3.symm.trans hV1')
    have hq1 : 1 ≤ q:=Nat.le_trans (Nat.succ_le_succ (Nat.zero_le _)) hl
    refine j_to [2,3,4] (by exact fii rfl (by omega) (fcc rfl (fcc rfl (fcc rfl (fcc rfl (fcc rfl (fzz _))))))) rfl rfl (ih (q - 1,r + z1) (by simp only;omega) ⟨next q r z1 _ hqr hq1,Nat.le_sub_of_add_le hl,by simp only;omega,by simp only;omega⟩)
   ·obtain ⟨h1,h2⟩:=last q r hqr hQq (.inr ⟨by omega,ht⟩)
    refine j_nf [_,_,_,_,_,_] rfl ?_
    (apply j_drawK it mx 26;(· rfl);(· rfl))
    (apply lxk_run 1;(· rfl);(· simp))
    (apply lxk_eq;(· rfl);(· exact d_x fun _=>x_true it rfl (by trivial) (by omega) dk_eq))
    (apply lxk_run 2;(· rfl);(· simp))
    (apply lxk_eq;(· rfl);(· exact d_x fun _=>x_false it rfl (by trivial) (by omega) dk_eq))
    (apply lxk_run 5;(· rfl);(· exact ⟨⟨by omega,by omega⟩,trivial,trivial,trivial,trivial,trivial⟩))
    (apply lxk_pt;(· rfl);(· exact d_x fun _=>x_idx 2 ((v.length) - 2) rfl rfl rfl sl29 (by omega) (by omega) fun z1 hz3 b3 o3=>(dk_ptD default hz3 0 rfl));intro b3 o3)
    (apply lxk_eq;(· rfl);(· exact d_x fun _=>x_ld_nat 0 rfl rfl ld76 fun ⟨r5,r6⟩=>dk_eq))
    (apply lxk_run 7;(· rfl);(· exact ⟨⟨by omega,by omega⟩,trivial,trivial,⟨by omega,by omega⟩,trivial,⟨by omega,by omega⟩,⟨by omega,by omega⟩,trivial⟩))
    (apply lxk_eq;(· rfl);(· exact d_x fun _=>x_idx_ownO ((v.length) - 2) _ rfl rfl sl29 (by omega) (by omega) rfl dk_eq))
    (apply lxk_eq;(· rfl);(· exact d_bld_mid 0 (v.length - 2) rfl rfl ld76 (by omega) (by assumption)))
    (apply lxk_run 1;(· rfl);(· exact ⟨⟨by omega,by omega⟩,trivial⟩))
    (apply lxk_eq;(· rfl);(· exact d_x fun _=>x_or_shl (r) (U2) rfl rfl (by first | rfl | omega) (by first | rfl | omega) (by omega) (by omega) dk_eq))
    (apply lxk_eq;(· rfl);(· exact d_x fun _=>x_false it rfl (by trivial) (by omega) dk_eq))
    (apply lxk_run 2;(· rfl);(· simp))
    refine lxk_end rfl ?_
    simp only [List.map_cons,List.map_nil,List.cons_append,List.nil_append]
    refine j_nf [_,_,_,_,_] rfl ?_
    refine j_false rfl rfl ?_
    refine j_nfn 1 [.c (pL 127)] rfl ?_
    refine j_to [3] (by exact fra rfl) rfl rfl (exit q h1 hQq h2)
 ·obtain ⟨h1,h2⟩:=last q r hqr hQq (.inl (by omega))
  refine j_nf [_,_,_,_,_,_] rfl ?_
  (apply j_drawK it mx 26;(· rfl);(· rfl))
  (apply lxk_run 1;(· rfl);(· simp))
  (apply lxk_eq;(· rfl);(· exact d_x fun _=>x_false it rfl (by trivial) (by omega) dk_eq))
  (apply lxk_run 2;(· rfl);(· simp))
  (apply lxk_run 19;(· rfl);(· simp))
  (apply lxk_run 3;(· rfl);(· simp))
  refine lxk_end rfl ?_
  simp only [List.map_cons,List.map_nil,List.cons_append,List.nil_append]
  refine j_nf [_,_,_,_,_] rfl ?_
  refine j_false rfl rfl ?_
  refine j_nfn 1 [.c (pL 127)] rfl ?_
  refine j_to [2] (by exact fra rfl) rfl rfl (exit q h1 hQq h2)
set_option maxHeartbeats 4000000
theorem S_bits_LeadingZeros32 {x : Nat} (hx : x < 4294967296) : Ctr Try.prog 107 [.int .u32 x] [] [] (Rv (.int .i64 (32 - blen x : Int)) []):=by
 refine Ctr_of_j' (F:=F_bits_LeadingZeros32) rfl fun C=>?_
 have h : blen x ≤ 32:=blen_le (by simpa using hx)
 refine j_nf [_,_] rfl (j_run it 1 rfl (by simp) ?_)
 refine j_nf [_,_] rfl (j_run it 1 rfl (by simp) ?_)
 refine j_step rfl (x_call [] rfl (S_bits_Len32 (by omega)) rfl ?_)
 rintro _ _ _ ⟨rfl,rfl,rfl⟩
 simp only [List.cons_append,List.nil_append]
 refine j_run it 2 rfl ⟨trivial,⟨by omega,by omega⟩,trivial⟩ ?_
 refine j_nf [_] rfl ?_
 refine j_giv [] rfl rfl rfl ⟨rfl,rfl,rfl⟩
abbrev LongQ (A B : Nat) : Value → List Fact → List Blk → Prop:=fun v Φ β=>∃ lq lr p1 c1 p2 c2,v = .tuple #[.slice p1 lq.length c1,.slice p2 lr.length c2] ∧ Φ = [slF U32 p1 lq.length c1 lq,slF U32 p2 lr.length c2 lr] ∧ β = [] ∧ val lq = A / B ∧ val lr = A % B
theorem S_nat_long {pa pb : Option Addr} {n m ca cb k t : Nat} {a b : List Nat} (hal : a.length ≤ 1073741824) (hbl : b.length = k + 2) (hab : b.length ≤ a.length) (ht : b[k + 1]? = some t) (h0 : t ≠ 0) :
  Ctr Try.prog 84 [.slice pa n ca,.slice pb m cb] [] [slF U32 pa n ca a,slF U32 pb m cb b] (LongQ (val a) (val b)):=by
 refine Ctr_of_j' (F:=F_nat_long) rfl fun C=>?_
 refine j_len 0 rfl fun hn hba _=>?_
 refine j_len 1 rfl fun hm hbb _=>?_
 subst hn;subst hm
 refine j_range 0 rfl fun hra=>?_
 refine j_range 1 rfl fun hrb=>?_
 have ha : ∀ x ∈ a,x < 4294967296:=fun x hx=>by have:=hra x hx;simp only [InR] at this;omega
 have hb : ∀ x ∈ b,x < 4294967296:=fun x hx=>by have:=hrb x hx;simp only [InR] at this;omega
 have htB:=hb t (List.mem_of_getElem? ht)
 have h32 : blen t ≤ 32:=blen_le (by simpa using htB)
 have h1t : 1 ≤ blen t:=by have:=blen_pos h0;omega
 obtain ⟨hVl,w,hw,hwn⟩:=norm_div hb hbl ht h0
 have hn32 : 32 - blen t < 32:=by omega
 have e32 : (32 - (blen t : Int)) = ((32 - blen t : Nat) : Int):=by omega
 refine j_nf [_,_] rfl ?_
 refine j_run it 2 rfl (by simp) ?_
 refine j_nf [_,_] rfl ?_
 refine j_run it 2 rfl (by simp) ?_
 refine j_step rfl (x_len sl29 rfl ?_)
 refine j_run it 1 rfl ⟨⟨by omega,by omega⟩,trivial⟩ ?_
 refine j_step rfl (x_idx 1 ((b.length) - 1) rfl rfl rfl sl29 (by omega) (by omega) fun z1 hz1 b1 o1=>?_)
 refine j_step rfl (x_ld_nat 0 rfl rfl ld76 fun ⟨r1,r2⟩=>?_)
 obtain rfl : z1 = t:=Option.some.inj (hz1.symm.trans (by rw [hbl];exact ht))
 refine j_step rfl (x_call [] rfl (S_bits_LeadingZeros32 (by omega)) rfl ?_)
 rintro _ _ _ ⟨rfl,rfl,rfl⟩
 simp only [List.cons_append,List.nil_append]
 refine j_run it 1 rfl (by simp) ?_
 refine j_nf [_,_] rfl ?_
 rw [e32]
 generalize 32 - blen z1 = s at hVl hw hn32 ⊢
 refine j_run it 2 rfl (by simp) ?_
 refine j_step rfl (x_call [2] rfl (O_nat_shift (a:=b) (by omega) hn32) rfl ?_)
 rintro _ _ _ ⟨lv,hlv,hlvB,hlvV,b1,rfl,rfl,rfl⟩
 simp only [List.nil_append,List.cons_append]
 have evl : trim lv = limbs (val b * 2 ^ s):=by rw [trim_eq hlvB,hlvV]
 skip
 refine j_pub32 (n:=lv.length) 0 rfl rfl hlvB (by omega) ?_
 refine j_step rfl (x_call [0] rfl (S_nat_short) rfl ?_)
 rintro _ _ _ ⟨rfl,rfl,rfl⟩
 simp only [List.cons_append,List.nil_append]
 refine j_run it 1 rfl (by simp) ?_
 refine j_nf [_,_] rfl ?_
 refine j_run it 2 rfl (by simp) ?_
 rw [evl]
 generalize hvv : limbs (val b * 2 ^ s) = v at hVl hw ⊢
 have hvB : ∀ x ∈ v,x < 4294967296:=by rw [← hvv];exact limbs_lt _
 have hvV : val v = val b * 2 ^ s:=by rw [← hvv,val_limbs]
 refine j_step rfl (x_call [3] rfl (O_nat_shift (a:=a) (by omega) hn32) rfl ?_)
 rintro _ _ _ ⟨lu,hlu,hluB,hluV,b2,rfl,rfl,rfl⟩
 simp only [List.nil_append,List.cons_append]
 have hA:=val_lt ha
 have hs0 : 0 < 2 ^ s:=Nat.pow_pos (by decide)
 have hVlow : 4294967296 ^ (k + 1) * 2 ^ s ≤ val v:=by
  rw [hvV]
  refine Nat.mul_le_mul_right _ ?_
  have h:=top_split (k:=k + 1) hbl ht
  have : 4294967296 ^ (k + 1) * 1 ≤ 4294967296 ^ (k + 1) * z1:=Nat.mul_le_mul_left _ (by omega)
  omega
 have hV0 : 0 < val v:=Nat.lt_of_lt_of_le (Nat.mul_pos (Nat.pow_pos (by decide)) hs0) hVlow
 have hVB:=val_lt hvB
 have hst:=long_start (k:=k + 1) (m:=a.length - (k + 1)) hluB hlu hluV hA hVlow (by omega) (by omega)
 refine j_run it 1 rfl (by simp) ?_
 refine j_nf [_,_] rfl ?_
 refine j_run it 1 rfl (by simp) ?_
 refine j_step rfl (x_len sl29 rfl ?_)
 refine j_run it 1 rfl (by simp) ?_
 refine j_nf [_,_] rfl ?_
 refine j_run it 1 rfl (by simp) ?_
 refine j_step rfl (x_len sl29 rfl ?_)
 refine j_run it 2 rfl ⟨⟨by omega,by omega⟩,trivial,trivial⟩ ?_
 refine j_step rfl (x_make_nat ((lu.length) - (v.length)) _ rfl rfl sl29 zo29e by29e (by omega) (by omega) (by omega) fun b3=>?_)
 refine j_run it 1 rfl (by simp) ?_
 refine j_nf [_,_,_] rfl ?_
 refine j_run it 1 rfl (by simp) ?_
 refine j_step rfl (x_len sl29 rfl ?_)
 refine j_run it 4 rfl ⟨trivial,⟨by omega,by omega⟩,⟨by omega,by omega⟩,trivial,trivial⟩ ?_
 refine j_nf [_,_,_] rfl ?_
 refine j_loopG (X:=Nat × List Nat × List Nat) [4,5,6,7,8,9] [0,1,2,3,4] (fun x=>[(10,.int .i64 ((x.1 : Int) - 1))]) (fun x=>[(some b3,76,natCells .u32 x.2.1),(some b2,76,natCells .u32 x.2.2)]) (fun _=>[])
  (fun x=>x.1 ≤ a.length - (k + 1) ∧ x.2.1.length = a.length - (k + 1) ∧ (∀ z ∈ x.2.1,z < 4294967296) ∧ x.2.2.length = a.length + 1 ∧ (∀ z ∈ x.2.2,z < 4294967296) ∧ val (x.2.2.drop x.1) < val v ∧ val x.2.2 + 4294967296 ^ x.1 * val v * val (x.2.1.drop x.1) = val a * 2 ^ s)
  (fun x=>x.1) (a.length - (k + 1),List.replicate (lu.length - v.length) 0,lu) [] rfl rfl rfl ⟨Nat.le_refl _,by simp;omega,rep_lt (by decide),hlu,hluB,hst,by simp only;rw [List.drop_of_length_le (by simp;omega),hluV];simp [val]⟩ (by repeat (first | exact Fr.sub_nil _ | refine Fr.sub_cons rfl ?_ | refine Fr.sub_consI rfl (by dsimp only;omega) ?_)) rfl rfl ?_
 rintro ⟨i,quo,uu⟩ ⟨hi,hql,hqB,hul,huB,hud,he⟩ ih
 simp only [List.cons_append,List.nil_append] at hi hql hqB hul huB hud he ih ⊢
 by_cases hi0 : 0 < i
 ·obtain ⟨j,rfl⟩ : ∃ j,i = j + 1:=⟨i - 1,by omega⟩
  rw [show (((j + 1 : Nat) : Int) - 1) = (j : Int) by omega]
  refine j_nf [_,_,_,_,_,_] rfl ?_
  refine j_run it 2 rfl (by simp) ?_
  refine j_nf [_,_,_,_,_] rfl ?_
  refine j_if rfl rfl (fun h1=>?_) (fun h1=>by exfalso;omega)
  refine j_nf [_,_,_,_,_,_] rfl ?_
  refine j_run it 8 rfl ⟨⟨by omega,by omega⟩,⟨by omega,by omega⟩,trivial,trivial,trivial,trivial,trivial,trivial,trivial⟩ ?_
  refine j_step rfl (x_slice_own (j) (((j) + (v.length)) + 1) (j) rfl rfl rfl sl29 (by omega) (by omega) (by omega) (by omega) (by omega) (by omega) ?_)
  refine j_run it 1 rfl (by simp) ?_
  rw [show j + v.length + 1 - j = k + 3 by omega]
  obtain ⟨pre,mid,post,rfl,hpre,hmid⟩ : ∃ pre mid post,uu = pre++mid++post ∧ pre.length = j ∧ mid.length = k + 3 :=
   ⟨uu.take j,(uu.drop j).take (k + 3),(uu.drop j).drop (k + 3),by rw [List.append_assoc,List.take_append_drop,List.take_append_drop],by simp;omega,by simp;omega⟩
  have hmidB : ∀ x ∈ mid,x < 4294967296:=fun x hx=>huB x (by simp [hx])
  have hpost0 : val post = 0:=by
   have h1 : (pre++mid++post).drop (j + 1) = mid.drop 1++post:=by
    rw [List.append_assoc,← List.drop_drop,List.drop_append_of_le_length (by omega),List.drop_of_length_le (l:=pre) (by omega),List.nil_append,List.drop_append_of_le_length (by omega)]
   rw [h1] at hud
   have h2:=drop_zero (k:=k + 2) (Nat.lt_trans hud (by rw [hVl] at hVB;exact hVB))
   rw [List.drop_append_of_le_length (by simp;omega),List.drop_of_length_le (l:=mid.drop 1) (by simp;omega),List.nil_append] at h2
   exact h2
  have hval : ∀ mm : List Nat,mm.length = k + 3 → val (pre++mm++post) = val pre + 4294967296 ^ j * val mm:=fun mm hmm=>by
   rw [List.append_assoc,val_append,val_append,hpost0,Nat.mul_zero,Nat.add_zero,hpre]
  have hdropj : ∀ mm : List Nat,(pre++mm++post).drop j = mm++post:=fun mm=>by
   rw [List.append_assoc,List.drop_append_of_le_length (by omega),List.drop_of_length_le (l:=pre) (by omega),List.nil_append]
  have hUV : val mid < 4294967296 * val v:=by
   have h1 : val (mid++post) = val mid:=by rw [val_append,hpost0,Nat.mul_zero,Nat.add_zero]
   obtain ⟨x,hx⟩ : ∃ x,(pre++mid++post)[j]? = some x:=⟨(pre++mid++post)[j],by simp⟩
   have h2:=val_drop hx
   rw [hdropj,h1] at h2
   have:=huB x (List.mem_of_getElem? hx)
   omega
  refine j_step rfl (x_callB 1 [0] rfl rfl (S_nat_step (k:=k) (post:=post) hpre hmid hVl (by omega) (by omega) hmidB hw hwn hUV) rfl ?_)
  rintro _ _ _ ⟨rfl,rfl,mid',hm',hmB',hmV,rfl⟩
  simp only [List.nil_append,List.cons_append]
  refine j_step rfl (x_idx_own (j) (j) rfl rfl sl29 rfl (by omega) (Nat.mul_one _) ?_)
  refine j_step rfl (x_bst_nat 1 (val mid / val v) rfl rfl rfl ld76 (by first | rfl | omega) (by first | omega | (simp;omega)) ?_)
  refine j_nf [_,_,_,_] rfl ?_
  refine j_run it 3 rfl ⟨trivial,⟨by omega,by omega⟩,trivial,trivial⟩ ?_
  refine j_nfn 1 [.lp (pL 2036),.blk 0,.c (pL 255)] rfl ?_
  refine j_perm (List.Perm.swap _ _ _) ?_
  have hqd : val mid / val v < 4294967296:=by rw [Nat.div_lt_iff_lt_mul hV0];exact hUV
  refine j_to [0,1,2,3,4] (by exact fra rfl) rfl rfl (ih (j,quo.set j (val mid / val v),pre++mid'++post) (by simp only;omega) ⟨by simp only;omega,by simpa using hql,set_lt hqB hqd,by simp at hul ⊢;omega,fun x hx=>by
   simp only [List.mem_append] at hx
   rcases hx with (hx | hx) | hx
   ·exact huB x (by simp [hx])
   ·exact hmB' x hx
   ·exact huB x (by simp [hx]),by
   simp only
   rw [hdropj,val_append,hpost0,Nat.mul_zero,Nat.add_zero,hmV]
   exact Nat.mod_lt _ hV0,by
   simp only
   rw [hval mid' hm',val_set_drop (by omega)]
   rw [hval mid hmid,Nat.pow_succ] at he
   exact long_step he rfl hmV⟩)
 ·have hi00 : i = 0:=by omega
  subst hi00
  rw [List.drop_zero] at hud he
  rw [Nat.pow_zero,Nat.one_mul] at he
  obtain ⟨hQ,hR⟩:=long_end he hvV hud hs0
  refine j_nf [_,_,_,_,_,_] rfl ?_
  refine j_run it 2 rfl (by simp) ?_
  refine j_nf [_,_,_,_,_] rfl ?_
  refine j_if rfl rfl (fun h1=>by exfalso;omega) (fun h1=>?_)
  refine j_nf [_,_] rfl ?_
  refine j_run it 1 rfl (by simp) ?_
  refine j_step rfl (x_make_nat (v.length) _ rfl rfl sl29 zo29e by29e (by omega) (by omega) (by omega) fun b4=>?_)
  refine j_run it 1 rfl (by simp) ?_
  refine j_nf [_,_,_] rfl ?_
  refine j_run it 1 rfl (by simp) ?_
  refine j_step rfl (x_len sl29 rfl ?_)
  refine j_run it 1 rfl (by simp) ?_
  refine j_nf [_,_,_] rfl ?_
  refine j_loopG (X:=Nat × List Nat) [4,5,6,8,57] [0,1,2,3,4] (fun x=>[(58,.int .i64 x.1)]) (fun x=>[(some b4,76,natCells .u32 x.2),(some b3,76,natCells .u32 quo),(some b2,76,natCells .u32 uu)]) (fun _=>[])
   (fun x=>x.1 ≤ v.length ∧ x.2.length = v.length ∧ (∀ z ∈ x.2,z < 4294967296) ∧ val (x.2.take x.1) = val uu / 2 ^ s % 4294967296 ^ x.1)
   (fun x=>v.length - x.1) (0,List.replicate v.length 0) [] rfl rfl rfl ⟨Nat.zero_le _,by simp,rep_lt (by decide),by simp [val,Nat.mod_one]⟩ (by repeat (first | exact Fr.sub_nil _ | refine Fr.sub_cons rfl ?_)) rfl rfl ?_
  rintro ⟨i,rem⟩ ⟨hi2,hrl,hrB,hrv⟩ ih2
  simp only [List.cons_append,List.nil_append] at hi2 hrl hrB hrv ih2 ⊢
  by_cases hil : i < v.length
  ·obtain ⟨x,hx⟩ : ∃ x,uu[i]? = some x:=⟨uu[i],by simp⟩
   obtain ⟨y,hy⟩ : ∃ y,uu[i + 1]? = some y:=⟨uu[i + 1],by simp⟩
   have hxB:=huB x (List.mem_of_getElem? hx)
   have hyB:=huB y (List.mem_of_getElem? hy)
   refine j_nf [_,_,_,_,_] rfl ?_
   refine j_run it 1 rfl (by simp) ?_
   refine j_nf [_,_,_,_,_] rfl ?_
   refine j_if rfl rfl (fun h2=>?_) (fun h2=>by exfalso;omega)
   refine j_nf [_,_,_,_,_,_,_] rfl ?_
   refine j_run it 2 rfl (by simp) ?_
   refine j_nf [_,_,_,_,_,_] rfl ?_
   (apply j_drawK it mx 18;(· rfl);(· rfl))
   (apply lxk_run 4;(· rfl);(· simp))
   (apply lxk_eq;(· rfl);(· exact d_x fun _=>x_idx_own (i) (i) rfl rfl sl29 rfl (by omega) (Nat.mul_one _) dk_eq))
   (apply lxk_eq;(· rfl);(· exact d_bld_nat 2 rfl rfl ld76 (by assumption)))
   (apply lxk_run 4;(· rfl);(· exact ⟨⟨by omega,by omega⟩,trivial,trivial,⟨by omega,by omega⟩,trivial⟩))
   (apply lxk_eq;(· rfl);(· exact d_x fun _=>x_idx_own ((i) + 1) ((i) + 1) rfl rfl sl29 (by omega) (by omega) (Nat.mul_one _) dk_eq))
   (apply lxk_eq;(· rfl);(· exact d_bld_nat 2 rfl rfl ld76 (by assumption)))
   (apply lxk_run 2;(· rfl);(· exact ⟨⟨by omega,by omega⟩,⟨by omega,by omega⟩,trivial⟩))
   (apply lxk_eq;(· rfl);(· exact d_x fun _=>x_or_nat (x) ((y) * 4294967296) rfl rfl (by first | rfl | omega) (by first | rfl | omega) (by omega) (by omega) dk_eq))
   (apply lxk_run 1;(· rfl);(· simp))
   (apply lxk_eq;(· rfl);(· exact d_x fun _=>x_shr_nat (x ||| y * 4294967296) (s) rfl rfl (by first | rfl | omega) (by first | rfl | omega) (by first | decide | (simp only [IntKind.bits];omega)) dk_eq))
   (apply lxk_eq;(· rfl);(· exact d_x fun _=>x_conv_u32 it rfl rfl rfl dk_eq))
   refine lxk_end rfl ?_
   simp only [List.map_cons,List.map_nil,List.cons_append,List.nil_append]
   refine j_step rfl (x_idx_own (i) (i) rfl rfl sl29 rfl (by omega) (Nat.mul_one _) ?_)
   refine j_step rfl (x_bst_nat 0 (((x ||| y * 4294967296) / 2 ^ s) % 4294967296) rfl rfl rfl ld76 (by first | rfl | omega) (by first | omega | (simp;omega)) ?_)
   refine j_nf [_,_,_,_] rfl ?_
   refine j_run it 2 rfl ⟨trivial,⟨by omega,by omega⟩,trivial⟩ ?_
   refine j_nfn 1 [.lp (pL 8180),.blk 2,.c (pL 1023)] rfl ?_
   have eor : x ||| y * 4294967296 = x + 4294967296 * y:=by
    have h:=or_low (x:=y) (n:=32) (c:=x) hxB
    rw [show (2 : Nat) ^ 32 = 4294967296 from rfl] at h
    rw [Nat.or_comm,h];omega
   rw [eor]
   refine j_to [0,1,2,3,4] (by exact fra rfl) rfl rfl (ih2 (i + 1,rem.set i ((x + 4294967296 * y) / 2 ^ s % 4294967296)) (by simp only;omega) ⟨by simp only;omega,by simpa using hrl,set_lt hrB (Nat.mod_lt _ (by decide)),by
    simp only
    rw [val_set_take (by omega),hrv,rem_digit huB hx hy hn32]⟩)
  ·have ei : i = v.length:=by omega
   subst ei
   have hrv' : val rem = val a % val b:=by
    rw [← hrl,List.take_length,hrl,hR,Nat.mul_div_cancel _ hs0] at hrv
    rw [hrv]
    refine Nat.mod_eq_of_lt (Nat.lt_of_le_of_lt ?_ (Nat.lt_trans hud hVB))
    rw [hR]
    exact Nat.le_mul_of_pos_right _ hs0
   refine j_nf [_,_,_,_,_] rfl ?_
   refine j_run it 1 rfl (by simp) ?_
   refine j_nf [_,_,_,_,_] rfl ?_
   refine j_if rfl rfl (fun h2=>by exfalso;omega) (fun h2=>?_)
   refine j_nf [_,_] rfl ?_
   refine j_run it 4 rfl (by simp) ?_
   refine j_nf [_] rfl ?_
   refine j_pub32 (n:=v.length) 0 rfl hrl hrB (by omega) ?_
   refine j_pub32 (n:=lu.length - v.length) 0 rfl (by omega) hqB (by omega) ?_
   have e1 : lu.length - v.length = quo.length:=by omega
   rw [e1,← hrl]
   refine j_giv [0,1] rfl rfl rfl ⟨quo,rem,_,_,_,_,rfl,rfl,rfl,hQ,hrv'⟩
abbrev DivQ (A B : Nat) : Value → List Fact → List Blk → Prop:=fun v Φ β=>∃ p1 c1 p2 c2,v = .tuple #[.slice p1 (limbs (A / B)).length c1,.slice p2 (limbs (A % B)).length c2,.int .i64 0] ∧ Φ = [slF U32 p1 (limbs (A / B)).length c1 (limbs (A / B)),slF U32 p2 (limbs (A % B)).length c2 (limbs (A % B))] ∧ β = []
theorem S_nat_DivMod {pa pb : Option Addr} {n m ca cb : Nat} {a b : List Nat} (hal : a.length ≤ 1073741824) (hb0 : val b ≠ 0) :
  Ctr Try.prog 51 [.slice pa n ca,.slice pb m cb] [] [slF U32 pa n ca a,slF U32 pb m cb b] (DivQ (val a) (val b)):=by
 refine Ctr_of_j' (F:=F_nat_DivMod) rfl fun C=>?_
 refine j_len 0 rfl fun hn hba _=>?_
 refine j_len 1 rfl fun hm hbb _=>?_
 subst hn;subst hm
 have hba' : a.length * 4 ≤ 140737488355328:=hba
 have hbb' : b.length * 4 ≤ 140737488355328:=hbb
 refine j_range 0 rfl fun hra=>?_
 refine j_range 1 rfl fun hrb=>?_
 have ha : ∀ x ∈ a,x < 4294967296:=fun x hx=>by have:=hra x hx;simp only [InR] at this;omega
 have hb : ∀ x ∈ b,x < 4294967296:=fun x hx=>by have:=hrb x hx;simp only [InR] at this;omega
 have ea:=trim_eq ha
 have eb:=trim_eq hb
 have lla:=trim_length_le a
 have llb:=trim_length_le b
 have va : val (trim a) = val a:=val_trim a
 have vb : val (trim b) = val b:=val_trim b
 have hbne : 1 ≤ (trim b).length:=by
  rcases Nat.eq_zero_or_pos (trim b).length with h | h
  ·exfalso;have h2:=List.eq_nil_of_length_eq_zero h;rw [eb,limbs_nil] at h2;exact hb0 h2
  ·exact h
 by_cases hlt : val a < val b
 ·have hc : cmpN (val (trim a)) (val (trim b)) < 0:=by rw [va,vb,cmpN_lt hlt];decide
  have e1 : limbs (val a / val b) = []:=by rw [Nat.div_eq_of_lt hlt,limbs_zero]
  have e2 : limbs (val a % val b) = trim (trim a):=by rw [Nat.mod_eq_of_lt hlt,trim_trim,ea]
  refine j_nf [_,_] rfl (j_run it 3 rfl (by simp) ?_)
  refine j_nf [_,_] rfl (j_run it 1 rfl (by simp) ?_)
  refine j_step rfl (x_call [0] rfl (S_nat_short) rfl ?_)
  rintro _ _ _ ⟨rfl,rfl,rfl⟩
  simp only [List.cons_append,List.nil_append]
  refine j_run it 1 rfl (by simp) ?_
  refine j_step rfl (x_call [2] rfl (S_nat_short) rfl ?_)
  rintro _ _ _ ⟨rfl,rfl,rfl⟩
  simp only [List.cons_append,List.nil_append]
  refine j_run it 2 rfl (by simp) ?_
  refine j_nf [_,_,_,_] rfl (j_run it 1 rfl (by simp) ?_)
  refine j_step rfl (x_len sl29 rfl ?_)
  refine j_run it 2 rfl (by simp) ?_
  refine j_nf [_,_,_] rfl (j_if rfl rfl (fun h1=>by exfalso;omega) (fun h1=>?_))
  refine j_nf [_,_,_,_] rfl (j_run it 2 rfl (by simp) ?_)
  refine j_step rfl (x_call [1,0] rfl (S_nat_Cmp) rfl ?_)
  rintro _ _ _ ⟨rfl,rfl,rfl⟩
  simp only [List.cons_append,List.nil_append]
  refine j_run it 2 rfl (by simp) ?_
  refine j_nf [_,_,_] rfl (j_if rfl rfl (fun h2=>?_) (fun h2=>by exfalso;omega))
  refine j_nf [_,_,_,_] rfl (j_run it 1 rfl (by simp) ?_)
  refine j_step rfl (x_call [1] rfl (S_nat_Trim) rfl ?_)
  rintro _ _ _ ⟨pa1,ca1,rfl,rfl,rfl⟩
  simp only [List.cons_append,List.nil_append]
  refine j_run it 3 rfl (by simp) ?_
  refine j_nf [_,_,_] rfl ?_
  refine j_add (slF U32 none 0 0 []) (fun w A _=>slF_nil _ _ _ _ _) ?_
  refine j_giv [0,1] rfl rfl rfl ⟨none,0,pa1,ca1,by rw [e1,e2];rfl,by rw [e1,e2];rfl,rfl⟩
 ·have hc : ¬ cmpN (val (trim a)) (val (trim b)) < 0:=by rw [va,vb];unfold cmpN;split <;> (try split) <;> omega
  by_cases h1 : (trim b).length = 1
  ·obtain ⟨d,hd⟩ : ∃ d,trim b = [d]:=List.length_eq_one_iff.1 h1
   have hvd : val b = d:=by rw [← vb,hd];simp [val]
   have hd0 : 0 < d:=by omega
   have hdB : d < 4294967296:=hb d (mem_trim (by rw [hd];simp))
   have side : ∀ z,(trim b)[0]? = some z → z = d:=fun z hz=>by rw [hd] at hz;simpa using hz.symm
   refine j_nf [_,_] rfl (j_run it 3 rfl (by simp) ?_)
   refine j_nf [_,_] rfl (j_run it 1 rfl (by simp) ?_)
   refine j_step rfl (x_call [0] rfl (S_nat_short) rfl ?_)
   rintro _ _ _ ⟨rfl,rfl,rfl⟩
   simp only [List.cons_append,List.nil_append]
   refine j_run it 1 rfl (by simp) ?_
   refine j_step rfl (x_call [2] rfl (S_nat_short) rfl ?_)
   rintro _ _ _ ⟨rfl,rfl,rfl⟩
   simp only [List.cons_append,List.nil_append]
   refine j_run it 2 rfl (by simp) ?_
   refine j_nf [_,_,_,_] rfl (j_run it 1 rfl (by simp) ?_)
   refine j_step rfl (x_len sl29 rfl ?_)
   refine j_run it 2 rfl (by simp) ?_
   refine j_nf [_,_,_] rfl (j_if rfl rfl (fun h2=>by exfalso;omega) (fun h2=>?_))
   refine j_nf [_,_,_,_] rfl (j_run it 2 rfl (by simp) ?_)
   refine j_step rfl (x_call [1,0] rfl (S_nat_Cmp) rfl ?_)
   rintro _ _ _ ⟨rfl,rfl,rfl⟩
   simp only [List.cons_append,List.nil_append]
   refine j_run it 2 rfl (by simp) ?_
   refine j_nf [_,_,_] rfl (j_if rfl rfl (fun h3=>by exfalso;omega) (fun h3=>?_))
   refine j_nf [_,_,_,_] rfl (j_run it 1 rfl (by simp) ?_)
   refine j_step rfl (x_len sl29 rfl ?_)
   refine j_run it 2 rfl (by simp) ?_
   refine j_nf [_,_,_] rfl (j_if rfl rfl (fun h4=>?_) (fun h4=>by exfalso;omega))
   refine j_nf [_,_,_,_] rfl (j_run it 2 rfl (by simp) ?_)
   refine j_step rfl (x_idx 0 0 rfl rfl rfl sl29 (by omega) (by omega) fun z1 hz1 b1 o1=>?_)
   refine j_step rfl (x_ld_nat 0 rfl rfl ld76 fun ⟨r1,r2⟩=>?_)
   obtain rfl : z1 = d:=side z1 hz1
   have hm : val (trim a) % z1 < 4294967296:=Nat.lt_trans (Nat.mod_lt _ hd0) hdB
   have hm2 : val (trim a) % z1 < 18446744073709551616:=by omega
   refine j_step rfl (x_call [2] rfl (S_nat_digit (by omega) (by omega)) rfl ?_)
   rintro _ _ _ ⟨pa1,ca1,rfl,rfl,rfl⟩
   simp only [List.cons_append,List.nil_append]
   refine j_run it 5 rfl (by simp) ?_
   refine j_nf [_,_,_,_] rfl (j_run it 3 rfl ⟨⟨by omega,by omega⟩,trivial,trivial,trivial⟩ ?_)
   refine j_step rfl (x_call [] rfl (S_nat_Of (by omega)) rfl ?_)
   rintro _ _ _ ⟨pa2,ca2,rfl,rfl,rfl⟩
   simp only [List.cons_append,List.nil_append]
   refine j_run it 3 rfl (by simp) ?_
   refine j_nf [_,_,_] rfl ?_
   rw [va,← hvd]
   refine j_giv [1,0] rfl rfl rfl ⟨_,_,_,_,rfl,rfl,rfl⟩
  ·obtain ⟨k,hk⟩ : ∃ k,(trim b).length = k + 2:=⟨(trim b).length - 2,by omega⟩
   obtain ⟨t,ht,ht0⟩:=limbs_top (n:=val b) (k:=k + 1) (by rw [← eb];exact hk)
   rw [← eb] at ht
   have hab : (trim b).length ≤ (trim a).length:=by
    rw [eb,ea]
    exact limbs_mono (Nat.le_refl _) (by omega)
   refine j_nf [_,_] rfl (j_run it 3 rfl (by simp) ?_)
   refine j_nf [_,_] rfl (j_run it 1 rfl (by simp) ?_)
   refine j_step rfl (x_call [0] rfl (S_nat_short) rfl ?_)
   rintro _ _ _ ⟨rfl,rfl,rfl⟩
   simp only [List.cons_append,List.nil_append]
   refine j_run it 1 rfl (by simp) ?_
   refine j_step rfl (x_call [2] rfl (S_nat_short) rfl ?_)
   rintro _ _ _ ⟨rfl,rfl,rfl⟩
   simp only [List.cons_append,List.nil_append]
   refine j_run it 2 rfl (by simp) ?_
   refine j_nf [_,_,_,_] rfl (j_run it 1 rfl (by simp) ?_)
   refine j_step rfl (x_len sl29 rfl ?_)
   refine j_run it 2 rfl (by simp) ?_
   refine j_nf [_,_,_] rfl (j_if rfl rfl (fun h2=>by exfalso;omega) (fun h2=>?_))
   refine j_nf [_,_,_,_] rfl (j_run it 2 rfl (by simp) ?_)
   refine j_step rfl (x_call [1,0] rfl (S_nat_Cmp) rfl ?_)
   rintro _ _ _ ⟨rfl,rfl,rfl⟩
   simp only [List.cons_append,List.nil_append]
   refine j_run it 2 rfl (by simp) ?_
   refine j_nf [_,_,_] rfl (j_if rfl rfl (fun h3=>by exfalso;omega) (fun h3=>?_))
   refine j_nf [_,_,_,_] rfl (j_run it 1 rfl (by simp) ?_)
   refine j_step rfl (x_len sl29 rfl ?_)
   refine j_run it 2 rfl (by simp) ?_
   refine j_nf [_,_,_] rfl (j_if rfl rfl (fun h4=>by exfalso;omega) (fun h4=>?_))
   refine j_nf [_,_] rfl (j_run it 2 rfl (by simp) ?_)
   refine j_step rfl (x_call [1,0] rfl (S_nat_long (k:=k) (t:=t) (by omega) hk hab ht ht0) rfl ?_)
   rintro _ _ _ ⟨lq,lr,p1,c1,p2,c2,rfl,rfl,rfl,hq,hr⟩
   simp only [List.nil_append,List.cons_append]
   refine j_range 0 rfl fun hrq=>?_
   refine j_range 1 rfl fun hrr=>?_
   have eq:=trim_eq (l:=lq) (fun x hx=>by have:=hrq x hx;simp only [InR] at this;omega)
   have er:=trim_eq (l:=lr) (fun x hx=>by have:=hrr x hx;simp only [InR] at this;omega)
   rw [hq,va,vb] at eq
   rw [hr,va,vb] at er
   refine j_run it 5 rfl (by simp) ?_
   refine j_nf [_,_] rfl (j_run it 1 rfl (by simp) ?_)
   refine j_step rfl (x_call [0] rfl (S_nat_Trim) rfl ?_)
   rintro _ _ _ ⟨pa1,ca1,rfl,rfl,rfl⟩
   simp only [List.cons_append,List.nil_append]
   refine j_run it 1 rfl (by simp) ?_
   refine j_step rfl (x_call [2] rfl (S_nat_Trim) rfl ?_)
   rintro _ _ _ ⟨pa2,ca2,rfl,rfl,rfl⟩
   simp only [List.cons_append,List.nil_append]
   refine j_run it 3 rfl (by simp) ?_
   refine j_nf [_] rfl ?_
   rw [eq,er]
   refine j_giv [1,0] rfl rfl rfl ⟨_,_,_,_,rfl,rfl,rfl⟩
theorem S_nat_Gcd {pa pb : Option Addr} {n m ca cb : Nat} {a b : List Nat} (hal : a.length ≤ 1073741824) (hbl : b.length ≤ 1073741824) :
  Ctr Try.prog 111 [.slice pa n ca,.slice pb m cb] [] [slF U32 pa n ca a,slF U32 pb m cb b] (Sv U32 (limbs (Nat.gcd (val a) (val b)))):=by
 refine Ctr_of_j' (F:=F_nat_Gcd) rfl fun C=>?_
 refine j_len 0 rfl fun hn hba _=>?_
 refine j_len 1 rfl fun hm hbb _=>?_
 subst hn;subst hm
 refine j_range 0 rfl fun hra=>?_
 refine j_range 1 rfl fun hrb=>?_
 have ha : ∀ x ∈ a,x < 4294967296:=fun x hx=>by have:=hra x hx;simp only [InR] at this;omega
 have hb : ∀ x ∈ b,x < 4294967296:=fun x hx=>by have:=hrb x hx;simp only [InR] at this;omega
 have ea:=trim_eq ha
 have eb:=trim_eq hb
 have lla:=trim_length_le a
 have llb:=trim_length_le b
 refine j_nf [_,_] rfl (j_run it 1 rfl (by simp) ?_)
 refine j_nf [_,_] rfl (j_run it 1 rfl (by simp) ?_)
 refine j_step rfl (x_call [0] rfl (S_nat_short) rfl ?_)
 rintro _ _ _ ⟨rfl,rfl,rfl⟩
 simp only [List.cons_append,List.nil_append]
 refine j_run it 1 rfl (by simp) ?_
 refine j_step rfl (x_call [2] rfl (S_nat_short) rfl ?_)
 rintro _ _ _ ⟨rfl,rfl,rfl⟩
 simp only [List.cons_append,List.nil_append]
 refine j_run it 2 rfl (by simp) ?_
 refine j_nf [_,_,_] rfl ?_
 rw [ea,eb]
 rw [ea] at lla
 rw [eb] at llb
 refine j_loopG (X:=Nat × Nat × (Option Addr × Nat) × (Option Addr × Nat)) [4] [] (fun x=>[(0,.slice x.2.2.1.1 (limbs x.1).length x.2.2.1.2),(1,.slice x.2.2.2.1 (limbs x.2.1).length x.2.2.2.2)]) (fun _=>[]) (fun x=>[slF U32 x.2.2.1.1 (limbs x.1).length x.2.2.1.2 (limbs x.1),slF U32 x.2.2.2.1 (limbs x.2.1).length x.2.2.2.2 (limbs x.2.1)])
  (fun x=>(limbs x.1).length ≤ 1073741824 ∧ (limbs x.2.1).length ≤ 1073741824 ∧ Nat.gcd x.1 x.2.1 = Nat.gcd (val a) (val b)) (fun x=>x.2.1) (val a,val b,(pa,(limbs (val a)).length),(pb,(limbs (val b)).length)) [1,0] rfl rfl rfl ⟨Nat.le_trans lla hal,Nat.le_trans llb hbl,rfl⟩ (by repeat (first | exact Fr.sub_nil _ | refine Fr.sub_cons rfl ?_)) rfl rfl ?_
 rintro ⟨x,y,⟨px,cx⟩,⟨py,cy⟩⟩ ⟨hx,hy,hg⟩ ih
 simp only [List.cons_append,List.nil_append] at hx hy hg ih ⊢
 by_cases hy0 : y = 0
 ·have e0 : (limbs y).length = 0:=by rw [hy0,limbs_zero];rfl
  subst hy0
  refine j_nf [_,_,_,_,_,_] rfl (j_run it 1 rfl (by simp) ?_)
  refine j_step rfl (x_len sl29 rfl ?_)
  refine j_run it 1 rfl (by simp) ?_
  refine j_nf [_,_,_,_,_] rfl (j_if rfl rfl (fun h1=>by exfalso;omega) (fun h1=>?_))
  refine j_nf [_,_] rfl (j_run it 1 rfl (by simp) ?_)
  refine j_step rfl (x_call [0] rfl (S_nat_Trim) rfl ?_)
  rintro _ _ _ ⟨pa1,ca1,rfl,rfl,rfl⟩
  simp only [List.cons_append,List.nil_append]
  refine j_run it 1 rfl (by simp) ?_
  refine j_nf [_] rfl ?_
  rw [trim_limbs,show x = Nat.gcd (val a) (val b) by rw [← hg,Nat.gcd_zero_right]]
  refine j_giv [0] rfl rfl rfl ⟨_,_,rfl,rfl,rfl⟩
 ·have e0 : 0 < (limbs y).length:=List.length_pos_iff.2 (fun h=>hy0 (limbs_nil.1 h))
  have hv : val (limbs y) ≠ 0:=by rw [val_limbs];exact hy0
  refine j_nf [_,_,_,_,_,_] rfl (j_run it 1 rfl (by simp) ?_)
  refine j_step rfl (x_len sl29 rfl ?_)
  refine j_run it 1 rfl (by simp) ?_
  refine j_nf [_,_,_,_,_] rfl (j_if rfl rfl (fun h1=>?_) (fun h1=>by exfalso;omega))
  refine j_nf [_,_,_,_,_,_] rfl (j_run it 2 rfl (by simp) ?_)
  refine j_step rfl (x_call [0,1] rfl (S_nat_DivMod (by omega) (by omega)) rfl ?_)
  rintro _ _ _ ⟨p11,c11,p21,c21,rfl,rfl,rfl⟩
  simp only [List.cons_append,List.nil_append]
  refine j_run it 7 rfl (by simp) ?_
  refine j_nf [_,_,_,_,_] rfl (j_run it 4 rfl (by simp) ?_)
  refine j_nfn 2 [.lp [1,1,0,0,0],.blk 0,.c [1,1,1]] rfl ?_
  simp only [val_limbs]
  refine j_to [3,1] (by exact fra rfl) rfl rfl (ih (y,x % y,(py,cy),(p21,c21)) (by simp only;exact Nat.mod_lt _ (by omega)) ⟨hy,limbs_mono hy (Nat.le_of_lt (Nat.mod_lt _ (by omega))),by simp only;rw [← hg,Nat.gcd_comm x y,Nat.gcd_rec y x,Nat.gcd_comm]⟩)
set_option maxHeartbeats 2000000
theorem S_rational_one : Ctr Try.prog 110 [] [] [] (Sv U32 [1]):=by
 refine Ctr_of_j' (F:=F_rational_one) rfl fun C=>?_
 refine j_nf [_,_] rfl (j_run it 1 rfl (by simp) ?_)
 refine j_nf [_,_] rfl (j_step rfl (x_lit sl29 zo29e rfl rfl rfl rfl (by decide) (by decide) rfl fun b1=>?_))
 refine j_run it 1 rfl (by simp) ?_
 refine j_nf [_] rfl ?_
 refine j_pub_made (n:=1) (kd:=.u32) 4 [1] 0 rfl rfl (by simp [InR]) (by decide) (by decide) ?_
 refine j_giv [0] rfl rfl rfl ⟨_,_,rfl,rfl,rfl⟩
theorem bitsL_zero {l : List Nat} (h : ∀ x ∈ l,x < 4294967296) : bitsL l = 0 ↔ val l = 0:=by
 have ht:=trim_eq h
 constructor
 ·intro h0
  rcases Nat.eq_zero_or_pos (trim l).length with h1 | h1
  ·have:=List.eq_nil_of_length_eq_zero h1
   rw [ht,limbs_nil] at this;exact this
  ·obtain ⟨k,hk⟩ : ∃ k,(trim l).length = k + 1:=⟨(trim l).length - 1,by omega⟩
   obtain ⟨t,hz,hz0⟩:=limbs_top (n:=val l) (k:=k) (by rw [← ht];exact hk)
   rw [← ht] at hz
   have h3:=bitsL_top (z:=t) (by rw [hk];exact hz)
   have:=blen_pos hz0
   omega
 ·intro h0
  exact bitsL_nil (by rw [ht,h0,limbs_zero];rfl)
theorem lim {l : List Nat} (h : ∀ x ∈ l,InR .u32 x) : ∀ x ∈ l,x < 4294967296:=fun x hx=>by have:=h x hx;simp only [InR] at this;omega
theorem S_rational_canonical {neg : Bool} {pn pd : Option Addr} {n m cn cd : Nat} {N D : List Nat} (hN : N.length ≤ 1073741824) (hD : D.length ≤ 1073741824) :
  Ctr Try.prog 90 [.bool neg,.slice pn n cn,.slice pd m cd] [] [slF U32 pn n cn N,slF U32 pd m cd D] (RtV (rt (vq (neg,N,D)))):=by
 refine Ctr_of_j' (F:=F_rational_canonical) rfl fun C=>?_
 refine j_len 0 rfl fun hn hba _=>?_
 refine j_len 1 rfl fun hm hbb _=>?_
 subst hn;subst hm
 refine j_range 0 rfl fun hra=>?_
 refine j_range 1 rfl fun hrb=>?_
 have ha:=lim hra
 have hb:=lim hrb
 have za:=bitsL_zero ha
 have zb:=bitsL_zero hb
 have zero : val N = 0 ∨ val D = 0 → rt (vq (neg,N,D)) = (false,[],[1]):=fun h=>by rw [vq_eq,mk_zero h,rt_zero]
 by_cases h1 : bitsL N = 0
 ·have e:=zero (.inl (za.1 h1))
  refine j_nf [_,_] rfl (j_step rfl (x_alloc zo60 fun b1=>?_))
  refine j_nf [_,_,_] rfl (j_run it 1 rfl (by simp) ?_)
  refine j_step rfl (x_call [0] rfl (S_nat_Bits) rfl ?_)
  rintro _ _ _ ⟨rfl,rfl,rfl⟩
  simp only [List.cons_append,List.nil_append]
  refine j_run it 2 rfl (by simp) ?_
  refine j_split_dec (t:=11) rfl (fun h2=>?_) (fun h2=>by exfalso;omega)
  refine j_run it 4 rfl (by simp) ?_
  refine j_nf [_,_] rfl ?_
  refine j_true rfl rfl ?_
  refine j_nf [_,_,_] rfl (j_step rfl (x_call [] rfl (S_rational_one) rfl ?_))
  rintro _ _ _ ⟨pa1,ca1,rfl,rfl,rfl⟩
  simp only [List.cons_append,List.nil_append]
  refine j_step rfl (x_build (cs:=[Value.bool false,Value.slice none 0 0,Value.slice pa1 [1].length ca1]) st60 zo60 rfl rfl ?_)
  refine j_step rfl (x_bst_all 0 rfl rfl rfl ld60 rfl rfl (by simp [Value.oneCell']) ?_)
  refine j_nf [_,_] rfl ?_
  refine j_add (slF U32 none 0 0 []) (fun w A _=>slF_nil _ _ _ _ _) ?_
  refine j_givC [0,1] rfl (.agg 0 rfl rfl ld60 rfl .nil) rfl ⟨none,0,pa1,ca1,by rw [e];rfl,by rw [e];rfl,rfl⟩
 by_cases h2 : bitsL D = 0
 ·have e:=zero (.inr (zb.1 h2))
  refine j_nf [_,_] rfl (j_step rfl (x_alloc zo60 fun b1=>?_))
  refine j_nf [_,_,_] rfl (j_run it 1 rfl (by simp) ?_)
  refine j_step rfl (x_call [0] rfl (S_nat_Bits) rfl ?_)
  rintro _ _ _ ⟨rfl,rfl,rfl⟩
  simp only [List.cons_append,List.nil_append]
  refine j_run it 2 rfl (by simp) ?_
  refine j_split_dec (t:=11) rfl (fun h3=>by exfalso;omega) (fun h3=>?_)
  refine j_run it 1 rfl (by simp) ?_
  refine j_gstep rfl rfl (x_call [1] rfl (S_nat_Bits) rfl ?_)
  rintro _ _ _ ⟨rfl,rfl,rfl⟩
  simp only [List.cons_append,List.nil_append]
  refine j_run it 2 rfl (by simp) ?_
  refine j_nf [_,_] rfl (j_if rfl rfl (fun h4=>?_) (fun h4=>by exfalso;omega))
  refine j_nf [_,_,_] rfl (j_step rfl (x_call [] rfl (S_rational_one) rfl ?_))
  rintro _ _ _ ⟨pa1,ca1,rfl,rfl,rfl⟩
  simp only [List.cons_append,List.nil_append]
  refine j_step rfl (x_build (cs:=[Value.bool false,Value.slice none 0 0,Value.slice pa1 [1].length ca1]) st60 zo60 rfl rfl ?_)
  refine j_step rfl (x_bst_all 0 rfl rfl rfl ld60 rfl rfl (by simp [Value.oneCell']) ?_)
  refine j_nf [_,_] rfl ?_
  refine j_add (slF U32 none 0 0 []) (fun w A _=>slF_nil _ _ _ _ _) ?_
  refine j_givC [0,1] rfl (.agg 0 rfl rfl ld60 rfl .nil) rfl ⟨none,0,pa1,ca1,by rw [e];rfl,by rw [e];rfl,rfl⟩
 ·have v1 : val N ≠ 0:=fun h=>h1 (za.2 h)
  have v2 : val D ≠ 0:=fun h=>h2 (zb.2 h)
  have hg : val (limbs (Nat.gcd (val N) (val D))) ≠ 0:=by
   rw [val_limbs]
   have:=Nat.gcd_pos_of_pos_left (val D) (Nat.pos_of_ne_zero v1)
   omega
  have e : rt (vq (neg,N,D)) = (neg,limbs (val N / val (limbs (Nat.gcd (val N) (val D)))),limbs (val D / val (limbs (Nat.gcd (val N) (val D))))):=by
   rw [vq_eq,rt_mk v1 v2,val_limbs]
  refine j_nf [_,_] rfl (j_step rfl (x_alloc zo60 fun b1=>?_))
  refine j_nf [_,_,_] rfl (j_run it 1 rfl (by simp) ?_)
  refine j_step rfl (x_call [0] rfl (S_nat_Bits) rfl ?_)
  rintro _ _ _ ⟨rfl,rfl,rfl⟩
  simp only [List.cons_append,List.nil_append]
  refine j_run it 2 rfl (by simp) ?_
  refine j_split_dec (t:=11) rfl (fun h3=>by exfalso;omega) (fun h3=>?_)
  refine j_run it 1 rfl (by simp) ?_
  refine j_gstep rfl rfl (x_call [1] rfl (S_nat_Bits) rfl ?_)
  rintro _ _ _ ⟨rfl,rfl,rfl⟩
  simp only [List.cons_append,List.nil_append]
  refine j_run it 2 rfl (by simp) ?_
  refine j_nf [_,_] rfl (j_if rfl rfl (fun h4=>by exfalso;omega) (fun h4=>?_))
  refine j_nf [_,_] rfl (j_run it 2 rfl (by simp) ?_)
  refine j_step rfl (x_call [0,1] rfl (S_nat_Gcd (by omega) (by omega)) rfl ?_)
  rintro _ _ _ ⟨pa1,ca1,rfl,rfl,rfl⟩
  simp only [List.cons_append,List.nil_append]
  refine j_run it 1 rfl (by simp) ?_
  refine j_nf [_,_] rfl (j_run it 2 rfl (by simp) ?_)
  refine j_step rfl (x_call [1,0] rfl (S_nat_DivMod (by omega) (by omega)) rfl ?_)
  rintro _ _ _ ⟨p11,c11,p21,c21,rfl,rfl,rfl⟩
  simp only [List.cons_append,List.nil_append]
  refine j_run it 5 rfl (by simp) ?_
  refine j_nf [_,_] rfl (j_run it 2 rfl (by simp) ?_)
  refine j_step rfl (x_call [4,2] rfl (S_nat_DivMod (by omega) (by omega)) rfl ?_)
  rintro _ _ _ ⟨p12,c12,p22,c22,rfl,rfl,rfl⟩
  simp only [List.cons_append,List.nil_append]
  refine j_run it 5 rfl (by simp) ?_
  refine j_nf [_,_] rfl (j_run it 3 rfl (by simp) ?_)
  refine j_step rfl (x_build (cs:=[Value.bool neg,Value.slice p11 (limbs (val N / val (limbs ((val N).gcd (val D))))).length c11,Value.slice p12 (limbs (val D / val (limbs ((val N).gcd (val D))))).length c12]) st60 zo60 rfl rfl ?_)
  refine j_step rfl (x_bst_all 0 rfl rfl rfl ld60 rfl rfl (by simp [Value.oneCell']) ?_)
  refine j_nf [_] rfl ?_
  refine j_givC [2,0] rfl (.agg 0 rfl rfl ld60 rfl .nil) rfl ⟨p11,c11,p12,c12,by rw [e];rfl,by rw [e],rfl⟩
set_option maxHeartbeats 1000000
set_option maxHeartbeats 2000000
theorem S_codewrightref02_Same {g1 g2 : Bool} {pn1 pd1 pn2 pd2 : Option Addr} {n1 m1 n2 m2 cn1 cd1 cn2 cd2 : Nat} {N1 D1 N2 D2 : List Nat} :
  Ctr Try.prog 28 [.agg #[.bool g1,.slice pn1 n1 cn1,.slice pd1 m1 cd1],.agg #[.bool g2,.slice pn2 n2 cn2,.slice pd2 m2 cd2]] [] [slF U32 pn1 n1 cn1 N1,slF U32 pd1 m1 cd1 D1,slF U32 pn2 n2 cn2 N2,slF U32 pd2 m2 cd2 D2] (Rv (.bool (decide ((g1,N1,D1) = (g2,N2,D2)))) []):=by
 refine Ctr_of_j' (F:=F_codewrightref02_Same) rfl fun C=>?_
 refine j_nf [_,_] rfl (j_step rfl (x_box_agg rfl fun b1=>?_))
 refine j_step rfl (x_box_agg rfl fun b2=>?_)
 refine j_run it 1 rfl (by simp) ?_
 refine j_nf [_,_] rfl (j_step rfl (x_field rfl fd60_0 ?_))
 refine j_step rfl (x_bld 1 rfl rfl ld4 rfl ?_)
 refine j_step rfl (x_field rfl fd60_0 ?_)
 refine j_step rfl (x_bld 0 rfl rfl ld4 rfl ?_)
 refine j_step rfl (x_eqb ub rfl rfl ?_)
 refine j_run it 1 rfl (by simp) ?_
 refine j_split (t:=10) rfl (fun h1=>?_) (fun h1=>?_)
 ·have hg : g1 = g2:=by simpa using h1
  refine j_gstep rfl rfl (x_field rfl fd60_1 ?_)
  refine j_gstep rfl rfl (x_bld 1 rfl rfl ld29 rfl ?_)
  refine j_gstep rfl rfl (x_field rfl fd60_1 ?_)
  refine j_gstep rfl rfl (x_bld 0 rfl rfl ld29 rfl ?_)
  refine j_gstep rfl rfl (x_call [0,2] rfl (S_codewrightref01_Same) rfl ?_)
  rintro _ _ _ ⟨rfl,rfl,rfl⟩
  simp only [List.cons_append,List.nil_append]
  refine j_run it 2 rfl (by simp) ?_
  refine j_split_dec (t:=17) rfl (fun h2=>?_) (fun h2=>?_)
  ·refine j_gstep rfl rfl (x_field rfl fd60_2 ?_)
   refine j_gstep rfl rfl (x_bld 1 rfl rfl ld29 rfl ?_)
   refine j_gstep rfl rfl (x_field rfl fd60_2 ?_)
   refine j_gstep rfl rfl (x_bld 0 rfl rfl ld29 rfl ?_)
   refine j_gstep rfl rfl (x_call [1,3] rfl (S_codewrightref01_Same) rfl ?_)
   rintro _ _ _ ⟨rfl,rfl,rfl⟩
   simp only [List.cons_append,List.nil_append]
   refine j_run it 2 rfl (by simp) ?_
   refine j_nf [_] rfl ?_
   refine j_giv [] rfl rfl rfl ⟨by subst hg;subst h2;simp [resVal],rfl,rfl⟩
  ·refine j_run it 7 rfl (by simp) ?_
   refine j_nf [_] rfl ?_
   refine j_giv [] rfl rfl rfl ⟨by rw [decide_eq_false (fun h=>h2 (by injection h with _ h;injection h))];rfl,rfl,rfl⟩
 ·have hg : g1 ≠ g2:=by simpa using h1
  refine j_run it 14 rfl (by simp) ?_
  refine j_nf [_] rfl ?_
  refine j_giv [] rfl rfl rfl ⟨by rw [decide_eq_false (fun h=>hg (by injection h))];rfl,rfl,rfl⟩
theorem cmp_top {a b : List Nat} {k : Nat} (ha : ∀ x ∈ a,x < 4294967296) (hR : val a + val (b.take (k + 1)) = val b + val (a.take (k + 1))) (h : a.getD k 0 < b.getD k 0) : val a < val b:=by
 rw [val_take_getD,val_take_getD] at hR
 have h1 : val (a.take k) < 4294967296 ^ k:=by
  have:=val_lt (l:=a.take k) (fun x hx=>ha x (List.mem_of_mem_take hx))
  rw [List.length_take] at this
  exact Nat.lt_of_lt_of_le this (Nat.pow_le_pow_right (by decide) (Nat.min_le_left _ _))
 generalize 4294967296 ^ k = P at *
 have h2 : P * (a.getD k 0 + 1) ≤ P * b.getD k 0:=Nat.mul_le_mul_left _ h
 rw [Nat.mul_succ] at h2
 omega
theorem S_codewrightref01_Cmp {pa pb : Option Addr} {n m ca cb : Nat} {a b : List Nat} :
  Ctr Try.prog 62 [.slice pa n ca,.slice pb m cb] [] [slF U32 pa n ca a,slF U32 pb m cb b] (Rv (.int .i64 (cmpN (val a) (val b))) []):=by
 refine Ctr_of_j' (F:=F_codewrightref01_Cmp) rfl fun C=>?_
 refine j_len 0 rfl fun hn hba _=>?_
 refine j_len 1 rfl fun hm hbb _=>?_
 subst hn;subst hm
 have hba' : a.length * 4 ≤ 140737488355328:=hba
 have hbb' : b.length * 4 ≤ 140737488355328:=hbb
 refine j_range 0 rfl fun hra=>?_
 refine j_range 1 rfl fun hrb=>?_
 have ha : ∀ x ∈ a,x < 4294967296:=fun x hx=>by have:=hra x hx;simp only [InR] at this;omega
 have hb : ∀ x ∈ b,x < 4294967296:=fun x hx=>by have:=hrb x hx;simp only [InR] at this;omega
 obtain ⟨M,hM1,hM2,hM3,hM4⟩ : ∃ M : Nat,a.length ≤ M ∧ b.length ≤ M ∧ M ≤ 35184372088832 ∧ (if (a.length : Int) < b.length then (b.length : Int) else a.length) = M :=
  ⟨max a.length b.length,by omega,by omega,by omega,by split <;> omega⟩
 refine j_nf [_,_] rfl (j_run it 1 rfl (by simp) ?_)
 refine j_nf [_,_,_] rfl (j_run it 1 rfl (by simp) ?_)
 refine j_step rfl (x_len sl29 rfl ?_)
 refine j_run it 1 rfl (by simp) ?_
 refine j_step rfl (x_len sl29 rfl ?_)
 refine j_step rfl (x_max rfl rfl ?_) --ok
 rw [hM4]
 refine j_run it 2 rfl ⟨trivial,⟨by omega,by omega⟩,trivial⟩ ?_
 refine j_nf [_,_,_] rfl ?_
 refine j_loopG (X:=Nat) [0,1] [0,1] (fun k=>[(5,.int .i64 ((k : Int) - 1))]) (fun _=>[]) (fun _=>[]) (fun k=>k ≤ M ∧ val a + val (b.take k) = val b + val (a.take k)) (fun k=>k) M [] rfl rfl rfl ⟨Nat.le_refl _,by rw [List.take_of_length_le (by omega),List.take_of_length_le (by omega)];omega⟩ (by repeat (first | exact Fr.sub_nil _ | refine Fr.sub_cons rfl ?_)) rfl rfl ?_
 intro k ⟨hk,hR⟩ ih
 simp only [List.cons_append,List.nil_append] at ih ⊢
 by_cases hk0 : 0 < k
 ·obtain ⟨j,rfl⟩ : ∃ j,k = j + 1:=⟨k - 1,by omega⟩
  rw [show (((j + 1 : Nat) : Int) - 1) = (j : Int) by omega]
  by_cases h1 : a.getD j 0 < b.getD j 0
  ·rw [cmpN_lt (cmp_top ha hR h1)]
   refine j_nf [_,_,_,_,_,_] rfl (j_run it 2 rfl (by simp) ?_)
   refine j_nf [_,_,_,_,_] rfl (j_if rfl rfl (fun h2=>?_) (fun h2=>by exfalso;omega))
   refine j_nf [_,_,_,_,_,_,_,_] rfl (j_run it 2 rfl (by simp) ?_)
   refine j_step rfl (x_call [0] rfl (S_codewrightref01_limb) rfl ?_)
   rintro _ _ _ ⟨rfl,rfl,rfl⟩
   simp only [List.cons_append,List.nil_append]
   refine j_run it 2 rfl (by simp) ?_
   refine j_step rfl (x_call [1] rfl (S_codewrightref01_limb) rfl ?_)
   rintro _ _ _ ⟨rfl,rfl,rfl⟩
   simp only [List.cons_append,List.nil_append]
   refine j_run it 1 rfl (by simp) ?_
   refine j_nf [_,_,_,_,_,_,_] rfl (j_if rfl rfl (fun h3=>?_) (fun h3=>by exfalso;omega))
   refine j_nf [_,_,_,_,_,_,_,_] rfl (j_run it 1 rfl (by simp) ?_)
   refine j_nf [_,_,_,_,_,_,_] rfl ?_
   refine j_giv [] rfl rfl rfl ⟨rfl,rfl,rfl⟩
  by_cases h2 : b.getD j 0 < a.getD j 0
  ·rw [cmpN_gt (cmp_top hb hR.symm h2)]
   refine j_nf [_,_,_,_,_,_] rfl (j_run it 2 rfl (by simp) ?_)
   refine j_nf [_,_,_,_,_] rfl (j_if rfl rfl (fun h3=>?_) (fun h3=>by exfalso;omega))
   refine j_nf [_,_,_,_,_,_,_,_] rfl (j_run it 2 rfl (by simp) ?_)
   refine j_step rfl (x_call [0] rfl (S_codewrightref01_limb) rfl ?_)
   rintro _ _ _ ⟨rfl,rfl,rfl⟩
   simp only [List.cons_append,List.nil_append]
   refine j_run it 2 rfl (by simp) ?_
   refine j_step rfl (x_call [1] rfl (S_codewrightref01_limb) rfl ?_)
   rintro _ _ _ ⟨rfl,rfl,rfl⟩
   simp only [List.cons_append,List.nil_append]
   refine j_run it 1 rfl (by simp) ?_
   refine j_nf [_,_,_,_,_,_,_] rfl (j_if rfl rfl (fun h4=>by exfalso;omega) (fun h4=>?_))
   refine j_nf [_,_,_,_,_,_,_] rfl (j_run it 2 rfl (by simp) ?_)
   refine j_step rfl (x_call [0] rfl (S_codewrightref01_limb) rfl ?_)
   rintro _ _ _ ⟨rfl,rfl,rfl⟩
   simp only [List.cons_append,List.nil_append]
   refine j_run it 2 rfl (by simp) ?_
   refine j_step rfl (x_call [1] rfl (S_codewrightref01_limb) rfl ?_)
   rintro _ _ _ ⟨rfl,rfl,rfl⟩
   simp only [List.cons_append,List.nil_append]
   refine j_run it 1 rfl (by simp) ?_
   refine j_nf [_,_,_,_,_,_] rfl (j_if rfl rfl (fun h5=>?_) (fun h5=>by exfalso;omega))
   refine j_nf [_,_,_,_,_,_,_] rfl (j_run it 1 rfl (by simp) ?_)
   refine j_nf [_,_,_,_,_,_] rfl ?_
   refine j_giv [] rfl rfl rfl ⟨rfl,rfl,rfl⟩
  ·refine j_nf [_,_,_,_,_,_] rfl (j_run it 2 rfl (by simp) ?_)
   refine j_nf [_,_,_,_,_] rfl (j_if rfl rfl (fun h3=>?_) (fun h3=>by exfalso;omega))
   refine j_nf [_,_,_,_,_,_,_,_] rfl (j_run it 2 rfl (by simp) ?_)
   refine j_step rfl (x_call [0] rfl (S_codewrightref01_limb) rfl ?_)
   rintro _ _ _ ⟨rfl,rfl,rfl⟩
   simp only [List.cons_append,List.nil_append]
   refine j_run it 2 rfl (by simp) ?_
   refine j_step rfl (x_call [1] rfl (S_codewrightref01_limb) rfl ?_)
   rintro _ _ _ ⟨rfl,rfl,rfl⟩
   simp only [List.cons_append,List.nil_append]
   refine j_run it 1 rfl (by simp) ?_
   refine j_nf [_,_,_,_,_,_,_] rfl (j_if rfl rfl (fun h4=>by exfalso;omega) (fun h4=>?_))
   refine j_nf [_,_,_,_,_,_,_] rfl (j_run it 2 rfl (by simp) ?_)
   refine j_step rfl (x_call [0] rfl (S_codewrightref01_limb) rfl ?_)
   rintro _ _ _ ⟨rfl,rfl,rfl⟩
   simp only [List.cons_append,List.nil_append]
   refine j_run it 2 rfl (by simp) ?_
   refine j_step rfl (x_call [1] rfl (S_codewrightref01_limb) rfl ?_)
   rintro _ _ _ ⟨rfl,rfl,rfl⟩
   simp only [List.cons_append,List.nil_append]
   refine j_run it 1 rfl (by simp) ?_
   refine j_nf [_,_,_,_,_,_] rfl (j_if rfl rfl (fun h5=>by exfalso;omega) (fun h5=>?_))
   refine j_nf [_,_,_,_] rfl (j_run it 3 rfl ⟨trivial,⟨by omega,by omega⟩,trivial,trivial⟩ ?_)
   refine j_nfn 1 [.lp [1,0,1,0,0],.blk 0,.c [1,1]] rfl ?_
   refine j_to [0,1] (by exact fra rfl) rfl rfl (ih j (by omega) ⟨by omega,by
    rw [val_take_getD,val_take_getD] at hR
    have e : a.getD j 0 = b.getD j 0:=by omega
    rw [e] at hR
    omega⟩)
 ·have : k = 0:=by omega
  subst this
  have e : val a = val b:=by simp [val] at hR;exact hR
  rw [cmpN_eq e]
  refine j_nf [_,_,_,_,_,_] rfl (j_run it 2 rfl (by simp) ?_)
  refine j_nf [_,_,_,_,_] rfl (j_if rfl rfl (fun h1=>by exfalso;omega) (fun h1=>?_))
  refine j_nf [_,_] rfl (j_run it 1 rfl (by simp) ?_)
  refine j_nf [_] rfl ?_
  refine j_giv [] rfl rfl rfl ⟨rfl,rfl,rfl⟩
theorem S_codewrightref01_Sub {pa pb : Option Addr} {n m ca cb : Nat} {a b : List Nat} (hab : val b ≤ val a) :
  Ctr Try.prog 113 [.slice pa n ca,.slice pb m cb] [] [slF U32 pa n ca a,slF U32 pb m cb b] (Sv U32 (limbs (val a - val b))):=by
 refine Ctr_of_j' (F:=F_codewrightref01_Sub) rfl fun C=>?_
 refine j_len 0 rfl fun hn hba _=>?_
 refine j_len 1 rfl fun hm _ _=>?_
 subst hn;subst hm
 have hba' : a.length * 4 ≤ 140737488355328:=hba
 refine j_range 0 rfl fun hra=>?_
 refine j_range 1 rfl fun hrb=>?_
 have ha : ∀ x ∈ a,x < 4294967296:=fun x hx=>by have:=hra x hx;simp only [InR] at this;omega
 have hb : ∀ x ∈ b,x < 4294967296:=fun x hx=>by have:=hrb x hx;simp only [InR] at this;omega
 refine j_nf [_,_] rfl (j_run it 1 rfl (by simp) ?_)
 refine j_nf [_,_] rfl (j_run it 1 rfl (by simp) ?_)
 refine j_nf [_,_] rfl (j_run it 1 rfl (by simp) ?_)
 refine j_nf [_,_,_] rfl (j_run it 1 rfl (by simp) ?_)
 refine j_nf [_,_,_] rfl ?_
 refine j_nil 76 ?_
 refine j_loopG (X:=Nat × Nat × List Nat × Option Nat × Nat × List Value) [0,1,4] [0,1] (fun x=>[(5,.slice (ad x.2.2.2.1) x.1 x.2.2.2.2.1),(6,.int .u64 x.2.1),(7,.int .i64 x.1)])
  (fun x=>[(x.2.2.2.1,76,x.2.2.2.2.2)]) (fun _=>[])
  (fun x=>(x.1 ≤ a.length ∧ x.2.1 ≤ 1 ∧ x.2.2.1.length = x.1) ∧ (∀ y ∈ x.2.2.1,y < 4294967296) ∧ val x.2.2.1 + val (b.take x.1) = val (a.take x.1) + 4294967296 ^ x.1 * x.2.1 ∧ GrOk x.2.2.2.1 x.1 x.2.2.2.2.1 1 x.2.2.2.2.2 ∧ x.2.2.2.2.2.take x.1 = natCells .u32 x.2.2.1)
  (fun x=>a.length - x.1) (0,0,[],none,0,[]) [] rfl rfl rfl ⟨⟨Nat.zero_le _,Nat.zero_le _,rfl⟩,(fun y hy=>by cases hy),by simp [val],GrOk.nil _,rfl⟩ (by repeat (first | exact Fr.sub_nil _ | refine Fr.sub_cons rfl ?_)) rfl rfl ?_
 rintro ⟨k,c,out,bo,cap,cs⟩ ⟨⟨hk,hc,hl⟩,ho,hv,hg,ht⟩ ih
 simp only [List.cons_append,List.nil_append] at hk hc hl ho hv hg ht ih ⊢
 by_cases hkl : k < a.length
 ·have h1:=getD_lt (k:=k) ha (by decide)
  have h2:=getD_lt (k:=k) hb (by decide)
  refine j_nf [_,_,_,_,_,_] rfl (j_run it 2 rfl (by simp) ?_)
  refine j_step rfl (x_len sl29 rfl ?_)
  refine j_run it 1 rfl (by simp) ?_
  refine j_nf [_,_,_,_,_] rfl (j_if rfl rfl (fun h3=>?_) (fun h3=>by exfalso;omega))
  refine j_nf [_,_,_,_,_,_,_] rfl (j_run it 2 rfl (by simp) ?_)
  refine j_step rfl (x_call [0] rfl (S_codewrightref01_limb) rfl ?_)
  rintro _ _ _ ⟨rfl,rfl,rfl⟩
  simp only [List.cons_append,List.nil_append]
  refine j_run it 3 rfl ⟨trivial,trivial,⟨by omega,by omega⟩,trivial⟩ ?_
  refine j_step rfl (x_call [1] rfl (S_codewrightref01_limb) rfl ?_)
  rintro _ _ _ ⟨rfl,rfl,rfl⟩
  simp only [List.cons_append,List.nil_append]
  refine j_run it 4 rfl ⟨trivial,⟨by omega,by omega⟩,trivial,⟨by omega,by omega⟩,trivial⟩ ?_
  refine j_nf [_,_,_,_,_,_,_] rfl (j_run it 4 rfl ⟨⟨by omega,by omega⟩,⟨by omega,by omega⟩,trivial,trivial,trivial⟩ ?_)
  refine j_step rfl (x_lit sl29 zo29e rfl rfl rfl rfl (by decide) (by decide) rfl fun b1=>?_)
  refine j_step rfl (x_app 1 0 rfl rfl rfl rfl sl29 zo29e rfl (by first | exact GrOk.nil _ | assumption | exact .inr ⟨_,rfl,Nat.le_refl _,by omega,rfl⟩) rfl rfl (by first | (simp [Value.oneCell'];done) | (simp [Value.oneCell',cellsL];done) | (intro u hu;rcases List.mem_singleton.1 hu with rfl;rfl)) (by omega) _ by29e (by omega) fun bo1 cap1 cs1 hg1 ht1=>?_)
  refine j_run it 1 rfl (by simp) ?_
  refine j_nf [_,_,_,_,_,_] rfl (j_run it 4 rfl ⟨trivial,⟨by omega,by omega⟩,⟨by omega,by omega,by omega,by omega⟩,trivial,trivial⟩ ?_)
  refine j_nf [_,_,_,_] rfl (j_run it 3 rfl ⟨trivial,⟨by omega,by omega⟩,trivial,trivial⟩ ?_)
  refine j_nfn 1 [.lp (pL 244),.blk 0,.c [1,1,1,1]] rfl ?_
  simp only [Nat.mul_one] at hg1 ht1
  have hcell : ((a.getD k 0 : Int) + 4294967296 - b.getD k 0 - c) % 4294967296 = ((a.getD k 0 + 4294967296 - b.getD k 0 - c) % 4294967296 : Nat):=by omega
  have hbor : (1 - ((a.getD k 0 : Int) + 4294967296 - b.getD k 0 - c) / 4294967296) = ((1 - (a.getD k 0 + 4294967296 - b.getD k 0 - c) / 4294967296 : Nat) : Int):=by omega
  rw [hbor]
  obtain ⟨hw1,hw2⟩:=sub_word h1 h2 hc rfl
  have hst:=sub_step hv hc h1 h2 rfl
  have hwB : (a.getD k 0 + 4294967296 - b.getD k 0 - c) % 4294967296 < 4294967296:=Nat.mod_lt _ (by decide)
  refine j_toM [true,false] [0,1] (by exact fra rfl) rfl rfl (ih (k + 1,1 - (a.getD k 0 + 4294967296 - b.getD k 0 - c) / 4294967296,out++[(a.getD k 0 + 4294967296 - b.getD k 0 - c) % 4294967296],bo1,cap1,cs1) (by simp only;omega)
   ⟨⟨by simp only;omega,hw2,by simp [hl]⟩,snoc_lt ho hwB,by
    simp only
    rw [val_snoc,hl,Nat.pow_succ,val_take_getD,val_take_getD]
    exact hst,hg1,by
    simp only
    rw [ht1,ht,natCells_append]
    congr 1
    simp only [List.flatten_cons,List.flatten_nil,List.append_nil,cellsL,natCells,List.map_cons,List.map_nil]
    rw [hcell];rfl⟩)
 ·have ek : k = a.length:=by omega
  subst ek
  rw [List.take_length] at hv
  obtain ⟨-,hres⟩:=sub_end ho hl hc hab hv
  refine j_nf [_,_,_,_,_,_] rfl (j_run it 2 rfl (by simp) ?_)
  refine j_step rfl (x_len sl29 rfl ?_)
  refine j_run it 1 rfl (by simp) ?_
  refine j_nf [_,_,_,_,_] rfl (j_if rfl rfl (fun h1=>by exfalso;omega) (fun h1=>?_))
  refine j_nf [_,_] rfl (j_run it 1 rfl (by simp) ?_)
  refine j_pub_nat (kd:=.u32) 4 out 0 rfl hg ht hl.symm (fun x hx=>by have:=ho x hx;simp only [InR];omega) (by omega) ?_
  refine j_step rfl (x_call [0] rfl (S_codewrightref01_Trim) rfl ?_)
  rintro _ _ _ ⟨pa1,ca1,rfl,rfl,rfl⟩
  simp only [List.cons_append,List.nil_append]
  refine j_run it 1 rfl (by simp) ?_
  refine j_nf [_] rfl ?_
  rw [trim_eq ho,hres]
  refine j_giv [0] rfl rfl rfl ⟨_,_,rfl,rfl,rfl⟩
theorem natCells_snoc (k : IntKind) (l : List Nat) (x : Nat) : natCells k (l++[x]) = natCells k l++[.int k x]:=by simp [natCells]
theorem val_zeros_append (n : Nat) (l : List Nat) : val (List.replicate n 0++l) = 4294967296 ^ n * val l:=by
 rw [val_append,val_replicate,List.length_replicate,Nat.zero_add]
theorem S_codewrightref01_shift {pa : Option Addr} {m ca n : Nat} {a : List Nat} (ha : a.length ≤ 1073741824) (hn : n ≤ 1099511627776) :
  Ctr Try.prog 112 [.slice pa m ca,.int .i64 n] [] [slF U32 pa m ca a] (Sv U32 (limbs (val a * 2 ^ n))):=by
 refine Ctr_of_j' (F:=F_codewrightref01_shift) rfl fun C=>?_
 refine j_len 0 rfl fun hm hba _=>?_
 subst hm
 refine j_range 0 rfl fun hra=>?_
 have hra' : ∀ x ∈ a,x < 4294967296:=fun x hx=>by have:=hra x hx;simp only [InR] at this;omega
 have hs : n % 32 < 32:=Nat.mod_lt _ (by decide)
 have hdiv : ((n : Int) / 32) = ((n / 32 : Nat) : Int):=by omega
 have hmod : ((n : Int) % 32) = ((n % 32 : Nat) : Int):=by omega
 have hpow : 2 ^ n = 4294967296 ^ (n / 32) * 2 ^ (n % 32):=by
  rw [show (4294967296 : Nat) = 2 ^ 32 from rfl,← Nat.pow_mul,← Nat.pow_add]
  congr 1;omega
 refine j_nf [_,_] rfl (j_run it 1 rfl (by simp) ?_)
 refine j_nf [_,_] rfl (j_run it 2 rfl ⟨⟨by omega,by omega,by omega,by omega⟩,trivial,trivial⟩ ?_)
 refine j_step rfl (x_make_nat ((n) / 32) _ rfl rfl sl29 zo29e by29e (by omega) (by omega) (by omega) fun b1=>?_)
 refine j_run it 1 rfl (by simp) ?_
 refine j_nf [_,_] rfl (j_run it 1 rfl (by simp) ?_)
 refine j_nf [_,_,_] rfl (j_run it 1 rfl (by simp) ?_)
 refine j_nf [_,_,_] rfl ?_
 refine j_loopG (X:=Nat × Nat × List Nat × Option Nat × Nat × List Value) [0,1,4] [0] (fun x=>[(5,.slice (ad x.2.2.2.1) (n / 32 + x.1) x.2.2.2.2.1),(6,.int .u64 x.2.1),(7,.int .i64 x.1)])
  (fun x=>[(x.2.2.2.1,76,x.2.2.2.2.2)]) (fun _=>[])
  (fun x=>(x.1 ≤ a.length ∧ x.2.1 < 2 ^ (n % 32) ∧ x.2.2.1.length = x.1) ∧ (∀ y ∈ x.2.2.1,y < 4294967296) ∧ val x.2.2.1 + 4294967296 ^ x.1 * x.2.1 = val (a.take x.1) * 2 ^ (n % 32) ∧ GrOk x.2.2.2.1 (n / 32 + x.1) x.2.2.2.2.1 1 x.2.2.2.2.2 ∧ x.2.2.2.2.2.take (n / 32 + x.1) = natCells .u32 (List.replicate (n / 32) 0++x.2.2.1))
  (fun x=>a.length - x.1) (0,0,[],some b1,n / 32,natCells .u32 (List.replicate (n / 32) 0)) [] rfl rfl rfl ⟨⟨Nat.zero_le _,Nat.pow_pos (by decide),rfl⟩,(fun y hy=>by cases hy),by simp [val],.inr ⟨b1,rfl,Nat.le_refl _,by dsimp only;omega,by simp⟩,by simp [natCells_take]⟩ (by repeat (first | exact Fr.sub_nil _ | refine Fr.sub_cons rfl ?_)) rfl rfl ?_
 rintro ⟨k,c,out,bo,cap,cs⟩ ⟨⟨hk,hc,hl⟩,ho,hv,hg,ht⟩ ih
 simp only [List.cons_append,List.nil_append] at hk hc hl ho hv hg ht ih ⊢
 by_cases hkl : k < a.length
 ·refine j_nf [_,_,_,_,_,_] rfl (j_run it 2 rfl (by simp) ?_)
  refine j_step rfl (x_len sl29 rfl ?_)
  refine j_run it 1 rfl (by simp) ?_
  refine j_nf [_,_,_,_,_] rfl (j_if rfl rfl (fun h1=>?_) (fun h1=>by exfalso;omega))
  refine j_nf [_,_,_,_,_,_,_] rfl (j_run it 2 rfl (by simp) ?_)
  refine j_step rfl (x_idx 0 (k) rfl rfl rfl sl29 rfl (by omega) fun z1 hz1 b2 o1=>?_)
  refine j_step rfl (x_ld_nat 0 rfl rfl ld76 fun ⟨r1,r2⟩=>?_)
  refine j_run it 3 rfl ⟨⟨by omega,by omega⟩,trivial,⟨by omega,by omega⟩,trivial⟩ ?_ --ok
  have hxl:=hra' _ (List.mem_of_getElem? hz1)
  obtain ⟨hs1,hs2,hs3⟩:=shl_lt hxl hs
  refine j_step rfl (x_shl_nat (z1) ((n) % 32) rfl rfl (by first | rfl | omega) (by first | rfl | omega) (by first | decide | (simp only [IntKind.bits];omega)) (by first | assumption | (simp only [InR];omega)) ?_)
  refine j_run it 3 rfl ⟨trivial,⟨by omega,by omega⟩,trivial,trivial⟩ ?_
  refine j_nf [_,_,_,_,_,_,_] rfl (j_run it 4 rfl ⟨⟨by omega,by omega⟩,⟨by omega,by omega⟩,trivial,trivial,trivial⟩ ?_)
  refine j_step rfl (x_lit sl29 zo29e rfl rfl rfl rfl (by decide) (by decide) rfl fun b3=>?_)
  refine j_step rfl (x_app 1 0 rfl rfl rfl rfl sl29 zo29e rfl (by first | exact GrOk.nil _ | assumption | exact .inr ⟨_,rfl,Nat.le_refl _,by omega,rfl⟩) rfl rfl (by first | (simp [Value.oneCell'];done) | (simp [Value.oneCell',cellsL];done) | (intro u hu;rcases List.mem_singleton.1 hu with rfl;rfl)) (by omega) _ by29e (by omega) fun bo1 cap1 cs1 hg1 ht1=>?_)
  refine j_run it 1 rfl (by simp) ?_
  refine j_nf [_,_,_,_,_,_] rfl (j_run it 3 rfl ⟨trivial,⟨by omega,by omega,by omega,by omega⟩,trivial,trivial⟩ ?_)
  refine j_nf [_,_,_,_] rfl (j_run it 3 rfl ⟨trivial,⟨by omega,by omega⟩,trivial,trivial⟩ ?_)
  refine j_nfn 1 [.lp (pL 244),.blk 0,.c [1,1,1,1]] rfl ?_
  simp only [Nat.mul_one] at hg1 ht1
  have hdv : (z1 * 2 ^ (n % 32) + c) / 4294967296 < 2 ^ (n % 32):=by
   rw [Nat.div_lt_iff_lt_mul (by decide)]
   have:=Nat.mul_le_mul_right (2 ^ (n % 32)) hxl
   rw [Nat.succ_mul] at this
   omega
  have hmB : (z1 * 2 ^ (n % 32) + c) % 4294967296 < 4294967296:=Nat.mod_lt _ (by decide)
  refine j_toM [true,false] [1] (by exact fra rfl) rfl rfl (ih (k + 1,(z1 * 2 ^ (n % 32) + c) / 4294967296,out++[(z1 * 2 ^ (n % 32) + c) % 4294967296],bo1,cap1,cs1) (by simp only;omega)
   ⟨⟨by simp only;omega,hdv,by simp [hl]⟩,snoc_lt ho hmB,by
    simp only
    rw [val_snoc,hl,Nat.pow_succ,val_take_succ hz1,Nat.add_mul]
    generalize hS : z1 * 2 ^ (n % 32) + c = s
    have e : s % 4294967296 + 4294967296 * (s / 4294967296) = s:=by omega
    have e2 : 4294967296 ^ k * (s % 4294967296) + 4294967296 ^ k * 4294967296 * (s / 4294967296) = 4294967296 ^ k * (z1 * 2 ^ (n % 32)) + 4294967296 ^ k * c:=by
     rw [Nat.mul_assoc,← Nat.mul_add,← Nat.mul_add,e,hS]
    rw [Nat.mul_assoc (4294967296 ^ k) z1]
    omega,hg1,by
    simp only
    rw [← Nat.add_assoc,ht1,ht,← List.append_assoc,natCells_snoc];rfl⟩)
 ·have ek : k = a.length:=by omega
  subst ek
  obtain ⟨_,_,hs3⟩:=shl_lt (x:=0) (by decide) hs
  rw [List.take_length] at hv
  refine j_nf [_,_,_,_,_,_] rfl (j_run it 2 rfl (by simp) ?_)
  refine j_step rfl (x_len sl29 rfl ?_)
  refine j_run it 1 rfl (by simp) ?_
  refine j_nf [_,_,_,_,_] rfl (j_if rfl rfl (fun h1=>by exfalso;omega) (fun h1=>?_))
  refine j_nf [_,_] rfl (j_run it 3 rfl ⟨⟨by omega,by omega⟩,trivial,trivial,trivial⟩ ?_)
  refine j_step rfl (x_lit sl29 zo29e rfl rfl rfl rfl (by decide) (by decide) rfl fun b2=>?_)
  refine j_step rfl (x_app 1 0 rfl rfl rfl rfl sl29 zo29e rfl (by first | exact GrOk.nil _ | assumption | exact .inr ⟨_,rfl,Nat.le_refl _,by omega,rfl⟩) rfl rfl (by first | (simp [Value.oneCell'];done) | (simp [Value.oneCell',cellsL];done) | (intro u hu;rcases List.mem_singleton.1 hu with rfl;rfl)) (by omega) _ by29e (by omega) fun bo1 cap1 cs1 hg1 ht1=>?_)
  simp only [Nat.mul_one] at hg1 ht1
  refine j_pub_nat (kd:=.u32) 4 (List.replicate (n / 32) 0++(out++[c])) 0 rfl hg1 (by rw [ht1,ht,← List.append_assoc,natCells_snoc];rfl) (by simp [hl];omega) (fun x hx=>by
   simp only [List.mem_append,List.mem_replicate,List.mem_singleton] at hx
   rcases hx with ⟨_,rfl⟩ | hx | rfl
   ·simp [InR]
   ·have:=ho x hx;simp only [InR];omega
   ·simp only [InR];omega) (by omega) ?_
  have hall : ∀ x ∈ List.replicate (n / 32) 0++(out++[c]),x < 4294967296:=fun x hx=>by
   simp only [List.mem_append,List.mem_replicate,List.mem_singleton] at hx
   rcases hx with ⟨_,rfl⟩ | hx | rfl
   ·decide
   ·exact ho x hx
   ·omega
  refine j_step rfl (x_call [0] rfl (S_codewrightref01_Trim) rfl ?_)
  rintro _ _ _ ⟨pa1,ca1,rfl,rfl,rfl⟩
  simp only [List.cons_append,List.nil_append]
  refine j_run it 1 rfl (by simp) ?_
  refine j_nf [_] rfl ?_
  rw [trim_eq hall,val_zeros_append,val_snoc,hl,hv,hpow]
  rw [show 4294967296 ^ (n / 32) * (val a * 2 ^ (n % 32)) = val a * (4294967296 ^ (n / 32) * 2 ^ (n % 32)) by simp only [Nat.mul_left_comm]]
  refine j_giv [0] rfl rfl rfl ⟨_,_,rfl,rfl,rfl⟩
abbrev DivR (A B : Nat) : Value → List Fact → List Blk → Prop:=fun v Φ β=>∃ p1 c1 p2 c2,v = .tuple #[.slice p1 (limbs (A / B)).length c1,.slice p2 (limbs (A % B)).length c2] ∧ Φ = [slF U32 p1 (limbs (A / B)).length c1 (limbs (A / B)),slF U32 p2 (limbs (A % B)).length c2 (limbs (A % B))] ∧ β = []
theorem bitsL_blen {l : List Nat} (h : ∀ x ∈ l,x < 4294967296) : bitsL l = blen (val l):=by
 have ht:=trim_eq h
 rcases Nat.eq_zero_or_pos (trim l).length with h1 | h1
 ·rw [bitsL_nil h1]
  have:=List.eq_nil_of_length_eq_zero h1
  rw [ht,limbs_nil] at this
  rw [this,blen_zero]
 ·obtain ⟨k,hk⟩ : ∃ k,(trim l).length = k + 1:=⟨(trim l).length - 1,by omega⟩
  obtain ⟨t,hz,hz0⟩:=limbs_top (n:=val l) (k:=k) (by rw [← ht];exact hk)
  have hs:=top_split (by rw [← ht];exact hk) hz
  rw [val_limbs] at hs
  rw [← ht] at hz hs
  rw [bitsL_top (z:=t) (by rw [hk];exact hz),hk,Nat.add_sub_cancel]
  have hlow:=take_lt (l:=trim l) (k:=k) (by rw [ht];exact limbs_lt _) (by omega)
  have e : (4294967296 : Nat) ^ k = 2 ^ (32 * k):=by rw [Nat.pow_mul]
  rw [e] at hs hlow
  rw [hs,blen_div (32 * k) (val ((trim l).take k) + 2 ^ (32 * k) * t) (Nat.le_trans (Nat.le_mul_of_pos_right _ (Nat.pos_of_ne_zero hz0)) (Nat.le_add_left _ _)),Nat.add_mul_div_left _ _ (Nat.pow_pos (by decide)),Nat.div_eq_of_lt hlow,Nat.zero_add,Nat.add_comm]
theorem bits_le {l : List Nat} (h : ∀ x ∈ l,x < 4294967296) : bitsL l ≤ 32 * l.length:=by
 rw [bitsL_blen h]
 have:=val_lt h
 exact blen_le (by rw [Nat.pow_mul];exact this)
theorem bit_step {A B Q R s i : Nat} (h : A = Q * B + R) (hR : R < B * 2 ^ (i + 1)) (hs : s = 2 ^ i) (hge : B * s ≤ R) : A = (Q + s) * B + (R - B * s) ∧ R - B * s < B * 2 ^ i:=by
 subst hs
 rw [Nat.pow_succ,← Nat.mul_assoc] at hR
 constructor
 ·rw [Nat.add_mul,Nat.mul_comm (2 ^ i) B];omega
 ·omega
theorem S_codewrightref01_DivMod {pa pb : Option Addr} {n m ca cb : Nat} {a b : List Nat} (hal : a.length ≤ 1073741824) (hbl : b.length ≤ 1073741824) (hb0 : val b ≠ 0) :
  Ctr Try.prog 93 [.slice pa n ca,.slice pb m cb] [] [slF U32 pa n ca a,slF U32 pb m cb b] (DivR (val a) (val b)):=by
 refine Ctr_of_j' (F:=F_codewrightref01_DivMod) rfl fun C=>?_
 refine j_len 0 rfl fun hn hba _=>?_
 refine j_len 1 rfl fun hm hbb _=>?_
 subst hn;subst hm
 refine j_range 0 rfl fun hra=>?_
 refine j_range 1 rfl fun hrb=>?_
 have ha : ∀ x ∈ a,x < 4294967296:=fun x hx=>by have:=hra x hx;simp only [InR] at this;omega
 have hb : ∀ x ∈ b,x < 4294967296:=fun x hx=>by have:=hrb x hx;simp only [InR] at this;omega
 have ea:=trim_eq ha
 have lla:=trim_length_le a
 have ba:=bits_le ha
 have bb:=bits_le hb
 have eba:=bitsL_blen ha
 have ebb:=bitsL_blen hb
 have hst : val a < val b * 2 ^ ((bitsL a : Int) - bitsL b + 1).toNat:=by
  have h1:=blen_lt (val a)
  have h2:=blen_ge hb0
  rw [eba,ebb]
  have h3 : 2 ^ (blen (val b) - 1) * 2 ^ ((blen (val a) : Int) - blen (val b) + 1).toNat ≤ val b * 2 ^ ((blen (val a) : Int) - blen (val b) + 1).toNat:=Nat.mul_le_mul_right _ h2
  rw [← Nat.pow_add] at h3
  have h4 : 2 ^ blen (val a) ≤ 2 ^ (blen (val b) - 1 + ((blen (val a) : Int) - blen (val b) + 1).toNat):=Nat.pow_le_pow_right (by decide) (by omega)
  omega
 refine j_nf [_,_] rfl (j_run it 2 rfl (by simp) ?_)
 refine j_nf [_,_] rfl (j_run it 1 rfl (by simp) ?_)
 refine j_step rfl (x_call [0] rfl (S_codewrightref01_Trim) rfl ?_)
 rintro _ _ _ ⟨pa1,ca1,rfl,rfl,rfl⟩
 simp only [List.cons_append,List.nil_append]
 refine j_run it 1 rfl (by simp) ?_
 refine j_nf [_,_] rfl (j_run it 1 rfl (by simp) ?_)
 refine j_step rfl (x_call [1] rfl (S_codewrightref01_Bits) rfl ?_)
 rintro _ _ _ ⟨rfl,rfl,rfl⟩
 simp only [List.cons_append,List.nil_append]
 refine j_run it 1 rfl (by simp) ?_
 refine j_step rfl (x_call [2] rfl (S_codewrightref01_Bits) rfl ?_)
 rintro _ _ _ ⟨rfl,rfl,rfl⟩
 simp only [List.cons_append,List.nil_append]
 refine j_run it 2 rfl ⟨trivial,⟨by omega,by omega⟩,trivial⟩ ?_
 refine j_nf [_,_,_] rfl (j_run it 2 rfl (by simp) ?_)
 refine j_nf [_,_,_] rfl ?_
 rw [ea]
 rw [ea] at lla
 refine j_add (slF U32 none (limbs 0).length 0 (limbs 0)) (fun w A _=>by rw [limbs_zero];exact slF_nil _ _ _ _ _) ?_
 refine j_loopG (X:=Int × Nat × Nat × (Option Addr × Nat) × (Option Addr × Nat)) [1] [3] (fun x=>[(4,.slice x.2.2.2.1.1 (limbs x.2.1).length x.2.2.2.1.2),(5,.slice x.2.2.2.2.1 (limbs x.2.2.1).length x.2.2.2.2.2),(7,.int .i64 (x.1 - 1))]) (fun _=>[])
  (fun x=>[slF U32 x.2.2.2.1.1 (limbs x.2.1).length x.2.2.2.1.2 (limbs x.2.1),slF U32 x.2.2.2.2.1 (limbs x.2.2.1).length x.2.2.2.2.2 (limbs x.2.2.1)])
  (fun x=>x.1 ≤ (bitsL a : Int) - bitsL b + 1 ∧ val a = x.2.1 * val b + x.2.2.1 ∧ x.2.2.1 < val b * 2 ^ x.1.toNat ∧ -34359738368 ≤ x.1)
  (fun x=>x.1.toNat) ((bitsL a : Int) - bitsL b + 1,0,val a,(none,0),(pa1,ca1)) [0,1] rfl rfl rfl ⟨Int.le_refl _,by simp,hst,by dsimp only;omega⟩ (by rw [limbs_zero];repeat (first | exact Fr.sub_nil _ | refine Fr.sub_cons rfl ?_ | refine Fr.sub_consI rfl (by dsimp only;omega) ?_)) rfl rfl ?_
 rintro ⟨i,Q,R,⟨pq,cq⟩,⟨pr,cr⟩⟩ ⟨hi,hA,hR,hi2⟩ ih
 simp only [List.cons_append,List.nil_append] at hi hA hR hi2 ih ⊢
 by_cases hi0 : 0 < i
 ·obtain ⟨j,rfl⟩ : ∃ j : Nat,i = (j : Int) + 1:=⟨(i - 1).toNat,by omega⟩
  rw [show ((j : Int) + 1 - 1) = (j : Int) by omega]
  rw [show ((j : Int) + 1).toNat = j + 1 by omega] at hR
  have hjn : j ≤ 1099511627776:=by omega
  have hRa : R ≤ val a:=by rw [hA];exact Nat.le_add_left _ _
  have hQa : Q ≤ val a:=by
   have : Q * 1 ≤ Q * val b:=Nat.mul_le_mul_left _ (Nat.pos_of_ne_zero hb0)
   omega
  have lQ:=limbs_mono lla hQa
  by_cases hc : val b * 2 ^ j ≤ R
  ·have hcc : 0 ≤ cmpN (val (limbs R)) (val (limbs (val b * 2 ^ j))):=by rw [val_limbs,val_limbs];unfold cmpN;split <;> (try split) <;> omega
   have hle : val (limbs (val b * 2 ^ j)) ≤ val (limbs R):=by rw [val_limbs,val_limbs];exact hc
   obtain ⟨hA',hR'⟩:=bit_step hA hR rfl hc
   have lQ2 : (limbs (2 ^ j)).length ≤ 1073741824:=limbs_mono (Nat.le_trans lla hal) (by
    have : 1 * 2 ^ j ≤ val b * 2 ^ j:=Nat.mul_le_mul_right _ (Nat.pos_of_ne_zero hb0)
    omega)
   have e1 : val [1] * 2 ^ j = 2 ^ j:=by simp [val]
   refine j_nf [_,_,_,_,_,_] rfl (j_run it 2 rfl (by simp) ?_)
   refine j_nf [_,_,_,_,_] rfl (j_if rfl rfl (fun h1=>?_) (fun h1=>by exfalso;omega))
   refine j_nf [_,_,_,_,_,_,_] rfl (j_run it 2 rfl (by simp) ?_)
   refine j_step rfl (x_call [2] rfl (S_codewrightref01_shift (by omega) (by omega)) rfl ?_)
   rintro _ _ _ ⟨pa2,ca2,rfl,rfl,rfl⟩
   simp only [List.cons_append,List.nil_append]
   refine j_run it 1 rfl (by simp) ?_
   refine j_nf [_,_,_,_,_,_,_] rfl (j_run it 2 rfl (by simp) ?_)
   refine j_step rfl (x_call [2,0] rfl (S_codewrightref01_Cmp) rfl ?_)
   rintro _ _ _ ⟨rfl,rfl,rfl⟩
   simp only [List.cons_append,List.nil_append]
   refine j_run it 1 rfl (by simp) ?_
   refine j_nf [_,_,_,_,_,_] rfl (j_if rfl rfl (fun h2=>?_) (fun h2=>by exfalso;omega))
   refine j_nf [_,_,_,_,_,_,_] rfl (j_run it 2 rfl (by simp) ?_)
   refine j_step rfl (x_call [2,0] rfl (S_codewrightref01_Sub (by omega)) rfl ?_)
   rintro _ _ _ ⟨pa3,ca3,rfl,rfl,rfl⟩
   simp only [List.cons_append,List.nil_append]
   refine j_run it 1 rfl (by simp) ?_
   refine j_nf [_,_,_,_,_,_] rfl (j_run it 1 rfl (by simp) ?_)
   refine j_step rfl (x_lit sl29 zo29e rfl rfl rfl rfl (by decide) (by decide) rfl fun b1=>?_)
   refine j_run it 1 rfl (by simp) ?_
   refine j_pub_made (n:=1) (kd:=IntKind.u32) 4 [1] 0 rfl rfl (by first | (simp [InR];done) | (simp only [InR,List.mem_cons,List.not_mem_nil,or_false,forall_eq_or_imp,forall_eq];omega)) (by decide) (by decide) ?_
   refine j_step rfl (x_call [0] rfl (S_codewrightref01_shift (by simp) (by omega)) rfl ?_)
   rintro _ _ _ ⟨pa4,ca4,rfl,rfl,rfl⟩
   simp only [List.cons_append,List.nil_append] --ok
   rw [e1]
   refine j_step rfl (x_call [4,0] rfl (S_codewrightref01_Add (by omega) (by omega)) rfl ?_)
   rintro _ _ _ ⟨pa5,ca5,rfl,rfl,rfl⟩
   simp only [List.cons_append,List.nil_append]
   refine j_run it 1 rfl (by simp) ?_
   refine j_nf [_,_,_,_] rfl (j_run it 3 rfl ⟨trivial,⟨by omega,by omega⟩,trivial,trivial⟩ ?_)
   refine j_nfn 1 [.lp (pL 244),.blk 0,.c [1,1,1,1]] rfl ?_
   simp only [val_limbs]
   refine j_to [0,3,7] (by exact fra rfl) rfl rfl (ih ((j : Int),Q + 2 ^ j,R - val b * 2 ^ j,(pa5,ca5),(pa3,ca3)) (by dsimp only;omega) ⟨by dsimp only;omega,hA',by dsimp only;rw [Int.toNat_natCast];exact hR',by dsimp only;omega⟩)
  ·have hcc : ¬ 0 ≤ cmpN (val (limbs R)) (val (limbs (val b * 2 ^ j))):=by rw [val_limbs,val_limbs,cmpN_lt (by omega)];decide
   refine j_nf [_,_,_,_,_,_] rfl (j_run it 2 rfl (by simp) ?_)
   refine j_nf [_,_,_,_,_] rfl (j_if rfl rfl (fun h1=>?_) (fun h1=>by exfalso;omega))
   refine j_nf [_,_,_,_,_,_,_] rfl (j_run it 2 rfl (by simp) ?_)
   refine j_step rfl (x_call [2] rfl (S_codewrightref01_shift (by omega) (by omega)) rfl ?_)
   rintro _ _ _ ⟨pa2,ca2,rfl,rfl,rfl⟩
   simp only [List.cons_append,List.nil_append]
   refine j_run it 1 rfl (by simp) ?_
   refine j_nf [_,_,_,_,_,_,_] rfl (j_run it 2 rfl (by simp) ?_)
   refine j_step rfl (x_call [2,0] rfl (S_codewrightref01_Cmp) rfl ?_)
   rintro _ _ _ ⟨rfl,rfl,rfl⟩
   simp only [List.cons_append,List.nil_append]
   refine j_run it 1 rfl (by simp) ?_
   refine j_nf [_,_,_,_,_,_] rfl (j_if rfl rfl (fun h2=>by exfalso;omega) (fun h2=>?_))
   refine j_nf [_,_,_,_] rfl (j_run it 3 rfl ⟨trivial,⟨by omega,by omega⟩,trivial,trivial⟩ ?_)
   refine j_nfn 1 [.lp (pL 244),.blk 0,.c [1,1,1,1]] rfl ?_
   refine j_to [1,2,3] (by exact fra rfl) rfl rfl (ih ((j : Int),Q,R,(pq,cq),(pr,cr)) (by dsimp only;omega) ⟨by dsimp only;omega,hA,by dsimp only;rw [Int.toNat_natCast];omega,by dsimp only;omega⟩)
 ·have e0 : i.toNat = 0:=by omega
  rw [e0,Nat.pow_zero,Nat.mul_one] at hR
  have hQ : Q = val a / val b:=by
   rw [hA,Nat.mul_comm,Nat.mul_add_div (Nat.pos_of_ne_zero hb0),Nat.div_eq_of_lt hR,Nat.add_zero]
  have hRR : R = val a % val b:=by
   rw [hA,Nat.mul_comm,Nat.mul_add_mod,Nat.mod_eq_of_lt hR]
  refine j_nf [_,_,_,_,_,_] rfl (j_run it 2 rfl (by simp) ?_)
  refine j_nf [_,_,_,_,_] rfl (j_if rfl rfl (fun h1=>by exfalso;omega) (fun h1=>?_))
  refine j_nf [_,_] rfl (j_run it 1 rfl (by simp) ?_)
  refine j_step rfl (x_call [0] rfl (S_codewrightref01_Trim) rfl ?_)
  rintro _ _ _ ⟨pa2,ca2,rfl,rfl,rfl⟩
  simp only [List.cons_append,List.nil_append]
  refine j_run it 3 rfl (by simp) ?_
  refine j_nf [_] rfl ?_
  rw [trim_limbs,hQ,hRR]
  refine j_giv [0,2] rfl rfl rfl ⟨_,_,_,_,rfl,rfl,rfl⟩
theorem S_codewrightref01_Gcd {pa pb : Option Addr} {n m ca cb : Nat} {a b : List Nat} (hal : a.length ≤ 1073741824) (hbl : b.length ≤ 1073741824) :
  Ctr Try.prog 92 [.slice pa n ca,.slice pb m cb] [] [slF U32 pa n ca a,slF U32 pb m cb b] (Sv U32 (limbs (Nat.gcd (val a) (val b)))):=by
 refine Ctr_of_j' (F:=F_codewrightref01_Gcd) rfl fun C=>?_
 refine j_len 0 rfl fun hn hba _=>?_
 refine j_len 1 rfl fun hm hbb _=>?_
 subst hn;subst hm
 refine j_nf [_,_] rfl (j_run it 1 rfl (by simp) ?_)
 refine j_nf [_,_,_] rfl ?_
 refine j_loopG (X:=List Nat × List Nat × (Option Addr × Nat) × (Option Addr × Nat)) [4] [] (fun x=>[(0,.slice x.2.2.1.1 x.1.length x.2.2.1.2),(1,.slice x.2.2.2.1 x.2.1.length x.2.2.2.2)]) (fun _=>[]) (fun x=>[slF U32 x.2.2.1.1 x.1.length x.2.2.1.2 x.1,slF U32 x.2.2.2.1 x.2.1.length x.2.2.2.2 x.2.1])
  (fun x=>x.1.length ≤ 1073741824 ∧ x.2.1.length ≤ 1073741824 ∧ Nat.gcd (val x.1) (val x.2.1) = Nat.gcd (val a) (val b)) (fun x=>val x.2.1) (a,b,(pa,ca),(pb,cb)) [0,1] rfl rfl rfl ⟨hal,hbl,rfl⟩ (by repeat (first | exact Fr.sub_nil _ | refine Fr.sub_cons rfl ?_)) rfl rfl ?_
 rintro ⟨x,y,⟨px,cx⟩,⟨py,cy⟩⟩ ⟨hx,hy,hg⟩ ih
 simp only [List.cons_append,List.nil_append] at hx hy hg ih ⊢
 refine j_range 0 rfl fun hrx=>?_
 refine j_range 1 rfl fun hry=>?_
 have hxB : ∀ z ∈ x,z < 4294967296:=fun z hz=>by have:=hrx z hz;simp only [InR] at this;omega
 have hyB : ∀ z ∈ y,z < 4294967296:=fun z hz=>by have:=hry z hz;simp only [InR] at this;omega
 have ey:=trim_eq hyB
 have ex:=trim_eq hxB
 have ly:=trim_length_le y
 by_cases hy0 : val y = 0
 ·have e0 : (trim y).length = 0:=by rw [ey,hy0,limbs_zero];rfl
  refine j_nf [_,_,_,_,_,_] rfl (j_run it 1 rfl (by simp) ?_)
  refine j_step rfl (x_call [1] rfl (S_codewrightref01_Zero) rfl ?_)
  rintro _ _ _ ⟨rfl,rfl,rfl⟩
  simp only [List.cons_append,List.nil_append]
  refine j_run it 1 rfl (by simp) ?_
  refine j_nf [_,_,_,_,_] rfl (j_ifn rfl rfl (fun h1=>by exfalso;omega) (fun h1=>?_))
  refine j_nf [_,_] rfl (j_run it 1 rfl (by simp) ?_)
  refine j_step rfl (x_call [0] rfl (S_codewrightref01_Trim) rfl ?_)
  rintro _ _ _ ⟨pa1,ca1,rfl,rfl,rfl⟩
  simp only [List.cons_append,List.nil_append]
  refine j_run it 1 rfl (by simp) ?_
  refine j_nf [_] rfl ?_
  rw [ex,show val x = Nat.gcd (val a) (val b) by rw [← hg,hy0,Nat.gcd_zero_right]]
  refine j_giv [0] rfl rfl rfl ⟨_,_,rfl,rfl,rfl⟩
 ·have e0 : 0 < (trim y).length:=by rw [ey];exact List.length_pos_iff.2 (fun h=>hy0 (limbs_nil.1 h))
  have hm : val x % val y < val y:=Nat.mod_lt _ (Nat.pos_of_ne_zero hy0)
  refine j_nf [_,_,_,_,_,_] rfl (j_run it 1 rfl (by simp) ?_)
  refine j_step rfl (x_call [1] rfl (S_codewrightref01_Zero) rfl ?_)
  rintro _ _ _ ⟨rfl,rfl,rfl⟩
  simp only [List.cons_append,List.nil_append]
  refine j_run it 1 rfl (by simp) ?_
  refine j_nf [_,_,_,_,_] rfl (j_ifn rfl rfl (fun h1=>?_) (fun h1=>by exfalso;omega))
  refine j_nf [_,_,_,_,_,_] rfl (j_run it 2 rfl (by simp) ?_)
  refine j_step rfl (x_call [0,1] rfl (S_codewrightref01_DivMod (by omega) (by omega) (by omega)) rfl ?_)
  rintro _ _ _ ⟨p11,c11,p21,c21,rfl,rfl,rfl⟩
  simp only [List.cons_append,List.nil_append]
  refine j_run it 5 rfl (by simp) ?_
  refine j_nf [_,_,_,_,_,_] rfl (j_run it 2 rfl (by simp) ?_)
  refine j_nf [_,_,_,_,_] rfl (j_run it 2 rfl (by simp) ?_)
  refine j_nfn 2 [.lp [1,0,0,0],.blk 0,.c [1,1]] rfl ?_
  refine j_to [3,1] (by exact fra rfl) rfl rfl (ih (y,limbs (val x % val y),(py,cy),(p21,c21)) (by dsimp only;rw [val_limbs];exact hm) ⟨hy,by
   dsimp only
   rw [ey] at ly
   exact limbs_mono (Nat.le_trans ly hy) (Nat.le_of_lt hm),by dsimp only;rw [val_limbs,← hg];exact (Nat.gcd_comm _ _).trans ((Nat.gcd_rec (val y) (val x)).symm.trans (Nat.gcd_comm _ _))⟩)
theorem S_codewrightref02_Make {neg : Bool} {pn pd : Option Addr} {n m cn cd : Nat} {N D : List Nat} (hN : N.length ≤ 1073741824) (hD : D.length ≤ 1073741824) :
  Ctr Try.prog 61 [.bool neg,.slice pn n cn,.slice pd m cd] [] [slF U32 pn n cn N,slF U32 pd m cd D] (RtV (rt (vq (neg,N,D)))):=by
 refine Ctr_of_j' (F:=F_codewrightref02_Make) rfl fun C=>?_
 refine j_len 0 rfl fun hn hba _=>?_
 refine j_len 1 rfl fun hm hbb _=>?_
 subst hn;subst hm
 refine j_range 0 rfl fun hra=>?_
 refine j_range 1 rfl fun hrb=>?_
 have ha:=lim hra
 have hb:=lim hrb
 have ea:=trim_eq ha
 have eb:=trim_eq hb
 have za : (trim N).length = 0 ↔ val N = 0:=by rw [ea];exact ⟨fun h=>limbs_nil.1 (List.eq_nil_of_length_eq_zero h),fun h=>by rw [h,limbs_zero];rfl⟩
 have zb : (trim D).length = 0 ↔ val D = 0:=by rw [eb];exact ⟨fun h=>limbs_nil.1 (List.eq_nil_of_length_eq_zero h),fun h=>by rw [h,limbs_zero];rfl⟩
 have zero : val N = 0 ∨ val D = 0 → rt (vq (neg,N,D)) = (false,[],[1]):=fun h=>by rw [vq_eq,mk_zero h,rt_zero]
 by_cases h1 : (trim N).length = 0
 ·have e:=zero (.inl (za.1 h1))
  refine j_nf [_,_] rfl (j_step rfl (x_alloc zo60 fun b1=>?_))
  refine j_nf [_,_,_] rfl (j_run it 1 rfl (by simp) ?_)
  refine j_step rfl (x_call [0] rfl (S_codewrightref01_Zero) rfl ?_)
  rintro _ _ _ ⟨rfl,rfl,rfl⟩
  simp only [List.cons_append,List.nil_append]
  refine j_run it 1 rfl (by simp) ?_
  refine j_split_dec (t:=14) rfl (fun h2=>?_) (fun h2=>by exfalso;omega)
  refine j_run it 3 rfl (by simp) ?_
  refine j_nf [_,_] rfl ?_
  refine j_true rfl rfl ?_
  refine j_nf [_,_,_] rfl (j_step rfl (x_lit0 sl29 fun b2=>?_))
  refine j_step rfl (x_lit sl29 zo29e rfl rfl rfl rfl (by decide) (by decide) rfl fun b3=>?_)
  refine j_step rfl (x_build (cs:=[Value.bool false,Value.slice (some { block:=b2,off:=0 }) 0 0,Value.slice (some { block:=b3,off:=0 }) 1 1]) st60 zo60 rfl rfl ?_)
  refine j_step rfl (x_bst_all 2 rfl rfl rfl ld60 rfl rfl (by simp [Value.oneCell']) ?_)
  refine j_nf [_,_] rfl ?_
  refine j_pub_made (n:=1) (kd:=.u32) 4 [1] 0 rfl rfl (by simp [InR]) (by decide) (by decide) ?_
  refine j_add (slF U32 (some ⟨b2,0,none⟩) 0 0 []) (fun w A _=>slF_nil _ _ _ _ _) ?_
  refine j_givC [0,1] rfl (.agg 1 rfl rfl ld60 rfl .nil) rfl ⟨_,_,_,_,by rw [e];rfl,by rw [e];rfl,rfl⟩
 by_cases h2 : (trim D).length = 0
 ·have e:=zero (.inr (zb.1 h2))
  refine j_nf [_,_] rfl (j_step rfl (x_alloc zo60 fun b1=>?_))
  refine j_nf [_,_,_] rfl (j_run it 1 rfl (by simp) ?_)
  refine j_step rfl (x_call [0] rfl (S_codewrightref01_Zero) rfl ?_)
  rintro _ _ _ ⟨rfl,rfl,rfl⟩
  simp only [List.cons_append,List.nil_append]
  refine j_run it 1 rfl (by simp) ?_
  refine j_split_dec (t:=14) rfl (fun h3=>by exfalso;omega) (fun h3=>?_)
  refine j_run it 1 rfl (by simp) ?_
  refine j_gstep rfl rfl (x_call [1] rfl (S_codewrightref01_Zero) rfl ?_)
  rintro _ _ _ ⟨rfl,rfl,rfl⟩
  simp only [List.cons_append,List.nil_append]
  refine j_run it 1 rfl (by simp) ?_
  refine j_nf [_,_] rfl (j_if rfl rfl (fun h4=>?_) (fun h4=>by exfalso;omega))
  refine j_nf [_,_,_] rfl (j_step rfl (x_lit0 sl29 fun b2=>?_))
  refine j_step rfl (x_lit sl29 zo29e rfl rfl rfl rfl (by decide) (by decide) rfl fun b3=>?_)
  refine j_step rfl (x_build (cs:=[Value.bool false,Value.slice (some { block:=b2,off:=0 }) 0 0,Value.slice (some { block:=b3,off:=0 }) 1 1]) st60 zo60 rfl rfl ?_)
  refine j_step rfl (x_bst_all 2 rfl rfl rfl ld60 rfl rfl (by simp [Value.oneCell']) ?_)
  refine j_nf [_,_] rfl ?_
  refine j_pub_made (n:=1) (kd:=.u32) 4 [1] 0 rfl rfl (by simp [InR]) (by decide) (by decide) ?_
  refine j_add (slF U32 (some ⟨b2,0,none⟩) 0 0 []) (fun w A _=>slF_nil _ _ _ _ _) ?_
  refine j_givC [0,1] rfl (.agg 1 rfl rfl ld60 rfl .nil) rfl ⟨_,_,_,_,by rw [e];rfl,by rw [e];rfl,rfl⟩
 ·have v1 : val N ≠ 0:=fun h=>h1 (za.2 h)
  have v2 : val D ≠ 0:=fun h=>h2 (zb.2 h)
  have hg : val (limbs (Nat.gcd (val N) (val D))) ≠ 0:=by
   rw [val_limbs]
   have:=Nat.gcd_pos_of_pos_left (val D) (Nat.pos_of_ne_zero v1)
   omega
  have e : rt (vq (neg,N,D)) = (neg,limbs (val N / val (limbs (Nat.gcd (val N) (val D)))),limbs (val D / val (limbs (Nat.gcd (val N) (val D))))):=by
   rw [vq_eq,rt_mk v1 v2,val_limbs]
  have hgl : (limbs (Nat.gcd (val N) (val D))).length ≤ 1073741824:=limbs_mono (Nat.le_trans (by rw [← ea];exact trim_length_le N) hN) (Nat.gcd_le_left _ (Nat.pos_of_ne_zero v1))
  refine j_nf [_,_] rfl (j_step rfl (x_alloc zo60 fun b1=>?_))
  refine j_nf [_,_,_] rfl (j_run it 1 rfl (by simp) ?_)
  refine j_step rfl (x_call [0] rfl (S_codewrightref01_Zero) rfl ?_)
  rintro _ _ _ ⟨rfl,rfl,rfl⟩
  simp only [List.cons_append,List.nil_append]
  refine j_run it 1 rfl (by simp) ?_
  refine j_split_dec (t:=14) rfl (fun h3=>by exfalso;omega) (fun h3=>?_)
  refine j_run it 1 rfl (by simp) ?_
  refine j_gstep rfl rfl (x_call [1] rfl (S_codewrightref01_Zero) rfl ?_)
  rintro _ _ _ ⟨rfl,rfl,rfl⟩
  simp only [List.cons_append,List.nil_append]
  refine j_run it 1 rfl (by simp) ?_
  refine j_nf [_,_] rfl (j_if rfl rfl (fun h4=>by exfalso;omega) (fun h4=>?_))
  refine j_nf [_,_] rfl (j_run it 2 rfl (by simp) ?_)
  refine j_step rfl (x_call [0,1] rfl (S_codewrightref01_Gcd (by omega) (by omega)) rfl ?_)
  rintro _ _ _ ⟨pa1,ca1,rfl,rfl,rfl⟩
  simp only [List.cons_append,List.nil_append]
  refine j_run it 1 rfl (by simp) ?_
  refine j_nf [_,_] rfl (j_run it 2 rfl (by simp) ?_)
  refine j_step rfl (x_call [1,0] rfl (S_codewrightref01_DivMod (by omega) (by omega) (by omega)) rfl ?_)
  rintro _ _ _ ⟨p11,c11,p21,c21,rfl,rfl,rfl⟩
  simp only [List.cons_append,List.nil_append]
  refine j_run it 5 rfl (by simp) ?_
  refine j_nf [_,_] rfl (j_run it 2 rfl (by simp) ?_)
  refine j_step rfl (x_call [4,2] rfl (S_codewrightref01_DivMod (by omega) (by omega) (by omega)) rfl ?_)
  rintro _ _ _ ⟨p12,c12,p22,c22,rfl,rfl,rfl⟩
  simp only [List.cons_append,List.nil_append]
  refine j_run it 5 rfl (by simp) ?_
  refine j_nf [_,_] rfl (j_run it 3 rfl (by simp) ?_)
  refine j_step rfl (x_build (cs:=[Value.bool neg,Value.slice p11 (limbs (val N / val (limbs ((val N).gcd (val D))))).length c11,Value.slice p12 (limbs (val D / val (limbs ((val N).gcd (val D))))).length c12]) st60 zo60 rfl rfl ?_)
  refine j_step rfl (x_bst_all 0 rfl rfl rfl ld60 rfl rfl (by simp [Value.oneCell']) ?_)
  refine j_nf [_] rfl ?_
  refine j_givC [2,0] rfl (.agg 0 rfl rfl ld60 rfl .nil) rfl ⟨p11,c11,p12,c12,by rw [e];rfl,by rw [e],rfl⟩
theorem S_codewrightref02_Nat {pn : Option Addr} {n cn : Nat} {N : List Nat} (hN : N.length ≤ 1073741824) : Ctr Try.prog 29 [.slice pn n cn] [] [slF U32 pn n cn N] (RtV (rt ((val N : Int) : Rat))):=by
 refine Ctr_of_j' (F:=F_codewrightref02_Nat) rfl fun C=>?_
 have e : vq (false,N,[1]) = ((val N : Int) : Rat):=vq_one _ _
 refine j_nf [_,_] rfl (j_step rfl (x_alloc zo60 fun b1=>?_))
 refine j_nf [_,_] rfl (j_run it 1 rfl (by simp) ?_)
 refine j_step rfl (x_lit sl29 zo29e rfl rfl rfl rfl (by decide) (by decide) rfl fun b2=>?_)
 refine j_pub_made (n:=1) (kd:=IntKind.u32) 4 [1] 0 rfl rfl (by first | (simp [InR];done) | (simp only [InR,List.mem_cons,List.not_mem_nil,or_false,forall_eq_or_imp,forall_eq];omega)) (by decide) (by decide) ?_
 refine j_step rfl (x_call [1,0] rfl (S_codewrightref02_Make (by omega) (by simp)) rfl ?_)
 rintro _ _ _ ⟨pn1,cn1,pd1,cd1,rfl,rfl,rfl⟩
 simp only [List.cons_append,List.nil_append]
 refine j_step rfl (x_bst_all 0 rfl rfl rfl ld60 rfl rfl (by simp [Value.oneCell']) ?_)
 refine j_nf [_] rfl ?_
 rw [e]
 refine j_givC [0,1] rfl (.agg 0 rfl rfl ld60 rfl .nil) rfl ⟨_,_,_,_,rfl,rfl,rfl⟩
set_option maxHeartbeats 4000000
abbrev RtErr (r : Rt) (e : Int) : Value → List Fact → List Blk → Prop:=fun v Φ β=>∃ pn cn pd cd,v = .tuple #[.agg #[.bool r.1,.slice pn r.2.1.length cn,.slice pd r.2.2.length cd],.int .i64 e] ∧ Φ = [slF U32 pn r.2.1.length cn r.2.1,slF U32 pd r.2.2.length cd r.2.2] ∧ β = []
theorem getD_some {α : Type} {l : List α} {i : Nat} {x d : α} (h : l[i]? = some x) : l.getD i d = x:=by rw [List.getD,h];rfl
set_option maxHeartbeats 2000000
set_option maxHeartbeats 4000000
abbrev SvE {α : Type} (E : Enc α) (n : Nat) (l : List α) (e : Int) : Value → List Fact → List Blk → Prop:=fun v Φ β=>∃ pa ca,v = .tuple #[.slice pa n ca,.int .i64 e] ∧ Φ = [slF E pa n ca l] ∧ β = []
theorem S_rational_size {n : Nat} (hn : n < 9223372036854775808) : Ctr Try.prog 91 [.int .i64 n] [] [] (Sv U32 (limbs n)):=by
 refine Ctr_of_j' (F:=F_rational_size) rfl fun C=>?_
 refine j_nf [_,_] rfl (j_run it 1 rfl (by simp) ?_)
 refine j_nf [_,_,_] rfl (j_run it 2 rfl (by simp) ?_)
 refine j_nf [_,_] rfl (j_if rfl rfl (fun h1=>by exfalso;omega) (fun h1=>?_))
 refine j_nf [_,_] rfl (j_run it 2 rfl ⟨⟨by omega,by omega⟩,trivial,trivial⟩ ?_)
 refine j_step rfl (x_call [] rfl (S_nat_Of (by omega)) rfl ?_)
 rintro _ _ _ ⟨pa1,ca1,rfl,rfl,rfl⟩
 simp only [List.cons_append,List.nil_append]
 refine j_run it 1 rfl (by simp) ?_
 refine j_nf [_] rfl ?_
 refine j_giv [0] rfl rfl rfl ⟨_,_,rfl,rfl,rfl⟩
theorem S_rational_Of {n m : Nat} (hn : n < 9223372036854775808) (hm : 0 < m) (hm2 : m < 9223372036854775808) : Ctr Try.prog 60 [.int .i64 n,.int .i64 m] [] [] (RtErr (rt (mkRat n m)) 0):=by
 refine Ctr_of_j' (F:=F_rational_Of) rfl fun C=>?_
 have l1 : (limbs n).length ≤ 2:=limbs_length_le (show n < 4294967296 ^ 2 from Nat.lt_trans hn (by decide))
 have l2 : (limbs m).length ≤ 2:=limbs_length_le (show m < 4294967296 ^ 2 from Nat.lt_trans hm2 (by decide))
 have e : vq ((decide ((n : Int) < 0) != decide ((m : Int) < 0)),limbs n,limbs m) = mkRat n m:=by
  rw [decide_eq_false (by omega),decide_eq_false (by omega),vq_eq]
  simp only [val_limbs];rfl
 refine j_nf [_,_] rfl (j_step rfl (x_alloc zo60 fun b1=>?_))
 refine j_run it 1 rfl (by simp) ?_
 refine j_nf [_,_,_] rfl (j_run it 2 rfl (by simp) ?_)
 refine j_nf [_,_] rfl (j_if rfl rfl (fun h1=>by exfalso;omega) (fun h1=>?_))
 refine j_nf [_,_] rfl (j_run it 4 rfl (by simp) ?_)
 refine j_step rfl (x_neb ub rfl rfl ?_)
 refine j_run it 1 rfl (by simp) ?_
 refine j_step rfl (x_call [] rfl (S_rational_size (by omega)) rfl ?_)
 rintro _ _ _ ⟨pa1,ca1,rfl,rfl,rfl⟩
 simp only [List.cons_append,List.nil_append]
 refine j_run it 1 rfl (by simp) ?_
 refine j_step rfl (x_call [] rfl (S_rational_size (by omega)) rfl ?_)
 rintro _ _ _ ⟨pa2,ca2,rfl,rfl,rfl⟩
 simp only [List.cons_append,List.nil_append]
 refine j_step rfl (x_call [1,0] rfl (S_rational_canonical (by omega) (by omega)) rfl ?_)
 rintro _ _ _ ⟨pn1,cn1,pd1,cd1,rfl,rfl,rfl⟩
 simp only [List.cons_append,List.nil_append]
 refine j_step rfl (x_bst_all 0 rfl rfl rfl ld60 rfl rfl (by simp [Value.oneCell']) ?_)
 refine j_run it 1 rfl (by simp) ?_
 refine j_nf [_] rfl ?_
 rw [e]
 refine j_givC [0,1] rfl (.agg 0 rfl rfl ld60 rfl (.tmp rfl .nil)) rfl ⟨_,_,_,_,rfl,rfl,rfl⟩
end Go.Proofs.Ytlelanmgijhjfaa
