/-
Canonical rows, null spaces, combinations and columns in the document. The document's tests of spaces and codes, of sets and pairs. Columns and ranks in the document, what is enough, and the least witness. What is enough by ranks and by witnesses; the walk of RepairSuffices. Words of messages in the document; the walk of RepairDetermines. Differences in a field; the program's test of a word. The rows of a space are taken off a word, in the program. A part split by a pivot: what holds meanwhile. A part split into what is no greater than an entry and what is. The parts of a list that is put in order by pivots. Two spaces: what is left of the rows of one, sums, intersections. Intersections; two codes, their sum and what they share. Sets of positions, and codes without them. Punctured and shortened codes. The word of ones. Expurgated and augmented codes, subcodes. Sums, products and digits in a field, behind a pointer. Extended codes. Codes that are the same; codes small enough. The branches of a node of a hitting tree, in the program and in the document. Dual codes and weights, in the document. The document's extended codes. Independent columns: a basis that grows, and the pivots of the rows. Independent columns and the pivots of the rows. Columns taken as long as they are independent, in plain words. Exclusion trees in plain words. Columns in their order, as far as they are independent, in the program. The nodes below a node of an exclusion tree, in the program. The program's walk through an exclusion tree. The program's CheckRank and CheckDistance. Entries of a word at some places, in the document. Tests of exclusion trees in the document. The document's sets of positions and punctured codes. The document's words of a space that vanish at some positions. The document's shortened and expurgated codes. The document's augmented codes. Binary digits; powers by squaring; binomial coefficients. Equations with their right hand sides, and their solution by places. The program's test whether a word is in a space, or in a code. The program's test whether a word is in a code. Hitting trees: what the program's walk through one answers, and what an accepted one shows. The program's walk through a hitting tree. The program's judgement on a hitting tree. The program's CheckProof. The law's function RepairSound: an accepted tree, and what the document says. Sets with one more position; branches, in the document. The hunt for a smallest set of helpers, in plain words. Short lists are put in order, in the library. Insertion, in the library. A round of a range over a function. The values of a slice, collected. Sorted lists of values, for short lists. Permuted codes.
-/
import Derived.Test.YtpienolhkccpnaaGreatXA6
set_option linter.unusedVariables false
set_option linter.unusedSimpArgs false
namespace Go.Proofs.YtpienolhkccpnaaGreat
open Go Go.Fw
set_option maxRecDepth 100000
set_option linter.unusedVariables false
set_option linter.unusedSimpArgs false
set_option maxHeartbeats 0
abbrev CnO (E:List (List Int)×List Nat):Value→List Fact→List A3→Prop:=fun v Φ β=>∃ (r:Row) (pp:Option Addr) (cp:Nat),v = .tuple #[.slice (ad r.bo) E.2.length r.cap,.slice pp E.2.length cp]
 ∧ Φ=[A5 (Ah Aj) r E.2.length E.1,Ap Aj pp E.2.length cp (Bc E.2)]∧β=[(r.bo,22,r.cs)]
theorem Jb {p m n N nm cm c:Nat}{pm ps:Option Addr}{rows:List (List Int)}{md:List Int}(K:Fok p m md) (hn:n≤1000000) (hN:N≤1000000) (hl:rows.length=n) (hM:Da (p ^ m) N rows) :
  Bn Tryz.prog 105 [.agg #[.int .i64 p,.int .i64 m,.slice pm nm cm],.slice ps n c,.int .i64 N] [] [Ap Aj pm nm cm md,Ap (Ah Aj) ps n c rows] (CnO (C4 p m md N rows)):=by
 refine Ab (F:=Pi) rfl fun C=>?_
 have Ln:=fun {nm cm c:Nat}{pm ps:Option Addr}=>Lq (nm:=nm) (cm:=cm) (pm:=pm) (ps:=ps) (c:=c) K hn (Nat.le_refl N) hN hl hM
 have hEk:(Kl p m md N 0 0 rows).2.length≤n:=by
  have:=We (A:=Ad (fA p m)) (M:=Ad (fM p (Az m md))) (N:=B8 p m) (V:=Hw p m md) N 0 0 rows (Nat.zero_le _)
  rw [Nat.zero_add,hl] at this;exact this
 show J _ _ _ _ _ _ (Fu C (CnO ((Kl p m md N 0 0 rows).1.take (Kl p m md N 0 0 rows).2.length,(Kl p m md N 0 0 rows).2)))
 generalize Kl p m md N 0 0 rows=E at *
 refine A8 1 rfl fun hlx _ _=>?_
 refine Aq [_,_] rfl ?_
 refine Aa rfl (Ct rfl fun b1=>?_)
 refine Ai it 2 rfl (by simp) ?_
 refine Aq [_,_] rfl ?_
 refine Aa rfl (Bi 0 rfl rfl Ga rfl ?_)
 refine Ai it 2 rfl (by simp) ?_
 refine Aa rfl (Aw [0,1] rfl (Ln) rfl ?_)
 rintro _ _ _ ⟨r1,pp1,cp1,rfl,rfl,rfl⟩
 simp only [List.cons_append,List.nil_append]
 refine Ai it 5 rfl (by simp) ?_
 refine Aq [_,_] rfl ?_
 refine Ai it 2 rfl (by simp) ?_
 refine Aa rfl (Hv Ce rfl ?_) --ok
 refine AHi 0 rfl fun hEn=>?_
 refine Aa rfl (AA7 E.2.length 0 rfl rfl rfl Df rfl (by omega) ?_)
 refine wk 2 cz ?_
 refine Dt 2 [0] [0,2] rfl (.tmp rfl (.tmp rfl .nil)) rfl rfl rfl ⟨r1,_,_,rfl,rfl,rfl⟩
theorem Gf {p m n N nm cm c:Nat}{pm ps:Option Addr}{rows:List (List Int)}{md:List Int}(K:Fok p m md) (hn:n≤1000000) (hN:N≤1000000) (hl:rows.length=n) (hM:Da (p ^ m) N rows) :
  Bn Tryz.prog 105 [.agg #[.int .i64 p,.int .i64 m,.slice pm nm cm],.slice ps n c,.int .i64 N] [] [Ap Aj pm nm cm md,Ap (Ah Aj) ps n c rows] (CnR (C4 p m md N rows)) :=
 (Jb K hn hN hl hM).pubT (by
  have hk:=(Wo K hM).2
  show _*24≤140737488355328;omega)
def ldL (N:Nat) (P:List Nat) (k:Nat):List Int:=(List.range N).map fun e=>if e∈P.take k then ((P.idxOf e:Nat):Int) else -1
theorem AFM {N k:Nat}{P:List Nat}:(ldL N P k).length=N:=by simp [ldL]
theorem AHy {N:Nat}{P:List Nat}:ldL N P 0=List.replicate N (-1):=by
 refine List.ext_getElem (by simp [ldL]) fun j h1 h2=>?_
 simp only [ldL,List.getElem_map,List.getElem_range,List.take_zero,List.getElem_replicate]
 exact if_neg (by simp)
theorem AI2 {q N n k a:Nat}{R:List (List Int)}{P:List Nat}(h:Red q n R P) (hk:P[k]?=some a):(ldL N P k).set a (k:Int)=ldL N P (k+1):=by
 refine List.ext_getElem (by simp [ldL]) fun j h1 h2=>?_
 rw [List.getElem_set]
 simp only [ldL,List.getElem_map,List.getElem_range]
 by_cases e:a=j
 ·subst e
  rw [if_pos rfl,if_pos (List.mem_of_getElem? (i:=k) (by rw [List.getElem?_take,if_pos (by omega),hk])),h.idx hk]
 ·rw [if_neg e,List.take_add_one,hk]
  by_cases hm:j∈P.take k
  ·rw [if_pos hm,if_pos (List.mem_append_left _ hm)]
  ·rw [if_neg hm,if_neg]
   intro hm2
   rcases List.mem_append.1 hm2 with h3|h3
   ·exact hm h3
   ·rw [Option.toList_some,List.mem_singleton] at h3;exact e h3.symm
theorem AKN {N j:Nat}{P:List Nat}(hj:j<N):(ldL N P P.length)[j]?=some (if j∈P then ((P.idxOf j:Nat):Int) else -1):=by
 rw [ldL,List.getElem?_map,List.getElem?_range hj,List.take_length];rfl
theorem Js {p m n N nm cm c:Nat}{pm ps:Option Addr}{rows:List (List Int)}{md:List Int}(K:Fok p m md) (hn:n≤1000000) (hN:N≤1000000) (hl:rows.length=n) (hM:Da (p ^ m) N rows) :
  Bn Tryz.prog 82 [.agg #[.int .i64 p,.int .i64 m,.slice pm nm cm],.slice ps n c,.int .i64 N] [] [Ap Aj pm nm cm md,Ap (Ah Aj) ps n c rows]
   (fun v Φ β=>∃ r:Row,v = .slice (ad r.bo) (Jf p m md N rows).length r.cap∧Φ=[A5 (Ah Aj) r (Jf p m md N rows).length (Jf p m md N rows)]∧β=[(r.bo,22,r.cs)]):=by
 refine Ab (F:=Qk) rfl fun C=>?_
 have O:=AEq K
 have hq:=K.q
 have q2:=O.q2
 have Bo:=fun {nm cm c n:Nat}{pm ps:Option Addr}{rows:List (List Int)}(hn:n≤1000000) (hl:rows.length=n) (hM:Da (p ^ m) N rows)=>Gf (nm:=nm) (cm:=cm) (pm:=pm) (ps:=ps) (c:=c) K hn hN hl hM
 have Dg:=fun {nm cm:Nat}{pm:Option Addr}{x:Int}=>Hb (nm:=nm) (cm:=cm) (pm:=pm) (x:=x) K
 have hred:Red (p ^ m) N (C4 p m md N rows).1 (C4 p m md N rows).2:=(O.cn hM).1
 have hEl:(C4 p m md N rows).1.length=(C4 p m md N rows).2.length:=O.cn_len hM
 have hnm:Da (p ^ m) N (nvK (B8 p m) N (C4 p m md N rows) N):=O.nv_mat hred
 have hnl:(C4 p m md N (nvK (B8 p m) N (C4 p m md N rows) N)).1.length=(C4 p m md N (nvK (B8 p m) N (C4 p m md N rows) N)).2.length:=O.cn_len hnm
 have hnk:=fun k=>AFX (N:=B8 p m) (n:=N) (k:=k) (E:=C4 p m md N rows)
 rw [show Jf p m md N rows=(C4 p m md N (nvK (B8 p m) N (C4 p m md N rows) N)).1 from rfl,hnl]
 clear hnl
 refine wk 15 (ct @Bo cz) ?_
 intro b1 pb1 pp1 cb1 cp1 b2
 generalize hE:C4 p m md N rows=E at *
 have hple:=hred.piv_le
 rw [show Ao .i64 (List.replicate N 0)=Ak .i64 (List.replicate 0 (-1:Int)++List.replicate (N-0) (0:Int)) by simp [Ao,Ak]]
 refine Af (X:=Nat) [2,3,6,7,8,9] [0,1,2,3] (fun i=>[(10,.int .i64 (i:Int))]) (fun i=>(some b2,3,Ak .i64 (List.replicate i (-1:Int)++List.replicate (N-i) (0:Int)))::_) (fun _=>[]) (fun i=>i≤N) (fun i=>N-i) 0 [] rfl rfl rfl (Nat.zero_le _) (by repeat (first|exact Fr.sub_nil _|refine Fr.sub_cons rfl ?_)) rfl rfl ?_
 rintro i hi ih
 simp only [List.cons_append,List.nil_append] at hi ih ⊢
 by_cases hiN:i<N
 ·have ih':=ih (i+1) (by omega) (by omega)
  have hset:List.replicate (i+1) (-1:Int)++List.replicate (N-(i+1)) (0:Int)=(List.replicate i (-1:Int)++List.replicate (N-i) (0:Int)).set i (-1):=by
   have e2:List.replicate (N-i) (0:Int)=0::List.replicate (N-(i+1)) 0:=by rw [show N-i=(N-(i+1))+1 by omega,List.replicate_succ]
   rw [e2,List.set_append_right _ _ (by simp),List.length_replicate,Nat.sub_self,List.set_cons_zero,List.replicate_succ',List.append_assoc];rfl
  rw [hset] at ih'
  have hln:(List.replicate i (-1:Int)++List.replicate (N-i) (0:Int)).length=N:=by simp;omega
  generalize List.replicate i (-1:Int)++List.replicate (N-i) (0:Int)=L at *
  refine wk 11 cz ?_
  intro h1
  exact tw (ih')
 ·obtain rfl:i=N:=by omega
  clear ih
  rw [Nat.sub_self,List.replicate_zero,List.append_nil,← AHy (P:=E.2)]
  refine wk 7 cz ?_
  intro h1
  refine Af (X:=Nat) [2,3,6,7,8,9] [0,1,2,3] (fun k=>[(11,.int .i64 (k:Int))]) (fun k=>(some b2,3,Ak .i64 (ldL i E.2 k))::_) (fun _=>[]) (fun k=>k≤E.2.length) (fun k=>E.2.length-k) 0 [] rfl rfl rfl (Nat.zero_le _) (by repeat (first|exact Fr.sub_nil _|refine Fr.sub_cons rfl ?_)) rfl rfl ?_
  rintro k hk ih
  simp only [List.cons_append,List.nil_append] at hk ih ⊢
  by_cases hkE:k<E.2.length
  ·obtain ⟨a,ha⟩:∃ a,E.2[k]?=some a:=⟨_,List.getElem?_eq_getElem hkE⟩
   have at_a:(Bc E.2)[k]?=some (a:Int):=by rw [Bc,List.getElem?_map,ha];rfl
   have haN:=hred.ech.lt a (List.mem_of_getElem? ha)
   have ih':=ih (k+1) (by omega) (by omega)
   rw [← AI2 hred ha] at ih'
   have hln:=AFM (N:=i) (P:=E.2) (k:=k)
   generalize ldL i E.2 k=L at *
   refine wk 9 cz ?_
   intro h2 b3 o1 hz1
   refine Aa rfl (Av 0 rfl rfl Ci fun ⟨r1,r2⟩=>?_)
   refine wk 6 cz ?_
   exact tw (ih')
  ·obtain rfl:k=E.2.length:=by omega
   clear ih
   have hla:=fun j (hj:j<i)=>AKN (P:=E.2) hj
   have hln:=AFM (N:=i) (P:=E.2) (k:=E.2.length)
   generalize ldL i E.2 E.2.length=LD at *
   refine wk 11 cz ?_
   intro h2
   refine Fh (Ah Aj) 22 ?_
   refine Af (X:=Nat×Row) [2,3,6,7,8,9] [0,1,2,3,4] (fun x=>[(13,.int .i64 (x.1:Int)),(12,.slice (ad x.2.bo) (nvK (B8 p m) i E x.1).length x.2.cap)]) (fun x=>(x.2.bo,22,x.2.cs)::_) (fun x=>[A5 (Ah Aj) x.2 (nvK (B8 p m) i E x.1).length (nvK (B8 p m) i E x.1)]) (fun x=>x.1≤i) (fun x=>i-x.1) (0,⟨none,0,[]⟩) [0] rfl rfl rfl (Nat.zero_le _) (by repeat (first|exact Fr.sub_nil _|refine Fr.sub_cons rfl ?_)) rfl rfl ?_
   rintro ⟨k,r⟩ hk ih
   simp only [List.cons_append,List.nil_append] at hk ih ⊢
   by_cases h8:k<i
   ·have ih':=fun r=>ih (k+1,r) (by dsimp only;omega) (by dsimp only;omega)
    simp only [AD3] at ih'
    have hnk1:=hnk k
    have at_l:=hla k h8
    clear ih
    by_cases hm:k∈E.2
    ·rw [if_pos hm] at at_l
     simp only [if_pos hm,List.append_nil] at ih'
     refine wk 7 cz ?_
     intro h3
     refine Aa rfl (S9 1 rfl rfl Ci (by first|omega|(simp;omega)) fun z1 hz1=>?_)
     obtain rfl:_=z1:=Option.some.inj (at_l.symm.trans hz1)
     refine wk 6 cz ?_
     intro h4
     exact tw (ih' r)
    ·rw [if_neg hm] at at_l
     simp only [if_neg hm,List.length_append,List.length_singleton] at ih'
     refine wk 7 cz ?_
     intro h3
     refine Aa rfl (S9 1 rfl rfl Ci (by first|omega|(simp;omega)) fun z1 hz1=>?_)
     obtain rfl:_=z1:=Option.some.inj (at_l.symm.trans hz1)
     refine wk 10 cz ?_
     intro h4 b3
     refine Aa rfl (Tt 0 1 rfl rfl rfl Ci (by first|rfl|omega) (by first|omega|(simp;omega)) ?_)
     refine wk 3 cz ?_
     have hx0:Ao .i64 ((List.replicate i 0).set k 1)=Ak .i64 (nvI (B8 p m) i E.1 E.2 k 0):=by
      rw [ADB]
      simp [Ao,Ak,zW,List.map_set]
     simp only [setB]
     rw [hx0]
     refine Af (X:=Nat) [2,3,6,7,8,9,12,13,14,46,47,48,51,52,53,54,55,56,57,58,59,60] [0,1,2,3,4,5] (fun t=>[(15,.int .i64 (t:Int))]) (fun t=>(some b3,3,Ak .i64 (nvI (B8 p m) i E.1 E.2 k t))::_) (fun _=>[]) (fun t=>t≤E.2.length) (fun t=>E.2.length-t) 0 [] rfl rfl rfl (Nat.zero_le _) (by repeat (first|exact Fr.sub_nil _|refine Fr.sub_cons rfl ?_)) rfl rfl ?_
     rintro t ht ih
     simp only [List.cons_append,List.nil_append] at ht ih ⊢
     by_cases h9:t<E.2.length
     ·obtain ⟨a,ha⟩:∃ a,E.2[t]?=some a:=⟨_,List.getElem?_eq_getElem h9⟩
      have at_a:(Bc E.2)[t]?=some (a:Int):=by rw [Bc,List.getElem?_map,ha];rfl
      obtain ⟨u,at_u⟩:∃ u,E.1[t]?=some u:=⟨_,List.getElem?_eq_getElem (by omega)⟩
      have hu:=hred.mat u (List.mem_of_getElem? at_u)
      have hul:=hu.1
      have ea:=Q3 at_a
      have eu:=Q3 at_u
      have hen:Bj u k=en E.1 t k:=by rw [en,Ar,List.getD_eq_getElem?_getD,at_u];rfl
      have at_y:(E.1.getD t default)[k]?=some (en E.1 t k):=by
       rw [eu,← hen,Bj,List.getD_eq_getElem?_getD,List.getElem?_eq_getElem (by omega)];rfl
      have ey:=Q3 at_y
      rw [← eu] at hul
      obtain ⟨y0,y1⟩:=Bm (q:=p ^ m) (by omega) hu k
      rw [hen] at y0 y1
      have haN:=hred.ech.lt a (List.mem_of_getElem? ha)
      have ih':=ih (t+1) (by omega) (by omega)
      rw [← AFp hred hm ha] at ih'
      have hln:=AFu (N:=B8 p m) (n:=i) (c:=k) (i:=t) (R:=E.1) (P:=E.2)
      generalize nvI (B8 p m) i E.1 E.2 k t=L at *
      refine wk 13 (ct @Dg cz) ?_
      intro h5 b4 o1 b5 o2 pa1 ca1 b6 o3
      simp only [ey,ea,Int.toNat_natCast]
      exact tw (ih')
     ·obtain rfl:t=E.2.length:=by omega
      rw [AFB]
      clear ih
      have hnw:=O.null_wd hred k
      have hnr:∀ z∈Ip (B8 p m) i E.1 E.2 k,Bx .i64 z:=fun z hz=>by
       have:=hnw.2 z hz
       simp only [Bx];omega
      have hnl:(Ip (B8 p m) i E.1 E.2 k).length=i:=hnw.1
      generalize Ip (B8 p m) i E.1 E.2 k=T at *
      refine wk 3 cz ?_
      refine Bk 0 rfl hnl.symm hnr (by omega) ?_
      refine wk 6 cz ?_
      intro h5 b4
      refine C3 1 0 rfl rfl (by show (i)*8≤140737488355328;omega) ?_
      refine Aa rfl (Fj (z:=T) 1 0 2 rfl rfl rfl rfl rfl Df Gq rfl (fun w A hG=>(Ax (hG _ (Ae (n:=0) rfl)))) (by omega) _ Jw (by omega) fun r1=>?_)
      refine wk 4 cz ?_
      refine Jx [true,false,true,true] [0,4,5,6,7,8] (by exact Ul rfl) rfl rfl (ih' r1)
   ·obtain rfl:k=i:=by omega
    have:=hnk k
    refine Dx 0 0 rfl rfl (by show (nvK (B8 p m) k E k).length*24≤140737488355328;omega) ?_
    clear Bo
    have Bo:=fun {nm cm c n:Nat}{pm ps:Option Addr}{rows:List (List Int)}(hn:n≤1000000) (hl:rows.length=n) (hM:Da (p ^ m) k rows)=>Jb (nm:=nm) (cm:=cm) (pm:=pm) (ps:=ps) (c:=c) K hn hN hl hM
    refine wk 12 (ct @Bo cz) ?_
    intro h3 r1 pp2 cp2
    simp only [List.eraseIdx_cons_zero,List.cons_append,List.nil_append]
    refine Dt 3 [0] [0] rfl (.tmp rfl .nil) rfl rfl rfl ⟨r1,rfl,rfl,rfl⟩
theorem P9 {p m n N nm cm c:Nat}{pm ps:Option Addr}{rows:List (List Int)}{md:List Int}(K:Fok p m md) (hn:n≤1000000) (hN:N≤1000000) (hl:rows.length=n) (hM:Da (p ^ m) N rows) :
  Bn Tryz.prog 82 [.agg #[.int .i64 p,.int .i64 m,.slice pm nm cm],.slice ps n c,.int .i64 N] [] [Ap Aj pm nm cm md,Ap (Ah Aj) ps n c rows]
   (fun v Φ β=>∃ (pb:Option Addr) (cb:Nat),v = .slice pb (Jf p m md N rows).length cb∧Φ=[Ap (Ah Aj) pb (Jf p m md N rows).length cb (Jf p m md N rows)]∧β=[]) :=
 (Js K hn hN hl hM).pubR (by
  have hk:=Zv K hM
  show _*24≤140737488355328;omega)
open Classical in
noncomputable def sfE (P M:Int) (md:List Int) (N:Int) (rows:List (List Int)):Int:=if ¬ Ws P M md then 1 else spE P.toNat M.toNat md N rows
theorem Pa {P M N e:Int}{nm cm n c:Nat}{pm ps:Option Addr}{md:List Int}{rows:List (List Int)}(hN:Bx .i64 N) (he:sfE P M md N rows=e) :
  Bn Tryz.prog 88 [.agg #[.int .i64 P,.int .i64 M,.slice pm nm cm],.agg #[.int .i64 N,.slice ps n c]] [] [Ap Aj pm nm cm md,Ap (Ah Aj) ps n c rows] (Rv (.int .i64 e) []):=by
 refine Ab (F:=Px) rfl fun C=>?_
 refine A8 1 rfl fun hn hb _=>?_
 subst hn
 have hb':rows.length*24≤140737488355328:=hb
 have B3:=fun {nm cm n c:Nat}{pm ps:Option Addr}=>O9 (P:=P) (M:=M) (N:=N) (md:=md) (rows:=rows) (nm:=nm) (cm:=cm) (n:=n) (c:=c) (pm:=pm) (ps:=ps) hN rfl
 rw [sfE] at he
 by_cases hc:Ws P M md
 ·rw [if_neg (fun h=>h hc)] at he
  have hk:mkE P M md N rows=Vk N rows (P.toNat ^ M.toNat):=by rw [mkE,if_neg (fun h=>h hc)]
  rw [hk] at B3
  obtain ⟨p,m,rfl,rfl,K⟩:=ACR hc
  rw [Int.toNat_natCast,Int.toNat_natCast] at he B3
  have hr:=Tg N rows (p ^ m)
  rw [spE] at he
  by_cases h0:Vk N rows (p ^ m)=0
  ·rw [if_neg (by omega)] at he
   rw [h0] at B3
   obtain ⟨k,rfl,hk,hl,hM⟩:=AFh h0
   rw [Int.toNat_natCast] at he
   have Bo:=fun {nm cm c:Nat}{pm ps:Option Addr}=>Gf (nm:=nm) (cm:=cm) (pm:=pm) (ps:=ps) (c:=c) (n:=rows.length) K (by omega) (show k≤1000000 by omega) rfl hM
   by_cases hcn:(C4 p m md k rows).1=rows
   ·rw [if_pos hcn] at he
    subst he
    have hd:decide ((C4 p m md k rows).1=rows)=true:=decide_eq_true hcn
    refine wk 32 (ct @B3 (ct @Bo (ct @D5 cz))) ?_
    intro b1 b2 h1 pb1 pp1 cb1 cp1
    exact ge
   ·rw [if_neg hcn] at he
    subst he
    have hd:decide ((C4 p m md k rows).1=rows)=false:=decide_eq_false hcn
    refine wk 32 (ct @B3 (ct @Bo (ct @D5 cz))) ?_
    intro b1 b2 h1 pb1 pp1 cb1 cp1
    exact ge
  ·rw [if_pos h0] at he
   subst he
   refine wk 16 (ct @B3 cz) ?_
   intro b1 b2 h1
   exact ge
 ·rw [if_pos hc] at he
  subst he
  have hk:mkE P M md N rows=1:=by rw [mkE,if_pos hc]
  rw [hk] at B3
  refine wk 16 (ct @B3 cz) ?_
  intro b1 b2 h1
  exact ge
theorem F9 {P M N e:Int}{pm ps:Option Addr}{nm cm n c:Nat}{md:List Int}{rows:List (List Int)}(hN:Bx .i64 N) (h:Nw P M md N rows=e) :
  Bn Tryz.prog 38 [.agg #[.int .i64 P,.int .i64 M,.slice pm nm cm,.int .i64 N,.slice ps n c]] [] [Ap Aj pm nm cm md,Ap (Ah Aj) ps n c rows] (Rv (.int .i64 e) []):=by
 refine Ab (F:=O0) rfl fun C=>?_
 rw [Nw] at h
 by_cases hc:Ws P M md
 ·rw [if_neg (fun h=>h hc)] at h
  have A7:=fun {pm:Option Addr}{nm cm:Nat}=>Es (P:=P) (M:=M) (md:=md) (pm:=pm) (nm:=nm) (cm:=cm) (if_pos hc).symm
  have hs:sfE P M md N rows=spE P.toNat M.toNat md N rows:=by rw [sfE,if_neg (fun h=>h hc)]
  by_cases h1:N<1
  ·rw [if_pos (.inl h1)] at h
   subst h
   refine wk 24 (ct @A7 cz) ?_
   intro b1 h2 h3
   exact ge
  ·by_cases h2:64<N
   ·rw [if_pos (.inr h2)] at h
    subst h
    refine wk 26 (ct @A7 cz) ?_
    intro b1 h3 h4 h5
    exact ge
   ·rw [if_neg (by omega),← hs] at h
    have Pq:=fun {nm cm n c:Nat}{pm ps:Option Addr}=>Pa (nm:=nm) (cm:=cm) (n:=n) (c:=c) (pm:=pm) (ps:=ps) hN h
    refine wk 34 (ct @A7 (ct @Pq cz)) ?_
    intro b1 h3 h4 h5
    exact ge
 ·rw [if_pos hc] at h
  subst h
  have A7:=fun {pm:Option Addr}{nm cm:Nat}=>Es (P:=P) (M:=M) (md:=md) (pm:=pm) (nm:=nm) (cm:=cm) (if_neg hc).symm
  refine wk 15 (ct @A7 cz) ?_
  intro b1 h1
  exact ge
section
variable {p m:Nat}{md:List Int}
theorem Q9 {b ng cg ne ce nl cl:Nat}{pg pe pl:Option Addr}{x y:Int}(K:Fok p m md) (x0:0≤x) (x1:x<((p ^ m:Nat):Int)) (y0:0≤y) (y1:y<((p ^ m:Nat):Int)) :
  Bn Tryz.prog 207 [.pointer (some ⟨b,0,none⟩),.int .i64 x,.int .i64 y] [] [Jl b p m (p ^ m) pg ng cg pe ne ce pl nl cl] (Rv (.int .i64 (Ad (fA p m) x (B8 p m y))) []):=by
 refine Ab (F:=Zb) rfl fun C=>?_
 have hq:=K.q
 have h2:=K.p2
 have h1:=K.m1
 obtain ⟨⟨n0,n1⟩,_⟩:=(AEq K).ng y y0 y1
 refine wk 99 (ct @G4 (ct @Dm cz)) ?_
 exact ge
end
open Go Go.Fw
set_option maxRecDepth 100000
set_option linter.unusedVariables false
set_option linter.unusedSimpArgs false
set_option maxHeartbeats 0
abbrev ReQ (N:Nat) (l:List Int):Value→List Fact→List A3→Prop:=fun v Φ β=>∃ (r:Row) (pt:Option Addr) (kt ct:Nat),v = .tuple #[.slice (ad r.bo) N r.cap,.slice pt kt ct]∧Φ=[A5 Aj r N l]∧β=[(r.bo,3,r.cs)]
theorem S3 {p m b ng cg ce cl n c k cp nx cx N:Nat}{pg pe pl ps pp px:Option Addr}{md x:List Int}{rows:List (List Int)}{P:List Nat}(K:Fok p m md) (hR:Red (p ^ m) N rows P) (hlen:rows.length=P.length) (hN1:1≤N) (hN:N≤1000000) (hPl:P.length≤1000000) (hx:Wd (p ^ m) N x) :
  Bn Tryz.prog 176 [.agg #[.pointer (some ⟨b,0,none⟩),.int .i64 N,.slice ps n c,.slice pp k cp],.slice px nx cx] [] [Jl b p m (p ^ m) pg ng cg pe (p ^ m-1) ce pl (p ^ m) cl,Ap Aj pe (p ^ m-1) ce (J1 p m md),Ap Aj pl (p ^ m) cl (J7 p m md),Ap (Ah Aj) ps n c rows,Ap Aj pp k cp (Bc P),Ap Aj px nx cx x]
   (ReQ N (rpF (Ad (fA p m)) (Ad (fM p (Az m md))) (B8 p m) P rows x)):=by
 refine Ab (F:=Sv) rfl fun C=>?_
 have O:=AEq K
 have FF:=O.fi
 have hq:=K.q
 have hq2:=O.q2
 refine A8 3 rfl fun hn hb _=>?_
 subst hn
 refine A8 4 rfl fun hn hb2 _=>?_
 rw [Co] at hn
 subst hn
 refine A8 5 rfl fun hn hb3 _=>?_
 have hnx:=hx.1
 rw [hnx] at hn
 subst hn
 have A6:=fun {b ng cg ce cl:Nat}{pg pe pl:Option Addr}{x y:Int}=>C6 (b:=b) (ng:=ng) (cg:=cg) (ce:=ce) (cl:=cl) (pg:=pg) (pe:=pe) (pl:=pl) (x:=x) (y:=y) K
 have La:=fun {b ng cg ne ce nl cl:Nat}{pg pe pl:Option Addr}{x y:Int}=>Q9 (b:=b) (ng:=ng) (cg:=cg) (ne:=ne) (ce:=ce) (nl:=nl) (cl:=cl) (pg:=pg) (pe:=pe) (pl:=pl) (x:=x) (y:=y) K
 generalize Ad (fM p (Az m md))=M at *
 generalize Ad (fA p m)=A0 at *
 generalize B8 p m=Ng at *
 refine wk 13 (ct @Ec cz) ?_
 intro b1 r1
 simp only [List.cons_append,List.nil_append]
 refine D2 0 rfl hN1 fun b9 cap9 cs9 hr=>?_
 subst hr
 refine Fh Aj 3 ?_
 refine Af (X:=Nat×List Value×Row×List Int) [2,4,14,15] [0,1,2,3,4,5,6,7] (fun x'=>[(16,.int .i64 (x'.1:Int)),(4,.slice (some ⟨b9,0,none⟩) nx cap9),(5,.slice (ad x'.2.2.1.bo) x'.1 x'.2.2.1.cap)]) (fun x'=>[(x'.2.2.1.bo,3,x'.2.2.1.cs),(some b9,3,x'.2.1),(some b1,108,[.pointer (some ⟨b,0,none⟩),.int .i64 nx,.slice ps rows.length c,.slice pp P.length cp])])
  (fun x'=>[A5 Aj x'.2.2.1 x'.1 x'.2.2.2,A5 Aj ⟨some b9,cap9,x'.2.1⟩ nx (rpF A0 M Ng (P.take x'.1) (rows.take x'.1) x)]) (fun x'=>x'.1≤P.length) (fun x'=>P.length-x'.1) (0,cs9,⟨none,0,[]⟩,[]) [0,1] rfl rfl rfl (Nat.zero_le _) (by repeat (first|exact Fr.sub_nil _|refine Fr.sub_cons rfl ?_)) rfl rfl ?_
 rintro ⟨i,cs,r,tl⟩ hi ih
 simp only [List.cons_append,List.nil_append] at hi ih ⊢
 by_cases hil:i<P.length
 ·obtain ⟨pi,hpi⟩:∃ pi,P[i]?=some pi:=⟨_,List.getElem?_eq_getElem hil⟩
  obtain ⟨ri,at_r⟩:∃ ri,rows[i]?=some ri:=⟨_,List.getElem?_eq_getElem (by omega)⟩
  have at_p:(Bc P)[i]?=some (pi:Int):=I3 hpi
  have hpn:=hR.ech.lt pi (List.mem_of_getElem? hpi)
  have hri:=hR.mat ri (List.mem_of_getElem? at_r)
  have hL:=O.rp_wd (P:=P.take i) (R:=rows.take i) (fun r hr=>hR.mat r (List.mem_of_mem_take hr)) hx
  have hst:rpF A0 M Ng (P.take (i+1)) (rows.take (i+1)) x=F6 A0 M (Ng (Bj (rpF A0 M Ng (P.take i) (rows.take i) x) pi)) ri (rpF A0 M Ng (P.take i) (rows.take i) x):=by
   rw [List.take_add_one,List.take_add_one,hpi,at_r]
   exact ADL (by rw [List.length_take,List.length_take,hlen])
  have ih':=fun cs r tl=>ih (i+1,cs,r,tl) (by dsimp only;omega) (by dsimp only;omega)
  dsimp only at ih'
  simp only [hst] at ih'
  generalize rpF A0 M Ng (P.take i) (rows.take i) x=L at *
  have at_y:L[pi]?=some (Bj L pi):=by rw [Bj,List.getD_eq_getElem?_getD,List.getElem?_eq_getElem (by rw [hL.1];exact hpn)];rfl
  obtain ⟨y0,y1⟩:=Bm (by omega) hL pi
  generalize Bj L pi=y at *
  obtain ⟨⟨n0,n1⟩,_⟩:=O.ng y y0 y1
  by_cases hy:y=0
  ·have e0:F6 A0 M (Ng y) ri L=L:=by rw [hy,O.n0];exact O.axp0 hri hL
   rw [e0] at ih'
   refine wk 6 cz ?_
   intro h1
   refine Aa rfl (H8 8 (i) rfl rfl rfl Ce rfl (by omega) fun z1 hz1 b2 o1=>?_)
   obtain rfl:_=z1:=Option.some.inj (at_p.symm.trans hz1)
   refine Aa rfl (Av 0 rfl rfl Ci fun ⟨r1,r2⟩=>?_)
   refine wk 4 cz ?_
   refine Aa rfl (Tl 1 2 (pi) rfl rfl rfl Ci rfl (by assumption) fun hr1=>?_)
   refine wk 4 cz ?_
   intro b3
   refine Aa rfl (Fj (z:=(y:Int)) 1 0 1 rfl rfl rfl rfl rfl Ce Ee rfl (fun w A hG=>(Dz (by first|(simp only [Bx];omega)|(simp [Bx];done)))) (by omega) _ G2 (by omega) fun r3=>?_)
   refine wk 8 cz ?_
   intro h2
   refine Jx [true,false,true,true] [0,3,4,5,6,7,8,9,10,11] (by exact Ul rfl) rfl rfl (ih' cs r3 (tl++[y]))
  ·have hy':=hy
   obtain ⟨hax0,hax1⟩:Wd (p ^ m) nx (F6 A0 M (Ng y) ri L):=FF.axw n0 n1 hri hL
   have hLl:=hL.1
   have hrl:=hri.1
   refine wk 6 cz ?_
   intro h1
   refine Aa rfl (H8 8 (i) rfl rfl rfl Ce rfl (by omega) fun z1 hz1 b2 o1=>?_)
   obtain rfl:_=z1:=Option.some.inj (at_p.symm.trans hz1)
   refine Aa rfl (Av 0 rfl rfl Ci fun ⟨r1,r2⟩=>?_)
   refine wk 4 cz ?_
   refine Aa rfl (Tl 1 2 (pi) rfl rfl rfl Ci rfl (by assumption) fun hr1=>?_)
   refine wk 4 cz ?_
   intro b3
   refine Aa rfl (Fj (z:=(y:Int)) 1 0 1 rfl rfl rfl rfl rfl Ce Ee rfl (fun w A hG=>(Dz (by first|(simp only [Bx];omega)|(simp [Bx];done)))) (by omega) _ G2 (by omega) fun r3=>?_)
   refine wk 8 cz ?_
   intro h2
   refine Aa rfl (Bu 3 rfl rfl Hp rfl ?_)
   refine wk 1 cz ?_
   refine Aa rfl (H8 9 (i) rfl rfl rfl Df rfl (by omega) fun z1 hz2 b4 o2=>?_)
   obtain rfl:_=z1:=Option.some.inj (at_r.symm.trans hz2)
   refine Aa rfl (Tk 0 rfl rfl E6 fun pa1 ca1=>?_)
   refine wk 3 cz ?_
   refine Af (X:=Nat×List Value) [2,4,5,6,7,8,14,15,16,17,18,19,20,21,22,23,24,25,26,27,28,29,30,31,32,33,34,35,36,37] [0,1,2,3,4,5,6,7,8,9,10,11,12,13] (fun z=>[(38,.int .i64 (z.1:Int))]) (fun z=>[(r3.bo,3,r3.cs),(some b3,3,[.int .i64 y]),(some b9,3,z.2),(some b1,108,[.pointer (some ⟨b,0,none⟩),.int .i64 nx,.slice ps rows.length c,.slice pp P.length cp])]) (fun z=>[A5 Aj ⟨some b9,cap9,z.2⟩ nx ((F6 A0 M (Ng y) ri L).take z.1++L.drop z.1)]) (fun z=>z.1≤nx) (fun z=>nx-z.1) (0,cs) [5] rfl rfl rfl (Nat.zero_le _) (by repeat (first|exact Fr.sub_nil _|refine Fr.sub_cons rfl ?_)) rfl rfl ?_
   rintro ⟨j,cs⟩ hj ihj
   simp only [List.cons_append,List.nil_append] at hj ihj ⊢
   by_cases hjl:j<nx
   ·obtain ⟨z,at_z⟩:∃ z,ri[j]?=some z:=⟨_,List.getElem?_eq_getElem (by omega)⟩
    obtain ⟨u,hu⟩:∃ u,L[j]?=some u:=⟨_,List.getElem?_eq_getElem (by omega)⟩
    obtain ⟨z0,z1⟩:=hri.2 z (List.mem_of_getElem? at_z)
    obtain ⟨u0,u1⟩:=hL.2 u (List.mem_of_getElem? hu)
    obtain ⟨m0,m1⟩:=FF.ml y z y0 y1 z0 z1
    have hT:(F6 A0 M (Ng y) ri L)[j]?=some (A0 u (Ng (M y z))):=by rw [F6,List.getElem?_zipWith,hu,at_z,O.ng_mul y0 y1 z0 z1]
    have hLj:=(ADa hax0 hL.1 hjl).trans hu
    have hset:=AAv hax0 hL.1 hjl hT
    have hLl:((F6 A0 M (Ng y) ri L).take j++L.drop j).length=nx:=by rw [List.length_append,List.length_take,List.length_drop];omega
    have ihj':=fun cs=>ihj (j+1,cs) (by dsimp only;omega) (by dsimp only;omega)
    dsimp only at ihj'
    rw [← hset] at ihj'
    generalize (F6 A0 M (Ng y) ri L).take j++L.drop j=L2 at *
    obtain ⟨⟨g0,g1⟩,_⟩:=O.ng _ m0 m1
    obtain ⟨a0,a1⟩:=FF.al u _ u0 u1 g0 g1
    refine wk 6 cz ?_
    intro h3
    refine Aa rfl (H8 1 (j) rfl rfl rfl Ce rfl (by omega) fun z2 hz3 b5 o3=>?_)
    obtain rfl:_=z2:=Option.some.inj (at_z.symm.trans hz3)
    refine Aa rfl (Av 0 rfl rfl Ci fun ⟨r4,r5⟩=>?_)
    refine wk 2 cz ?_
    (apply E7 it mx 14;(· rfl);(· rfl))
    (apply A1 2;(· rfl);(· simp))
    (apply Ac;(· rfl);(· exact Bz fun _=>An rfl AFR Al))
    (apply Ac;(· rfl);(· exact Bv 3 rfl rfl Xw rfl))
    (apply A1 2;(· rfl);(· simp))
    (apply Ac;(· rfl);(· exact Bz fun _=>Be (j) (j) rfl rfl Ce rfl (by omega) (Nat.mul_one _) Al))
    (apply Ac;(· rfl);(· exact Hz 2 1 (j) rfl rfl rfl Ci rfl (by assumption)))
    (apply Ac;(· rfl);(· exact Bz fun _=>An rfl AFR Al))
    (apply Ac;(· rfl);(· exact Bv 3 rfl rfl Xw rfl))
    (apply A1 2;(· rfl);(· simp))
    (apply Ac;(· rfl);(· exact Bz fun _=>Aw [10,11,12] rfl (A6 (by omega) (by omega) (by omega) (by omega)) rfl (by rintro _ _ _ ⟨rfl,rfl,rfl⟩;exact Al)))
    (apply Ac;(· rfl);(· exact Bz fun _=>Aw [10] rfl (La (by omega) (by omega) (by omega) (by omega)) rfl (by rintro _ _ _ ⟨rfl,rfl,rfl⟩;exact Al)))
    refine Er rfl ?_
    simp only [List.map_cons,List.map_nil,List.cons_append,List.nil_append]
    refine wk 1 cz ?_
    refine Aa rfl (Hh (vs:=[Value.int IntKind.i64 (A0 u (Ng (M y z)))]) (z:=(A0 u (Ng (M y z)):Int)) 2 1 (j) rfl rfl rfl rfl rfl Ci (Nat.mul_one _).symm (by omega) (fun w A hG=>(Dz (by first|(simp only [Bx];omega)|(simp [Bx];done)))) fun cs1=>?_)
    refine wk 3 cz ?_
    exact tw (ihj' cs1)
   ·obtain rfl:nx=j:=by omega
    rw [List.take_of_length_le (by omega),List.drop_of_length_le (by omega),List.append_nil]
    refine wk 7 cz ?_
    intro h3
    refine Jx [true,false,true,true] [3,0,7,8,9,10,11,12,13,14] (by exact Ul rfl) rfl rfl (ih' cs r3 (tl++[y]))
 ·obtain rfl:i=P.length:=by omega
  rw [List.take_length,← hlen,List.take_length] at *
  refine wk 7 cz ?_
  intro h1
  refine Dt 3 [1] [1] rfl (.tmp rfl (.tmp rfl .nil)) rfl rfl rfl ⟨⟨some b9,cap9,cs⟩,_,_,_,rfl,rfl,rfl⟩
structure PtI (l L:List Int) (a e:Nat) (p:Int) (i j:Nat):Prop where
 seg:Seg a e l L
 p0:Bj L a=p
 i1:a+1≤i
 ij:i≤j+1
 je:j<e
 lo:∀ k,a+1≤k→k<i→Bj L k<p
 hi:∀ k,j<k→k<e→p≤Bj L k
section
variable {l L:List Int}{a e i j:Nat}{p:Int}
theorem PtI.next (h:PtI l L a e p i j) (hij:i≤j) (hx:Bj L i<p):PtI l L a e p (i+1) j:=⟨h.seg,h.p0,by have:=h.i1;omega,by omega,h.je,fun k k1 k2=>by
 by_cases c:k=i
 ·rw [c];exact hx
 ·exact h.lo k k1 (by omega),h.hi⟩
theorem PtI.swap (h:PtI l L a e p i j) (he:e≤l.length) (hij:i≤j) (hx:¬ Bj L i<p) (hy:Bj L j<p):i<j∧PtI l (sw L i j) a e p (i+1) (j-1):=by
 have hL:=h.seg.len
 have h1:=h.i1
 have h2:=h.je
 have hne:i≠j:=fun c=>by rw [c] at hx;exact hx hy
 have hsw:∀ k,Bj (sw L i j) k=if k=j then Bj L i else if k=i then Bj L j else Bj L k:=fun k=>Yv (by omega) (by omega)
 refine ⟨by omega,h.seg.trans (AAf (by omega) (by omega) (by omega) (by omega) (by omega)),?_,by omega,by omega,by omega,fun k k1 k2=>?_,fun k k1 k2=>?_⟩
 ·rw [hsw,if_neg (by omega),if_neg (by omega)];exact h.p0
 ·rw [hsw,if_neg (by omega)]
  by_cases c:k=i
  ·rw [if_pos c];exact hy
  ·rw [if_neg c];exact h.lo k k1 (by omega)
 ·rw [hsw]
  by_cases c:k=j
  ·rw [if_pos c];omega
  ·rw [if_neg c,if_neg (by omega)];exact h.hi k (by omega) k2
structure PtE (l L:List Int) (a e m:Nat):Prop where
 seg:Seg a e l L
 am:a≤m
 me:m<e
 lo:∀ k,a≤k→k<m→Bj L k≤Bj L m
 hi:∀ k,m<k→k<e→Bj L m≤Bj L k
theorem PtI.fin (h:PtI l L a e p i j) (he:e≤l.length) (hij:¬ i≤j):PtE l (sw L j a) a e j:=by
 have hL:=h.seg.len
 have h1:=h.i1
 have h2:=h.je
 have h3:=h.ij
 have hsw:∀ k,Bj (sw L j a) k=if k=a then Bj L j else if k=j then Bj L a else Bj L k:=fun k=>Yv (by omega) (by omega)
 have hm:Bj (sw L j a) j=p:=by
  rw [hsw]
  by_cases c:j=a
  ·rw [if_pos c,c];exact h.p0
  ·rw [if_neg c,if_pos rfl];exact h.p0
 refine ⟨h.seg.trans (AAf (by omega) (by omega) (by omega) (by omega) (by omega)),by omega,h2,fun k k1 k2=>?_,fun k k1 k2=>?_⟩
 ·rw [hm,hsw]
  by_cases c:k=a
  ·rw [if_pos c];exact Int.le_of_lt (h.lo j (by omega) (by omega))
  ·rw [if_neg c,if_neg (by omega)];exact Int.le_of_lt (h.lo k (by omega) (by omega))
 ·rw [hm,hsw,if_neg (by omega),if_neg (by omega)]
  exact h.hi k k1 k2
end
open Go Go.Fw
set_option maxRecDepth 100000
set_option linter.unusedVariables false
set_option linter.unusedSimpArgs false
set_option maxHeartbeats 0
structure PeI (l L:List Int) (a e:Nat) (p:Int) (i j:Nat):Prop where
 seg:Seg a e l L
 p0:Bj L a=p
 i1:a+1≤i
 ij:i≤j+1
 je:j<e
 lo:∀ k,a+1≤k→k<i→Bj L k≤p
 hi:∀ k,j<k→k<e→p<Bj L k
section
variable {l L:List Int}{a e i j:Nat}{p:Int}
theorem PeI.next (h:PeI l L a e p i j) (hij:i≤j) (hx:¬ p<Bj L i):PeI l L a e p (i+1) j:=⟨h.seg,h.p0,by have:=h.i1;omega,by omega,h.je,fun k k1 k2=>by
 by_cases c:k=i
 ·rw [c];omega
 ·exact h.lo k k1 (by omega),h.hi⟩
theorem PeI.swap (h:PeI l L a e p i j) (he:e≤l.length) (hij:i≤j) (hx:p<Bj L i) (hy:¬ p<Bj L j):i<j∧PeI l (sw L i j) a e p (i+1) (j-1):=by
 have hL:=h.seg.len
 have h1:=h.i1
 have h2:=h.je
 have hne:i≠j:=fun c=>by rw [c] at hx;exact hy hx
 have hsw:∀ k,Bj (sw L i j) k=if k=j then Bj L i else if k=i then Bj L j else Bj L k:=fun k=>Yv (by omega) (by omega)
 refine ⟨by omega,h.seg.trans (AAf (by omega) (by omega) (by omega) (by omega) (by omega)),?_,by omega,by omega,by omega,fun k k1 k2=>?_,fun k k1 k2=>?_⟩
 ·rw [hsw,if_neg (by omega),if_neg (by omega)];exact h.p0
 ·rw [hsw,if_neg (by omega)]
  by_cases c:k=i
  ·rw [if_pos c];omega
  ·rw [if_neg c];exact h.lo k k1 (by omega)
 ·rw [hsw]
  by_cases c:k=j
  ·rw [if_pos c];exact hx
  ·rw [if_neg c,if_neg (by omega)];exact h.hi k (by omega) k2
structure PeE (l L:List Int) (a e m:Nat) (p:Int):Prop where
 seg:Seg a e l L
 am:a<m
 me:m≤e
 lo:∀ k,a≤k→k<m→Bj L k≤p
 hi:∀ k,m≤k→k<e→p<Bj L k
theorem PeI.fin (h:PeI l L a e p i j) (hij:¬ i≤j):PeE l L a e i p:=by
 have h1:=h.i1
 have h2:=h.je
 have h3:=h.ij
 refine ⟨h.seg,by omega,by omega,fun k k1 k2=>?_,fun k k1 k2=>h.hi k (by omega) k2⟩
 by_cases c:k=a
 ·rw [c,h.p0];exact Int.le_refl _
 ·exact h.lo k (by omega) k2
end
open Go Go.Fw
set_option maxRecDepth 100000
set_option linter.unusedVariables false
set_option linter.unusedSimpArgs false
set_option maxHeartbeats 0
structure PdI (l L:List Int) (a0 e0 a e:Nat):Prop where
 seg:Seg a0 e0 l L
 aa:a0≤a
 ae:a≤e
 ee:e≤e0
 low:AEN L a e
 fin:∀ L',Seg a e L L'→K4 L' a e→K4 L' a0 e0
section
variable {l L L2 L3:List Int}{a0 e0 a e m:Nat}{p:Int}
theorem PdI.seg2 (h:PdI l L a0 e0 a e) (s:Seg a e L L2):PdI l L2 a0 e0 a e :=
 ⟨h.seg.trans (s.wide h.aa h.ee),h.aa,h.ae,h.ee,h.low.seg s,fun L' t u=>h.fin L' (s.trans t) u⟩
theorem PdI.done (h:PdI l L a0 e0 a e) (s:Seg a e L L2) (u:K4 L2 a e):Seg a0 e0 l L2∧K4 L2 a0 e0 :=
 ⟨h.seg.trans (s.wide h.aa h.ee),h.fin _ s u⟩
theorem PdI.eq (h:PdI l L a0 e0 a e) (h0:0<a) (hp:p≤Bj L (a-1)) (q:PeE L L2 a e m p):PdI l L2 a0 e0 m e:=by
 have hlow:∀ i,a≤i→i<e→p≤Bj L i:=fun i h1 h2=>by
  rcases h.low with h3|h3
  ·omega
  ·have:=h3 i h1 h2;omega
 have hall:=q.seg.all (P:=fun x=>p≤x) hlow
 have am:=q.am
 have me:=q.me
 have heq:∀ i,a≤i→i<m→Bj L2 i=p:=fun i h1 h2=>Int.le_antisymm (q.lo i h1 h2) (hall i h1 (by omega))
 have h2:=h.seg2 q.seg
 refine ⟨h2.seg,by have:=h.aa;omega,me,h.ee,.inr fun i h1 h3=>?_,fun L' s u=>?_⟩
 ·rw [heq (m-1) (by omega) (by omega)];exact Int.le_of_lt (q.hi i h1 h3)
 ·refine h2.fin L' (s.wide (by omega) (Nat.le_refl _)) (ALa (m:=m) (x:=p) (fun i h1 h3=>?_) (fun i h1 h3=>?_) u)
  ·rw [s.out i (.inl h3)];exact heq i h1 h3
  ·exact s.all (P:=fun x=>p≤x) (fun j j1 j2=>Int.le_of_lt (q.hi j j1 j2)) i h1 h3
end
open Go Go.Fw
set_option maxRecDepth 100000
set_option linter.unusedVariables false
set_option linter.unusedSimpArgs false
set_option maxHeartbeats 0
noncomputable abbrev rsR (p m:Nat) (md:List Int) (P:List Nat) (rows B:List (List Int)):List (List Int):=B.map (rpF (Ad (fA p m)) (Ad (fM p (Az m md))) (B8 p m) P rows)
theorem T1 {p m b ng cg ce cl n c k cp nx cx N:Nat}{pg pe pl ps pp px:Option Addr}{md:List Int}{rows B:List (List Int)}{P:List Nat}(K:Fok p m md) (hR:Red (p ^ m) N rows P) (hlen:rows.length=P.length) (hN1:1≤N) (hN:N≤1000000) (hPl:P.length≤1000000) (hB:Da (p ^ m) N B) :
  Bn Tryz.prog 160 [.agg #[.pointer (some ⟨b,0,none⟩),.int .i64 N,.slice ps n c,.slice pp k cp],.agg #[.int .i64 N,.slice px nx cx]] [] [Jl b p m (p ^ m) pg ng cg pe (p ^ m-1) ce pl (p ^ m) cl,Ap Aj pe (p ^ m-1) ce (J1 p m md),Ap Aj pl (p ^ m) cl (J7 p m md),Ap (Ah Aj) ps n c rows,Ap Aj pp k cp (Bc P),Ap (Ah Aj) px nx cx B]
   (fun v Φ β=>∃ (pr:Option Addr) (cr:Nat),v = .agg #[.int .i64 N,.slice pr nx cr]∧Φ=[Ap (Ah Aj) pr nx cr (rsR p m md P rows B)]∧β=[]):=by
 refine Ab (F:=T4) rfl fun C=>?_
 refine A8 5 rfl fun hn hb _=>?_
 subst hn
 have hb':B.length*24≤140737488355328:=hb
 have hq:=K.q
 have O:=Dy K
 have Sk:=fun {b ng cg ce cl n c k cp nx cx:Nat}{pg pe pl ps pp px:Option Addr}{x:List Int}(h:Wd (p ^ m) N x)=>S3 (b:=b) (ng:=ng) (cg:=cg) (ce:=ce) (cl:=cl) (n:=n) (c:=c) (k:=k) (cp:=cp) (nx:=nx) (cx:=cx) (pg:=pg) (pe:=pe) (pl:=pl) (ps:=ps) (pp:=pp) (px:=px) K hR hlen hN1 hN hPl h
 refine Aq [_,_] rfl ?_
 refine Aa rfl (Ct rfl fun b1=>?_)
 refine Aa rfl (Ct rfl fun b2=>?_)
 refine Aa rfl (B1 Hq fun b3=>?_)
 refine Aq [_,_] rfl ?_
 refine Aa rfl (An rfl Jq ?_)
 refine Aa rfl (Bu 1 rfl rfl Ci rfl ?_)
 refine Aa rfl (Dc (cs:=[Value.int IntKind.i64 ↑N,Value.slice none 0 0]) W1 Hq rfl rfl ?_)
 refine Aa rfl (B1 Hq fun b4=>?_)
 refine Aa rfl (Bf 0 rfl rfl rfl Gg rfl rfl (by simp [Value.oneCell']) ?_)
 refine Aq [_,_,_] rfl ?_
 refine Aa rfl (An rfl Ic ?_)
 refine Aa rfl (Bu 2 rfl rfl Hp rfl ?_)
 refine Aa rfl (Hv Df rfl ?_)
 refine Ai it 1 rfl (by simp) ?_
 refine Aq [_,_,_] rfl ?_
 refine Fh (Ah Aj) 22 ?_
 simp only [Cc,Dr,setB,List.take_succ_cons,List.cons_append,List.nil_append,List.take_zero,List.drop_succ_cons,List.drop_zero,List.length_singleton,Nat.zero_add]
 refine Af (X:=Nat×Row) [2,4,5,14,15] [0,1,2,3,4,5,6] (fun z=>[(16,.int .i64 (z.1:Int))]) (fun z=>(z.2.bo,22,z.2.cs)::(some b4,62,[.int .i64 N,.slice (ad z.2.bo) z.1 z.2.cap])::_) (fun z=>[A5 (Ah Aj) z.2 z.1 (rsR p m md P rows (B.take z.1))]) (fun z=>z.1≤B.length) (fun z=>B.length-z.1) (0,⟨none,0,[]⟩) [0] rfl rfl rfl (Nat.zero_le _) (by repeat (first|exact Fr.sub_nil _|refine Fr.sub_cons rfl ?_)) rfl rfl ?_
 rintro ⟨i,r⟩ hi ih
 simp only [List.cons_append,List.nil_append] at hi ih ⊢
 by_cases hil:i<B.length
 ·obtain ⟨u,at_u⟩:∃ u,B[i]?=some u:=⟨_,List.getElem?_eq_getElem hil⟩
  have hu:=hB u (List.mem_of_getElem? at_u)
  have ih1:=fun r=>ih (i+1,r) (by dsimp only;omega) (by dsimp only;omega)
  dsimp only at ih1
  rw [rsR,List.take_add_one (l:=B),at_u,Option.toList_some,List.map_append,List.map_cons,List.map_nil] at ih1
  have hw:=O.rp_wd (P:=P) hR.mat hu
  have hwl:=hw.1
  clear ih
  refine wk 18 (ct @Sk cz) ?_
  intro h1 b5 o1 hz1 pa1 ca1 r1 pt1 kt1 ct1 b6
  refine Dx 1 0 rfl rfl (by show (N)*8≤140737488355328;omega) ?_
  refine Aa rfl (Fj (z:=rpF (Ad (fA p m)) (Ad (fM p (Az m md))) (B8 p m) P rows u) 1 0 4 rfl rfl rfl rfl rfl Df Gq rfl (fun w A hG=>(Ax (hG _ (Ae (n:=0) rfl)))) (by omega) _ Jw (by omega) fun r2=>?_)
  refine wk 5 cz ?_
  refine Jx [true,false,true,true,true,true] [0,6,7,8,9,10,11,12] (by exact Ul rfl) rfl rfl (ih1 r2)
 ·obtain rfl:i=B.length:=by omega
  clear ih
  rw [List.take_length]
  refine Dx 0 0 rfl rfl (by show B.length*24≤140737488355328;omega) ?_
  simp only [List.eraseIdx_cons_zero,List.eraseIdx_cons_succ]
  refine wk 8 cz ?_
  intro h1
  refine Bb [0] rfl (.agg 1 rfl rfl Gg rfl .nil) rfl ⟨_,_,rfl,rfl,rfl⟩
section
variable {p m n c nm cm n2 c2 N:Nat}{pm ps p2:Option Addr}{md:List Int}{rows B:List (List Int)}
theorem Rd (CC:Cok p m md N rows) (CB:Cok p m md N B) :
  Bn Tryz.prog 159 [.agg #[.int .i64 p,.int .i64 m,.slice pm nm cm],.agg #[.int .i64 N,.slice ps n c],.agg #[.int .i64 N,.slice p2 n2 c2]] [] [Ap Aj pm nm cm md,Ap (Ah Aj) ps n c rows,Ap (Ah Aj) p2 n2 c2 B]
   (fun v Φ β=>∃ (b b':Nat) (pg:Option Addr) (cg:Nat) (pe:Option Addr) (ce:Nat) (pl:Option Addr) (cl:Nat) (pp pp':Option Addr) (cp cp':Nat),
    v = .tuple #[.agg #[.pointer (some ⟨b,0,none⟩),.int .i64 N,.slice ps rows.length c,.slice pp (C4 p m md N rows).2.length cp],.agg #[.pointer (some ⟨b',0,none⟩),.int .i64 N,.slice p2 B.length c2,.slice pp' (C4 p m md N B).2.length cp'],.int .i64 0]
    ∧ Φ=Ap Aj pp (C4 p m md N rows).2.length cp (Bc (C4 p m md N rows).2)::gfL p m md b pg cg pe ce pl cl∧β=[]):=by
 refine Ab (F:=ACv) rfl fun C=>?_
 have h64:=CC.n64
 have hl1:=CC.len
 have hl2:=CB.len
 have Ej:=fun {pm ps:Option Addr}{nm cm n c:Nat}{rows:List (List Int)}(h:Cok p m md N rows)=>K8 (pm:=pm) (nm:=nm) (cm:=cm) (ps:=ps) (n:=n) (c:=c) (rows:=rows) h.K (show N≤256 by omega) (by have:=h.len;omega) h.mat h.can
 refine wk 38 (ct @Ej (ct @Ej cz)) ?_
 intro b1 b2 b3 b4 b5 b6 pg1 cg1 pe1 ce1 pl1 cl1 pp1 cp1 h1 b7 pg2 cg2 pe2 ce2 pl2 cl2 pp2 cp2 h2 h3
 refine Bb [5,6,7,8,9] rfl (.agg 1 rfl rfl AAu rfl (.agg 0 rfl rfl AAu rfl (.tmp rfl .nil))) rfl ⟨_,_,_,_,_,_,_,_,_,_,_,_,rfl,rfl,rfl⟩
theorem Sa (CC:Cok p m md N rows) (CB:Cok p m md N B) :
  Bn Tryz.prog 125 [.agg #[.int .i64 p,.int .i64 m,.slice pm nm cm],.agg #[.int .i64 N,.slice ps n c],.agg #[.int .i64 N,.slice p2 n2 c2]] [] [Ap Aj pm nm cm md,Ap (Ah Aj) ps n c rows,Ap (Ah Aj) p2 n2 c2 B]
   (fun v Φ β=>∃ (pb:Option Addr) (nb cb:Nat),v = .tuple #[.agg #[.int .i64 N,.slice pb nb cb],.int .i64 0]∧Φ=[Ap (Ah Aj) pb nb cb (C4 p m md N (rows++B)).1]∧β=[]):=by
 refine Ab (F:=AEe) rfl fun C=>?_
 refine A8 1 rfl fun hn _ _=>?_
 subst hn
 refine A8 2 rfl fun hn _ _=>?_
 subst hn
 have K:=CC.K
 have O:=Dy K
 have h64:=CC.n64
 have h1:=CC.n1
 have hl1:=CC.len
 have hl2:=CB.len
 obtain ⟨hR,hRl⟩:=CC.red
 have hPl:=hR.piv_le
 have hRM:Da (p ^ m) N (rsR p m md (C4 p m md N rows).2 rows B):=O.rests_mat CC.mat CB.mat
 have hRL:(rsR p m md (C4 p m md N rows).2 rows B).length=B.length:=List.length_map _
 have hC1:Da (p ^ m) N (C4 p m md N (rsR p m md (C4 p m md N rows).2 rows B)).1:=(O.cn hRM).1.mat
 obtain ⟨hC2,hC3⟩:=Wo K hRM
 have hS:C4 p m md N ((C4 p m md N (rsR p m md (C4 p m md N rows).2 rows B)).1++rows)=C4 p m md N (rows++B):=O.sum_rests CC.mat CB.mat
 have hSM:=Ji hC1 CC.mat
 rw [← hS]
 have Qd:=fun {pm ps p2:Option Addr}{nm cm n c n2 c2:Nat}=>Rd (pm:=pm) (nm:=nm) (cm:=cm) (ps:=ps) (n:=n) (c:=c) (p2:=p2) (n2:=n2) (c2:=c2) CC CB
 have T7:=fun {b ng cg ce cl n c k cp nx cx:Nat}{pg pe pl ps pp px:Option Addr}=>T1 (b:=b) (ng:=ng) (cg:=cg) (ce:=ce) (cl:=cl) (n:=n) (c:=c) (k:=k) (cp:=cp) (nx:=nx) (cx:=cx) (pg:=pg) (pe:=pe) (pl:=pl) (ps:=ps) (pp:=pp) (px:=px) K hR hRl h1 (show N≤1000000 by omega) (by omega) CB.mat
 have Br:=fun {pm ps:Option Addr}{nm cm n c:Nat}{rows:List (List Int)}(hl:rows.length≤256) (hM:Da (p ^ m) N rows)=>Tx (pm:=pm) (ps:=ps) (nm:=nm) (cm:=cm) (n:=n) (c:=c) (rows:=rows) K (show N≤256 by omega) hl hM
 generalize hP:(C4 p m md N rows).2=P at *
 generalize hr:rsR p m md P rows B=rs at *
 refine wk 22 (ct @Qd cz) ?_
 intro b1 b2 b3 b4 b5 b'1 pg1 cg1 pe1 ce1 pl1 cl1 pp1 pp'1 cp1 cp'1 b6 b7 h2
 (apply AIk (x0:=none) it mx 0 10 [7,8,11] 2;(· rfl);(· rfl);(· rfl);(· decide))
 (apply Ac;(· rfl);(· exact Cu 5 rfl rfl Ga rfl))
 (apply Ac;(· rfl);(· exact Cu 1 rfl rfl AAu rfl))
 (apply Ac;(· rfl);(· exact Cu 3 rfl rfl Gg rfl))
 (apply I1 (val:=(fun g=>Value.agg #[Value.int IntKind.i64 ↑N,Value.slice (g 0).fst B.length (g 1).snd.fst])) (f:=(fun g=>[Ap (Ah Aj) (g 0).fst B.length (g 1).snd.fst rs]));(· rfl);(· exact Bz fun _=>Aw [1,3,4,6,0,7] rfl (T7) rfl (by rintro _ _ _ ⟨prg0,crg1,rfl,rfl,rfl⟩;exact fun _ _ _ hG=>⟨(fun|0=>(prg0,0,0,[])|1=>(none,crg1,0,[])|_=>default),rfl,fun g hg=>Ey (hG _ (List.mem_append_left _ hg))⟩));intro g1;dsimp only [List.map_cons,List.map_nil])
 (apply I1 (val:=(fun g=>Value.tuple #[Value.agg #[Value.int IntKind.i64 ↑N,Value.slice (g 0).fst (C4 p m md N rs).snd.length (C4 p m md N rs).snd.length],Value.slice (g 1).fst (C4 p m md N rs).snd.length (g 2).snd.fst,Value.int IntKind.i64 0])) (f:=(fun g=>[Ap (Ah Aj) (g 0).fst (C4 p m md N rs).snd.length (C4 p m md N rs).snd.length (C4 p m md N rs).fst,Ap Aj (g 1).fst (C4 p m md N rs).snd.length (g 2).snd.fst (Bc (C4 p m md N rs).snd)]));(· rfl);(· exact Bz fun _=>Aw [6,0] rfl (Br (by omega) (by omega)) rfl (by rintro _ _ _ ⟨pbg0,ppg1,cpg2,rfl,rfl,rfl⟩;exact fun _ _ _ hG=>⟨(fun|0=>(pbg0,0,0,[])|1=>(ppg1,0,0,[])|2=>(none,cpg2,0,[])|_=>default),rfl,fun g hg=>Ey (hG _ (List.mem_append_left _ hg))⟩));intro g2;dsimp only [List.map_cons,List.map_nil])
 (apply G0 [32] (fun vs=>vs.getD 0 undef) (v:=Value.tuple #[Value.agg #[Value.int IntKind.i64 ↑N,Value.slice (g2 0).fst (C4 p m md N rs).snd.length (C4 p m md N rs).snd.length],Value.slice (g2 1).fst (C4 p m md N rs).snd.length (g2 2).snd.fst,Value.int IntKind.i64 0]);(· rfl);(· rfl);(· rfl);(· rfl);(· exact Bz fun _=>Ki it rfl (by trivial) Al))
 (apply G0 [27] (fun vs=>match vs.getD 0 undef with | .tuple a=>a.getD 0 undef|_=>undef) (v:=Value.agg #[Value.int IntKind.i64 ↑N,Value.slice (g2 0).fst (C4 p m md N rs).snd.length (C4 p m md N rs).snd.length]);(· rfl);(· rfl);(· rfl);(· rfl);(· exact Bz fun _=>Ki it rfl (by trivial) Al))
 (apply G0 [27] (fun vs=>match vs.getD 0 undef with | .tuple a=>a.getD 1 undef|_=>undef) (v:=Value.slice (g2 1).fst (C4 p m md N rs).snd.length (g2 2).snd.fst);(· rfl);(· rfl);(· rfl);(· rfl);(· exact Bz fun _=>Ki it rfl (by trivial) Al))
 (apply Ac;(· rfl);(· exact Bz fun _=>Ki it rfl (by trivial) Al))
 (apply H2;(· rfl);(· exact Hq);intro b8)
 refine Fs rfl ?_
 (rotate_left;rfl;rotate_right)
 simp only [List.map_cons,List.map_nil,List.cons_append,List.nil_append]
 refine G5 it rfl rfl ⟨⟨_,_,_,_,rfl,rfl,rfl,rfl,rfl,rfl,(by first|trivial|(repeat' first|exact trivial|apply And.intro|omega))⟩,⟨⟨_,_,_,_,rfl,rfl,rfl,rfl,rfl,rfl,(by first|trivial|(repeat' first|exact trivial|apply And.intro|omega))⟩,trivial⟩⟩ (Bf 0 rfl rfl rfl Gg rfl rfl (by simp [Value.oneCell']) ?_)
 refine AFl it rfl rfl rfl rfl rfl (by trivial) ?_ ⟨⟨_,_,_,_,rfl,rfl,rfl,rfl,rfl,rfl,(by first|trivial|(repeat' first|exact trivial|apply And.intro|omega))⟩,⟨⟨_,_,_,_,rfl,rfl,rfl,rfl,rfl,rfl,(by first|trivial|(repeat' first|exact trivial|apply And.intro|omega))⟩,trivial⟩⟩
 refine Is it ⟨⟨_,_,_,_,rfl,rfl,rfl,rfl,rfl,rfl,(by first|trivial|(repeat' first|exact trivial|apply And.intro|omega))⟩,⟨⟨_,_,_,_,rfl,rfl,rfl,rfl,rfl,rfl,(by first|trivial|(repeat' first|exact trivial|apply And.intro|omega))⟩,⟨⟨_,_,_,_,rfl,rfl,rfl,rfl,rfl,rfl,(by first|trivial|(repeat' first|exact trivial|apply And.intro|omega))⟩,trivial⟩⟩⟩ ?_
 refine wk 10 cz ?_
 intro h3
 refine Aa rfl (AKI 0 9 rfl rfl rfl rfl Df Gq rfl (by omega) _ Jw (by omega) (by first|omega|(show _*24≤_;omega)|(show _*8≤_;omega)) fun pr1 cr1=>?_)
 refine wk 5 cz ?_
 refine Aa rfl (Aw [9,0] rfl (Br (by simp;omega) (by omega)) rfl ?_)
 rintro _ _ _ ⟨pb1,pp2,cp2,rfl,rfl,rfl⟩
 simp only [List.cons_append,List.nil_append]
 simp only [decide_true]
 refine wk 10 cz ?_
 intro b9
 refine Bb [0] rfl (.agg 4 rfl rfl Gg rfl (.tmp rfl .nil)) rfl ⟨_,_,_,rfl,rfl,rfl⟩
end
open Go Go.Fw
set_option maxRecDepth 100000
set_option linter.unusedVariables false
set_option linter.unusedSimpArgs false
set_option maxHeartbeats 0
theorem Cok.nu {p m N:Nat}{md:List Int}{rows:List (List Int)}(CC:Cok p m md N rows):Cok p m md N (Jf p m md N rows):=by
 have O:=Dy CC.K
 refine ⟨CC.K,CC.n1,CC.n64,(O.nu CC.mat).1,?_⟩
 have h:C4 p m md N (Jf p m md N rows)=_:=O.cn_nu CC.mat
 rw [h];rfl
theorem Cok.cn {p m N:Nat}{md:List Int}{rows:List (List Int)}(K:Fok p m md) (h1:1≤N) (h2:N≤64) (hM:Da (p ^ m) N rows):Cok p m md N (C4 p m md N rows).1:=by
 have O:=Dy K
 refine ⟨K,h1,h2,(O.cn hM).1.mat,?_⟩
 have h:C4 p m md N (C4 p m md N rows).1=_:=O.cn_cn hM
 rw [h]
section
variable {p m n c nm cm n2 c2 nm2 cm2 N:Nat}{pm ps p2 pm2:Option Addr}{md:List Int}{rows B:List (List Int)}
theorem Za (CC:Cok p m md N rows) (CB:Cok p m md N B) :
  Bn Tryz.prog 124 [.agg #[.int .i64 p,.int .i64 m,.slice pm nm cm],.agg #[.int .i64 N,.slice ps n c],.agg #[.int .i64 N,.slice p2 n2 c2]] [] [Ap Aj pm nm cm md,Ap (Ah Aj) ps n c rows,Ap (Ah Aj) p2 n2 c2 B]
   (fun v Φ β=>∃ (pb:Option Addr) (nb cb:Nat),v = .tuple #[.agg #[.int .i64 N,.slice pb nb cb],.int .i64 0]∧Φ=[Ap (Ah Aj) pb nb cb (Jf p m md N (Jf p m md N rows++Jf p m md N B))]∧β=[]):=by
 refine Ab (F:=ACU) rfl fun C=>?_
 refine A8 1 rfl fun hn _ _=>?_
 subst hn
 refine A8 2 rfl fun hn _ _=>?_
 subst hn
 have K:=CC.K
 have O:=Dy K
 have h64:=CC.n64
 have h1:=CC.n1
 have hNN:=Ji (CC.nu).mat (CB.nu).mat
 have hS:Jf p m md N (C4 p m md N (Jf p m md N rows++Jf p m md N B)).1=Jf p m md N (Jf p m md N rows++Jf p m md N B):=O.nu_cn hNN
 have CS:=Cok.cn K h1 h64 hNN
 have CN1:=CC.nu
 have CN2:=CB.nu
 rw [← hS]
 have Qd:=fun {pm ps p2:Option Addr}{nm cm n c n2 c2:Nat}=>Rd (pm:=pm) (nm:=nm) (cm:=cm) (ps:=ps) (n:=n) (c:=c) (p2:=p2) (n2:=n2) (c2:=c2) CC CB
 have Ew:=fun {pm ps:Option Addr}{nm cm n c:Nat}{rows:List (List Int)}(h:Cok p m md N rows)=>I4 (pm:=pm) (ps:=ps) (nm:=nm) (cm:=cm) (n:=n) (c:=c) (rows:=rows) K (show N≤256 by omega) (by have:=h.len;omega) h.mat
 have S5:=fun {pm ps p2:Option Addr}{nm cm n c n2 c2:Nat}{rows B:List (List Int)}(h:Cok p m md N rows) (h2:Cok p m md N B)=>Sa (pm:=pm) (nm:=nm) (cm:=cm) (ps:=ps) (n:=n) (c:=c) (p2:=p2) (n2:=n2) (c2:=c2) (rows:=rows) (B:=B) h h2
 refine wk 58 (ct @Qd (ct @Ew (ct @Ew (ct @S5 (ct @Ew cz))))) ?_
 intro b1 b2 b3 b4 b5 b'1 pg1 cg1 pe1 ce1 pl1 cl1 pp1 pp'1 cp1 cp'1 b6 b7 h2 pb1 cb1 b8 pb2 cb2 b9 pb3 nb1 cb3 b10 h3 pb4 cb4
 refine Bb [0] rfl (.agg 5 rfl rfl Gg rfl (.tmp rfl .nil)) rfl ⟨_,_,_,rfl,rfl,rfl⟩
theorem T8 (CC:Cok p m md N rows) (CB:Cok p m md N B):Bn Tryz.prog 123 [.agg #[.int .i64 p,.int .i64 m,.slice pm nm cm,.int .i64 N,.slice ps n c],.agg #[.int .i64 p,.int .i64 m,.slice pm2 nm2 cm2,.int .i64 N,.slice p2 n2 c2]] [] [Ap Aj pm nm cm md,Ap (Ah Aj) ps n c rows,Ap Aj pm2 nm2 cm2 md,Ap (Ah Aj) p2 n2 c2 B] (Rv (.int .i64 0) []):=by
 refine Ab (F:=AFi) rfl fun C=>?_
 have h64:=CC.n64
 have Au:=fun {pm ps:Option Addr}{nm cm n c:Nat}{rows:List (List Int)}(h:Cok p m md N rows)=>D4 (P:=p) (M:=m) (pm:=pm) (ps:=ps) (nm:=nm) (cm:=cm) (n:=n) (c:=c) (md:=md) (rows:=rows) (N:=N) (by simp only [Bx];omega) h.ck
 have ACI:=fun {pm p2:Option Addr}{nm cm n2 c2:Nat}=>AB6 (P:=p) (M:=m) (P2:=p) (M2:=m) (md:=md) (md2:=md) (pm:=pm) (p2:=p2) (nm:=nm) (cm:=cm) (n2:=n2) (c2:=c2) (res:=true) (decide_eq_true ⟨rfl,rfl,rfl⟩)
 refine wk 35 (ct @Au (ct @Au (ct @ACI cz))) ?_
 intro b1 b2 h1 h2 h3
 exact ge
theorem Ue (CC:Cok p m md N rows) (CB:Cok p m md N B):Bn Tryz.prog 83 [.agg #[.int .i64 p,.int .i64 m,.slice pm nm cm,.int .i64 N,.slice ps n c],.agg #[.int .i64 p,.int .i64 m,.slice pm2 nm2 cm2,.int .i64 N,.slice p2 n2 c2]] [] [Ap Aj pm nm cm md,Ap (Ah Aj) ps n c rows,Ap Aj pm2 nm2 cm2 md,Ap (Ah Aj) p2 n2 c2 B] (CdQ p m N md (C4 p m md N (rows++B)).1 0):=by
 refine Ab (F:=AEt) rfl fun C=>?_
 have h8:=CC.K.md8
 have Vb:=fun {pm ps p2 pm2:Option Addr}{nm cm n c n2 c2 nm2 cm2:Nat}=>T8 (pm:=pm) (nm:=nm) (cm:=cm) (ps:=ps) (n:=n) (c:=c) (p2:=p2) (n2:=n2) (c2:=c2) (pm2:=pm2) (nm2:=nm2) (cm2:=cm2) CC CB
 have Iz:=fun {P M N:Int}{pm ps:Option Addr}{nm cm n c:Nat}=>Qb (P:=P) (M:=M) (N:=N) (pm:=pm) (ps:=ps) (nm:=nm) (cm:=cm) (n:=n) (c:=c)
 have S5:=fun {pm ps p2:Option Addr}{nm cm n c n2 c2:Nat}=>Sa (pm:=pm) (nm:=nm) (cm:=cm) (ps:=ps) (n:=n) (c:=c) (p2:=p2) (n2:=n2) (c2:=c2) (rows:=rows) (B:=B) CC CB
 have Jz:=fun {pm ps:Option Addr}{nm cm n c:Nat}{rows:List (List Int)}=>Lr (P:=p) (M:=m) (N:=N) (pm:=pm) (ps:=ps) (nm:=nm) (cm:=cm) (n:=n) (c:=c) (md:=md) (rows:=rows) (by omega)
 generalize (C4 p m md N (rows++B)).1=R at *
 refine wk 15 (ct @Vb cz) ?_
 intro b1 b2 b3 h1
 (apply Gd (x0:=none) it mx 0 11 [9] 1;(· rfl);(· rfl);(· rfl);(· decide))
 simp only [List.drop_zero]
 (apply Ac;(· rfl);(· exact Bz fun _=>An rfl K9 Al))
 (apply Ac;(· rfl);(· exact Fo 2 rfl rfl Ga rfl rfl))
 (apply Ac;(· rfl);(· exact Cu 2 rfl rfl Dj rfl))
 (apply Ac;(· rfl);(· exact Bz fun _=>Aw [] rfl (Iz) rfl (by rintro _ _ _ ⟨rfl,rfl,rfl⟩;exact Al)))
 (apply Ac;(· rfl);(· exact Cu 1 rfl rfl Dj rfl))
 (apply Ac;(· rfl);(· exact Bz fun _=>Aw [] rfl (Iz) rfl (by rintro _ _ _ ⟨rfl,rfl,rfl⟩;exact Al)))
 (apply I1 (val:=(fun g=>Value.tuple #[Value.agg #[Value.int IntKind.i64 ↑N,Value.slice (g 0).fst (g 1).snd.fst (g 2).snd.fst],Value.int IntKind.i64 0])) (f:=(fun g=>[Ap (Ah Aj) (g 0).fst (g 1).snd.fst (g 2).snd.fst R]));(· rfl);(· exact Bz fun _=>Aw [0,1,3] rfl (S5) rfl (by rintro _ _ _ ⟨pbg0,nbg1,cbg2,rfl,rfl,rfl⟩;exact fun _ _ _ hG=>⟨(fun|0=>(pbg0,0,0,[])|1=>(none,nbg1,0,[])|2=>(none,cbg2,0,[])|_=>default),rfl,fun g hg=>Ey (hG _ (List.mem_append_left _ hg))⟩));intro g1;dsimp only [List.map_cons,List.map_nil])
 (apply G0 [23] (fun vs=>vs.getD 0 undef) (v:=Value.tuple #[Value.agg #[Value.int IntKind.i64 ↑N,Value.slice (g1 0).fst (g1 1).snd.fst (g1 2).snd.fst],Value.int IntKind.i64 0]);(· rfl);(· rfl);(· rfl);(· rfl);(· exact Bz fun _=>Ki it rfl (by trivial) Al))
 (apply G0 [16] (fun vs=>match vs.getD 0 undef with | .tuple a=>a.getD 0 undef|_=>undef) (v:=Value.agg #[Value.int IntKind.i64 ↑N,Value.slice (g1 0).fst (g1 1).snd.fst (g1 2).snd.fst]);(· rfl);(· rfl);(· rfl);(· rfl);(· exact Bz fun _=>Ki it rfl (by trivial) Al))
 (apply Ac;(· rfl);(· exact Bz fun _=>Ki it rfl (by trivial) Al))
 (apply H2;(· rfl);(· exact Hq);intro b4)
 refine Fs rfl ?_
 (rotate_left;rfl;rotate_right)
 simp only [List.map_cons,List.map_nil,List.cons_append,List.nil_append]
 refine G5 it rfl rfl ⟨⟨_,_,_,_,rfl,rfl,rfl,rfl,rfl,rfl,(by first|trivial|(repeat' first|exact trivial|apply And.intro|omega))⟩,trivial⟩ (Bf 0 rfl rfl rfl Gg rfl rfl (by simp [Value.oneCell']) ?_)
 refine Is it ⟨⟨_,_,_,_,rfl,rfl,rfl,rfl,rfl,rfl,(by first|trivial|(repeat' first|exact trivial|apply And.intro|omega))⟩,trivial⟩ ?_
 refine wk 11 (ct @Jz cz) ?_
 intro pb1 pc1 nb1 cb1 nc1 cc1
 refine Bb [0,1] rfl (.agg 1 rfl rfl Dj rfl (.tmp rfl .nil)) rfl ⟨_,_,_,_,_,_,rfl,rfl,rfl⟩
theorem AAn (CC:Cok p m md N rows) (CB:Cok p m md N B):Bn Tryz.prog 79 [.agg #[.int .i64 p,.int .i64 m,.slice pm nm cm,.int .i64 N,.slice ps n c],.agg #[.int .i64 p,.int .i64 m,.slice pm2 nm2 cm2,.int .i64 N,.slice p2 n2 c2]] [] [Ap Aj pm nm cm md,Ap (Ah Aj) ps n c rows,Ap Aj pm2 nm2 cm2 md,Ap (Ah Aj) p2 n2 c2 B] (CdQ p m N md (Jf p m md N (Jf p m md N rows++Jf p m md N B)) 0):=by
 refine Ab (F:=AD1) rfl fun C=>?_
 have h8:=CC.K.md8
 have Vb:=fun {pm ps p2 pm2:Option Addr}{nm cm n c n2 c2 nm2 cm2:Nat}=>T8 (pm:=pm) (nm:=nm) (cm:=cm) (ps:=ps) (n:=n) (c:=c) (p2:=p2) (n2:=n2) (c2:=c2) (pm2:=pm2) (nm2:=nm2) (cm2:=cm2) CC CB
 have Iz:=fun {P M N:Int}{pm ps:Option Addr}{nm cm n c:Nat}=>Qb (P:=P) (M:=M) (N:=N) (pm:=pm) (ps:=ps) (nm:=nm) (cm:=cm) (n:=n) (c:=c)
 have ACu:=fun {pm ps p2:Option Addr}{nm cm n c n2 c2:Nat}=>Za (pm:=pm) (nm:=nm) (cm:=cm) (ps:=ps) (n:=n) (c:=c) (p2:=p2) (n2:=n2) (c2:=c2) (rows:=rows) (B:=B) CC CB
 have Jz:=fun {pm ps:Option Addr}{nm cm n c:Nat}{rows:List (List Int)}=>Lr (P:=p) (M:=m) (N:=N) (pm:=pm) (ps:=ps) (nm:=nm) (cm:=cm) (n:=n) (c:=c) (md:=md) (rows:=rows) (by omega)
 generalize Jf p m md N (Jf p m md N rows++Jf p m md N B)=R at *
 refine wk 15 (ct @Vb cz) ?_
 intro b1 b2 b3 h1
 (apply Gd (x0:=none) it mx 0 11 [9] 1;(· rfl);(· rfl);(· rfl);(· decide))
 simp only [List.drop_zero]
 (apply Ac;(· rfl);(· exact Bz fun _=>An rfl K9 Al))
 (apply Ac;(· rfl);(· exact Fo 2 rfl rfl Ga rfl rfl))
 (apply Ac;(· rfl);(· exact Cu 2 rfl rfl Dj rfl))
 (apply Ac;(· rfl);(· exact Bz fun _=>Aw [] rfl (Iz) rfl (by rintro _ _ _ ⟨rfl,rfl,rfl⟩;exact Al)))
 (apply Ac;(· rfl);(· exact Cu 1 rfl rfl Dj rfl))
 (apply Ac;(· rfl);(· exact Bz fun _=>Aw [] rfl (Iz) rfl (by rintro _ _ _ ⟨rfl,rfl,rfl⟩;exact Al)))
 (apply I1 (val:=(fun g=>Value.tuple #[Value.agg #[Value.int IntKind.i64 ↑N,Value.slice (g 0).fst (g 1).snd.fst (g 2).snd.fst],Value.int IntKind.i64 0])) (f:=(fun g=>[Ap (Ah Aj) (g 0).fst (g 1).snd.fst (g 2).snd.fst R]));(· rfl);(· exact Bz fun _=>Aw [0,1,3] rfl (ACu) rfl (by rintro _ _ _ ⟨pbg0,nbg1,cbg2,rfl,rfl,rfl⟩;exact fun _ _ _ hG=>⟨(fun|0=>(pbg0,0,0,[])|1=>(none,nbg1,0,[])|2=>(none,cbg2,0,[])|_=>default),rfl,fun g hg=>Ey (hG _ (List.mem_append_left _ hg))⟩));intro g1;dsimp only [List.map_cons,List.map_nil])
 (apply G0 [23] (fun vs=>vs.getD 0 undef) (v:=Value.tuple #[Value.agg #[Value.int IntKind.i64 ↑N,Value.slice (g1 0).fst (g1 1).snd.fst (g1 2).snd.fst],Value.int IntKind.i64 0]);(· rfl);(· rfl);(· rfl);(· rfl);(· exact Bz fun _=>Ki it rfl (by trivial) Al))
 (apply G0 [16] (fun vs=>match vs.getD 0 undef with | .tuple a=>a.getD 0 undef|_=>undef) (v:=Value.agg #[Value.int IntKind.i64 ↑N,Value.slice (g1 0).fst (g1 1).snd.fst (g1 2).snd.fst]);(· rfl);(· rfl);(· rfl);(· rfl);(· exact Bz fun _=>Ki it rfl (by trivial) Al))
 (apply Ac;(· rfl);(· exact Bz fun _=>Ki it rfl (by trivial) Al))
 (apply H2;(· rfl);(· exact Hq);intro b4)
 refine Fs rfl ?_
 (rotate_left;rfl;rotate_right)
 simp only [List.map_cons,List.map_nil,List.cons_append,List.nil_append]
 refine G5 it rfl rfl ⟨⟨_,_,_,_,rfl,rfl,rfl,rfl,rfl,rfl,(by first|trivial|(repeat' first|exact trivial|apply And.intro|omega))⟩,trivial⟩ (Bf 0 rfl rfl rfl Gg rfl rfl (by simp [Value.oneCell']) ?_)
 refine Is it ⟨⟨_,_,_,_,rfl,rfl,rfl,rfl,rfl,rfl,(by first|trivial|(repeat' first|exact trivial|apply And.intro|omega))⟩,trivial⟩ ?_
 refine wk 11 (ct @Jz cz) ?_
 intro pb1 pc1 nb1 cb1 nc1 cc1
 refine Bb [0,1] rfl (.agg 1 rfl rfl Dj rfl (.tmp rfl .nil)) rfl ⟨_,_,_,_,_,_,rfl,rfl,rfl⟩
end
open Go Go.Fw
set_option maxRecDepth 100000
set_option linter.unusedVariables false
set_option linter.unusedSimpArgs false
set_option maxHeartbeats 0
theorem ACG {n:Nat}{set:List Int}(h:stP n set):(De n [set]).length+set.length=n:=by
 have e:set.map Int.toNat=(List.range n).filter fun i:Nat=>decide ((i:Int)∈set):=by
  refine Z0 ?_ ?_ fun x=>?_
  ·rw [List.pairwise_map]
   refine List.Pairwise.imp_of_mem (fun {a b} ha hb hab=>?_) h.2
   have:=h.1 a ha;have:=h.1 b hb;omega
  ·exact List.Pairwise.sublist List.filter_sublist List.pairwise_lt_range
  ·rw [List.mem_map,List.mem_filter,List.mem_range,decide_eq_true_eq]
   constructor
   ·rintro ⟨y,hy,rfl⟩
    have:=h.1 y hy
    rw [Int.toNat_of_nonneg this.1]
    exact ⟨by omega,hy⟩
   ·rintro ⟨_,h2⟩;exact ⟨_,h2,Int.toNat_natCast x⟩
 have e2:set.length=((List.range n).filter fun i:Nat=>decide ((i:Int)∈set)).length:=by rw [← e,List.length_map]
 have e3:=List.length_eq_countP_add_countP (fun i:Nat=>decide ((i:Int)∈set)) (l:=List.range n)
 rw [List.length_range,List.countP_eq_length_filter,List.countP_eq_length_filter] at e3
 have e4:((List.range n).filter (Wy [set])).length=((List.range n).filter fun a:Nat=>decide (¬ decide ((a:Int)∈set)=true)).length:=by
  congr 1
  refine List.filter_congr fun i _=>?_
  simp [Wy]
 rw [De,List.length_map,e4]
 omega
noncomputable def psE (P M:Int) (md:List Int) (N:Int) (rows:List (List Int)) (set:List Int):Int :=
 if Nw P M md N rows≠0 then Nw P M md N rows else if ¬ stP N set then 6 else if (set.length:Int)=N then 4 else 0
theorem AKr {P M N:Int}{md set:List Int}{rows:List (List Int)}(h:psE P M md N rows set=0):∃ p m n:Nat,P=p∧M=m∧N=n∧Cok p m md n rows∧stP n set∧set.length≠n:=by
 rw [psE] at h
 by_cases h0:Nw P M md N rows=0
 ·obtain ⟨p,m,n,rfl,rfl,rfl,CC⟩:=Vl h0
  rw [if_neg (fun e=>e h0)] at h
  by_cases h1:stP n set
  ·rw [if_neg (fun e=>e h1)] at h
   by_cases h2:set.length=n
   ·rw [if_pos (by omega)] at h;omega
   ·exact ⟨p,m,n,rfl,rfl,rfl,CC,h1,h2⟩
  ·rw [if_pos h1] at h;omega
 ·rw [if_pos h0] at h;exact absurd h h0
theorem AF5 (P M:Int) (md:List Int) (N:Int) (rows:List (List Int)) (set:List Int):0≤psE P M md N rows set∧psE P M md N rows set≤6:=by
 have:=Ll P M md N rows
 rw [psE];(repeat' split) <;> omega
theorem Gw {ps:Option Addr}{nn c:Nat}{n:Int}{l:List Int}{res:Bool}(hr:decide (stP n l)=res):Bn Tryz.prog 65 [.slice ps nn c,.int .i64 n] [] [Ap Aj ps nn c l] (Rv (.bool res) []):=by
 refine Ab (F:=ACZ) rfl fun C=>?_
 subst hr
 refine A8 0 rfl fun hn hb _=>?_
 subst hn
 have hb':l.length*8≤140737488355328:=hb
 refine wk 7 cz ?_
 refine Af (X:=Nat) [0,1,7,8] [0] (fun i=>[(9,.int .i64 (i:Int))]) (fun _=>[]) (fun _=>[]) (fun i=>i≤l.length∧∀ j,j<i→stA n l j) (fun i=>l.length-i) 0 [] rfl rfl rfl ⟨Nat.zero_le _,fun j h=>by omega⟩ (by repeat (first|exact Fr.sub_nil _|refine Fr.sub_cons rfl ?_)) rfl rfl ?_
 rintro i ⟨hi,hno⟩ ih
 simp only [List.cons_append,List.nil_append] at hi ih ⊢
 by_cases h9:i<l.length
 ·obtain ⟨x,at_x⟩:∃ x,l[i]?=some x:=⟨_,List.getElem?_eq_getElem h9⟩
  have bad:∀ P:Prop,¬ stA n l i→decide (stP n l)=false:=fun _ h=>decide_eq_false (ALA h9 h)
  have good:stA n l i→∀ j,j<i+1→stA n l j:=fun h j hj=>by
   rcases Nat.lt_succ_iff_lt_or_eq.1 hj with h1|rfl
   ·exact hno j h1
   ·exact h
  by_cases a0:x<0
  ·rw [bad True fun h=>by have:=(h x at_x).1;omega]
   refine Aq [_,_,_,_,_] rfl ?_
   refine Ai it 1 rfl (by simp) ?_
   refine Aq [_,_,_,_,_] rfl ?_
   refine Md rfl rfl (fun h1=>?_) (fun h1=>by exfalso;omega)
   refine Aq [_,_,_,_,_,_,_] rfl ?_
   refine Ai it 1 rfl (by simp) ?_
   refine Aa rfl (H8 0 (i) rfl rfl rfl Ce rfl (by omega) fun z1 hz1 b1 o1=>?_)
   obtain rfl:_=z1:=Option.some.inj (at_x.symm.trans hz1)
   refine Aa rfl (Av 0 rfl rfl Ci fun ⟨r1,r2⟩=>?_)
   refine Ai it 2 rfl (by simp) ?_
   refine Aq [_,_,_,_,_,_,_] rfl ?_
   refine Ai it 3 rfl (by simp) ?_
   refine Ca (t:=16) rfl (fun h2=>?_) (fun h2=>by exfalso;omega)
   refine Ai it 8 rfl (by simp) ?_
   refine Ed rfl rfl ?_
   refine Ed rfl rfl ?_
   refine Ed rfl rfl ?_
   refine Ed rfl rfl ?_
   refine Ed rfl rfl ?_
   refine Ed rfl rfl ?_
   refine Ed rfl rfl ?_
   refine Ai it 2 rfl (by simp) ?_
   refine Aq [_,_,_,_,_,_] rfl ?_
   refine R1 rfl rfl ?_
   refine Aq [_,_,_,_,_,_,_] rfl ?_
   refine Ai it 1 rfl (by simp) ?_
   refine Aq [_,_,_,_,_,_] rfl ?_
   exact ge
  ·by_cases a1:n≤x
   ·rw [bad True fun h=>by have:=(h x at_x).1;omega]
    refine Aq [_,_,_,_,_] rfl ?_
    refine Ai it 1 rfl (by simp) ?_
    refine Aq [_,_,_,_,_] rfl ?_
    refine Md rfl rfl (fun h1=>?_) (fun h1=>by exfalso;omega)
    refine Aq [_,_,_,_,_,_,_] rfl ?_
    refine Ai it 1 rfl (by simp) ?_
    refine Aa rfl (H8 0 (i) rfl rfl rfl Ce rfl (by omega) fun z1 hz1 b1 o1=>?_)
    obtain rfl:_=z1:=Option.some.inj (at_x.symm.trans hz1)
    refine Aa rfl (Av 0 rfl rfl Ci fun ⟨r1,r2⟩=>?_)
    refine Ai it 2 rfl (by simp) ?_
    refine Aq [_,_,_,_,_,_,_] rfl ?_
    refine Ai it 3 rfl (by simp) ?_
    refine Ca (t:=16) rfl (fun h2=>by exfalso;omega) (fun h2=>?_)
    refine Ai it 5 rfl (by simp) ?_
    refine Ca (t:=21) rfl (fun h3=>?_) (fun h3=>by exfalso;omega)
    refine Ai it 3 rfl (by simp) ?_
    refine Ed rfl rfl ?_
    refine Ed rfl rfl ?_
    refine Ed rfl rfl ?_
    refine Ed rfl rfl ?_
    refine Ed rfl rfl ?_
    refine Ed rfl rfl ?_
    refine Ed rfl rfl ?_
    refine Ai it 2 rfl (by simp) ?_
    refine Aq [_,_,_,_,_,_] rfl ?_
    refine R1 rfl rfl ?_
    refine Aq [_,_,_,_,_,_,_] rfl ?_
    refine Ai it 1 rfl (by simp) ?_
    refine Aq [_,_,_,_,_,_] rfl ?_
    exact ge
   ·rcases Nat.eq_zero_or_pos i with hi0|hi0
    ·subst hi0
     refine wk 20 cz ?_
     intro h1 b1 o1 hz1 _ r1 r2 h2
     refine Ca (t:=21) rfl (fun h3=>by exfalso;omega) (fun h3=>?_)
     refine wk 6 cz ?_
     exact tw (ih 1 (by omega) ⟨by omega,good fun z hz=>by
      rw [at_x] at hz;obtain rfl:=Option.some.inj hz
      exact ⟨by omega,fun y h=>by omega⟩⟩)
    ·obtain ⟨k,rfl⟩:∃ k,i=k+1:=⟨i-1,by omega⟩
     obtain ⟨y,at_y⟩:∃ y,l[k]?=some y:=⟨_,List.getElem?_eq_getElem (by omega)⟩
     by_cases a2:x≤y
     ·rw [bad True fun h=>by have:=(h x at_x).2 y (by omega) at_y;omega]
      refine Aq [_,_,_,_,_] rfl ?_
      refine Ai it 1 rfl (by simp) ?_
      refine Aq [_,_,_,_,_] rfl ?_
      refine Md rfl rfl (fun h1=>?_) (fun h1=>by exfalso;omega)
      refine Aq [_,_,_,_,_,_,_] rfl ?_
      refine Ai it 1 rfl (by simp) ?_
      refine Aa rfl (H8 0 (k+1) rfl rfl rfl Ce rfl (by omega) fun z1 hz1 b1 o1=>?_)
      obtain rfl:_=z1:=Option.some.inj (at_x.symm.trans hz1)
      refine Aa rfl (Av 0 rfl rfl Ci fun ⟨r1,r2⟩=>?_)
      refine Ai it 2 rfl (by simp) ?_
      refine Aq [_,_,_,_,_,_,_] rfl ?_
      refine Ai it 3 rfl (by simp) ?_
      refine Ca (t:=16) rfl (fun h2=>by exfalso;omega) (fun h2=>?_)
      refine Ai it 5 rfl (by simp) ?_
      refine Ca (t:=21) rfl (fun h3=>by exfalso;omega) (fun h3=>?_)
      refine Ai it 3 rfl (by simp) ?_
      refine Ca (t:=24) rfl (fun h4=>?_) (fun h4=>by exfalso;omega)
      refine Ai it 4 rfl ⟨⟨by omega,by omega⟩,trivial,trivial,trivial,trivial⟩ ?_
      refine Ch rfl rfl (H8 1 ((k+1)-1) rfl rfl rfl Ce (by omega) (by omega) fun z1 hz2 b2 o2=>?_)
      obtain rfl:_=z1:=Option.some.inj (at_y.symm.trans hz2)
      refine Ch rfl rfl (Av 0 rfl rfl Ci fun ⟨r3,r4⟩=>?_)
      refine Ai it 3 rfl (by simp) ?_
      refine Aq [_,_,_,_,_,_] rfl ?_
      refine Md rfl rfl (fun h5=>?_) (fun h5=>by exfalso;omega)
      refine Aq [_,_,_,_,_,_,_] rfl ?_
      refine Ai it 1 rfl (by simp) ?_
      refine Aq [_,_,_,_,_,_] rfl ?_
      exact ge
     ·refine Aq [_,_,_,_,_] rfl ?_
      refine Ai it 1 rfl (by simp) ?_
      refine Aq [_,_,_,_,_] rfl ?_
      refine Md rfl rfl (fun h1=>?_) (fun h1=>by exfalso;omega)
      refine Aq [_,_,_,_,_,_,_] rfl ?_
      refine Ai it 1 rfl (by simp) ?_
      refine Aa rfl (H8 0 (k+1) rfl rfl rfl Ce rfl (by omega) fun z1 hz1 b1 o1=>?_)
      obtain rfl:_=z1:=Option.some.inj (at_x.symm.trans hz1)
      refine Aa rfl (Av 0 rfl rfl Ci fun ⟨r1,r2⟩=>?_)
      refine Ai it 2 rfl (by simp) ?_
      refine Aq [_,_,_,_,_,_,_] rfl ?_
      refine Ai it 3 rfl (by simp) ?_
      refine Ca (t:=16) rfl (fun h2=>by exfalso;omega) (fun h2=>?_)
      refine Ai it 5 rfl (by simp) ?_
      refine Ca (t:=21) rfl (fun h3=>by exfalso;omega) (fun h3=>?_)
      refine Ai it 3 rfl (by simp) ?_
      refine Ca (t:=24) rfl (fun h4=>?_) (fun h4=>by exfalso;omega)
      refine Ai it 4 rfl ⟨⟨by omega,by omega⟩,trivial,trivial,trivial,trivial⟩ ?_
      refine Ch rfl rfl (H8 1 ((k+1)-1) rfl rfl rfl Ce (by omega) (by omega) fun z1 hz2 b2 o2=>?_)
      obtain rfl:_=z1:=Option.some.inj (at_y.symm.trans hz2)
      refine Ch rfl rfl (Av 0 rfl rfl Ci fun ⟨r3,r4⟩=>?_)
      refine Ai it 3 rfl (by simp) ?_
      refine Aq [_,_,_,_,_,_] rfl ?_
      refine Md rfl rfl (fun h5=>by exfalso;omega) (fun h5=>?_)
      refine Aq [_,_,_,_] rfl ?_
      refine Ai it 2 rfl ⟨trivial,⟨by omega,by omega⟩,trivial⟩ ?_
      refine Ys 1 [.lp [1,0,1,0,0],.blk 0,.c [1,1]] rfl ?_
      exact tw (ih (k+2) (by omega) ⟨by omega,good fun z hz=>by
       rw [at_x] at hz;obtain rfl:=Option.some.inj hz
       exact ⟨by omega,fun z h hz=>by
        rw [show k+1-1=k by omega,at_y] at hz;obtain rfl:=Option.some.inj hz;omega⟩⟩)
 ·rw [decide_eq_true (AB7.2 fun j hj=>hno j (by omega))]
  refine wk 7 cz ?_
  intro h1
  exact ge
theorem Um {ps:Option Addr}{nn c n:Nat}{l:List Int}(hn:n≤1000000):Bn Tryz.prog 62 [.slice ps nn c,.int .i64 n] [] [Ap Aj ps nn c l] (RwI (De n [l]).length (De n [l])):=by
 refine Ab (F:=ABu) rfl fun C=>?_
 have hle:=fun k=>AEa k [l]
 have B5:=fun {x:Int}{res:Bool}(h:decide (x∈l)=res)=>Cp (pl:=ps) (nl:=nn) (cl:=c) (l:=l) (x:=x) (res:=res) h
 refine wk 7 cz ?_
 refine Fh Aj 3 ?_
 refine Af (X:=Nat×Row) [0,4,7] [0,1] (fun x=>[(8,.int .i64 (x.1:Int)),(5,.slice (ad x.2.bo) (De x.1 [l]).length x.2.cap)]) (fun x=>[(x.2.bo,3,x.2.cs)]) (fun x=>[A5 Aj x.2 (De x.1 [l]).length (De x.1 [l])]) (fun x=>x.1≤n) (fun x=>n-x.1) (0,⟨none,0,[]⟩) [0] rfl rfl rfl (Nat.zero_le _) (by repeat (first|exact Fr.sub_nil _|refine Fr.sub_cons rfl ?_)) rfl rfl ?_
 rintro ⟨k,r⟩ hk ih
 simp only [List.cons_append,List.nil_append] at hk ih ⊢
 by_cases h9:k<n
 ·have hk1:=hle k
  have ih':=fun r=>ih (k+1,r) (by dsimp only;omega) (by dsimp only;omega)
  simp only [ABU] at ih'
  clear ih
  by_cases hm:(k:Int)∈l
  ·have B5:=B5 (x:=(k:Int)) (decide_eq_true hm)
   rw [show Wy [l] k=false by simp [Wy,hm],if_neg (by simp),List.append_nil] at ih'
   refine wk 15 (ct @B5 cz) ?_
   intro h1
   exact tw (ih' r)
  ·have B5:=B5 (x:=(k:Int)) (decide_eq_false hm)
   rw [show Wy [l] k=true by simp [Wy,hm],if_pos rfl] at ih'
   simp only [List.length_append,List.length_singleton] at ih'
   refine wk 15 (ct @B5 cz) ?_
   intro h1 b1
   refine Aa rfl (Fj (z:=(↑k:Int)) 1 0 0 rfl rfl rfl rfl rfl Ce Ee rfl (fun w A hG=>(Dz (by first|(simp only [Bx];omega)|(simp [Bx];done)))) (by omega) _ G2 (by omega) fun r1=>?_)
   refine wk 4 cz ?_
   refine Jx [true,false] [0,2,3] (by exact Ul rfl) rfl rfl (ih' r1)
 ·obtain rfl:k=n:=by omega
  clear ih
  refine wk 7 cz ?_
  intro h1
  refine Dt 1 [0] [0] rfl (.tmp rfl .nil) rfl rfl rfl ⟨r,rfl,rfl,rfl⟩
theorem Wu {P M N:Int}{pm ps:Option Addr}{nm cm n c:Nat}:Bn Tryz.prog 56 [.agg #[.int .i64 P,.int .i64 M,.slice pm nm cm,.int .i64 N,.slice ps n c]] [] [] (Rv (.agg #[.int .i64 N,.slice ps n c]) []):=by
 refine Ab (F:=AC0) rfl fun C=>?_
 refine Aq [_,_] rfl ?_
 refine Aa rfl (Ct rfl fun b1=>?_)
 refine Aa rfl (B1 Hq fun b2=>?_)
 refine Aq [_,_] rfl ?_
 refine Aa rfl (An rfl If ?_)
 refine Aa rfl (Bu 1 rfl rfl Ci rfl ?_)
 refine Aa rfl (An rfl M0 ?_)
 refine Aa rfl (Bu 1 rfl rfl Hp rfl ?_)
 refine Aa rfl (Dc (cs:=[Value.int IntKind.i64 N,Value.slice ps n c]) W1 Hq rfl rfl ?_)
 refine Aa rfl (Bf 0 rfl rfl rfl Gg rfl rfl (by simp [Value.oneCell']) ?_)
 refine Aq [_] rfl ?_
 refine Bb [] rfl (.agg 0 rfl rfl Gg rfl .nil) rfl ⟨rfl,rfl,rfl⟩
section
variable {P M:Int}{p m n c nm cm ns cs':Nat}{pm ps pt:Option Addr}{md set:List Int}{rows:List (List Int)}
theorem Mk {N e:Int}(hN:Bx .i64 N) (h:psE P M md N rows set=e):Bn Tryz.prog 54 [.agg #[.int .i64 P,.int .i64 M,.slice pm nm cm,.int .i64 N,.slice ps n c],.slice pt ns cs'] [] [Ap Aj pm nm cm md,Ap (Ah Aj) ps n c rows,Ap Aj pt ns cs' set] (Rv (.int .i64 e) []):=by
 refine Ab (F:=U9) rfl fun C=>?_
 refine A8 2 rfl fun hn hb _=>?_
 subst hn
 have hb':set.length*8≤140737488355328:=hb
 rw [psE] at h
 have Au:=fun {pm ps:Option Addr}{nm cm n c:Nat}=>D4 (P:=P) (M:=M) (pm:=pm) (ps:=ps) (nm:=nm) (cm:=cm) (n:=n) (c:=c) (md:=md) (rows:=rows) (N:=N) hN rfl
 by_cases h0:Nw P M md N rows=0
 ·rw [if_neg (fun e=>e h0)] at h
  rw [h0] at Au
  by_cases h1:stP N set
  ·rw [if_neg (fun e=>e h1)] at h
   have C8:=fun {ps:Option Addr}{nn c:Nat}=>Gw (ps:=ps) (nn:=nn) (c:=c) (n:=N) (l:=set) (decide_eq_true h1)
   by_cases h2:(set.length:Int)=N
   ·rw [if_pos h2] at h
    subst h
    refine wk 30 (ct @Au (ct @C8 cz)) ?_
    intro b1 h3 h4
    exact ge
   ·rw [if_neg h2] at h
    subst h
    refine wk 30 (ct @Au (ct @C8 cz)) ?_
    intro b1 h3 h4
    exact ge
  ·rw [if_pos h1] at h
   subst h
   have C8:=fun {ps:Option Addr}{nn c:Nat}=>Gw (ps:=ps) (nn:=nn) (c:=c) (n:=N) (l:=set) (decide_eq_false h1)
   refine wk 22 (ct @Au (ct @C8 cz)) ?_
   intro b1 h2
   exact ge
 ·rw [if_pos h0] at h
  subst h
  refine wk 14 (ct @Au cz) ?_
  intro b1 h1
  exact ge
theorem Ug {N:Nat}(K:Fok p m md) (hN:N≤64) (hl:rows.length≤256) (hM:Da (p ^ m) N rows) (hst:stP N set) (hne:set.length≠N) :
  Bn Tryz.prog 55 [.agg #[.int .i64 p,.int .i64 m,.slice pm nm cm],.agg #[.int .i64 N,.slice ps n c],.slice pt ns cs'] [] [Ap Aj pm nm cm md,Ap (Ah Aj) ps n c rows,Ap Aj pt ns cs' set]
   (CdQ p m ((De N [set]).length:Nat) md (C4 p m md (De N [set]).length (rows.map fun r=>pkI r (De N [set]))).1 0):=by
 refine Ab (F:=AA5) rfl fun C=>?_
 have O:=Dy K
 have hol:=ACG hst
 have ho64:(De N [set]).length≤64:=by omega
 have ho1:1≤(De N [set]).length:=by omega
 have hor:∀ x∈De N [set],0≤x∧x<(N:Int):=(Z2 N [set]).1
 have hPM:Da (p ^ m) (De N [set]).length (rows.map fun r=>pkI r (De N [set])):=O.pk_mat hM _
 have hRl:(rows.map fun r=>pkI r (De N [set])).length≤256:=by rw [List.length_map];exact hl
 have N8:=fun {ps:Option Addr}{nn c:Nat}=>(Um (ps:=ps) (nn:=nn) (c:=c) (n:=N) (l:=set) (by omega)).pubR (by show _*8≤140737488355328;omega)
 have J3:=fun {pm ps pt:Option Addr}{nm cm n c ns cs':Nat}=>Ld (pm:=pm) (ps:=ps) (pt:=pt) (nm:=nm) (cm:=cm) (n:=n) (c:=c) (ns:=ns) (cs':=cs') K (show N≤256 by omega) hl hM (show (De N [set]).length≤256 by omega) hor
 have Dp:=fun {pm ps:Option Addr}{nm cm n c:Nat}=>I5 (pm:=pm) (ps:=ps) (nm:=nm) (cm:=cm) (n:=n) (c:=c) (N:=(De N [set]).length) (rows:=rows.map fun r=>pkI r (De N [set])) K ho1 ho64 hRl hPM
 generalize (rows.map fun r=>pkI r (De N [set]))=R at *
 generalize De N [set]=T at *
 refine wk 6 cz ?_
 intro b1 b2 b3
 (apply Gd (x0:=none) it mx 0 10 [9] 1;(· rfl);(· rfl);(· rfl);(· decide))
 simp only [List.drop_zero]
 (apply Ac;(· rfl);(· exact Cu 2 rfl rfl Ga rfl))
 (apply Ac;(· rfl);(· exact Cu 1 rfl rfl Gg rfl))
 (apply A1 1;(· rfl);(· simp))
 (apply Ac;(· rfl);(· exact Bz fun _=>An rfl Jq Al))
 (apply Ac;(· rfl);(· exact Bv 1 rfl rfl Ci rfl))
 (apply Fa;(· rfl);(· exact Bz fun _=>Aw [2] rfl (N8) rfl (by rintro _ _ _ ⟨pa1,ca1,rfl,rfl,rfl⟩;exact (Jd 0 rfl)));intro pa1 ca1)
 (apply I1 (val:=(fun g=>Value.tuple #[Value.agg #[Value.int IntKind.i64 ↑T.length,Value.slice (g 0).fst rows.length (g 1).snd.fst],Value.int IntKind.i64 0])) (f:=(fun g=>[Ap (Ah Aj) (g 0).fst rows.length (g 1).snd.fst R]));(· rfl);(· exact Bz fun _=>Aw [1,2,0] rfl (J3) rfl (by rintro _ _ _ ⟨pbg0,cbg1,rfl,rfl,rfl⟩;exact fun _ _ _ hG=>⟨(fun|0=>(pbg0,0,0,[])|1=>(none,cbg1,0,[])|_=>default),rfl,fun g hg=>Ey (hG _ (List.mem_append_left _ hg))⟩));intro g1;dsimp only [List.map_cons,List.map_nil])
 (apply G0 [16] (fun vs=>vs.getD 0 undef) (v:=Value.tuple #[Value.agg #[Value.int IntKind.i64 ↑T.length,Value.slice (g1 0).fst rows.length (g1 1).snd.fst],Value.int IntKind.i64 0]);(· rfl);(· rfl);(· rfl);(· rfl);(· exact Bz fun _=>Ki it rfl (by trivial) Al))
 (apply G0 [9] (fun vs=>match vs.getD 0 undef with | .tuple a=>a.getD 0 undef|_=>undef) (v:=Value.agg #[Value.int IntKind.i64 ↑T.length,Value.slice (g1 0).fst rows.length (g1 1).snd.fst]);(· rfl);(· rfl);(· rfl);(· rfl);(· exact Bz fun _=>Ki it rfl (by trivial) Al))
 (apply Ac;(· rfl);(· exact Bz fun _=>Ki it rfl (by trivial) Al))
 refine Fs rfl ?_
 (rotate_left;rfl;rotate_right)
 simp only [List.map_cons,List.map_nil,List.cons_append,List.nil_append]
 refine G5 it rfl rfl ⟨⟨_,_,_,_,rfl,rfl,rfl,rfl,rfl,rfl,(by first|trivial|(repeat' first|exact trivial|apply And.intro|omega))⟩,trivial⟩ (Bf 1 rfl rfl rfl Gg rfl rfl (by simp [Value.oneCell']) ?_)
 refine Is it ⟨⟨_,_,_,_,rfl,rfl,rfl,rfl,rfl,rfl,(by first|trivial|(repeat' first|exact trivial|apply And.intro|omega))⟩,trivial⟩ ?_
 refine wk 13 (ct @Dp cz) ?_
 intro h1 pb1 pc1 nb1 cb1 nc1 cc1
 refine Bb [0,1] rfl (.agg 0 rfl rfl Dj rfl (.tmp rfl .nil)) rfl ⟨_,_,_,_,_,_,rfl,rfl,rfl⟩
end
open Go Go.Fw
set_option maxRecDepth 100000
set_option linter.unusedVariables false
set_option linter.unusedSimpArgs false
set_option maxHeartbeats 0
structure CR where
 P:Int
 M:Int
 N:Int
 md:List Int
 rows:List (List Int)
 e:Int
abbrev CdX (x:CR):Value→List Fact→List A3→Prop:=CdQ x.P x.M x.N x.md x.rows x.e
abbrev zeR (e:Int):CR:=⟨0,0,0,[],[],e⟩
theorem AH4 {n:Nat}{set:List Int}(h:stP n set):De n [De n [set]]=set:=by
 have e:(De n [De n [set]]).map Int.toNat=set.map Int.toNat:=by
  refine Z0 ?_ ?_ fun x=>?_
  ·rw [List.pairwise_map]
   have h2:=Z2 n [De n [set]]
   refine List.Pairwise.imp_of_mem (fun {a b} ha hb hab=>?_) h2.2
   have:=h2.1 a ha;have:=h2.1 b hb;omega
  ·rw [List.pairwise_map]
   refine List.Pairwise.imp_of_mem (fun {a b} ha hb hab=>?_) h.2
   have:=h.1 a ha;have:=h.1 b hb;omega
  ·rw [List.mem_map,List.mem_map]
   constructor
   ·rintro ⟨y,hy,rfl⟩
    obtain ⟨⟨h0,h1⟩,h2⟩:=Pn.1 hy
    have h3:=h2 _ (.head _)
    refine ⟨y,Classical.byContradiction fun hn=>h3 (Pn.2 ⟨⟨h0,h1⟩,fun l hl=>?_⟩),rfl⟩
    rw [List.mem_singleton.1 hl];exact hn
   ·rintro ⟨y,hy,rfl⟩
    refine ⟨y,Pn.2 ⟨h.1 y hy,fun l hl hm=>?_⟩,rfl⟩
    rw [List.mem_singleton.1 hl] at hm
    exact (Pn.1 hm).2 _ (.head _) hy
 have hb:=fun (l:List Int) (hl:∀ x∈l,0≤x)=>show (l.map Int.toNat).map (fun i:Nat=>(i:Int))=l by
  rw [List.map_map]
  conv=>rhs;rw [← List.map_id l]
  exact List.map_congr_left fun x hx=>Int.toNat_of_nonneg (hl x hx)
 rw [← hb (De n [De n [set]]) fun x hx=>((Z2 _ _).1 x hx).1,e,hb set fun x hx=>(h.1 x hx).1]
noncomputable def puX (P M:Int) (md:List Int) (N:Int) (rows:List (List Int)) (set:List Int):CR :=
 if psE P M md N rows set=0 then ⟨P,M,((De N.toNat [set]).length:Nat),md,(C4 P.toNat M.toNat md (De N.toNat [set]).length (rows.map fun r=>pkI r (De N.toNat [set]))).1,0⟩ else zeR (psE P M md N rows set)
noncomputable def shX (P M:Int) (md:List Int) (N:Int) (rows:List (List Int)) (set:List Int):CR :=
 if psE P M md N rows set=0 then ⟨P,M,((De N.toNat [set]).length:Nat),md,(C4 P.toNat M.toNat md (De N.toNat [set]).length ((wiP P.toNat M.toNat md N.toNat rows set).map fun r=>pkI r (De N.toNat [set]))).1,0⟩ else zeR (psE P M md N rows set)
theorem AIP {p m n:Nat}{md set:List Int}{rows:List (List Int)}(h:psE p m md n rows set=0):puX p m md n rows set=⟨p,m,((De n [set]).length:Nat),md,(C4 p m md (De n [set]).length (rows.map fun r=>pkI r (De n [set]))).1,0⟩:=by
 rw [puX,if_pos h];simp only [Int.toNat_natCast]
theorem AIg {p m n:Nat}{md set:List Int}{rows:List (List Int)}(h:psE p m md n rows set=0):shX p m md n rows set=⟨p,m,((De n [set]).length:Nat),md,(C4 p m md (De n [set]).length ((wiP p m md n rows set).map fun r=>pkI r (De n [set]))).1,0⟩:=by
 rw [shX,if_pos h];simp only [Int.toNat_natCast]
theorem ALw {p m n:Nat}{md set:List Int}{rows:List (List Int)}(CC:Cok p m md n rows):Da (p ^ m) n (wiP p m md n rows set)∧(wiP p m md n rows set).length≤n:=by
 have O:=Dy CC.K
 have hc:Da (p ^ m) rows.length (set.map fun j=>Hm rows j.toNat):=fun r hr=>by
  obtain ⟨j,_,rfl⟩:=List.mem_map.1 hr
  exact Xu (by have:=O.q2;omega) CC.mat _
 obtain ⟨h1,h2⟩:=Wo CC.K (O.wo_mat CC.mat hc)
 exact ⟨(O.wi CC.mat hc).1,Nat.le_trans (Nat.le_of_eq h1) h2⟩
section
variable {P M:Int}{n c nm cm ns cs':Nat}{pm ps pt:Option Addr}{md set:List Int}{rows:List (List Int)}
theorem V9 {N:Int}(hN:Bx .i64 N):Bn Tryz.prog 15 [.agg #[.int .i64 P,.int .i64 M,.slice pm nm cm,.int .i64 N,.slice ps n c],.slice pt ns cs'] [] [Ap Aj pm nm cm md,Ap (Ah Aj) ps n c rows,Ap Aj pt ns cs' set] (CdX (puX P M md N rows set)):=by
 refine Ab (F:=Wv) rfl fun C=>?_
 have hr:=AF5 P M md N rows set
 have Do:=fun {pm ps pt:Option Addr}{nm cm n c ns cs':Nat}=>Mk (P:=P) (M:=M) (pm:=pm) (ps:=ps) (pt:=pt) (nm:=nm) (cm:=cm) (n:=n) (c:=c) (ns:=ns) (cs':=cs') (md:=md) (set:=set) (rows:=rows) hN rfl
 by_cases h0:psE P M md N rows set=0
 ·obtain ⟨p,m,n',rfl,rfl,rfl,CC,hst,hne⟩:=AKr h0
  rw [h0] at Do
  rw [AIP h0]
  have h64:=CC.n64
  have Qu:=fun {P M N:Int}{pm ps:Option Addr}{nm cm n c:Nat}=>Wu (P:=P) (M:=M) (N:=N) (pm:=pm) (ps:=ps) (nm:=nm) (cm:=cm) (n:=n) (c:=c)
  have Ok:=fun {pm ps pt:Option Addr}{nm cm n c ns cs':Nat}=>Ug (pm:=pm) (ps:=ps) (pt:=pt) (nm:=nm) (cm:=cm) (n:=n) (c:=c) (ns:=ns) (cs':=cs') CC.K h64 (by have:=CC.len;omega) CC.mat hst hne
  refine wk 14 (ct @Do cz) ?_
  intro b1 b2 h1
  (apply E7 it mx 8;(· rfl);(· rfl))
  (apply Ac;(· rfl);(· exact Bz fun _=>An rfl K9 Al))
  (apply Ac;(· rfl);(· exact Fo 1 rfl rfl Ga rfl rfl))
  (apply Ac;(· rfl);(· exact Cu 1 rfl rfl Dj rfl))
  (apply Ac;(· rfl);(· exact Bz fun _=>Aw [] rfl (Qu) rfl (by rintro _ _ _ ⟨rfl,rfl,rfl⟩;exact Al)))
  (apply A1 1;(· rfl);(· simp))
  (apply I1 (val:=(fun g=>Value.tuple #[Value.agg #[Value.int IntKind.i64 ↑p,Value.int IntKind.i64 ↑m,Value.slice (g 0).fst (g 2).snd.fst (g 3).snd.fst,Value.int IntKind.i64 ↑(De n' [set]).length,Value.slice (g 1).fst (g 4).snd.fst (g 5).snd.fst],Value.int IntKind.i64 0])) (f:=(fun g=>[Ap Aj (g 0).fst (g 2).snd.fst (g 3).snd.fst md,Ap (Ah Aj) (g 1).fst (g 4).snd.fst (g 5).snd.fst (C4 p m md (De n' [set]).length (List.map (fun r=>pkI r (De n' [set])) rows)).fst]));(· rfl);(· exact Bz fun _=>Aw [0,1,2] rfl (Ok) rfl (by rintro _ _ _ ⟨pbg0,pcg1,nbg2,cbg3,ncg4,ccg5,rfl,rfl,rfl⟩;exact fun _ _ _ hG=>⟨(fun|0=>(pbg0,0,0,[])|1=>(pcg1,0,0,[])|2=>(none,nbg2,0,[])|3=>(none,cbg3,0,[])|4=>(none,ncg4,0,[])|5=>(none,ccg5,0,[])|_=>default),rfl,fun g hg=>Ey (hG _ (List.mem_append_left _ hg))⟩));intro g1;dsimp only [List.map_cons,List.map_nil])
  (apply G0 [19] (fun vs=>match vs.getD 0 undef with | .tuple a=>a.getD 0 undef|_=>undef) (v:=Value.agg #[Value.int IntKind.i64 ↑p,Value.int IntKind.i64 ↑m,Value.slice (g1 0).fst (g1 2).snd.fst (g1 3).snd.fst,Value.int IntKind.i64 ↑(De n' [set]).length,Value.slice (g1 1).fst (g1 4).snd.fst (g1 5).snd.fst]);(· rfl);(· rfl);(· rfl);(· rfl);(· exact Bz fun _=>Ki it rfl (by trivial) Al))
  (apply Ac;(· rfl);(· exact Bz fun _=>Ki it rfl (by trivial) Al))
  refine Er rfl ?_
  simp only [List.map_cons,List.map_nil,List.cons_append,List.nil_append]
  refine wk 3 cz ?_
  refine Bb [0,1] rfl (.agg 0 rfl rfl Dj rfl (.tmp rfl .nil)) rfl ⟨_,_,_,_,_,_,rfl,rfl,rfl⟩
 ·rw [puX,if_neg h0]
  generalize psE P M md N rows set=e at *
  refine Dl (Ap Aj none 0 0 []) (fun w A _=>Cm _ w A none 0) ?_
  refine Dl (Ap (Ah Aj) none 0 0 []) (fun w A _=>Cm _ w A none 0) ?_
  refine wk 19 (ct @Do cz) ?_
  intro b1 b2 h1
  refine Bb [1,0] rfl (.agg 0 rfl rfl Dj rfl (.tmp rfl .nil)) rfl ⟨_,_,_,_,_,_,rfl,rfl,rfl⟩
theorem Ye {N:Int}(hN:Bx .i64 N):Bn Tryz.prog 18 [.agg #[.int .i64 P,.int .i64 M,.slice pm nm cm,.int .i64 N,.slice ps n c],.slice pt ns cs'] [] [Ap Aj pm nm cm md,Ap (Ah Aj) ps n c rows,Ap Aj pt ns cs' set] (CdX (shX P M md N rows set)):=by
 refine Ab (F:=Xt) rfl fun C=>?_
 have hr:=AF5 P M md N rows set
 have Do:=fun {pm ps pt:Option Addr}{nm cm n c ns cs':Nat}=>Mk (P:=P) (M:=M) (pm:=pm) (ps:=ps) (pt:=pt) (nm:=nm) (cm:=cm) (n:=n) (c:=c) (ns:=ns) (cs':=cs') (md:=md) (set:=set) (rows:=rows) hN rfl
 by_cases h0:psE P M md N rows set=0
 ·obtain ⟨p,m,n',rfl,rfl,rfl,CC,hst,hne⟩:=AKr h0
  rw [h0] at Do
  rw [AIg h0]
  have h64:=CC.n64
  have hol:=ACG hst
  obtain ⟨hWM,hWl⟩:=ALw (set:=set) CC
  have Qu:=fun {P M N:Int}{pm ps:Option Addr}{nm cm n c:Nat}=>Wu (P:=P) (M:=M) (N:=N) (pm:=pm) (ps:=ps) (nm:=nm) (cm:=cm) (n:=n) (c:=c)
  have N8:=fun {ps:Option Addr}{nn c:Nat}=>(Um (ps:=ps) (nn:=nn) (c:=c) (n:=n') (l:=set) (by omega)).pubR (by show _*8≤140737488355328;omega)
  have Nz:=fun {pm ps pt:Option Addr}{nm cm n c ns cs':Nat}=>Sq (pm:=pm) (ps:=ps) (pt:=pt) (nm:=nm) (cm:=cm) (n:=n) (c:=c) (ns:=ns) (cs':=cs') CC (Z2 n' [set])
  rw [AH4 hst] at Nz
  have Ok:=fun {pm ps pt:Option Addr}{nm cm n c ns cs':Nat}=>Ug (pm:=pm) (ps:=ps) (pt:=pt) (nm:=nm) (cm:=cm) (n:=n) (c:=c) (ns:=ns) (cs':=cs') CC.K h64 (by omega) hWM hst hne
  generalize wiP p m md n' rows set=W at *
  refine wk 14 (ct @Do cz) ?_
  intro b1 b2 h1
  (apply Gd (x0:=none) it mx 0 13 [11] 1;(· rfl);(· rfl);(· rfl);(· decide))
  simp only [List.drop_zero]
  (apply Ac;(· rfl);(· exact Bz fun _=>An rfl K9 Al))
  (apply Ac;(· rfl);(· exact Fo 1 rfl rfl Ga rfl rfl))
  (apply Ac;(· rfl);(· exact Cu 1 rfl rfl Dj rfl))
  (apply Ac;(· rfl);(· exact Bz fun _=>Aw [] rfl (Qu) rfl (by rintro _ _ _ ⟨rfl,rfl,rfl⟩;exact Al)))
  (apply A1 1;(· rfl);(· simp))
  (apply Ac;(· rfl);(· exact Bz fun _=>An rfl If Al))
  (apply Ac;(· rfl);(· exact Bv 1 rfl rfl Ci rfl))
  (apply Fa;(· rfl);(· exact Bz fun _=>Aw [2] rfl (N8) rfl (by rintro _ _ _ ⟨pa1,ca1,rfl,rfl,rfl⟩;exact (Jd 0 rfl)));intro pa1 ca1)
  (apply I1 (val:=(fun g=>Value.tuple #[Value.agg #[Value.int IntKind.i64 ↑n',Value.slice (g 0).fst W.length (g 1).snd.fst],Value.int IntKind.i64 0])) (f:=(fun g=>[Ap (Ah Aj) (g 0).fst W.length (g 1).snd.fst W]));(· rfl);(· exact Bz fun _=>Aw [1,2,0] rfl (Nz) rfl (by rintro _ _ _ ⟨pbg0,cbg1,rfl,rfl,rfl⟩;exact fun _ _ _ hG=>⟨(fun|0=>(pbg0,0,0,[])|1=>(none,cbg1,0,[])|_=>default),rfl,fun g hg=>Ey (hG _ (List.mem_append_left _ hg))⟩));intro g1;dsimp only [List.map_cons,List.map_nil])
  (apply G0 [25] (fun vs=>vs.getD 0 undef) (v:=Value.tuple #[Value.agg #[Value.int IntKind.i64 ↑n',Value.slice (g1 0).fst W.length (g1 1).snd.fst],Value.int IntKind.i64 0]);(· rfl);(· rfl);(· rfl);(· rfl);(· exact Bz fun _=>Ki it rfl (by trivial) Al))
  (apply G0 [16] (fun vs=>match vs.getD 0 undef with | .tuple a=>a.getD 0 undef|_=>undef) (v:=Value.agg #[Value.int IntKind.i64 ↑n',Value.slice (g1 0).fst W.length (g1 1).snd.fst]);(· rfl);(· rfl);(· rfl);(· rfl);(· exact Bz fun _=>Ki it rfl (by trivial) Al))
  (apply Ac;(· rfl);(· exact Bz fun _=>Ki it rfl (by trivial) Al))
  (apply H2;(· rfl);(· exact Hq);intro b3)
  refine Fs rfl ?_
  (rotate_left;rfl;rotate_right)
  simp only [List.map_cons,List.map_nil,List.cons_append,List.nil_append]
  refine G5 it rfl rfl ⟨⟨_,_,_,_,rfl,rfl,rfl,rfl,rfl,rfl,(by first|trivial|(repeat' first|exact trivial|apply And.intro|omega))⟩,trivial⟩ (Bf 0 rfl rfl rfl Gg rfl rfl (by simp [Value.oneCell']) ?_)
  refine Is it ⟨⟨_,_,_,_,rfl,rfl,rfl,rfl,rfl,rfl,(by first|trivial|(repeat' first|exact trivial|apply And.intro|omega))⟩,trivial⟩ ?_
  refine wk 15 (ct @Ok cz) ?_
  intro h2 pb1 pc1 nb1 cb1 nc1 cc1
  refine Bb [0,1] rfl (.agg 1 rfl rfl Dj rfl (.tmp rfl .nil)) rfl ⟨_,_,_,_,_,_,rfl,rfl,rfl⟩
 ·rw [shX,if_neg h0]
  generalize psE P M md N rows set=e at *
  refine Dl (Ap Aj none 0 0 []) (fun w A _=>Cm _ w A none 0) ?_
  refine Dl (Ap (Ah Aj) none 0 0 []) (fun w A _=>Cm _ w A none 0) ?_
  refine wk 19 (ct @Do cz) ?_
  intro b1 b2 h1
  refine Bb [1,0] rfl (.agg 0 rfl rfl Dj rfl (.tmp rfl .nil)) rfl ⟨_,_,_,_,_,_,rfl,rfl,rfl⟩
end
open Go Go.Fw
set_option maxRecDepth 100000
set_option linter.unusedVariables false
set_option linter.unusedSimpArgs false
set_option maxHeartbeats 0
abbrev onW (n:Nat):List Int:=List.replicate n 1
theorem ALZ {p m:Nat}{md:List Int}(K:Fok p m md) (n:Nat):Wd (p ^ m) n (onW n):=⟨List.length_replicate,fun x hx=>by rw [List.eq_of_mem_replicate hx];have:=K.fi.q2;omega⟩
theorem Yn {p m:Nat}{md:List Int}(K:Fok p m md) (n:Nat):Da (p ^ m) n [onW n]:=fun r hr=>by rw [List.mem_singleton.1 hr];exact ALZ K n
noncomputable abbrev onP (p m:Nat) (md:List Int) (n:Nat):List (List Int):=(C4 p m md n [onW n]).1
section
variable {p m n c nm cm N:Nat}{P M:Int}{pm ps:Option Addr}{md:List Int}{rows:List (List Int)}
theorem Uo (K:Fok p m md) (h1:1≤N) (hN:N≤64):Bn Tryz.prog 78 [.agg #[.int .i64 p,.int .i64 m,.slice pm nm cm,.int .i64 N,.slice ps n c]] [] [Ap Aj pm nm cm md] (CdQ p m N md (onP p m md N) 0):=by
 refine Ab (F:=ABb) rfl fun C=>?_
 have Dp:=fun {pm ps:Option Addr}{nm cm n c:Nat}=>I5 (pm:=pm) (ps:=ps) (nm:=nm) (cm:=cm) (n:=n) (c:=c) (N:=N) (rows:=[onW N]) K h1 hN (show 1≤256 by omega) (Yn K N)
 refine wk 14 cz ?_
 intro b1 b2 b3
 rw [show Ao .i64 (List.replicate N 0)=Ak .i64 (List.replicate 0 1++List.replicate (N-0) 0) by simp [Ao,Ak]]
 refine Af (X:=Nat) [1,2,3,4,10] [0] (fun i=>[(11,.int .i64 (i:Int))]) (fun i=>(some b3,3,Ak .i64 (List.replicate i 1++List.replicate (N-i) 0))::_) (fun _=>[]) (fun i=>i≤N) (fun i=>N-i) 0 [] rfl rfl rfl (Nat.zero_le _) (by repeat (first|exact Fr.sub_nil _|refine Fr.sub_cons rfl ?_)) rfl rfl ?_
 rintro i hi ih
 simp only [List.cons_append,List.nil_append] at hi ih ⊢
 by_cases h9:i<N
 ·have ih':=ih (i+1) (by omega) (by omega)
  have hset:(List.replicate i (1:Int)++List.replicate (N-i) 0).set i 1=List.replicate (i+1) 1++List.replicate (N-(i+1)) 0:=by
   obtain ⟨k,hk⟩:∃ k,N-i=k+1:=⟨N-i-1,by omega⟩
   rw [hk,List.replicate_succ (n:=k),List.set_append_right _ _ (by simp),List.length_replicate,Nat.sub_self,List.set_cons_zero,show N-(i+1)=k by omega,List.replicate_succ' (n:=i),List.append_assoc]
   rfl
  rw [← hset] at ih'
  have hln:(List.replicate i (1:Int)++List.replicate (N-i) 0).length=N:=by simp;omega
  generalize List.replicate i (1:Int)++List.replicate (N-i) 0=L at *
  clear ih
  refine wk 13 cz ?_
  intro h2
  exact tw (ih')
 ·obtain rfl:i=N:=by omega
  rw [Nat.sub_self,List.replicate_zero,List.append_nil]
  clear ih
  refine Bk 0 rfl (show i=(onW i).length from List.length_replicate.symm) (fun x hx=>by rw [List.eq_of_mem_replicate hx];simp only [Bx];omega) (by omega) ?_
  refine C3 0 0 rfl rfl (by show i*8≤140737488355328;omega) ?_
  simp only [List.eraseIdx_cons_zero]
  refine wk 12 cz ?_
  intro h2 b4
  refine Cn (E:=(Ah (Aj))) (n:=1) [[Value.slice (some { block:=b3,off:=0 }) i i]] [List.replicate i 1] 0 (fun w A hG=>(Ay (Ax (hG _ (Ae (n:=0) rfl))) Ba)) rfl rfl rfl rfl (by first|decide|exact Nat.le_of_ble_eq_true rfl) (by first|decide|exact Nat.le_of_ble_eq_true rfl) ?_
  refine wk 5 (ct @Dp cz) ?_
  intro pb1 pc1 nb1 cb1 nc1 cc1
  refine Bb [0,1] rfl (.agg 0 rfl rfl Dj rfl (.tmp rfl .nil)) rfl ⟨_,_,_,_,_,_,rfl,rfl,rfl⟩
end
open Go Go.Fw
set_option maxRecDepth 100000
set_option linter.unusedVariables false
set_option linter.unusedSimpArgs false
set_option maxHeartbeats 0
noncomputable abbrev exP (p m:Nat) (md:List Int) (n:Nat) (rows:List (List Int)):List (List Int):=Jf p m md n (Jf p m md n rows++[onW n])
noncomputable abbrev auP (p m:Nat) (md:List Int) (n:Nat) (rows:List (List Int)):List (List Int):=(C4 p m md n (rows++[onW n])).1
theorem ACN {p m N:Nat}{md:List Int}(K:Fok p m md) (h1:1≤N) (h2:N≤64):Cok p m md N (onP p m md N):=Cok.cn K h1 h2 (Yn K N)
theorem AL8 {p m N:Nat}{md:List Int}{rows:List (List Int)}(CC:Cok p m md N rows):Jf p m md N (Jf p m md N rows++Jf p m md N (Jf p m md N (onP p m md N)))=exP p m md N rows:=by
 have O:=Dy CC.K
 have CO:=ACN CC.K CC.n1 CC.n64
 have hM:=Yn CC.K N
 refine O.nu_congr (Ji CC.nu.mat CO.nu.nu.mat) (Ji CC.nu.mat hM) fun x hx=>?_
 rw [Tc,Tc]
 refine and_congr_right fun _=>?_
 rw [show Jf p m md N (Jf p m md N (onP p m md N))=(C4 p m md N (onP p m md N)).1 from O.nu_nu CO.mat,CO.can]
 exact (O.cn hM).2 x hx
theorem ALW {p m N:Nat}{md:List Int}{rows:List (List Int)}(CC:Cok p m md N rows):(C4 p m md N (rows++onP p m md N)).1=auP p m md N rows:=by
 have O:=Dy CC.K
 have CO:=ACN CC.K CC.n1 CC.n64
 have hM:=Yn CC.K N
 have:=O.cn_congr (Ji CC.mat CO.mat) (Ji CC.mat hM) fun x hx=>by
  rw [Tc,Tc]
  exact and_congr_right fun _=>(O.cn hM).2 x hx
 exact congrArg Prod.fst this
noncomputable def exX (P M:Int) (md:List Int) (N:Int) (rows:List (List Int)):CR:=if Nw P M md N rows=0 then ⟨P,M,N,md,exP P.toNat M.toNat md N.toNat rows,0⟩ else zeR (Nw P M md N rows)
noncomputable def auX (P M:Int) (md:List Int) (N:Int) (rows:List (List Int)):CR:=if Nw P M md N rows=0 then ⟨P,M,N,md,auP P.toNat M.toNat md N.toNat rows,0⟩ else zeR (Nw P M md N rows)
noncomputable def sbE (P M:Int) (md:List Int) (N:Int) (rows:List (List Int)) (set:List Int):Int:=if Nw P M md N rows≠0 then Nw P M md N rows else if stP (rows.length:Nat) set then 0 else 6
noncomputable abbrev sbL (rows:List (List Int)) (set:List Int):List (List Int):=set.map fun i=>Ar rows i.toNat
noncomputable def sbX (P M:Int) (md:List Int) (N:Int) (rows:List (List Int)) (set:List Int):CR:=if sbE P M md N rows set=0 then ⟨P,M,N,md,(C4 P.toNat M.toNat md N.toNat (sbL rows set)).1,0⟩ else zeR (sbE P M md N rows set)
theorem AEX {p m n:Nat}{md:List Int}{rows:List (List Int)}(CC:Cok p m md n rows):exX p m md n rows=⟨p,m,n,md,exP p m md n rows,0⟩:=by
 rw [exX,if_pos CC.ck];simp only [Int.toNat_natCast]
theorem AEG {p m n:Nat}{md:List Int}{rows:List (List Int)}(CC:Cok p m md n rows):auX p m md n rows=⟨p,m,n,md,auP p m md n rows,0⟩:=by
 rw [auX,if_pos CC.ck];simp only [Int.toNat_natCast]
theorem AIE {p m n:Nat}{md set:List Int}{rows:List (List Int)}(CC:Cok p m md n rows) (hst:stP (rows.length:Nat) set):sbX p m md n rows set=⟨p,m,n,md,(C4 p m md n (sbL rows set)).1,0⟩:=by
 rw [sbX,if_pos (by rw [sbE,if_neg (fun e=>e CC.ck),if_pos hst])];simp only [Int.toNat_natCast]
theorem ALk {p m n:Nat}{md set:List Int}{rows:List (List Int)}(CC:Cok p m md n rows) (hst:stP (rows.length:Nat) set):Da (p ^ m) n (sbL rows set):=fun r hr=>by
 obtain ⟨i,hi,rfl⟩:=List.mem_map.1 hr
 have:=hst.1 i hi
 exact CC.mat.row (by omega)
section
variable {P M:Int}{n c nm cm ns cs':Nat}{pm ps pt:Option Addr}{md set:List Int}{rows:List (List Int)}
theorem Mp {N:Int}(hN:Bx .i64 N):Bn Tryz.prog 28 [.agg #[.int .i64 P,.int .i64 M,.slice pm nm cm,.int .i64 N,.slice ps n c]] [] [Ap Aj pm nm cm md,Ap (Ah Aj) ps n c rows] (CdX (exX P M md N rows)):=by
 refine Ab (F:=Vj) rfl fun C=>?_
 have hr:=Ll P M md N rows
 have Au:=fun {pm ps:Option Addr}{nm cm n c:Nat}=>D4 (P:=P) (M:=M) (pm:=pm) (ps:=ps) (nm:=nm) (cm:=cm) (n:=n) (c:=c) (md:=md) (rows:=rows) (N:=N) hN rfl
 by_cases h0:Nw P M md N rows=0
 ·obtain ⟨p,m,n',rfl,rfl,rfl,CC⟩:=Vl h0
  rw [h0] at Au
  rw [AEX CC,← AL8 CC]
  have CO:=ACN CC.K CC.n1 CC.n64
  have CD:=CO.nu
  have Oo:=fun {pm ps:Option Addr}{nm cm n c:Nat}=>Uo (pm:=pm) (ps:=ps) (nm:=nm) (cm:=cm) (n:=n) (c:=c) CC.K CC.n1 CC.n64
  have Kv:=fun {pm ps:Option Addr}{nm cm n c:Nat}=>Mq (pm:=pm) (ps:=ps) (nm:=nm) (cm:=cm) (n:=n) (c:=c) CO
  have ADo:=fun {pm ps p2 pm2:Option Addr}{nm cm n c n2 c2 nm2 cm2:Nat}=>AAn (pm:=pm) (nm:=nm) (cm:=cm) (ps:=ps) (n:=n) (c:=c) (p2:=p2) (n2:=n2) (c2:=c2) (pm2:=pm2) (nm2:=nm2) (cm2:=cm2) CC CD
  refine wk 41 (ct @Au (ct @Oo (ct @Kv (ct @ADo cz)))) ?_
  intro b1 b2 h1 pb1 pc1 nb1 cb1 nc1 cc1 b3 h2 pb2 pc2 nb2 cb2 nc2 cc2 h3 pb3 pc3 nb3 cb3 nc3 cc3
  refine Bb [0,1] rfl (.agg 1 rfl rfl Dj rfl (.tmp rfl .nil)) rfl ⟨_,_,_,_,_,_,rfl,rfl,rfl⟩
 ·rw [exX,if_neg h0]
  generalize Nw P M md N rows=e at *
  refine Dl (Ap Aj none 0 0 []) (fun w A _=>Cm _ w A none 0) ?_
  refine Dl (Ap (Ah Aj) none 0 0 []) (fun w A _=>Cm _ w A none 0) ?_
  refine wk 18 (ct @Au cz) ?_
  intro b1 b2 h1
  refine Bb [1,0] rfl (.agg 0 rfl rfl Dj rfl (.tmp rfl .nil)) rfl ⟨_,_,_,_,_,_,rfl,rfl,rfl⟩
theorem P1 {N:Int}(hN:Bx .i64 N):Bn Tryz.prog 30 [.agg #[.int .i64 P,.int .i64 M,.slice pm nm cm,.int .i64 N,.slice ps n c]] [] [Ap Aj pm nm cm md,Ap (Ah Aj) ps n c rows] (CdX (auX P M md N rows)):=by
 refine Ab (F:=Xp) rfl fun C=>?_
 have hr:=Ll P M md N rows
 have Au:=fun {pm ps:Option Addr}{nm cm n c:Nat}=>D4 (P:=P) (M:=M) (pm:=pm) (ps:=ps) (nm:=nm) (cm:=cm) (n:=n) (c:=c) (md:=md) (rows:=rows) (N:=N) hN rfl
 by_cases h0:Nw P M md N rows=0
 ·obtain ⟨p,m,n',rfl,rfl,rfl,CC⟩:=Vl h0
  rw [h0] at Au
  rw [AEG CC,← ALW CC]
  have CO:=ACN CC.K CC.n1 CC.n64
  have Oo:=fun {pm ps:Option Addr}{nm cm n c:Nat}=>Uo (pm:=pm) (ps:=ps) (nm:=nm) (cm:=cm) (n:=n) (c:=c) CC.K CC.n1 CC.n64
  have Vh:=fun {pm ps p2 pm2:Option Addr}{nm cm n c n2 c2 nm2 cm2:Nat}=>Ue (pm:=pm) (nm:=nm) (cm:=cm) (ps:=ps) (n:=n) (c:=c) (p2:=p2) (n2:=n2) (c2:=c2) (pm2:=pm2) (nm2:=nm2) (cm2:=cm2) CC CO
  refine wk 31 (ct @Au (ct @Oo (ct @Vh cz))) ?_
  intro b1 b2 h1 pb1 pc1 nb1 cb1 nc1 cc1 b3 h2 pb2 pc2 nb2 cb2 nc2 cc2
  refine Bb [0,1] rfl (.agg 1 rfl rfl Dj rfl (.tmp rfl .nil)) rfl ⟨_,_,_,_,_,_,rfl,rfl,rfl⟩
 ·rw [auX,if_neg h0]
  generalize Nw P M md N rows=e at *
  refine Dl (Ap Aj none 0 0 []) (fun w A _=>Cm _ w A none 0) ?_
  refine Dl (Ap (Ah Aj) none 0 0 []) (fun w A _=>Cm _ w A none 0) ?_
  refine wk 18 (ct @Au cz) ?_
  intro b1 b2 h1
  refine Bb [1,0] rfl (.agg 0 rfl rfl Dj rfl (.tmp rfl .nil)) rfl ⟨_,_,_,_,_,_,rfl,rfl,rfl⟩
theorem Xe {N:Int}(hN:Bx .i64 N):Bn Tryz.prog 20 [.agg #[.int .i64 P,.int .i64 M,.slice pm nm cm,.int .i64 N,.slice ps n c],.slice pt ns cs'] [] [Ap Aj pm nm cm md,Ap (Ah Aj) ps n c rows,Ap Aj pt ns cs' set] (CdX (sbX P M md N rows set)):=by
 refine Ab (F:=Yk) rfl fun C=>?_
 refine A8 1 rfl fun hn hb1 _=>?_
 subst hn
 refine A8 2 rfl fun hn hb _=>?_
 subst hn
 have hb':set.length*8≤140737488355328:=hb
 have hr:=Ll P M md N rows
 have Au:=fun {pm ps:Option Addr}{nm cm n c:Nat}=>D4 (P:=P) (M:=M) (pm:=pm) (ps:=ps) (nm:=nm) (cm:=cm) (n:=n) (c:=c) (md:=md) (rows:=rows) (N:=N) hN rfl
 by_cases h0:Nw P M md N rows=0
 ·obtain ⟨p,m,n',rfl,rfl,rfl,CC⟩:=Vl h0
  rw [h0] at Au
  by_cases hst:stP (rows.length:Nat) set
  ·rw [AIE CC hst]
   have hSM:=ALk CC hst
   have hl:=CC.len
   have hSl:set.length≤64:=by have:=ACG hst;omega
   have hLl:(sbL rows set).length=set.length:=List.length_map _
   have C8:=fun {ps:Option Addr}{nn c:Nat}=>Gw (ps:=ps) (nn:=nn) (c:=c) (n:=(rows.length:Nat)) (l:=set) (decide_eq_true hst)
   have Dp:=fun {pm ps:Option Addr}{nm cm n c:Nat}=>I5 (pm:=pm) (ps:=ps) (nm:=nm) (cm:=cm) (n:=n) (c:=c) (N:=n') (rows:=sbL rows set) CC.K CC.n1 CC.n64 (by omega) hSM
   generalize hG:C4 p m md n' (sbL rows set)=G at *
   clear hG
   refine Aq [_,_] rfl ?_
   refine Aa rfl (Ct rfl fun b1=>?_)
   refine Aa rfl (B1 T0 fun b2=>?_)
   refine Ai it 1 rfl (by simp) ?_
   refine Aq [_,_,_] rfl ?_
   refine Aa rfl (Bi 1 rfl rfl Dj rfl ?_)
   refine Aa rfl (Aw [0,1] rfl (Au) rfl ?_)
   rintro _ _ _ ⟨rfl,rfl,rfl⟩
   simp only [List.cons_append,List.nil_append]
   refine Ai it 1 rfl (by simp) ?_
   refine Aq [_,_,_] rfl ?_
   refine Ai it 2 rfl (by simp) ?_
   refine Aq [_,_] rfl ?_
   refine No rfl rfl (fun h1=>by exfalso;omega) (fun h1=>?_)
   refine Aq [_,_,_] rfl ?_
   refine Ai it 1 rfl (by simp) ?_
   refine Aa rfl (An rfl M0 ?_)
   refine Aa rfl (Bu 1 rfl rfl Hp rfl ?_)
   refine Aa rfl (Hv Df rfl ?_)
   refine Aa rfl (Aw [2] rfl (C8) rfl ?_)
   rintro _ _ _ ⟨rfl,rfl,rfl⟩
   simp only [List.cons_append,List.nil_append]
   simp only [decide_true]
   refine Ai it 1 rfl (by simp) ?_
   refine Aq [_,_] rfl ?_
   refine Nl rfl rfl ?_
   refine Aq [_,_] rfl ?_
   refine Aa rfl (An rfl If ?_)
   refine Aa rfl (Bu 1 rfl rfl Ci rfl ?_)
   refine Aa rfl (Dc (cs:=[Value.int IntKind.i64 ↑n',Value.slice none 0 0]) W1 Hq rfl rfl ?_)
   refine Aa rfl (B1 Hq fun b3=>?_)
   refine Aa rfl (Bf 0 rfl rfl rfl Gg rfl rfl (by simp [Value.oneCell']) ?_)
   refine Aq [_,_,_] rfl ?_
   refine Ai it 1 rfl (by simp) ?_
   refine Aa rfl (Hv Ce rfl ?_)
   refine Ai it 1 rfl (by simp) ?_
   refine Aq [_,_,_] rfl ?_
   refine Fh (Ah Aj) 22 ?_
   simp only [Cc,Dr,setB,List.take_succ_cons,List.cons_append,List.nil_append,List.take_zero,List.drop_succ_cons,List.drop_zero,List.length_singleton,Nat.zero_add]
   refine Af (X:=Nat×Row) [2,4,5,7,26,27] [0,1,2,3] (fun z=>[(28,.int .i64 (z.1:Int))]) (fun z=>(z.2.bo,22,z.2.cs)::(some b3,62,[.int .i64 (n':Nat),.slice (ad z.2.bo) z.1 z.2.cap])::_) (fun z=>[A5 (Ah Aj) z.2 z.1 (sbL rows (set.take z.1))]) (fun z=>z.1≤set.length) (fun z=>set.length-z.1) (0,⟨none,0,[]⟩) [0] rfl rfl rfl (Nat.zero_le _) (by repeat (first|exact Fr.sub_nil _|refine Fr.sub_cons rfl ?_)) rfl rfl ?_
   rintro ⟨i,r⟩ hi ih
   simp only [List.cons_append,List.nil_append] at hi ih ⊢
   by_cases hil:i<set.length
   ·obtain ⟨x,at_x⟩:∃ x,set[i]?=some x:=⟨_,List.getElem?_eq_getElem hil⟩
    obtain ⟨x0,x1⟩:=hst.1 x (List.mem_of_getElem? at_x)
    obtain ⟨u,at_u⟩:∃ u,rows[x.toNat]?=some u:=⟨_,List.getElem?_eq_getElem (by omega)⟩
    have ih1:=fun r=>ih (i+1,r) (by dsimp only;omega) (by dsimp only;omega)
    dsimp only at ih1
    have eu:Ar rows x.toNat=rows.getD x.toNat default:=rfl
    rw [sbL,List.take_add_one (l:=set),at_x,Option.toList_some,List.map_append,List.map_cons,List.map_nil,eu] at ih1
    clear ih
    refine wk 6 cz ?_
    intro h2 b4 o1 hz1
    refine Aa rfl (Av 0 rfl rfl Ci fun ⟨r1,r2⟩=>?_)
    refine wk 2 cz ?_
    (apply E7 it mx 8;(· rfl);(· rfl))
    (apply Ac;(· rfl);(· exact Bz fun _=>An rfl Ic Al))
    (apply Ac;(· rfl);(· exact Bv 1 rfl rfl Hp rfl))
    (apply Ac;(· rfl);(· exact Bz fun _=>An rfl M0 Al))
    (apply Ac;(· rfl);(· exact Bv 3 rfl rfl Hp rfl))
    (apply A1 1;(· rfl);(· simp))
    (apply X0;(· rfl);(· exact Bz fun _=>H8 4 ((x:Int).toNat) rfl rfl rfl Df (by omega) (by omega) fun z1 hz2 b5 o2=>(Yh default hz2 0 rfl));intro b5 o2)
    (apply Fa;(· rfl);(· exact Bz fun _=>Tk 0 rfl rfl E6 fun pa1 ca1=>(Jd 0 rfl));intro pa1 ca1)
    (apply Fa;(· rfl);(· exact Bz fun _=>H4 Df Gq rfl rfl rfl rfl (by decide) (by decide) rfl fun b6=>Ux (E:=(Ah (Aj))) [[Value.slice pa1 (rows.getD x.toNat default).length ca1]] [rows.getD x.toNat default] (fun w A hG=>(Ay (Ax (hG _ (Ae (n:=0) rfl))) Ba)) rfl rfl rfl (by first|decide|exact Nat.le_of_ble_eq_true rfl));intro pa2 ca2)
    refine Er rfl ?_
    simp only [List.map_cons,List.map_nil,List.cons_append,List.nil_append]
    refine Aa rfl (U0 0 4 0 rfl rfl rfl rfl rfl Df Gq rfl (by omega) _ Jw (by omega) fun r3=>?_)
    refine wk 5 cz ?_
    exact tw (ih1 r3)
   ·obtain rfl:i=set.length:=by omega
    clear ih
    rw [List.take_length]
    refine Dx 0 0 rfl rfl (by show set.length*24≤140737488355328;omega) ?_
    simp only [List.eraseIdx_cons_zero,List.eraseIdx_cons_succ]
    refine wk 13 (ct @Dp cz) ?_
    intro h2 pb1 pc1 nb1 cb1 nc1 cc1
    refine Bb [0,1] rfl (.agg 1 rfl rfl Dj rfl (.tmp rfl .nil)) rfl ⟨_,_,_,_,_,_,rfl,rfl,rfl⟩
  ·rw [sbX,if_neg (by rw [sbE,if_neg (fun e=>e h0),if_neg hst];omega),sbE,if_neg (fun e=>e h0),if_neg hst]
   have C8:=fun {ps:Option Addr}{nn c:Nat}=>Gw (ps:=ps) (nn:=nn) (c:=c) (n:=(rows.length:Nat)) (l:=set) (decide_eq_false hst)
   refine Dl (Ap Aj none 0 0 []) (fun w A _=>Cm _ w A none 0) ?_
   refine Dl (Ap (Ah Aj) none 0 0 []) (fun w A _=>Cm _ w A none 0) ?_
   refine wk 26 (ct @Au (ct @C8 cz)) ?_
   intro b1 b2 h1
   refine Bb [1,0] rfl (.agg 0 rfl rfl Dj rfl (.tmp rfl .nil)) rfl ⟨_,_,_,_,_,_,rfl,rfl,rfl⟩
 ·rw [sbX,if_neg (by rw [sbE,if_pos h0];exact h0),sbE,if_pos h0]
  generalize Nw P M md N rows=e at *
  refine Dl (Ap Aj none 0 0 []) (fun w A _=>Cm _ w A none 0) ?_
  refine Dl (Ap (Ah Aj) none 0 0 []) (fun w A _=>Cm _ w A none 0) ?_
  refine wk 18 (ct @Au cz) ?_
  intro b1 b2 h1
  refine Bb [1,0] rfl (.agg 0 rfl rfl Dj rfl (.tmp rfl .nil)) rfl ⟨_,_,_,_,_,_,rfl,rfl,rfl⟩
end
open Go Go.Fw
set_option maxRecDepth 100000
set_option linter.unusedVariables false
set_option linter.unusedSimpArgs false
set_option maxHeartbeats 0
def Re (A:Int→Int→Int) (l:List Int):Int:=l.foldl A 0
section
variable {p m q b ng cg ne ce nl cl:Nat}{pg pe pl:Option Addr}
theorem W8 (hq:q≤256):Bn Tryz.prog 165 [.pointer (some ⟨b,0,none⟩)] [] [Jl b p m q pg ng cg pe ne ce pl nl cl] (Rv (.int .i64 (q:Int)) []):=by
 refine Ab (F:=W5) rfl fun C=>?_
 refine wk 8 cz ?_
 exact ge
theorem Qf {q:Nat}{A M:Int→Int→Int}(F:FI q A M):∀ (l:List Int) (a:Int),0≤a→a<q→(∀ x∈l,0≤x∧x<(q:Int))→0≤l.foldl A a∧l.foldl A a<q
 | [],a,a0,a1,_=>⟨a0,a1⟩
 | x::l,a,a0,a1,h=>by
  obtain ⟨x0,x1⟩:=h x (.head _)
  obtain ⟨y0,y1⟩:=F.al a x a0 a1 x0 x1
  exact Qf F l _ y0 y1 fun z hz=>h z (.tail _ hz)
theorem AAJ {A:Int→Int→Int}{l:List Int}{i:Nat}{x:Int}(h:l[i]?=some x):Re A (l.take (i+1))=A (Re A (l.take i)) x:=by
 rw [Re,Re,List.take_add_one,h,List.foldl_append];rfl
theorem Q4 {pu:Option Addr}{nu cu:Nat}{u md:List Int}(K:Fok p m md) (hu:∀ x∈u,0≤x∧x<((p ^ m:Nat):Int)) :
  Bn Tryz.prog 75 [.pointer (some ⟨b,0,none⟩),.slice pu nu cu] [] [Jl b p m (p ^ m) pg ng cg pe ne ce pl nl cl,Ap Aj pu nu cu u] (Rv (.int .i64 (Re (Ad (fA p m)) u)) []):=by
 refine Ab (F:=Y1) rfl fun C=>?_
 refine A8 1 rfl fun hn hb _=>?_
 subst hn
 have hb':u.length*8≤140737488355328:=hb
 have hq:=K.q
 have Bt:=fun {b ng cg ne ce nl cl:Nat}{pg pe pl:Option Addr}{x y:Int}=>Dm (p:=p) (m:=m) (b:=b) (ng:=ng) (cg:=cg) (ne:=ne) (ce:=ce) (nl:=nl) (cl:=cl) (pg:=pg) (pe:=pe) (pl:=pl) (x:=x) (y:=y) K.p2 K.m1 hq
 have hF:=K.fi
 have hr:=fun i=>Qf hF (u.take i) 0 (Int.le_refl 0) hF.z fun x hx=>hu x (List.mem_of_mem_take hx)
 generalize Ad (fM p (Az m md))=M at *
 generalize Ad (fA p m)=A at *
 generalize p ^ m=q at *
 refine wk 9 cz ?_
 refine Af (X:=Nat) [0,4,8,9] [0,1] (fun i=>[(10,.int .i64 (i:Int)),(5,.int .i64 (Re A (u.take i)))]) (fun _=>_) (fun _=>[]) (fun i=>i≤u.length) (fun i=>u.length-i) 0 [] rfl rfl rfl (Nat.zero_le _) (by repeat (first|exact Fr.sub_nil _|refine Fr.sub_cons rfl ?_)) rfl rfl ?_
 rintro i hi ih
 simp only [List.cons_append,List.nil_append] at hi ih ⊢
 by_cases h9:i<u.length
 ·obtain ⟨x,at_x⟩:∃ x,u[i]?=some x:=⟨_,List.getElem?_eq_getElem h9⟩
  obtain ⟨hx0,hx1⟩:=hu x (List.mem_of_getElem? at_x)
  have ih':=ih (i+1) (by omega) (by omega)
  rw [AAJ at_x] at ih'
  obtain ⟨s0,s1⟩:=hr i
  rw [← Re] at s0 s1
  generalize Re A (u.take i)=s at *
  refine wk 6 cz ?_
  intro h1 b1 o1 hz1
  refine Aa rfl (Av 0 rfl rfl Ci fun ⟨r1,r2⟩=>?_)
  refine wk 8 (ct @Bt cz) ?_
  exact tw (ih')
 ·obtain rfl:i=u.length:=by omega
  rw [List.take_length]
  clear ih
  refine wk 7 cz ?_
  intro h1
  exact ge
theorem Zg {pu pv:Option Addr}{nu cu nv cv:Nat}{u v md:List Int}(K:Fok p m md) (hu:∀ x∈u,0≤x∧x<((p ^ m:Nat):Int)) (hv:∀ x∈v,0≤x∧x<((p ^ m:Nat):Int)) :
  Bn Tryz.prog 166 [.pointer (some ⟨b,0,none⟩),.slice pu nu cu,.slice pv nv cv] [] [Jl b p m (p ^ m) pg ng cg pe (p ^ m-1) ce pl (p ^ m) cl,Ap Aj pe (p ^ m-1) ce (J1 p m md),Ap Aj pl (p ^ m) cl (J7 p m md),Ap Aj pu nu cu u,Ap Aj pv nv cv v] (Rv (.int .i64 (Re (Ad (fA p m)) (List.zipWith (Ad (fM p (Az m md))) u v))) []):=by
 refine Ab (F:=Yy) rfl fun C=>?_
 refine A8 3 rfl fun hn hb _=>?_
 subst hn
 refine A8 4 rfl fun hn hb2 _=>?_
 subst hn
 have hb':u.length*8≤140737488355328:=hb
 have hb2':v.length*8≤140737488355328:=hb2
 have hq:=K.q
 have Bt:=fun {b ng cg ne ce nl cl:Nat}{pg pe pl:Option Addr}{x y:Int}=>Dm (p:=p) (m:=m) (b:=b) (ng:=ng) (cg:=cg) (ne:=ne) (ce:=ce) (nl:=nl) (cl:=cl) (pg:=pg) (pe:=pe) (pl:=pl) (x:=x) (y:=y) K.p2 K.m1 hq
 have A6:=fun {b ng cg ce cl:Nat}{pg pe pl:Option Addr}{x y:Int}=>C6 (b:=b) (ng:=ng) (cg:=cg) (ce:=ce) (cl:=cl) (pg:=pg) (pe:=pe) (pl:=pl) (x:=x) (y:=y) K
 have hF:=K.fi
 have hz:∀ x∈List.zipWith (Ad (fM p (Az m md))) u v,0≤x∧x<((p ^ m:Nat):Int):=fun x hx=>by
  obtain ⟨i,hi,rfl⟩:=List.getElem_of_mem hx
  rw [List.getElem_zipWith]
  rw [List.length_zipWith] at hi
  obtain ⟨a0,a1⟩:=hu u[i] (List.getElem_mem _)
  obtain ⟨b0,b1⟩:=hv v[i] (List.getElem_mem _)
  exact hF.ml _ _ a0 a1 b0 b1
 have hr:=fun i=>Qf hF ((List.zipWith (Ad (fM p (Az m md))) u v).take i) 0 (Int.le_refl 0) hF.z fun x hx=>hz x (List.mem_of_mem_take hx)
 have hml:=hF.ml
 generalize Ad (fM p (Az m md))=M at *
 generalize Ad (fA p m)=A at *
 generalize J1 p m md=ex at *
 generalize J7 p m md=lg at *
 generalize p ^ m=q at *
 refine wk 9 cz ?_
 refine Aa rfl (AMC rfl rfl ?_)
 refine wk 2 cz ?_
 refine Af (X:=Nat) [0,1,2,6,13] [0,1,2,3,4] (fun i=>[(14,.int .i64 (i:Int)),(7,.int .i64 (Re A ((List.zipWith M u v).take i)))]) (fun _=>_) (fun _=>[]) (fun i=>i≤min u.length v.length) (fun i=>min u.length v.length-i) 0 [] rfl rfl rfl (Nat.zero_le _) (by repeat (first|exact Fr.sub_nil _|refine Fr.sub_cons rfl ?_)) rfl rfl ?_
 rintro i hi ih
 simp only [List.cons_append,List.nil_append] at hi ih ⊢
 by_cases h9:i<min u.length v.length
 ·have hiu:i<u.length:=by omega
  have hiv:i<v.length:=by omega
  obtain ⟨x,at_x⟩:∃ x,u[i]?=some x:=⟨_,List.getElem?_eq_getElem hiu⟩
  obtain ⟨y,at_y⟩:∃ y,v[i]?=some y:=⟨_,List.getElem?_eq_getElem hiv⟩
  have ex':u.getD i default=x:=by rw [List.getD_eq_getElem?_getD,at_x];rfl
  have ey':v.getD i default=y:=by rw [List.getD_eq_getElem?_getD,at_y];rfl
  obtain ⟨hx0,hx1⟩:=hu x (List.mem_of_getElem? at_x)
  obtain ⟨hy0,hy1⟩:=hv y (List.mem_of_getElem? at_y)
  rw [← ex'] at hx0 hx1
  rw [← ey'] at hy0 hy1
  obtain ⟨hm0,hm1⟩:=hml _ _ hx0 hx1 hy0 hy1
  have ih':=ih (i+1) (by omega) (by omega)
  rw [AAJ (l:=List.zipWith M u v) (i:=i) (x:=M (u.getD i default) (v.getD i default)) (by rw [List.getElem?_zipWith,at_x,at_y,ex',ey']),] at ih'
  obtain ⟨s0,s1⟩:=hr i
  rw [← Re] at s0 s1
  generalize Re A ((List.zipWith M u v).take i)=s at *
  refine wk 12 (ct @A6 (ct @Bt cz)) ?_
  intro h1 b1 o1 b2 o2
  exact tw (ih')
 ·have hall:(List.zipWith M u v).take i=List.zipWith M u v:=List.take_of_length_le (by rw [List.length_zipWith];omega)
  rw [hall]
  clear ih
  refine wk 7 cz ?_
  intro h1
  exact ge
theorem Wj {md:List Int}{cg:Nat}(hm8:md.length≤8) (hp:p≤256) (hm:m≤8) :
  Bn Tryz.prog 196 [.pointer (some ⟨b,0,none⟩)] [] [Jl b p m q pg md.length cg pe ne ce pl nl cl,Ap Aj pg md.length cg md] (fun v Φ β=>∃ (pb:Option Addr) (nb cb:Nat),v = .agg #[.int .i64 p,.int .i64 m,.slice pb nb cb]∧Φ=[Ap Aj pb nb cb md]∧β=[]):=by
 refine Ab (F:=Xb) rfl fun C=>?_
 refine wk 3 cz ?_
 intro b1
 (apply Kw it mx 0 18;(· rfl);(· rfl);(· rfl))
 (apply A1 2;(· rfl);(· simp))
 (apply Ac;(· rfl);(· exact Bz fun _=>An rfl Tr Al))
 (apply Ac;(· rfl);(· exact Bz fun _=>An rfl Oi Al))
 (apply Ac;(· rfl);(· exact AAT 0 rfl rfl Ci rfl))
 (apply A1 2;(· rfl);(· simp))
 (apply Ac;(· rfl);(· exact Bz fun _=>An rfl Tr Al))
 (apply Ac;(· rfl);(· exact Bz fun _=>An rfl Ol Al))
 (apply Ac;(· rfl);(· exact AAT 0 rfl rfl Ci rfl))
 (apply V8 (Dq IntKind.i64 8);(· rfl);(· exact Ce);intro pa1)
 (apply A1 2;(· rfl);(· simp))
 (apply Ac;(· rfl);(· exact Bz fun _=>An rfl Tr Al))
 (apply Ac;(· rfl);(· exact Bz fun _=>An rfl AC7 Al))
 (apply Ac;(· rfl);(· exact AAT 0 rfl rfl E6 rfl))
 (apply Yc 0 2;(· rfl);(· rfl);(· rfl);(· rfl);(· rfl);(· exact Ce);(· exact Ee);(· rfl);(· (first|omega|(simp only [List.length_cons,List.length_nil];omega)));(· exact G2);(· (first|omega|(simp only [List.length_cons,List.length_nil];omega)));intro pa2 cap1 b2 cs1)
 (apply G0 [7,12,19] (fun vs=>Value.agg ((Uc ([(0,1),(1,1),(2,1)]) ([Value.int IntKind.i64 0,Value.int IntKind.i64 0,Value.slice none 0 0]) [(0,Cc (vs.getD 0 undef)),(1,Cc (vs.getD 1 undef)),(2,Cc (vs.getD 2 undef))]).getD []).toArray) (v:=Value.agg #[Value.int IntKind.i64 ↑p,Value.int IntKind.i64 ↑m,Value.slice pa2 (0+md.length) cap1]);(· rfl);(· rfl);(· rfl);(· rfl);(· exact Bz fun _=>Dc (cs:=[Value.int IntKind.i64 ↑p,Value.int IntKind.i64 ↑m,Value.slice pa2 (0+md.length) cap1]) AIs AE3 rfl rfl Al))
 refine Mu rfl ?_
 (rotate_left;rfl;rotate_right)
 simp only [List.append_nil,List.append_assoc,List.map_cons,List.map_nil,List.cons_append,List.nil_append,List.drop_zero]
 (refine Uw 0 0 (by first|rfl|exact (List.append_nil _).symm) rfl (by show (0+md.length)*8≤140737488355328;omega) ?_;simp only [List.take_succ_cons,List.take_zero,List.cons_append,List.nil_append,List.append_nil])
 refine wk 2 cz ?_ --ok
 refine Bb [0] rfl (.agg 0 rfl rfl Ga rfl .nil) rfl ⟨_,_,_,rfl,rfl,rfl⟩
theorem Vf {md:List Int}{x:Int}(K:Fok p m md) (x0:0≤x) (x1:x<((p ^ m:Nat):Int)) :
  Bn Tryz.prog 167 [.pointer (some ⟨b,0,none⟩),.int .i64 x] [] [Jl b p m (p ^ m) pg ng cg pe ne ce pl nl cl] (SvI m (Bc (Dn p m x.toNat))):=by
 refine Ab (F:=Ve) rfl fun C=>?_
 have hq:=K.q
 obtain ⟨a,rfl⟩:=Int.eq_ofNat_of_zero_le x0
 rw [Int.toNat_natCast]
 have hx2:a<p ^ m:=Int.ofNat_lt.1 x1
 have hp2:=K.p2
 have hp256:=K.p256
 have hm8:=K.m8
 have Yi:=J4 (p:=p) (n:=m) (x:=a) (by omega) (by omega) (by omega) (by omega)
 have Jh:=fun {b ng cg ne ce nl cl:Nat}{pg pe pl:Option Addr}{x:Int}=>B7 (p:=p) (m:=m) (b:=b) (ng:=ng) (cg:=cg) (ne:=ne) (ce:=ce) (nl:=nl) (cl:=cl) (pg:=pg) (pe:=pe) (pl:=pl) (x:=x) hq
 refine wk 6 (ct @Jh (ct @Yi cz)) ?_
 intro pa1 ca1 --ok
 refine Pw [0] rfl rfl rfl ⟨_,_,rfl,rfl,rfl⟩
theorem AKk {q:Nat}{A M:Nat→Nat→Nat}(R:Rng q A M) {g:Nat}(hg:g<q) (h:Ml q M g) (hq:2≤q) (i:Nat):∀ n,B4 M (B4 M g i) n=B4 M g ((i*n) % (q-1))
 | 0=>by rw [Nat.mul_zero,Nat.zero_mod];rfl
 | n+1=>by
  show M (B4 M (B4 M g i) n) (B4 M g i)=_
  rw [AKk R hg h hq i n,← R.exp_mul hg h,Nat.mod_add_mod,Nat.mul_succ]
theorem AM4 {q:Nat}{A M:Nat→Nat→Nat}(R:Rng q A M) {n:Nat}(hn:1≤n) (hq:0<q):B4 M 0 n=0:=by
 obtain ⟨k,rfl⟩:∃ k,n=k+1:=⟨n-1,by omega⟩
 exact R.m0 (R.pw_lt hq k)
theorem Y0 {a k:Nat}{md:List Int}(K:Fok p m md) (x1:a<p ^ m) (k1:1≤k) (k2:k≤256) :
  Bn Tryz.prog 201 [.pointer (some ⟨b,0,none⟩),.int .i64 (a:Int),.int .i64 (k:Int)] [] [Jl b p m (p ^ m) pg ng cg pe (p ^ m-1) ce pl (p ^ m) cl,Ap Aj pe (p ^ m-1) ce (J1 p m md),Ap Aj pl (p ^ m) cl (J7 p m md)] (Rv (.tuple #[.int .i64 ((B4 (fM p (Az m md)) a k:Nat):Int),.int .i64 0]) []):=by
 refine Ab (F:=Ze) rfl fun C=>?_
 have R:=K.rng'
 have hq:=K.q
 have q2:=K.fi.q2
 obtain ⟨g2,g3,hgen,-⟩:=Vi ((Nt K.shp K.pr).2 K)
 have Jh:=fun {b ng cg ne ce nl cl:Nat}{pg pe pl:Option Addr}{x:Int}=>B7 (p:=p) (m:=m) (b:=b) (ng:=ng) (cg:=cg) (ne:=ne) (ce:=ce) (nl:=nl) (cl:=cl) (pg:=pg) (pe:=pe) (pl:=pl) (x:=x) hq
 unfold J1 J7
 generalize gnX (p ^ m) (fM p (Az m md))=g at *
 generalize fM p (Az m md)=M at *
 generalize p ^ m=q at *
 rcases Nat.eq_zero_or_pos a with h0|h0
 ·subst h0
  rw [AM4 R k1 (by omega)]
  refine wk 21 (ct @Jh cz) ?_
  intro h1 h2 h3
  exact ge
 ·obtain ⟨i,hi,rfl⟩:=R.gen_all g3 hgen x1 (by omega)
  rw [AKk R g3 hgen q2]
  have ei:(Ss q M g)[B4 M g i]?=some (i:Int):=I3 (by rw [List.getElem?_map,List.getElem?_range x1];show some (lgN q M g _)=_;rw [ACa hgen hi])
  have ei':(Ss q M g).getD (B4 M g i) default=(i:Int):=by rw [List.getD_eq_getElem?_getD,ei];rfl
  have hk:(i*k) % (q-1)<q-1:=Nat.mod_lt _ (by omega)
  have ek:(V2 q M g)[(i*k) % (q-1)]?=some ((B4 M g ((i*k) % (q-1)):Nat):Int):=I3 (by rw [List.getElem?_map,List.getElem?_range hk];rfl)
  have hi0:(0:Int)≤(i:Int)∧(i:Int)<(q:Int)-1:=by omega
  have hr0:0≤(k:Int) % ((q:Int)-1):=Int.emod_nonneg _ (by omega)
  have hr1:(k:Int) % ((q:Int)-1)<(q:Int)-1:=Int.emod_lt_of_pos _ (by omega)
  have hs0:0≤((k:Int) % ((q:Int)-1)+((q:Int)-1)) % ((q:Int)-1):=Int.emod_nonneg _ (by omega)
  have hs1:((k:Int) % ((q:Int)-1)+((q:Int)-1)) % ((q:Int)-1)<(q:Int)-1:=Int.emod_lt_of_pos _ (by omega)
  have hse:((k:Int) % ((q:Int)-1)+((q:Int)-1)) % ((q:Int)-1)=(k:Int) % ((q:Int)-1):=by rw [Int.add_emod_right,Int.emod_emod]
  have hp0:0≤(Ss q M g).getD (B4 M g i) default*(((k:Int) % ((q:Int)-1)+((q:Int)-1)) % ((q:Int)-1)):=by rw [ei'];exact Int.mul_nonneg hi0.1 hs0
  have hp1:(Ss q M g).getD (B4 M g i) default*(((k:Int) % ((q:Int)-1)+((q:Int)-1)) % ((q:Int)-1))≤256*256:=by rw [ei'];exact Int.mul_le_mul (by omega) (by omega) hs0 (by omega)
  have hz0:0≤(Ss q M g).getD (B4 M g i) default*(((k:Int) % ((q:Int)-1)+((q:Int)-1)) % ((q:Int)-1)) % ((q:Int)-1):=Int.emod_nonneg _ (by omega)
  have hz1:(Ss q M g).getD (B4 M g i) default*(((k:Int) % ((q:Int)-1)+((q:Int)-1)) % ((q:Int)-1)) % ((q:Int)-1)<(q:Int)-1:=Int.emod_lt_of_pos _ (by omega)
  have hze:(Ss q M g).getD (B4 M g i) default*(((k:Int) % ((q:Int)-1)+((q:Int)-1)) % ((q:Int)-1)) % ((q:Int)-1)=((i*k % (q-1):Nat):Int):=by
   rw [hse,ei',Int.natCast_emod,Int.natCast_sub (by omega),Int.natCast_mul,Int.mul_emod,Int.emod_emod,← Int.mul_emod];rfl
  have hN:(((Ss q M g).getD (B4 M g i) default:Int).toNat*((k % (q-1)+(q-1)) % (q-1))) % (q-1)=i*k % (q-1):=by
   rw [ei',Int.toNat_natCast,Nat.add_mod_right,Nat.mod_mod,Nat.mul_mod_mod]
  have hN1:(((Ss q M g).getD (B4 M g i) default:Int).toNat*((k % (q-1)+(q-1)) % (q-1))) % (q-1)<q-1:=by rw [hN];exact hk
  have hNe:(Ss q M g).getD (B4 M g i) default*(((k:Int) % ((q:Int)-1)+((q:Int)-1)) % ((q:Int)-1)) % ((q:Int)-1)=(((((Ss q M g).getD (B4 M g i) default:Int).toNat*((k % (q-1)+(q-1)) % (q-1))) % (q-1):Nat):Int):=by rw [hN,hze]
  have ef:(V2 q M g).getD ((((Ss q M g).getD (B4 M g i) default:Int).toNat*((k % (q-1)+(q-1)) % (q-1))) % (q-1)) default=((B4 M g ((i*k) % (q-1)):Nat):Int):=by rw [hN,List.getD_eq_getElem?_getD,ek];rfl
  refine wk 33 (ct @Jh cz) ?_
  intro h1 h2 h3 b1 o1 b2 o2
  simp only [hze,Int.toNat_natCast]
  rw [hN] at ef
  rw [ef]
  exact ge
end
open Go Go.Fw
set_option maxRecDepth 100000
set_option linter.unusedVariables false
set_option linter.unusedSimpArgs false
set_option maxHeartbeats 0
noncomputable abbrev etW (p m:Nat) (r:List Int):List Int:=r++[B8 p m (Re (Ad (fA p m)) r)]
noncomputable abbrev etL (p m:Nat) (rows:List (List Int)):List (List Int):=rows.map (etW p m)
noncomputable def etE (P M:Int) (md:List Int) (N:Int) (rows:List (List Int)):Int:=if Nw P M md N rows≠0 then Nw P M md N rows else if N=64 then 4 else 0
noncomputable def etX (P M:Int) (md:List Int) (N:Int) (rows:List (List Int)):CR:=if etE P M md N rows=0 then ⟨P,M,N+1,md,(C4 P.toNat M.toNat md (N.toNat+1) (etL P.toNat M.toNat rows)).1,0⟩ else zeR (etE P M md N rows)
theorem AIy {p m n:Nat}{md:List Int}{rows:List (List Int)}(CC:Cok p m md n rows):Da (p ^ m) (n+1) (etL p m rows):=fun r hr=>by
 obtain ⟨s,hs,rfl⟩:=List.mem_map.1 hr
 have hw:=CC.mat s hs
 obtain ⟨s0,s1⟩:=Qf CC.K.fi s 0 (Int.le_refl 0) CC.K.fi.z hw.2
 have O:=Dy CC.K
 obtain ⟨⟨n0,n1⟩,_⟩:=O.ng _ s0 s1
 refine ⟨by rw [List.length_append,hw.1];rfl,fun x hx=>?_⟩
 rcases List.mem_append.1 hx with h|h
 ·exact hw.2 x h
 ·rw [List.mem_singleton.1 h];exact ⟨n0,n1⟩
theorem AEH {p m n:Nat}{md:List Int}{rows:List (List Int)}(CC:Cok p m md n rows) (hn:n≠64):etX p m md n rows=⟨p,m,(n+1:Nat),md,(C4 p m md (n+1) (etL p m rows)).1,0⟩:=by
 rw [etX,if_pos (by rw [etE,if_neg (fun e=>e CC.ck),if_neg (by omega)])];simp only [Int.toNat_natCast];rfl
section
variable {P M:Int}{n c nm cm:Nat}{pm ps:Option Addr}{md:List Int}{rows:List (List Int)}
theorem Q5 {N:Int}(hN:Bx .i64 N):Bn Tryz.prog 26 [.agg #[.int .i64 P,.int .i64 M,.slice pm nm cm,.int .i64 N,.slice ps n c]] [] [Ap Aj pm nm cm md,Ap (Ah Aj) ps n c rows] (CdX (etX P M md N rows)):=by
 refine Ab (F:=Y8) rfl fun C=>?_
 refine A8 1 rfl fun hn hb1 _=>?_
 subst hn
 have hr:=Ll P M md N rows
 have Au:=fun {pm ps:Option Addr}{nm cm n c:Nat}=>D4 (P:=P) (M:=M) (pm:=pm) (ps:=ps) (nm:=nm) (cm:=cm) (n:=n) (c:=c) (md:=md) (rows:=rows) (N:=N) hN rfl
 by_cases h0:Nw P M md N rows=0
 ·obtain ⟨p,m,n',rfl,rfl,rfl,CC⟩:=Vl h0
  rw [h0] at Au
  by_cases h64:n'=64
  ·rw [etX,if_neg (by rw [etE,if_neg (fun e=>e h0),if_pos (by omega)];omega),etE,if_neg (fun e=>e h0),if_pos (by omega)]
   refine Dl (Ap Aj none 0 0 []) (fun w A _=>Cm _ w A none 0) ?_
   refine Dl (Ap (Ah Aj) none 0 0 []) (fun w A _=>Cm _ w A none 0) ?_
   refine wk 23 (ct @Au cz) ?_
   intro b1 b2 h1 h2
   refine Bb [1,0] rfl (.agg 0 rfl rfl Dj rfl (.tmp rfl .nil)) rfl ⟨_,_,_,_,_,_,rfl,rfl,rfl⟩
  ·rw [AEH CC h64]
   have K:=CC.K
   have hq:=K.q
   have hSM:=AIy CC
   have hl:=CC.len
   have hn64:=CC.n64
   have hLl:(etL p m rows).length=rows.length:=List.length_map _
   have Ea:=fun {pm:Option Addr}{nm cm:Nat}=>Gb (pm:=pm) (nm:=nm) (cm:=cm) K
   have Dp:=fun {pm ps:Option Addr}{nm cm n c:Nat}=>I5 (pm:=pm) (ps:=ps) (nm:=nm) (cm:=cm) (n:=n) (c:=c) (N:=n'+1) (rows:=etL p m rows) K (by omega) (by omega) (by omega) hSM
   generalize hG:C4 p m md (n'+1) (etL p m rows)=G at *
   clear hG
   refine Aq [_,_] rfl ?_
   refine Aa rfl (Ct rfl fun b1=>?_)
   refine Aa rfl (B1 T0 fun b2=>?_)
   refine Ai it 1 rfl (by simp) ?_
   refine Aq [_,_,_] rfl ?_
   refine Aa rfl (Bi 1 rfl rfl Dj rfl ?_)
   refine Aa rfl (Aw [0,1] rfl (Au) rfl ?_)
   rintro _ _ _ ⟨rfl,rfl,rfl⟩
   simp only [List.cons_append,List.nil_append]
   refine Ai it 1 rfl (by simp) ?_
   refine Aq [_,_,_] rfl ?_
   refine Ai it 2 rfl (by simp) ?_
   refine Aq [_,_] rfl ?_
   refine No rfl rfl (fun h1=>by exfalso;omega) (fun h1=>?_)
   refine Aq [_,_,_] rfl ?_
   refine Aa rfl (An rfl If ?_)
   refine Aa rfl (Bu 1 rfl rfl Ci rfl ?_)
   refine Ai it 1 rfl (by simp) ?_
   refine Aq [_,_] rfl ?_
   refine Md rfl rfl (fun h2=>by exfalso;omega) (fun h2=>?_)
   refine Aq [_,_] rfl ?_
   refine Aa rfl (An rfl K9 ?_)
   refine Aa rfl (Tq 1 rfl rfl Ga rfl rfl ?_)
   refine Aa rfl (Aw [0] rfl (Ea) rfl ?_)
   rintro _ _ _ ⟨b3,pg1,cg1,pe1,ce1,pl1,cl1,rfl,rfl,rfl⟩
   simp only [List.cons_append,List.nil_append]
   simp only [decide_true]
   refine Ai it 5 rfl (by simp) ?_
   refine Aq [_,_,_] rfl ?_
   refine Ai it 2 rfl (by simp) ?_
   refine Aq [_,_] rfl ?_
   refine No rfl rfl (fun h3=>by exfalso;omega) (fun h3=>?_)
   refine Aq [_,_] rfl ?_
   refine Aa rfl (An rfl If ?_)
   refine Aa rfl (Bu 1 rfl rfl Ci rfl ?_)
   refine Ai it 1 rfl ⟨⟨by omega,by omega⟩,trivial⟩ ?_
   refine Aa rfl (Dc (cs:=[Value.int IntKind.i64 (↑n'+1),Value.slice none 0 0]) W1 Hq rfl rfl ?_)
   refine Aa rfl (B1 Hq fun b4=>?_)
   refine Aa rfl (Bf 0 rfl rfl rfl Gg rfl rfl (by simp [Value.oneCell']) ?_)
   refine Aq [_,_,_] rfl ?_
   refine Aa rfl (An rfl M0 ?_)
   refine Aa rfl (Bu 2 rfl rfl Hp rfl ?_)
   refine Aa rfl (Hv Df rfl ?_)
   refine Ai it 1 rfl (by simp) ?_
   refine Aq [_,_,_] rfl ?_
   refine Fh (Ah Aj) 22 ?_
   simp only [Cc,Dr,setB,List.take_succ_cons,List.cons_append,List.nil_append,List.take_zero,List.drop_succ_cons,List.drop_zero,List.length_singleton,Nat.zero_add]
   have hcl:=K.md8
   refine Af (X:=Nat×Row) [1,2,3,5,7,35,36] [0,1,2,3,4,5,6] (fun z=>[(37,.int .i64 (z.1:Int))]) (fun z=>(z.2.bo,22,z.2.cs)::(some b4,62,[.int .i64 ((n':Int)+1),.slice (ad z.2.bo) z.1 z.2.cap])::_) (fun z=>[A5 (Ah Aj) z.2 z.1 (etL p m (rows.take z.1))]) (fun z=>z.1≤rows.length) (fun z=>rows.length-z.1) (0,⟨none,0,[]⟩) [0] rfl rfl rfl (Nat.zero_le _) (by repeat (first|exact Fr.sub_nil _|refine Fr.sub_cons rfl ?_)) rfl rfl ?_
   rintro ⟨i,r⟩ hi ih
   simp only [List.cons_append,List.nil_append] at hi ih ⊢
   by_cases hil:i<rows.length
   ·obtain ⟨u,at_u⟩:∃ u,rows[i]?=some u:=⟨_,List.getElem?_eq_getElem hil⟩
    have hu:=CC.mat u (List.mem_of_getElem? at_u)
    have hul:=hu.1
    obtain ⟨s0,s1⟩:=Qf K.fi u 0 (Int.le_refl 0) K.fi.z hu.2
    rw [← Re] at s0 s1
    obtain ⟨⟨g0,g1⟩,_⟩:=(Dy K).ng _ s0 s1
    have Fi:=fun {ps:Option Addr}{n cs:Nat}=>Ec (ps:=ps) (n:=n) (cs:=cs) (l:=u)
    have K2:=fun {b ng cg ne ce nl cl nu cu:Nat}{pg pe pl pu:Option Addr}=>Q4 (b:=b) (ng:=ng) (cg:=cg) (ne:=ne) (ce:=ce) (nl:=nl) (cl:=cl) (pg:=pg) (pe:=pe) (pl:=pl) (pu:=pu) (nu:=nu) (cu:=cu) K hu.2
    have ih1:=fun r=>ih (i+1,r) (by dsimp only;omega) (by dsimp only;omega)
    dsimp only at ih1
    rw [etL,List.take_add_one (l:=rows),at_u,Option.toList_some,List.map_append,List.map_cons,List.map_nil,etW] at ih1
    clear ih
    have D9:=fun {b ng cg ne ce nl cl:Nat}{pg pe pl:Option Addr}=>G4 (b:=b) (ng:=ng) (cg:=cg) (ne:=ne) (ce:=ce) (nl:=nl) (cl:=cl) (pg:=pg) (pe:=pe) (pl:=pl) K.p2 K.m1 hq s0 s1
    have g2:0≤B8 p m (Re (Ad (fA p m)) u)∧B8 p m (Re (Ad (fA p m)) u)<((p ^ m:Nat):Int):=⟨g0,g1⟩
    clear g0 g1
    generalize Re (Ad (fA p m)) u=s at *
    generalize hy:B8 p m s=y at *
    have hy2:((nP p m s.toNat:Nat):Int)=y:=hy
    simp only [hy2] at D9
    refine wk 9 cz ?_
    intro h4 b5 o1 hz1 pa1 ca1
    (apply Kw it mx 0 12;(· rfl);(· rfl);(· rfl))
    (apply Ac;(· rfl);(· exact Bz fun _=>An rfl Ic Al))
    (apply Ac;(· rfl);(· exact Bv 1 rfl rfl Hp rfl))
    (apply A1 1;(· rfl);(· simp))
    (apply Ya [0];(· rfl);(· rfl);(· exact Fi);(· rfl);(· first|omega|(show _*8≤_;omega));intro pa2 cap1 b6 cs1)
    (apply A1 3;(· rfl);(· simp))
    (apply Ac;(· rfl);(· exact Bz fun _=>Aw [5,1] rfl (K2) rfl (by rintro _ _ _ ⟨rfl,rfl,rfl⟩;exact Al)))
    (apply Ac;(· rfl);(· exact Bz fun _=>Aw [5] rfl (D9) rfl (by rintro _ _ _ ⟨rfl,rfl,rfl⟩;exact Al)))
    (apply Fa;(· rfl);(· exact Bz fun _=>H4 Ce Ee rfl rfl rfl rfl (by decide) (by decide) rfl fun b7=>Ux (E:=Aj) [[Value.int IntKind.i64 y]] [y] (fun w A hG=>(Ay ⟨rfl,by first|assumption|(simp only [Bx];omega)⟩ Ba)) rfl rfl rfl (by first|decide|exact Nat.le_of_ble_eq_true rfl));intro pa3 ca2)
    (apply ADg 1 0;(· rfl);(· rfl);(· rfl);(· rfl);(· rfl);(· exact Ce);(· exact Ee);(· rfl);(· (first|omega|(simp only [List.length_cons,List.length_nil];omega)));(· exact G2);(· (first|omega|(simp only [List.length_cons,List.length_nil];omega)));intro pa4 cap2 b7 cs2)
    (apply ADC 0;(· rfl);(· rfl);(· exact Df);(· exact Gq);(· rfl);(· rfl);(· rfl);(· decide);(· decide);intro pa5 cap3 b8 cs3 b9)
    refine Mu rfl ?_
    (rotate_left;rfl;rotate_right)
    (rotate_left;rfl;rotate_right)
    (rotate_left;rfl;rotate_right)
    simp only [List.append_nil,List.append_assoc,List.map_cons,List.map_nil,List.cons_append,List.nil_append,List.drop_zero]
    (refine Uw 1 0 (by first|rfl|exact (List.append_nil _).symm) rfl (by show (u.length+1)*8≤140737488355328;omega) ?_;simp only [List.take_succ_cons,List.take_zero,List.cons_append,List.nil_append,List.append_nil])
    refine Aa rfl (Fj (z:=u++[y]) 1 0 7 rfl rfl rfl rfl rfl Df Gq rfl (fun w A hG=>(Ax (hG _ (Ae (n:=0) rfl)))) (by omega) _ Jw (by omega) fun r1=>?_)
    refine wk 5 cz ?_
    refine Jx [true,false,true,true,true] [0,9,10,11,12,13,14,15] (by exact Ul rfl) rfl rfl (ih1 r1)
   ·obtain rfl:i=rows.length:=by omega
    clear ih
    rw [List.take_length]
    refine Dx 0 0 rfl rfl (by show rows.length*24≤140737488355328;omega) ?_
    simp only [List.eraseIdx_cons_zero,List.eraseIdx_cons_succ]
    refine wk 13 (ct @Dp cz) ?_
    intro h4 pb1 pc1 nb1 cb1 nc1 cc1
    refine Bb [0,1] rfl (.agg 1 rfl rfl Dj rfl (.tmp rfl .nil)) rfl ⟨_,_,_,_,_,_,rfl,rfl,rfl⟩
 ·rw [etX,if_neg (by rw [etE,if_pos h0];exact h0),etE,if_pos h0]
  generalize Nw P M md N rows=e at *
  refine Dl (Ap Aj none 0 0 []) (fun w A _=>Cm _ w A none 0) ?_
  refine Dl (Ap (Ah Aj) none 0 0 []) (fun w A _=>Cm _ w A none 0) ?_
  refine wk 18 (ct @Au cz) ?_
  intro b1 b2 h1
  refine Bb [1,0] rfl (.agg 0 rfl rfl Dj rfl (.tmp rfl .nil)) rfl ⟨_,_,_,_,_,_,rfl,rfl,rfl⟩
end
open Go Go.Fw
set_option maxRecDepth 100000
set_option linter.unusedVariables false
set_option linter.unusedSimpArgs false
set_option maxHeartbeats 0
theorem Qa {P M P2 M2:Int}{pm p2:Option Addr}{nm cm n2 c2:Nat}{md md2:List Int}{res:Bool}(hr:decide (P=P2∧M=M2∧md=md2)=res):Bn Tryz.prog 60 [.agg #[.int .i64 P,.int .i64 M,.slice pm nm cm],.agg #[.int .i64 P2,.int .i64 M2,.slice p2 n2 c2]] [] [Ap Aj pm nm cm md,Ap Aj p2 n2 c2 md2] (Rv (.bool res) []):=by
 refine Ab (F:=Qt) rfl fun C=>?_
 refine A8 0 rfl fun hn hb _=>?_
 subst hn
 refine A8 1 rfl fun hn hb2 _=>?_
 subst hn
 have hb':md.length*8≤140737488355328:=hb
 have hb2':md2.length*8≤140737488355328:=hb2
 by_cases h1:P=P2∧M=M2∧md.length=md2.length
 ·obtain ⟨rfl,rfl,hl⟩:=h1
  simp only [true_and] at hr
  refine wk 32 cz ?_
  intro b1 b2 h1 h2 h3
  refine Af (X:=Nat) [2,3] [0,1] (fun i=>[(5,.int .i64 (i:Int))]) (fun _=>_) (fun _=>[]) (fun i=>i≤md.length∧∀ j,j<i→md[j]?=md2[j]?) (fun i=>md.length-i) 0 [] rfl rfl rfl ⟨Nat.zero_le _,fun j hj=>by omega⟩ (by repeat (first|exact Fr.sub_nil _|refine Fr.sub_cons rfl ?_)) rfl rfl ?_
  rintro i ⟨hi,hj⟩ ih
  simp only [List.cons_append,List.nil_append] at ih ⊢
  by_cases h9:i<md.length
  ·obtain ⟨x,at_x⟩:∃ x,md[i]?=some x:=⟨_,List.getElem?_eq_getElem h9⟩
   obtain ⟨y,at_y⟩:∃ y,md2[i]?=some y:=⟨_,List.getElem?_eq_getElem (by omega)⟩
   have ex:md.getD i default=x:=by rw [List.getD_eq_getElem?_getD,at_x];rfl
   have ey:md2.getD i default=y:=by rw [List.getD_eq_getElem?_getD,at_y];rfl
   by_cases hxy:md.getD i default=md2.getD i default
   ·have hxy2:x=y:=by rw [← ex,← ey];exact hxy
    have ih':=ih (i+1) (by omega) ⟨by omega,fun j h=>by
     by_cases e:j=i
     ·rw [e,at_x,at_y,hxy2]
     ·exact hj j (by omega)⟩
    clear ih
    refine wk 15 cz ?_
    intro h4 b3 o1 b4 o2 h5
    exact tw (ih')
   ·have e:res=false:=by
     rw [← hr]
     refine decide_eq_false fun e=>hxy ?_
     rw [e]
    subst e
    clear ih
    refine wk 15 cz ?_
    intro h4 b3 o1 b4 o2 h5
    exact ge
  ·have e:res=true:=by
    rw [← hr]
    refine decide_eq_true (List.ext_getElem? fun j=>?_)
    by_cases h:j<md.length
    ·exact hj j (by omega)
    ·rw [List.getElem?_eq_none (by omega),List.getElem?_eq_none (by omega)]
   subst e
   clear ih
   refine wk 11 cz ?_
   intro h4
   exact ge
 ·have e:res=false:=by
   rw [← hr]
   exact decide_eq_false fun ⟨a,b,d⟩=>h1 ⟨a,b,by rw [d]⟩
  subst e
  by_cases hP:P=P2
  ·by_cases hM:M=M2
   ·have hl:md.length≠md2.length:=fun e=>h1 ⟨hP,hM,e⟩
    refine wk 32 cz ?_
    intro b1 b2 h2 h3 h4
    exact ge
   ·refine wk 26 cz ?_
    intro b1 b2 h2 h3
    exact ge
  ·refine wk 18 cz ?_
   intro b1 b2 h2
   exact ge
section
variable {P M N P2 M2 N2:Int}{n c nm cm n2 c2 nm2 cm2:Nat}{pm ps pm2 p2:Option Addr}{md md2:List Int}{rows rows2:List (List Int)}
theorem Qi {res:Bool}(hr:decide ((P=P2∧M=M2∧md=md2)∧N=N2∧rows=rows2)=res):Bn Tryz.prog 17 [.agg #[.int .i64 P,.int .i64 M,.slice pm nm cm,.int .i64 N,.slice ps n c],.agg #[.int .i64 P2,.int .i64 M2,.slice pm2 nm2 cm2,.int .i64 N2,.slice p2 n2 c2]] [] [Ap Aj pm nm cm md,Ap (Ah Aj) ps n c rows,Ap Aj pm2 nm2 cm2 md2,Ap (Ah Aj) p2 n2 c2 rows2] (Rv (.bool res) []):=by
 refine Ab (F:=Qh) rfl fun C=>?_
 have B9:=fun {pm p2:Option Addr}{nm cm n2 c2:Nat}{res:Bool}(h:decide (P=P2∧M=M2∧md=md2)=res)=>Qa (pm:=pm) (p2:=p2) (nm:=nm) (cm:=cm) (n2:=n2) (c2:=c2) h
 have As:=fun {pl pk:Option Addr}{nl cl nk ck:Nat}{res:Bool}(h:decide (rows=rows2)=res)=>D5 (pl:=pl) (pk:=pk) (nl:=nl) (cl:=cl) (nk:=nk) (ck:=ck) h
 by_cases h1:P=P2∧M=M2∧md=md2
 ·have B9:=fun {pm p2:Option Addr}{nm cm n2 c2:Nat}=>B9 (pm:=pm) (p2:=p2) (nm:=nm) (cm:=cm) (n2:=n2) (c2:=c2) (decide_eq_true h1)
  by_cases h2:N=N2
  ·by_cases h3:rows=rows2
   ·have As:=fun {pl pk:Option Addr}{nl cl nk ck:Nat}=>As (pl:=pl) (pk:=pk) (nl:=nl) (cl:=cl) (nk:=nk) (ck:=ck) (decide_eq_true h3)
    rw [decide_eq_true ⟨h1,h2,h3⟩] at hr
    subst hr
    refine wk 26 (ct @B9 (ct @As cz)) ?_
    intro b1 b2 h4
    exact ge
   ·have As:=fun {pl pk:Option Addr}{nl cl nk ck:Nat}=>As (pl:=pl) (pk:=pk) (nl:=nl) (cl:=cl) (nk:=nk) (ck:=ck) (decide_eq_false h3)
    rw [decide_eq_false fun h=>h3 h.2.2] at hr
    subst hr
    refine wk 26 (ct @B9 (ct @As cz)) ?_
    intro b1 b2 h4
    exact ge
  ·rw [decide_eq_false fun h=>h2 h.2.1] at hr
   subst hr
   refine wk 21 (ct @B9 cz) ?_
   intro b1 b2 h3
   exact ge
 ·have B9:=fun {pm p2:Option Addr}{nm cm n2 c2:Nat}=>B9 (pm:=pm) (p2:=p2) (nm:=nm) (cm:=cm) (n2:=n2) (c2:=c2) (decide_eq_false h1)
  rw [decide_eq_false fun h=>h1 h.1] at hr
  subst hr
  refine wk 12 (ct @B9 cz) ?_
  intro b1 b2
  exact ge
def fwB (n:Int):List (List Int)→Int→Bool
 | [],_=>true
 | r::rs,left=>if left<(r.length:Int) then false else fwB n rs (left-r.length)
abbrev AGn (rows:List (List Int)) (n:Int):Bool:=if n<(rows.length:Int) then false else fwB n rows (n-rows.length)
theorem Rp {k:Int}(hk:k≤1000) (hk0:0≤k) {res:Bool}(hr:AGn rows k=res):Bn Tryz.prog 71 [.agg #[.int .i64 0,.slice ps n c],.int .i64 k] [] [Ap (Ah Aj) ps n c rows] (Rv (.bool res) []):=by
 refine Ab (F:=Rt) rfl fun C=>?_
 refine A8 0 rfl fun hn hb _=>?_
 subst hn
 by_cases h1:k<(rows.length:Int)
 ·rw [AGn,if_pos h1] at hr
  subst hr
  refine wk 17 cz ?_
  intro b1 h2 h3
  exact ge
 ·rw [AGn,if_neg h1] at hr
  refine wk 23 cz ?_
  intro b1 h2 h3
  refine Af (X:=Nat×Int) [2] [0] (fun z=>[(6,.int .i64 (z.1:Int)),(5,.int .i64 z.2)]) (fun _=>_) (fun _=>[]) (fun z=>z.1≤rows.length∧0≤z.2∧z.2≤1000∧fwB k (rows.drop z.1) z.2=res) (fun z=>rows.length-z.1) (0,k-rows.length) [] rfl rfl rfl ⟨Nat.zero_le _,by dsimp only;omega,by dsimp only;omega,hr⟩ (by repeat (first|exact Fr.sub_nil _|refine Fr.sub_cons rfl ?_)) rfl rfl ?_
  rintro ⟨i,left⟩ ⟨hi,hl0,hl1,hf⟩ ih
  simp only [List.cons_append,List.nil_append] at hi hl0 hl1 hf ih ⊢
  by_cases h9:i<rows.length
  ·obtain ⟨u,at_u⟩:∃ u,rows[i]?=some u:=⟨_,List.getElem?_eq_getElem h9⟩
   rw [List.drop_eq_getElem_cons h9,(List.getElem?_eq_some_iff.1 at_u).2,fwB] at hf
   by_cases h2:left<(u.length:Int)
   ·rw [if_pos h2] at hf
    subst hf
    clear ih
    refine wk 21 cz ?_
    intro h4 b2 o1 hz1 pa1 ca1 h5
    exact ge
   ·rw [if_neg h2] at hf
    have ih':=ih (i+1,left-u.length) (by dsimp only;omega) ⟨by dsimp only;omega,by dsimp only;omega,by dsimp only;omega,hf⟩
    dsimp only at ih'
    clear ih
    refine wk 30 cz ?_
    intro h4 b2 o1 hz1 pa1 ca1 h5 b3 o2 hz2 pa2 ca2
    exact tw (ih')
  ·rw [List.drop_of_length_le (by omega),fwB] at hf
   subst hf
   clear ih
   refine wk 11 cz ?_
   intro h4
   exact ge
theorem Rq {k:Int}(hk:k≤1000) (hk0:0≤k) {res:Bool}(hr:AGn rows k=res):Bn Tryz.prog 24 [.agg #[.int .i64 P,.int .i64 M,.slice pm nm cm,.int .i64 N,.slice ps n c],.int .i64 k] [] [Ap (Ah Aj) ps n c rows] (Rv (.bool res) []):=by
 refine Ab (F:=Rl) rfl fun C=>?_
 have Ri:=fun {ps:Option Addr}{n c:Nat}=>Rp (rows:=rows) (ps:=ps) (n:=n) (c:=c) hk hk0 hr
 refine wk 11 (ct @Ri cz) ?_
 intro b1
 exact ge
end
open Go Go.Fw
set_option maxRecDepth 100000
set_option linter.unusedVariables false
set_option linter.unusedSimpArgs false
set_option maxHeartbeats 0
section
variable {pw pl pa pz:Option Addr}{nw cw nl cl na ca nz cz':Nat}{w lost away z:List Int}
end
open Go Go.Fw
set_option maxRecDepth 100000
set_option linter.unusedVariables false
set_option linter.unusedSimpArgs false
set_option maxHeartbeats 0
section
variable {p m N nm cm n c nw cw:Nat}{pm ps pw:Option Addr}{md w:List Int}{rows:List (List Int)}
theorem Ps (K:Fok p m md):Bn Tryz.prog 106 [.agg #[.int .i64 p,.int .i64 m,.slice pm nm cm]] [] [Ap Aj pm nm cm md] (fun v Φ β=>∃ (pb:Option Addr) (nb cb:Nat),v = .agg #[.int .i64 p,.int .i64 m,.slice pb nb cb]∧Φ=[Ap Aj pb nb cb md]∧β=[]):=by
 refine Ab (F:=O7) rfl fun C=>?_
 refine A8 0 rfl fun hn hb _=>?_
 subst hn
 have hb':md.length*8≤140737488355328:=hb
 refine wk 4 cz ?_
 intro b1 b2
 (apply Kw it mx 0 9;(· rfl);(· rfl);(· rfl))
 simp only [List.drop_zero,List.take_zero]
 (apply Ac;(· rfl);(· exact Bz fun _=>An rfl Oi Al))
 (apply Ac;(· rfl);(· exact Bv 1 rfl rfl Ci rfl))
 (apply Ac;(· rfl);(· exact Bz fun _=>An rfl Ol Al))
 (apply Ac;(· rfl);(· exact Bv 1 rfl rfl Ci rfl))
 (apply V8 (Dq IntKind.i64 8);(· rfl);(· exact Ce);intro pa1)
 (apply Ac;(· rfl);(· exact Bz fun _=>An rfl AC7 Al))
 (apply Ac;(· rfl);(· exact Bv 1 rfl rfl E6 rfl))
 (apply Yc 0 1;(· rfl);(· rfl);(· rfl);(· rfl);(· rfl);(· exact Ce);(· exact Ee);(· rfl);(· (first|omega|(simp only [List.length_cons,List.length_nil];omega)));(· exact G2);(· (first|omega|(simp only [List.length_cons,List.length_nil];omega)));intro pa2 cap1 b3 cs1)
 (apply G0 [4,6,10] (fun vs=>Value.agg ((Uc ([(0,1),(1,1),(2,1)]) ([Value.int IntKind.i64 0,Value.int IntKind.i64 0,Value.slice none 0 0]) [(0,Cc (vs.getD 0 undef)),(1,Cc (vs.getD 1 undef)),(2,Cc (vs.getD 2 undef))]).getD []).toArray) (v:=Value.agg #[Value.int IntKind.i64 ↑p,Value.int IntKind.i64 ↑m,Value.slice pa2 (0+md.length) cap1]);(· rfl);(· rfl);(· rfl);(· rfl);(· exact Bz fun _=>Dc (cs:=[Value.int IntKind.i64 ↑p,Value.int IntKind.i64 ↑m,Value.slice pa2 (0+md.length) cap1]) AIs AE3 rfl rfl Al))
 refine Mu rfl ?_
 (rotate_left;rfl;rotate_right)
 simp only [List.append_nil,List.append_assoc,List.map_cons,List.map_nil,List.cons_append,List.nil_append,List.drop_zero]
 (refine Uw 0 0 (by first|rfl|exact (List.append_nil _).symm) rfl (by show (0+md.length)*8≤140737488355328;omega) ?_;simp only [List.take_succ_cons,List.take_zero,List.cons_append,List.nil_append,List.append_nil])
 refine wk 2 cz ?_ --ok
 refine Bb [0] rfl (.agg 0 rfl rfl Ga rfl .nil) rfl ⟨_,_,_,rfl,rfl,rfl⟩
theorem Gy (K:Fok p m md) (hn:rows.length≤1000000) (hN:N≤1000000) (hM:Da (p ^ m) N rows):Bn Tryz.prog 58 [.agg #[.int .i64 p,.int .i64 m,.slice pm nm cm],.slice ps n c,.int .i64 N] [] [Ap Aj pm nm cm md,Ap (Ah Aj) ps n c rows]
  (fun v Φ β=>∃ (pb pc:Option Addr) (nb cb nc cc:Nat),v = .agg #[.int .i64 p,.int .i64 m,.slice pb nb cb,.int .i64 N,.slice pc nc cc]∧Φ=[Ap Aj pb nb cb md,Ap (Ah Aj) pc nc cc (C4 p m md N rows).1]∧β=[]):=by
 refine Ab (F:=Qo) rfl fun C=>?_
 refine A8 1 rfl fun hn2 _ _=>?_
 subst hn2
 have Bo:=fun {nm cm c:Nat}{pm ps:Option Addr}=>Gf (nm:=nm) (cm:=cm) (c:=c) (pm:=pm) (ps:=ps) K hn hN rfl hM
 have Oz:=fun {nm cm:Nat}{pm:Option Addr}=>Ps (nm:=nm) (cm:=cm) (pm:=pm) K
 refine Aq [_,_] rfl ?_
 refine Aa rfl (Ct rfl fun b1=>?_)
 refine Aa rfl (B1 T0 fun b2=>?_)
 refine Aq [_,_] rfl ?_
 refine Aa rfl (Bi 1 rfl rfl Ga rfl ?_)
 refine Ai it 2 rfl (by simp) ?_
 refine Aa rfl (Aw [0,1] rfl (Bo) rfl ?_)
 rintro _ _ _ ⟨pb1,pp1,cb1,cp1,rfl,rfl,rfl⟩
 simp only [List.cons_append,List.nil_append]
 refine Ai it 5 rfl (by simp) ?_
 refine Aq [_,_] rfl ?_
 refine Aa rfl (Bi 1 rfl rfl Ga rfl ?_)
 refine Aa rfl (Aw [2] rfl (Oz) rfl ?_)
 rintro _ _ _ ⟨pb2,nb1,cb2,rfl,rfl,rfl⟩
 simp only [List.cons_append,List.nil_append]
 refine Ai it 2 rfl (by simp) ?_
 refine Aa rfl (Dc (cs:=[Value.int IntKind.i64 ↑p,Value.int IntKind.i64 ↑m,Value.slice pb2 nb1 cb2,Value.int IntKind.i64 ↑N,Value.slice pb1 (C4 p m md N rows).snd.length cb1]) AJK T0 rfl rfl ?_)
 refine Aa rfl (Bf 0 rfl rfl rfl Dj rfl rfl (by simp [Value.oneCell']) ?_)
 refine Aq [_] rfl ?_
 refine Bb [0,1] rfl (.agg 0 rfl rfl Dj rfl .nil) rfl ⟨_,_,_,_,_,_,rfl,rfl,rfl⟩
end
open Go Go.Fw
set_option maxRecDepth 100000
set_option linter.unusedVariables false
set_option linter.unusedSimpArgs false
set_option maxHeartbeats 0
section
variable {P M:Int}{n c nm cm nu cu:Nat}{pm ps pu:Option Addr}{md:List Int}{rows:List (List Int)}
theorem Rg {p m:Nat}{u:List Int}(K:Fok p m md) (hu:∀ x∈u,0≤x∧x<((p ^ m:Nat):Int)) :
  Bn Tryz.prog 77 [.agg #[.int .i64 p,.int .i64 m,.slice pm nm cm],.slice pu nu cu] [] [Ap Aj pm nm cm md,Ap Aj pu nu cu u] (Rv (.int .i64 (Re (Ad (fA p m)) u)) []):=by
 refine Ab (F:=Ru) rfl fun C=>?_
 refine A8 1 rfl fun hn hb _=>?_
 subst hn
 have hb':u.length*8≤140737488355328:=hb
 have hq:=K.q
 have He:=fun {nm cm:Nat}{pm:Option Addr}{x y:Int}=>Jy (nm:=nm) (cm:=cm) (pm:=pm) (x:=x) (y:=y) K
 have hF:=K.fi
 have hr:=fun i=>Qf hF (u.take i) 0 (Int.le_refl 0) hF.z fun x hx=>hu x (List.mem_of_mem_take hx)
 generalize Ad (fM p (Az m md))=M at *
 generalize Ad (fA p m)=A at *
 generalize p ^ m=q at *
 refine wk 8 cz ?_
 intro b1
 refine Af (X:=Nat) [1,2,4] [0,1] (fun i=>[(6,.int .i64 (i:Int)),(5,.int .i64 (Re A (u.take i)))]) (fun _=>_) (fun _=>[]) (fun i=>i≤u.length) (fun i=>u.length-i) 0 [] rfl rfl rfl (Nat.zero_le _) (by repeat (first|exact Fr.sub_nil _|refine Fr.sub_cons rfl ?_)) rfl rfl ?_
 rintro i hi ih
 simp only [List.cons_append,List.nil_append] at hi ih ⊢
 by_cases h9:i<u.length
 ·obtain ⟨x,at_x⟩:∃ x,u[i]?=some x:=⟨_,List.getElem?_eq_getElem h9⟩
  have ex:u.getD i default=x:=by rw [List.getD_eq_getElem?_getD,at_x];rfl
  obtain ⟨hx0,hx1⟩:=hu x (List.mem_of_getElem? at_x)
  have ih':=ih (i+1) (by omega) (by omega)
  rw [AAJ at_x,← ex] at ih'
  rw [← ex] at hx0 hx1
  obtain ⟨s0,s1⟩:=hr i
  rw [← Re] at s0 s1
  generalize Re A (u.take i)=s at *
  refine wk 12 (ct @He cz) ?_
  intro h1 b2 o1
  exact tw (ih')
 ·obtain rfl:i=u.length:=by omega
  rw [List.take_length]
  clear ih
  refine wk 9 cz ?_
  intro h1
  exact ge
theorem On {N:Int}(hN:Bx .i64 N):Bn Tryz.prog 27 [.agg #[.int .i64 P,.int .i64 M,.slice pm nm cm,.int .i64 N,.slice ps n c]] [] [Ap Aj pm nm cm md,Ap (Ah Aj) ps n c rows] (CdX (etX P M md N rows)):=by
 refine Ab (F:=N7) rfl fun C=>?_
 refine A8 1 rfl fun hn hb1 _=>?_
 subst hn
 have hr:=Ll P M md N rows
 have A9:=fun {pm ps:Option Addr}{nm cm n c:Nat}=>F9 (P:=P) (M:=M) (pm:=pm) (ps:=ps) (nm:=nm) (cm:=cm) (n:=n) (c:=c) (md:=md) (rows:=rows) (N:=N) hN rfl
 by_cases h0:Nw P M md N rows=0
 ·obtain ⟨p,m,n',rfl,rfl,rfl,CC⟩:=Vl h0
  rw [h0] at A9
  by_cases h64:n'=64
  ·rw [etX,if_neg (by rw [etE,if_neg (fun e=>e h0),if_pos (by omega)];omega),etE,if_neg (fun e=>e h0),if_pos (by omega)]
   refine Dl (Ap Aj none 0 0 []) (fun w A _=>Cm _ w A none 0) ?_
   refine Dl (Ap (Ah Aj) none 0 0 []) (fun w A _=>Cm _ w A none 0) ?_
   refine wk 23 (ct @A9 cz) ?_
   intro b1 b2 h1 h2
   refine Bb [1,0] rfl (.agg 0 rfl rfl Dj rfl (.tmp rfl .nil)) rfl ⟨_,_,_,_,_,_,rfl,rfl,rfl⟩
  ·rw [AEH CC h64]
   have K:=CC.K
   have hq:=K.q
   have hSM:=AIy CC
   have hl:=CC.len
   have hn64:=CC.n64
   have hLl:(etL p m rows).length=rows.length:=List.length_map _
   have D1:=fun {pm ps:Option Addr}{nm cm n c:Nat}=>Gy (pm:=pm) (ps:=ps) (nm:=nm) (cm:=cm) (n:=n) (c:=c) (N:=n'+1) (rows:=etL p m rows) K (by omega) (by omega) hSM
   generalize hG:C4 p m md (n'+1) (etL p m rows)=G at *
   clear hG
   refine wk 23 (ct @A9 cz) ?_
   intro b1 b2 h1 h2
   refine Fh (Ah Aj) 22 ?_
   refine Af (X:=Nat×Row) [1,2,3] [0,1,2] (fun z=>[(6,.int .i64 (z.1:Int)),(5,.slice (ad z.2.bo) z.1 z.2.cap)]) (fun z=>(z.2.bo,22,z.2.cs)::_) (fun z=>[A5 (Ah Aj) z.2 z.1 (etL p m (rows.take z.1))]) (fun z=>z.1≤rows.length) (fun z=>rows.length-z.1) (0,⟨none,0,[]⟩) [0] rfl rfl rfl (Nat.zero_le _) (by repeat (first|exact Fr.sub_nil _|refine Fr.sub_cons rfl ?_)) rfl rfl ?_
   rintro ⟨i,r⟩ hi ih
   simp only [List.cons_append,List.nil_append] at hi ih ⊢
   by_cases hil:i<rows.length
   ·obtain ⟨u,at_u⟩:∃ u,rows[i]?=some u:=⟨_,List.getElem?_eq_getElem hil⟩
    have eu:rows.getD i default=u:=by rw [List.getD_eq_getElem?_getD,at_u];rfl
    have hu:=CC.mat u (List.mem_of_getElem? at_u)
    have hul:=hu.1
    obtain ⟨s0,s1⟩:=Qf K.fi u 0 (Int.le_refl 0) K.fi.z hu.2
    rw [← Re] at s0 s1
    obtain ⟨⟨g0,g1⟩,_⟩:=(Dy K).ng _ s0 s1
    have hur:=hu.2
    rw [← eu] at hur hul s0 s1 g0 g1
    have Rk:=fun {nm cm nu cu:Nat}{pm pu:Option Addr}=>Rg (nm:=nm) (cm:=cm) (nu:=nu) (cu:=cu) (pm:=pm) (pu:=pu) K hur
    have Dg:=fun {nm cm:Nat}{pm:Option Addr}=>Hb (nm:=nm) (cm:=cm) (pm:=pm) K s0 s1
    have ih1:=fun r=>ih (i+1,r) (by dsimp only;omega) (by dsimp only;omega)
    dsimp only at ih1
    rw [etL,List.take_add_one (l:=rows),at_u,Option.toList_some,List.map_append,List.map_cons,List.map_nil,etW,← eu] at ih1
    clear ih
    have g2:0≤B8 p m (Re (Ad (fA p m)) (rows.getD i default))∧B8 p m (Re (Ad (fA p m)) (rows.getD i default))<((p ^ m:Nat):Int):=⟨g0,g1⟩
    clear g0 g1
    generalize Re (Ad (fA p m)) (rows.getD i default)=s at *
    generalize hy:B8 p m s=y at *
    have hy2:((nP p m s.toNat:Nat):Int)=y:=hy
    simp only [hy2] at Dg
    refine wk 9 cz ?_
    intro h3
    (apply Kw it mx 0 22;(· rfl);(· rfl);(· rfl))
    (apply A1 1;(· rfl);(· simp))
    (apply V8 (Dq IntKind.i64 8);(· rfl);(· exact Ce);intro pa1)
    (apply Ac;(· rfl);(· exact Bz fun _=>An rfl M0 Al))
    (apply Ac;(· rfl);(· exact Bv 2 rfl rfl Hp rfl))
    (apply A1 1;(· rfl);(· simp))
    (apply X0;(· rfl);(· exact Bz fun _=>H8 3 (i) rfl rfl rfl Df rfl (by omega) fun z1 hz1 b3 o1=>(Yh default hz1 0 rfl));intro b3 o1)
    (apply Fa;(· rfl);(· exact Bz fun _=>Tk 0 rfl rfl E6 fun pa2 ca1=>(Jd 0 rfl));intro pa2 ca1)
    (apply AHV (keep:=[]) 2 0;(· rfl);(· rfl);(· rfl);(· rfl);(· rfl);(· exact Ce);(· exact Ee);(· rfl);(· (first|omega|(simp only [List.length_cons,List.length_nil];omega)));(· exact G2);(· (first|omega|(simp only [List.length_cons,List.length_nil];omega)));intro pa3 cap1 b4 cs1)
    (apply Ac;(· rfl);(· exact Bz fun _=>An rfl K9 Al))
    (apply Ac;(· rfl);(· exact Fo 2 rfl rfl Ga rfl rfl))
    (apply Ac;(· rfl);(· exact Bz fun _=>An rfl K9 Al))
    (apply Ac;(· rfl);(· exact Fo 2 rfl rfl Ga rfl rfl))
    (apply Ac;(· rfl);(· exact Bz fun _=>An rfl M0 Al))
    (apply Ac;(· rfl);(· exact Bv 2 rfl rfl Hp rfl))
    (apply A1 1;(· rfl);(· simp))
    (apply X0;(· rfl);(· exact Bz fun _=>H8 3 (i) rfl rfl rfl Df rfl (by omega) fun z1 hz1 b5 o2=>(Yh default hz1 0 rfl));intro b5 o2)
    (apply Fa;(· rfl);(· exact Bz fun _=>Tk 0 rfl rfl E6 fun pa4 ca2=>(Jd 0 rfl));intro pa4 ca2)
    (apply Ac;(· rfl);(· exact Bz fun _=>Aw [8,0] rfl (Rk) rfl (by rintro _ _ _ ⟨rfl,rfl,rfl⟩;exact Al)))
    (apply Ac;(· rfl);(· exact Bz fun _=>Aw [] rfl (Dg) rfl (by rintro _ _ _ ⟨rfl,rfl,rfl⟩;exact Al)))
    (apply Fa;(· rfl);(· exact Bz fun _=>H4 Ce Ee rfl rfl rfl rfl (by decide) (by decide) rfl fun b6=>Ux (E:=Aj) [[Value.int IntKind.i64 y]] [y] (fun w A hG=>(Ay ⟨rfl,by first|assumption|(simp only [Bx];omega)⟩ Ba)) rfl rfl rfl (by first|decide|exact Nat.le_of_ble_eq_true rfl));intro pa5 ca3)
    (apply ADg 3 0;(· rfl);(· rfl);(· rfl);(· rfl);(· rfl);(· exact Ce);(· exact Ee);(· rfl);(· (first|omega|(simp only [List.length_cons,List.length_nil];omega)));(· exact G2);(· (first|omega|(simp only [List.length_cons,List.length_nil];omega)));intro pa6 cap2 b6 cs2)
    (apply ADC 0;(· rfl);(· rfl);(· exact Df);(· exact Gq);(· rfl);(· rfl);(· rfl);(· decide);(· decide);intro pa7 cap3 b7 cs3 b8)
    refine Mu rfl ?_
    (rotate_left;rfl;rotate_right)
    (rotate_left;rfl;rotate_right)
    (rotate_left;rfl;rotate_right)
    simp only [List.append_nil,List.append_assoc,List.map_cons,List.map_nil,List.cons_append,List.nil_append,List.drop_zero]
    (refine Uw 1 0 (by first|rfl|exact (List.append_nil _).symm) rfl (by show (0+(rows.getD i default).length+1)*8≤140737488355328;omega) ?_;simp only [List.take_succ_cons,List.take_zero,List.cons_append,List.nil_append,List.append_nil])
    refine Aa rfl (Fj (z:=rows.getD i default++[y]) 1 0 10 rfl rfl rfl rfl rfl Df Gq rfl (fun w A hG=>(Ax (hG _ (Ae (n:=0) rfl)))) (by omega) _ Jw (by omega) fun r1=>?_)
    refine wk 4 cz ?_
    refine Jx [true,false,true,true] [0,12,13,14] (by exact Ul rfl) rfl rfl (ih1 r1)
   ·obtain rfl:i=rows.length:=by omega
    clear ih
    rw [List.take_length]
    refine Dx 0 0 rfl rfl (by show rows.length*24≤140737488355328;omega) ?_
    simp only [List.eraseIdx_cons_zero,List.eraseIdx_cons_succ]
    refine wk 19 (ct @D1 cz) ?_
    intro h3 pb1 pc1 nb1 cb1 nc1 cc1
    refine Bb [0,1] rfl (.agg 0 rfl rfl Dj rfl (.tmp rfl .nil)) rfl ⟨_,_,_,_,_,_,rfl,rfl,rfl⟩
 ·rw [etX,if_neg (by rw [etE,if_pos h0];exact h0),etE,if_pos h0]
  generalize Nw P M md N rows=e at *
  refine Dl (Ap Aj none 0 0 []) (fun w A _=>Cm _ w A none 0) ?_
  refine Dl (Ap (Ah Aj) none 0 0 []) (fun w A _=>Cm _ w A none 0) ?_
  refine wk 18 (ct @A9 cz) ?_
  intro b1 b2 h1
  refine Bb [1,0] rfl (.agg 0 rfl rfl Dj rfl (.tmp rfl .nil)) rfl ⟨_,_,_,_,_,_,rfl,rfl,rfl⟩
end
set_option maxRecDepth 100000
set_option linter.unusedVariables false
set_option linter.unusedSimpArgs false
section
variable {q:Nat}{A M:Int→Int→Int}{N V:Int→Int}(O:FO q A M N V)
include O
end
set_option maxRecDepth 100000
set_option linter.unusedVariables false
set_option linter.unusedSimpArgs false
section
variable {q:Nat}{A M:Int→Int→Int}{N V:Int→Int}(O:FO q A M N V)
include O
end
open Go Go.Fw
set_option maxRecDepth 100000
set_option linter.unusedVariables false
set_option linter.unusedSimpArgs false
set_option maxHeartbeats 0
section
variable {q:Nat}{A M:Int→Int→Int}{N V:Int→Int}(O:FO q A M N V)
include O
end
open Go Go.Fw
set_option maxRecDepth 100000
set_option linter.unusedVariables false
set_option linter.unusedSimpArgs false
set_option maxHeartbeats 0
section
variable {q:Nat}{A M:Int→Int→Int}{N V:Int→Int}(O:FO q A M N V)
include O
end
open Go Go.Fw
set_option maxRecDepth 100000
set_option linter.unusedVariables false
set_option linter.unusedSimpArgs false
set_option maxHeartbeats 0
section
variable {p m N b bp nm cm ns cs ny cy nt ct:Nat}{pm ps py pt:Option Addr}{co:Bool}{Mo w ap:Int}{md:List Int}{rows:List (List Int)}
end
open Go Go.Fw
set_option maxRecDepth 100000
set_option linter.unusedVariables false
set_option linter.unusedSimpArgs false
set_option maxHeartbeats 0
section
variable {P:Program}{C:Cx}{σ:Fr}{β:List A3}{Γ:List Fact}{ty:TypeId}
end
section
variable {p m N b bp nm cm ns cs ny cy nt ct:Nat}{pm ps py pt:Option Addr}{co:Bool}{Mo w:Int}{md:List Int}{rows sets:List (List Int)}
end
open Go Go.Fw
set_option maxRecDepth 100000
set_option linter.unusedVariables false
set_option linter.unusedSimpArgs false
set_option maxHeartbeats 0
section
variable {p m N b bp nm cm ns cs ny cy nt ct:Nat}{pm ps py pt:Option Addr}{Mo w:Int}{md:List Int}{rows sets:List (List Int)}
end
open Go Go.Fw
set_option maxRecDepth 100000
set_option linter.unusedVariables false
set_option linter.unusedSimpArgs false
set_option maxHeartbeats 0
section
variable {p m N b bp nm cm ns cs ny cy nt ct:Nat}{pm ps py pt:Option Addr}{Mo:Int}{d:Nat}{md:List Int}{rows sets:List (List Int)}
end
open Go Go.Fw
set_option maxRecDepth 100000
set_option linter.unusedVariables false
set_option linter.unusedSimpArgs false
set_option maxHeartbeats 0
section
variable {p m N n c nm cm ny cy k:Nat}{pm ps py:Option Addr}{Mo w:Int}{md:List Int}{rows:List (List Int)}
end
open Go Go.Fw
set_option maxRecDepth 100000
set_option linter.unusedVariables false
set_option linter.unusedSimpArgs false
set_option maxHeartbeats 0
section
variable {P M:Int}{p m n c nm cm ns cs':Nat}{pm ps pt:Option Addr}{md set:List Int}{rows:List (List Int)}
end
open Go Go.Fw
set_option maxRecDepth 100000
set_option linter.unusedVariables false
set_option linter.unusedSimpArgs false
set_option maxHeartbeats 0
section
variable {p m n c nm cm ns cs' N:Nat}{P M:Int}{pm ps pt:Option Addr}{md set:List Int}{rows:List (List Int)}
theorem Of (CC:Cok p m md N rows):Bn Tryz.prog 80 [.agg #[.int .i64 p,.int .i64 m,.slice pm nm cm,.int .i64 N,.slice ps n c]] [] [Ap Aj pm nm cm md,Ap (Ah Aj) ps n c rows]
  (fun v Φ β=>∃ r:Row,v = .slice (ad r.bo) (Jf p m md N rows).length r.cap∧Φ=[A5 (Ah Aj) r (Jf p m md N rows).length (Jf p m md N rows)]∧β=[(r.bo,22,r.cs)]):=by
 refine Ab (F:=Oc) rfl fun C=>?_
 refine A8 1 rfl fun hn2 _ _=>?_
 subst hn2
 have h64:=CC.n64
 have hl:=CC.len
 have E5:=fun {nm cm c:Nat}{pm ps:Option Addr}=>Js (nm:=nm) (cm:=cm) (c:=c) (pm:=pm) (ps:=ps) (n:=rows.length) (N:=N) CC.K (by omega) (by omega) rfl CC.mat
 refine wk 13 (ct @E5 cz) ?_
 intro b1 r1
 refine Dt 2 [0] [0] rfl (.tmp rfl .nil) rfl rfl rfl ⟨r1,rfl,rfl,rfl⟩
end
open Go Go.Fw
set_option maxRecDepth 100000
set_option linter.unusedVariables false
set_option linter.unusedSimpArgs false
set_option maxHeartbeats 0
section
variable {P M:Int}{n c nm cm ns cs':Nat}{pm ps pt:Option Addr}{md set:List Int}{rows:List (List Int)}
theorem Jp {N:Nat}(hN:N≤1000):Bn Tryz.prog 81 [.int .i64 N] [] [] (RwI N (onW N)):=by
 refine Ab (F:=Qy) rfl fun C=>?_
 refine wk 9 cz ?_
 intro b1
 rw [show Ao .i64 (List.replicate N 0)=Ak .i64 (List.replicate 0 1++List.replicate (N-0) 0) by simp [Ao,Ak]]
 refine Af (X:=Nat) [0,2,3] [] (fun i=>[(4,.int .i64 (i:Int))]) (fun i=>(some b1,3,Ak .i64 (List.replicate i 1++List.replicate (N-i) 0))::_) (fun _=>[]) (fun i=>i≤N) (fun i=>N-i) 0 [] rfl rfl rfl (Nat.zero_le _) (by repeat (first|exact Fr.sub_nil _|refine Fr.sub_cons rfl ?_)) rfl rfl ?_
 rintro i hi ih
 simp only [List.cons_append,List.nil_append] at hi ih ⊢
 by_cases h9:i<N
 ·have ih':=ih (i+1) (by omega) (by omega)
  have hset:(List.replicate i (1:Int)++List.replicate (N-i) 0).set i 1=List.replicate (i+1) 1++List.replicate (N-(i+1)) 0:=by
   obtain ⟨k,hk⟩:∃ k,N-i=k+1:=⟨N-i-1,by omega⟩
   rw [hk,List.replicate_succ (n:=k),List.set_append_right _ _ (by simp),List.length_replicate,Nat.sub_self,List.set_cons_zero,show N-(i+1)=k by omega,List.replicate_succ' (n:=i),List.append_assoc]
   rfl
  rw [← hset] at ih'
  have hln:(List.replicate i (1:Int)++List.replicate (N-i) 0).length=N:=by simp;omega
  generalize List.replicate i (1:Int)++List.replicate (N-i) 0=L at *
  clear ih
  refine wk 11 cz ?_
  intro h1
  exact tw (ih')
 ·obtain rfl:i=N:=by omega
  rw [Nat.sub_self,List.replicate_zero,List.append_nil]
  clear ih
  refine Bk 0 rfl (show i=(onW i).length from List.length_replicate.symm) (fun x hx=>by rw [List.eq_of_mem_replicate hx];simp only [Bx];omega) (by omega) ?_
  refine wk 7 cz ?_
  intro h1
  refine Dt 1 [0] [0] rfl (.tmp rfl .nil) rfl rfl rfl ⟨⟨some b1,i,_⟩,rfl,rfl,rfl⟩
theorem Lj {N:Int}(hN:Bx .i64 N):Bn Tryz.prog 29 [.agg #[.int .i64 P,.int .i64 M,.slice pm nm cm,.int .i64 N,.slice ps n c]] [] [Ap Aj pm nm cm md,Ap (Ah Aj) ps n c rows] (CdX (exX P M md N rows)):=by
 refine Ab (F:=Li) rfl fun C=>?_
 have hr:=Ll P M md N rows
 have A9:=fun {pm ps:Option Addr}{nm cm n c:Nat}=>F9 (P:=P) (M:=M) (pm:=pm) (ps:=ps) (nm:=nm) (cm:=cm) (n:=n) (c:=c) (md:=md) (rows:=rows) (N:=N) hN rfl
 by_cases h0:Nw P M md N rows=0
 ·obtain ⟨p,m,n',rfl,rfl,rfl,CC⟩:=Vl h0
  rw [h0] at A9
  have K:=CC.K
  have O:=Dy K
  have h64:=CC.n64
  have hM2:=Ji CC.nu.mat (Yn K n')
  have hNl:=Zv K CC.mat
  have hc:(C4 p m md n' (exP p m md n' rows)).1=exP p m md n' rows:=by
   have h:C4 p m md n' (exP p m md n' rows)=_:=O.cn_nu hM2
   rw [h];rfl
  have hEl:(exP p m md n' rows).length≤n':=Zv K hM2
  have hEM:Da (p ^ m) n' (exP p m md n' rows):=(O.nu hM2).1
  rw [AEX CC,← hc]
  have N5:=fun {pm ps:Option Addr}{nm cm n c:Nat}=>Of (pm:=pm) (ps:=ps) (nm:=nm) (cm:=cm) (n:=n) (c:=c) CC
  have G1:=(Jp (N:=n') (by omega)).pubR (by show n'*8≤140737488355328;omega)
  have E5:=fun {nm cm c:Nat}{pm ps:Option Addr}=>P9 (nm:=nm) (cm:=cm) (c:=c) (pm:=pm) (ps:=ps) (n:=(Jf p m md n' rows).length+1) (N:=n') K (by omega) (by omega) (by rw [List.length_append];rfl) hM2
  have D1:=fun {pm ps:Option Addr}{nm cm n c:Nat}=>Gy (pm:=pm) (ps:=ps) (nm:=nm) (cm:=cm) (n:=n) (c:=c) (N:=n') (rows:=exP p m md n' rows) K (by omega) (by omega) hEM
  generalize hG:C4 p m md n' (exP p m md n' rows)=G at *
  clear hG hEM
  have hEe:Jf p m md n' (Jf p m md n' rows++[onW n'])=exP p m md n' rows:=rfl
  generalize exP p m md n' rows=X at *
  rw [hEe] at E5
  generalize Jf p m md n' rows=D at *
  refine wk 13 (ct @A9 cz) ?_
  intro b1 b2 h1
  (apply Kw it mx 0 7;(· rfl);(· rfl);(· rfl))
  (apply Ac;(· rfl);(· exact Cu 1 rfl rfl Dj rfl))
  (apply Ya [0,1];(· rfl);(· rfl);(· exact N5);(· rfl);(· first|omega|(show _*8≤_;omega)|(show _*24≤_;omega));intro pa1 cap1 b3 cs1)
  (apply Ac;(· rfl);(· exact Bz fun _=>An rfl If Al))
  (apply Ac;(· rfl);(· exact Bv 1 rfl rfl Ci rfl))
  (apply Fa;(· rfl);(· exact Bz fun _=>Aw [] rfl (G1) rfl (by rintro _ _ _ ⟨pa2,ca1,rfl,rfl,rfl⟩;exact (Jd 0 rfl)));intro pa2 ca1)
  (apply Fa;(· rfl);(· exact Bz fun _=>H4 Df Gq rfl rfl rfl rfl (by decide) (by decide) rfl fun b4=>Ux (E:=(Ah (Aj))) [[Value.slice pa2 n' ca1]] [onW n'] (fun w A hG=>(Ay (Ax (hG _ (Ae (n:=0) rfl))) Ba)) rfl rfl rfl (by first|decide|exact Nat.le_of_ble_eq_true rfl));intro pa3 ca2)
  (apply ABC 2 0;(· rfl);(· rfl);(· rfl);(· rfl);(· rfl);(· exact Df);(· exact Gq);(· rfl);(· (first|omega|(simp only [List.length_cons,List.length_nil];omega)));(· exact Jw);(· (first|omega|(simp only [List.length_cons,List.length_nil];omega)));intro pa4 cap2 b4 cs2)
  refine Mu rfl ?_
  (rotate_left;rfl;rotate_right)
  (rotate_left;rfl;rotate_right)
  simp only [List.append_nil,List.append_assoc,List.map_cons,List.map_nil,List.cons_append,List.nil_append,List.drop_zero]
  (refine Uw 0 0 (by first|rfl|exact (List.append_nil _).symm) rfl (by show (D.length+1)*24≤140737488355328;omega) ?_;simp only [List.take_succ_cons,List.take_zero,List.cons_append,List.nil_append,List.append_nil])
  refine wk 2 cz ?_
  (apply E7 it mx 11;(· rfl);(· rfl))
  (apply Ac;(· rfl);(· exact Bz fun _=>An rfl K9 Al))
  (apply Ac;(· rfl);(· exact Fo 1 rfl rfl Ga rfl rfl))
  (apply Ac;(· rfl);(· exact Bz fun _=>An rfl K9 Al))
  (apply Ac;(· rfl);(· exact Fo 1 rfl rfl Ga rfl rfl))
  (apply A1 1;(· rfl);(· simp))
  (apply Ac;(· rfl);(· exact Bz fun _=>An rfl If Al))
  (apply Ac;(· rfl);(· exact Bv 1 rfl rfl Ci rfl))
  (apply Fa;(· rfl);(· exact Bz fun _=>Aw [5,0] rfl (E5) rfl (by rintro _ _ _ ⟨pb1,cb1,rfl,rfl,rfl⟩;exact (Jd 0 rfl)));intro pa5 ca3)
  (apply Ac;(· rfl);(· exact Bz fun _=>An rfl If Al))
  (apply Ac;(· rfl);(· exact Bv 1 rfl rfl Ci rfl))
  (apply I1 (val:=(fun g=>Value.agg #[Value.int IntKind.i64 ↑p,Value.int IntKind.i64 ↑m,Value.slice (g 0).fst (g 2).snd.fst (g 3).snd.fst,Value.int IntKind.i64 ↑n',Value.slice (g 1).fst (g 4).snd.fst (g 5).snd.fst])) (f:=(fun g=>[Ap Aj (g 0).fst (g 2).snd.fst (g 3).snd.fst md,Ap (Ah Aj) (g 1).fst (g 4).snd.fst (g 5).snd.fst G.fst]));(· rfl);(· exact Bz fun _=>Aw [6,0] rfl (D1) rfl (by rintro _ _ _ ⟨pbg0,pcg1,nbg2,cbg3,ncg4,ccg5,rfl,rfl,rfl⟩;exact fun _ _ _ hG=>⟨(fun|0=>(pbg0,0,0,[])|1=>(pcg1,0,0,[])|2=>(none,nbg2,0,[])|3=>(none,cbg3,0,[])|4=>(none,ncg4,0,[])|5=>(none,ccg5,0,[])|_=>default),rfl,fun g hg=>Ey (hG _ (List.mem_append_left _ hg))⟩));intro g1;dsimp only [List.map_cons,List.map_nil])
  refine Er rfl ?_
  simp only [List.map_cons,List.map_nil,List.cons_append,List.nil_append]
  refine wk 3 cz ?_
  refine Bb [0,1] rfl (.agg 0 rfl rfl Dj rfl (.tmp rfl .nil)) rfl ⟨_,_,_,_,_,_,rfl,rfl,rfl⟩
 ·rw [exX,if_neg h0]
  generalize Nw P M md N rows=e at *
  refine Dl (Ap Aj none 0 0 []) (fun w A _=>Cm _ w A none 0) ?_
  refine Dl (Ap (Ah Aj) none 0 0 []) (fun w A _=>Cm _ w A none 0) ?_
  refine wk 18 (ct @A9 cz) ?_
  intro b1 b2 h1
  refine Bb [1,0] rfl (.agg 0 rfl rfl Dj rfl (.tmp rfl .nil)) rfl ⟨_,_,_,_,_,_,rfl,rfl,rfl⟩
end
open Go Go.Fw
set_option maxRecDepth 100000
set_option linter.unusedVariables false
set_option linter.unusedSimpArgs false
set_option maxHeartbeats 0
section
variable {P M:Int}{p m n c nm cm ns cs':Nat}{pm ps pt:Option Addr}{md set:List Int}{rows:List (List Int)}
theorem Nf {N:Int}(hN:Bx .i64 N):Bn Tryz.prog 31 [.agg #[.int .i64 P,.int .i64 M,.slice pm nm cm,.int .i64 N,.slice ps n c]] [] [Ap Aj pm nm cm md,Ap (Ah Aj) ps n c rows] (CdX (auX P M md N rows)):=by
 refine Ab (F:=Nd) rfl fun C=>?_
 have hr:=Ll P M md N rows
 have A9:=fun {pm ps:Option Addr}{nm cm n c:Nat}=>F9 (P:=P) (M:=M) (pm:=pm) (ps:=ps) (nm:=nm) (cm:=cm) (n:=n) (c:=c) (md:=md) (rows:=rows) (N:=N) hN rfl
 by_cases h0:Nw P M md N rows=0
 ·obtain ⟨p,m,n',rfl,rfl,rfl,CC⟩:=Vl h0
  rw [h0] at A9
  have K:=CC.K
  have h64:=CC.n64
  have hl:=CC.len
  have hM2:=Ji CC.mat (Yn K n')
  have hAl:(rows++[onW n']).length=rows.length+1:=by rw [List.length_append];rfl
  rw [AEG CC]
  have E4:=fun {ps:Option Addr}{n c:Nat}=>Jn (ps:=ps) (n:=n) (c:=c) (rows:=rows) fun r hr=>by rw [(CC.mat r hr).1];omega
  have G1:=(Jp (N:=n') (by omega)).pubR (by show n'*8≤140737488355328;omega)
  have D1:=fun {pm ps:Option Addr}{nm cm n c:Nat}=>Gy (pm:=pm) (ps:=ps) (nm:=nm) (cm:=cm) (n:=n) (c:=c) (N:=n') (rows:=rows++[onW n']) K (by omega) (by omega) hM2
  generalize hG:C4 p m md n' (rows++[onW n'])=G at *
  have hGa:auP p m md n' rows=G.1:=by rw [← hG]
  rw [hGa]
  clear hG hGa
  refine wk 13 (ct @A9 cz) ?_
  intro b1 b2 h1
  (apply Kw it mx 0 12;(· rfl);(· rfl);(· rfl))
  simp only [List.drop_zero,List.take_zero]
  (apply Ac;(· rfl);(· exact Bz fun _=>An rfl K9 Al))
  (apply Ac;(· rfl);(· exact Fo 1 rfl rfl Ga rfl rfl))
  (apply Ac;(· rfl);(· exact Bz fun _=>An rfl M0 Al))
  (apply Ac;(· rfl);(· exact Bv 1 rfl rfl Hp rfl))
  (apply Ya [1];(· rfl);(· rfl);(· exact E4);(· rfl);(· first|omega|(show _*8≤_;omega)|(show _*24≤_;omega));intro pa1 cap1 b3 cs1)
  (apply Ac;(· rfl);(· exact Bz fun _=>An rfl If Al))
  (apply Ac;(· rfl);(· exact Bv 1 rfl rfl Ci rfl))
  (apply Fa;(· rfl);(· exact Bz fun _=>Aw [] rfl (G1) rfl (by rintro _ _ _ ⟨pa2,ca1,rfl,rfl,rfl⟩;exact (Jd 0 rfl)));intro pa2 ca1)
  (apply Fa;(· rfl);(· exact Bz fun _=>H4 Df Gq rfl rfl rfl rfl (by decide) (by decide) rfl fun b4=>Ux (E:=(Ah (Aj))) [[Value.slice pa2 n' ca1]] [onW n'] (fun w A hG=>(Ay (Ax (hG _ (Ae (n:=0) rfl))) Ba)) rfl rfl rfl (by first|decide|exact Nat.le_of_ble_eq_true rfl));intro pa3 ca2)
  (apply ABC 2 0;(· rfl);(· rfl);(· rfl);(· rfl);(· rfl);(· exact Df);(· exact Gq);(· rfl);(· (first|omega|(simp only [List.length_cons,List.length_nil];omega)));(· exact Jw);(· (first|omega|(simp only [List.length_cons,List.length_nil];omega)));intro pa4 cap2 b4 cs2)
  (apply Ac;(· rfl);(· exact Bz fun _=>An rfl If Al))
  (apply Ac;(· rfl);(· exact Bv 1 rfl rfl Ci rfl))
  refine Mu rfl ?_
  (rotate_left;rfl;rotate_right)
  (rotate_left;rfl;rotate_right)
  simp only [List.append_nil,List.append_assoc,List.map_cons,List.map_nil,List.cons_append,List.nil_append,List.drop_zero]
  (refine Uw 0 0 (by first|rfl|exact (List.append_nil _).symm) rfl (by show (rows.length+1)*24≤140737488355328;omega) ?_;simp only [List.take_succ_cons,List.take_zero,List.cons_append,List.nil_append,List.append_nil])
  refine wk 4 (ct @D1 cz) ?_
  intro pb1 pc1 nb1 cb1 nc1 cc1 --ok
  refine Bb [0,1] rfl (.agg 0 rfl rfl Dj rfl (.tmp rfl .nil)) rfl ⟨_,_,_,_,_,_,rfl,rfl,rfl⟩
 ·rw [auX,if_neg h0]
  generalize Nw P M md N rows=e at *
  refine Dl (Ap Aj none 0 0 []) (fun w A _=>Cm _ w A none 0) ?_
  refine Dl (Ap (Ah Aj) none 0 0 []) (fun w A _=>Cm _ w A none 0) ?_
  refine wk 18 (ct @A9 cz) ?_
  intro b1 b2 h1
  refine Bb [1,0] rfl (.agg 0 rfl rfl Dj rfl (.tmp rfl .nil)) rfl ⟨_,_,_,_,_,_,rfl,rfl,rfl⟩
end
set_option maxRecDepth 100000
set_option linter.unusedVariables false
set_option linter.unusedSimpArgs false
def T3 (n:Nat):Nat:=if _h:n=0 then 0 else T3 (n / 2)+1
termination_by n
decreasing_by omega
theorem Ts:T3 0=0:=by rw [T3];rfl
theorem ADu {n:Nat}(h:n≠0):T3 n=T3 (n / 2)+1:=by rw [T3,dif_neg h]
def AFI:Nat→Nat→Nat
 | 0,_=>0
 | f+1,n=>if n=0 then 0 else AFI f (n / 2)+1
theorem AHe (f:Nat):∀ n,n<2 ^ f→AFI f n=T3 n:=by
 induction f with
 | zero => intro n h; have : n = 0 := by simpa using h
           subst this; rw [Ts]; rfl
 | succ f ih =>
  intro n h
  rw [AFI]
  by_cases h0:n=0
  ·subst h0;rw [if_pos rfl,Ts]
  ·rw [if_neg h0,ADu h0,ih _ (by rw [Nat.pow_succ] at h;omega)]
theorem ACp {n k:Nat}(h:n<2 ^ k):T3 n≤k:=by
 induction k generalizing n with
 | zero => have : n = 0 := by simpa using h
           subst this; rw [Ts]; omega
 | succ k ih =>
  by_cases h0:n=0
  ·subst h0;rw [Ts];omega
  ·rw [ADu h0];have:=ih (n:=n / 2) (by rw [Nat.pow_succ] at h;omega);omega
def AKw (s:ByteArray):Bool:=(List.range 256).all fun n=>match s[n]? with
 | some b=>b.toNat == AFI 8 n
 | none=>false
theorem AJW {s:ByteArray}(h:AKw s=true) {n:Nat}(hn:n<256):s[n]?=some (UInt8.ofNat (T3 n)):=by
 unfold AKw at h
 have:=List.all_eq_true.1 h n (List.mem_range.2 hn)
 cases hs:s[n]? with
 | none=>rw [hs] at this;simp at this
 | some b =>
  rw [hs] at this
  simp only [beq_iff_eq] at this
  rw [AHe 8 n (by simpa using hn)] at this
  rw [← this];simp
open Go Go.Fw
set_option maxHeartbeats 0
section
variable {p m N b ng cg ce cl n c k cp nx cx:Nat}{pg pe pl ps pp px:Option Addr}{md x:List Int}{rows:List (List Int)}
end
open Go Go.Fw
set_option maxRecDepth 100000
set_option linter.unusedVariables false
set_option linter.unusedSimpArgs false
set_option maxHeartbeats 0
section
variable {p m N n c nm cm nx cx:Nat}{pm ps px:Option Addr}{md x:List Int}{rows:List (List Int)}
end
open Go Go.Fw
set_option maxRecDepth 100000
set_option linter.unusedVariables false
set_option linter.unusedSimpArgs false
set_option maxHeartbeats 0
section
variable {p m N:Nat}{md lost away:List Int}{rows:List (List Int)}
end
open Go Go.Fw
set_option maxRecDepth 100000
set_option linter.unusedVariables false
set_option linter.unusedSimpArgs false
set_option maxHeartbeats 0
section
variable {p m N:Nat}{md lost away:List Int}{rows:List (List Int)}
end
open Go Go.Fw
set_option maxRecDepth 100000
set_option linter.unusedVariables false
set_option linter.unusedSimpArgs false
set_option maxHeartbeats 0
section
variable {p m N nm cm n c nl cl na ca nt ct:Nat}{md lost away:List Int}{rows t:List (List Int)}{pm ps pl pa pt:Option Addr}{w:Int}
end
open Go Go.Fw
set_option maxRecDepth 100000
set_option linter.unusedVariables false
set_option linter.unusedSimpArgs false
set_option maxHeartbeats 0
section
variable {P M N w e:Int}{nm cm n c nl cl na ca nt ct:Nat}{md lost away:List Int}{rows t:List (List Int)}{pm ps pl pa pt:Option Addr}
end
open Go Go.Fw
set_option maxRecDepth 100000
set_option linter.unusedVariables false
set_option linter.unusedSimpArgs false
set_option maxHeartbeats 0
section
variable {P M N w:Int}{n c nm cm nl cl na ca nh ch nt ct:Nat}{pm ps pl pa ph pt:Option Addr}{md lost away hs:List Int}{rows t:List (List Int)}
end
open Go Go.Fw
set_option maxRecDepth 100000
set_option linter.unusedVariables false
set_option linter.unusedSimpArgs false
set_option maxHeartbeats 0
section
variable {ps:Option Addr}{n c:Nat}{s:List Int}{y:Int}
end
section
variable {pw pl pa pz:Option Addr}{nw cw nl cl na ca nz cz':Nat}{w lost away z:List Int}
end
open Go Go.Fw
set_option maxRecDepth 100000
set_option linter.unusedVariables false
set_option linter.unusedSimpArgs false
set_option maxHeartbeats 0
section
variable {n:Int}{wt:List Int→Option (List Int)}{br:List Int→List Int→List Int}
end
open Go Go.Fw
set_option maxRecDepth 100000
set_option linter.unusedVariables false
set_option linter.unusedSimpArgs false
set_option maxHeartbeats 0
theorem Xi {x:Int}:Bn Tryz.prog 214 [.int .i64 x] [] [] (Rv (.bool false) []):=by
 refine Ab (F:=Xo) rfl fun C=>?_
 have hd:(!decide (x=x))=false:=by simp
 refine wk 5 cz ?_
 rw [hd]
 exact ge
theorem Rf {x y:Int}:Bn Tryz.prog 189 [.int .i64 x,.int .i64 y] [] [] (Rv (.bool (decide (x<y))) []):=by
 refine Ab (F:=Zd) rfl fun C=>?_
 refine wk 7 (ct @Xi cz) ?_
 exact ge
theorem ACs {x:Nat}(hx:x<256):Bn Tryz.prog 193 [.int .u64 x] [] [] (Rv (.int .i64 (T3 x)) []):=by
 refine Ab (F:=ACy) rfl fun C=>?_
 refine Aq [_,_] rfl ?_
 refine Ai it 1 rfl (by simp) ?_
 refine Aq [_,_,_] rfl ?_
 refine Ai it 2 rfl (by simp) ?_
 refine Aq [_,_] rfl ?_
 refine Md rfl rfl (fun h1=>by exfalso;omega) (fun h1=>?_)
 refine Aq [_,_,_] rfl ?_
 refine Ai it 2 rfl (by simp) ?_
 refine Aq [_,_] rfl ?_
 refine Md rfl rfl (fun h2=>by exfalso;omega) (fun h2=>?_)
 refine Aq [_,_,_] rfl ?_
 refine Ai it 2 rfl (by simp) ?_
 refine Aq [_,_] rfl ?_
 refine Md rfl rfl (fun h3=>by exfalso;omega) (fun h3=>?_)
 refine Aq [_,_] rfl ?_
 refine Ai it 3 rfl ⟨⟨by omega,by omega⟩,trivial,trivial,trivial⟩ ?_ --ok
 refine Aa rfl (AKO x rfl rfl rfl rfl (AJW (by decide +kernel) hx) ?_)
 have h8:=ACp (n:=x) (k:=8) (by simpa using hx)
 have e:(UInt8.ofNat (T3 x)).toNat=T3 x:=by
  simp only [UInt8.toNat_ofNat'];omega
 rw [e]
 refine wk 2 cz ?_
 rw [show (0:Int)+((T3 x:Nat):Int)=((T3 x:Nat):Int) by omega]
 exact ge
theorem AAt {x:Nat}(hx:x<256):Bn Tryz.prog 154 [.int .u64 x] [] [] (Rv (.int .i64 (T3 x)) []):=by
 refine Ab (F:=AED) rfl fun C=>?_
 refine wk 9 (ct @ACs cz) ?_
 exact ge
section
variable {b cap n:Nat}{cs:List Value}{l K:List Int}
end
open Go Go.Fw
set_option maxRecDepth 100000
set_option linter.unusedVariables false
set_option linter.unusedSimpArgs false
set_option maxHeartbeats 0
abbrev AJ4 (b cap n:Nat) (P:List Int→Prop):Value→List Fact→List A3→Prop:=fun v Φ β=>∃ cs' L,P L∧v = .tuple #[]∧Φ=[A5 Aj ⟨some b,cap,cs'⟩ n L]∧β=[(some b,3,cs')]
section
variable {b cap n a e:Nat}{cs:List Value}{l:List Int}
theorem O1 (hn:n≤1000000) (hr:∀ x∈l,Bx .i64 x) (hl:l.length=n) (hae:a≤e) (he:e≤n) :
  Bn Tryz.prog 183 [.slice (some ⟨b,0,none⟩) n cap,.int .i64 a,.int .i64 e] [(some b,3,cs)] [A5 Aj ⟨some b,cap,cs⟩ n l] (AJ4 b cap n fun L=>Seg a e l L∧K4 L a e):=by
 refine Ab (F:=Fb) rfl fun C=>?_
 refine wk 3 cz ?_
 refine Af (X:=Nat×List Value×List Int) [0,1,2] [0] (fun x=>[(6,.int .i64 (x.1:Int))]) (fun x=>[(some b,3,x.2.1)]) (fun x=>[A5 Aj ⟨some b,cap,x.2.1⟩ n x.2.2]) (fun x=>a+1≤x.1∧(x.1≤e∨x.1=a+1)∧Seg a e l x.2.2∧K4 x.2.2 a x.1) (fun x=>e-x.1) (a+1,cs,l) [0] rfl rfl rfl ⟨Nat.le_refl _,.inr rfl,.refl,.short (Nat.le_refl _)⟩ (by repeat (first|exact Fr.sub_nil _|refine Fr.sub_cons rfl ?_)) rfl rfl ?_
 rintro ⟨i,cs,L⟩ ⟨hi1,hi,hS,ho⟩ ih
 simp only [List.cons_append,List.nil_append] at hi1 hi hS ho ih ⊢
 by_cases hin:i<e
 ·refine wk 7 cz ?_
  intro h1
  refine Af (X:=Nat×List Value×List Int) [0,1,2,6,10,11,12,15] [0,1] (fun x=>[(7,.int .i64 (x.1:Int))]) (fun x=>[(some b,3,x.2.1)]) (fun x=>[A5 Aj ⟨some b,cap,x.2.1⟩ n x.2.2]) (fun x=>x.1≤i∧a≤x.1∧Seg a e l x.2.2∧AH1 x.2.2 a i x.1) (fun x=>x.1) (i,cs,L) [0] rfl rfl rfl ⟨Nat.le_refl _,by omega,hS,AGp ho⟩ (by repeat (first|exact Fr.sub_nil _|refine Fr.sub_cons rfl ?_)) rfl rfl ?_
  rintro ⟨j,cs,L⟩ ⟨hji,haj,hS,ho⟩ ihj
  simp only [List.cons_append,List.nil_append] at hji haj hS ho ihj ⊢
  have hLl:L.length=n:=hS.len.trans hl
  by_cases hj0:a<j
  ·have at_u:=gt0 (L:=L) (i:=j) (by omega)
   have at_v:=gt0 (L:=L) (i:=j-1) (by omega)
   have hu:=AHd (hS.inR hr) (i:=j) (by omega)
   have hv:=AHd (hS.inR hr) (i:=j-1) (by omega)
   simp only [Bx] at hu hv
   by_cases hx:Bj L j<Bj L (j-1)
   ·have ihj':=fun cs=>ihj (j-1,cs,sw L j (j-1)) (by dsimp only;omega) ⟨by dsimp only;omega,by dsimp only;omega,hS.trans (AAf (by omega) (by omega) (by omega) (by omega) (by omega)),AHD ho hj0 (by omega) hji hx⟩
    dsimp only at ihj'
    rw [sw] at ihj'
    generalize Bj L j=u at *
    generalize Bj L (j-1)=v at *
    refine wk 5 (ct @Rf cz) ?_
    intro h2
    (apply Gd (x0:=none) it mx 0 15 [2,3,4] 1;(· rfl);(· rfl);(· rfl);(· decide))
    simp only [List.drop_zero]
    (apply A1 5;(· rfl);(· exact ⟨⟨by omega,by omega⟩,trivial,trivial,trivial,trivial,trivial⟩))
    (apply A1 2;(· rfl);(· simp))
    (apply Ac (v:=Value.int IntKind.i64 ((((j)-1:Nat)):Int));(· rfl);(· exact Bz fun _=>AD4 it _ rfl ⟨by omega,by omega⟩ (by omega) Al))
    simp only [Nat.add_sub_cancel]
    (apply Ac;(· rfl);(· exact Bz fun _=>Be (j-1) (j-1) rfl rfl Ce rfl (by omega) (Nat.mul_one _) Al))
    (apply Ac;(· rfl);(· exact Hz 0 0 (j-1) rfl rfl rfl Ci rfl (by assumption)))
    (apply A1 2;(· rfl);(· simp))
    (apply Ac;(· rfl);(· exact Bz fun _=>Be (j) (j) rfl rfl Ce rfl (by omega) (Nat.mul_one _) Al))
    (apply Ac;(· rfl);(· exact Hz 0 0 (j) rfl rfl rfl Ci rfl (by assumption)))
    (apply Ac;(· rfl);(· exact Bz fun _=>Be (j) (j) rfl rfl Ce rfl (by omega) (Nat.mul_one _) Al)) --ok
    refine Fs rfl ?_
    rotate_left
    rfl
    simp only [List.map_nil,List.nil_append]
    refine G5 it rfl rfl ⟨⟨_,_,_,_,rfl,rfl,rfl,rfl,rfl,rfl,(by first|trivial|(repeat' first|exact trivial|apply And.intro|omega))⟩,⟨⟨_,_,_,_,rfl,rfl,rfl,rfl,rfl,rfl,(by first|trivial|(repeat' first|exact trivial|apply And.intro|omega))⟩,⟨⟨_,_,_,_,rfl,rfl,rfl,rfl,rfl,rfl,(by first|trivial|(repeat' first|exact trivial|apply And.intro|omega))⟩,trivial⟩⟩⟩ (Hh (vs:=[Value.int IntKind.i64 v]) (z:=(v:Int)) 0 0 (j) rfl rfl rfl rfl rfl Ci (Nat.mul_one _).symm (by omega) (fun w A hG=>(Dz (by first|(simp only [Bx];omega)|(simp [Bx];done)))) fun cs1=>?_)
    refine Is it ⟨⟨_,_,_,_,rfl,rfl,rfl,rfl,rfl,rfl,(by first|trivial|(repeat' first|exact trivial|apply And.intro|omega))⟩,⟨⟨_,_,_,_,rfl,rfl,rfl,rfl,rfl,rfl,(by first|trivial|(repeat' first|exact trivial|apply And.intro|omega))⟩,⟨⟨_,_,_,_,rfl,rfl,rfl,rfl,rfl,rfl,(by first|trivial|(repeat' first|exact trivial|apply And.intro|omega))⟩,trivial⟩⟩⟩ ?_
    refine wk 1 cz ?_
    refine Aa rfl (Hh (vs:=[Value.int IntKind.i64 u]) (z:=(u:Int)) 0 0 (j-1) rfl rfl rfl rfl rfl Ci (Nat.mul_one _).symm (by omega) (fun w A hG=>(Dz (by first|(simp only [Bx];omega)|(simp [Bx];done)))) fun cs2=>?_)
    refine wk 3 cz ?_
    exact tw (ihj' cs2)
   ·have stop':=AD9 ho haj (.inr hx)
    generalize Bj L j=u at *
    generalize Bj L (j-1)=v at *
    refine wk 7 (ct @Rf cz) ?_
    intro h2
    exact tw (ih (i+1,cs,L) (by dsimp only;omega) ⟨by dsimp only;omega,.inl (by dsimp only;omega),hS,stop'⟩)
  ·refine wk 7 cz ?_
   exact tw (ih (i+1,cs,L) (by dsimp only;omega) ⟨by dsimp only;omega,.inl (by dsimp only;omega),hS,AD9 ho haj (.inl (by omega))⟩)
 ·clear ih
  refine wk 5 cz ?_
  intro h1
  refine Cv [0] rfl rfl ⟨cs,L,⟨hS,fun u v h1 h2 h3=>ho u v h1 h2 (by omega)⟩,rfl,rfl,rfl⟩
end
open Go Go.Fw
set_option maxRecDepth 100000
set_option linter.unusedVariables false
set_option linter.unusedSimpArgs false
set_option maxHeartbeats 0
abbrev AJB {X:Type}(st:X→List A3) (gf:X→Fact) (I:Nat→X→Prop) (i:Nat) (Qs:List Nat→List Fact→List A3→Prop):Value→List Fact→List A3→Prop:=fun v Φ β =>
 (v=jv none∧∃ x,I (i+1) x∧Φ=[gf x]∧β=st x)∨∃ q,v=jv (some q)∧Qs q Φ β
theorem AHu {X:Type}{st:X→List A3}{gf:X→Fact}{I:Nat→X→Prop}{i:Nat}{Qs:List Nat→List Fact→List A3→Prop}{Φ:List Fact}{β:List A3}(h:AJB st gf I i Qs (jv none) Φ β):∃ x,I (i+1) x∧Φ=[gf x]∧β=st x:=by
 rcases h with ⟨_,h⟩|⟨q,e,_⟩
 ·exact h
 ·exact absurd (AEM e) (by simp)
theorem ADZ {X:Type}{st:X→List A3}{gf:X→Fact}{I:Nat→X→Prop}{i:Nat}{Qs:List Nat→List Fact→List A3→Prop}{q:List Nat}{Φ:List Fact}{β:List A3}(h:AJB st gf I i Qs (jv (some q)) Φ β):Qs q Φ β:=by
 rcases h with ⟨e,_⟩|⟨q',e,h⟩
 ·exact absurd (AEM e) (by simp)
 ·obtain rfl:=Option.some.inj (AEM e)
  exact h
section
variable {ps:Option Addr}{n cs:Nat}{data:List Int}
theorem Mi:Bn Tryz.prog 69 [.slice ps n cs] [] []
  (fun v Φ β=>∃ b2,v = .func (.func 117) #[] #[.pointer (some ⟨b2,0,none⟩)]∧Φ=[Jo b2 [.slice ps n cs]]∧β=[]):=by
 refine Ab (F:=Mz) rfl fun C=>?_
 refine wk 7 cz ?_
 intro b1 --ok
 refine U1 0 rfl ?_
 simp only [List.eraseIdx_cons_zero]
 exact Wk [0] rfl rfl rfl ⟨_,rfl,rfl,rfl⟩
theorem AE9 {b2 l:Nat}{r:Loop}{B:Code}{X:Type}{st:X→List A3}{gf:X→Fact}{I:Nat→X→Prop}{Qs:List Nat→List Fact→List A3→Prop}(x0:X) (h0:I 0 x0) (hr:Rdy r)
  (hY:∀ i x v,I i x→data[i]?=some v→Bx .i64 v→AGW Tryz.prog l r B [.int .i64 v] (st x) [gf x] (AJB st gf I i Qs)) :
  AJ2 Tryz.prog 117 [.func (.yield l) #[] #[],.pointer (some ⟨b2,0,none⟩)] l r B (st x0) [Jo b2 [.slice ps n cs],Ap Aj ps n cs data,gf x0]
   (fun Φ β=>∃ x,I data.length x∧Φ=[gf x]∧β=st x) Qs:=by
 refine ABN (F:=K0) rfl fun C hoff=>?_
 refine A8 1 rfl fun hn hb _=>?_
 subst hn
 have hb':data.length*8≤140737488355328:=hb
 refine wk 5 cz ?_ --ok
 refine Af (X:=Nat×X) [0,5,6] [0,1,2] (fun z=>[(7,.int .i64 (z.1:Int))]) (fun z=>st z.2) (fun z=>[gf z.2]) (fun z=>I z.1 z.2∧z.1≤data.length) (fun z=>data.length-z.1) (0,x0) [2] rfl rfl rfl ⟨h0,Nat.zero_le _⟩ (by repeat (first|exact Fr.sub_nil _|refine Fr.sub_cons rfl ?_)) rfl rfl ?_
 rintro ⟨i,x⟩ ⟨hi,hi2⟩ ih
 simp only [List.cons_append,List.nil_append] at hi hi2 ih ⊢
 by_cases hl:i<data.length
 ·obtain ⟨v,at_v⟩:∃ v,data[i]?=some v:=⟨_,List.getElem?_eq_getElem hl⟩
  refine Aq [_,_,_,_] rfl ?_
  refine Ai it 1 rfl (by simp) ?_
  refine Aq [_,_,_,_] rfl ?_
  refine Md rfl rfl (fun h1=>?_) (fun h1=>by exfalso;omega)
  refine Aq [_,_,_,_,_,_] rfl ?_
  refine Aa rfl (H8 2 (i) rfl rfl rfl Ce rfl (by omega) fun z1 hz1 b1 o1=>?_)
  obtain rfl:_=z1:=Option.some.inj (at_v.symm.trans hz1)
  refine Aa rfl (Av 0 rfl rfl Ci fun ⟨r1,r2⟩=>?_)
  refine Ai it 1 rfl (by simp) ?_
  refine Aq [_,_,_,_,_,_] rfl ?_
  refine Ai it 2 rfl (by simp) ?_ --ok
  refine AF3 (n:=(st x).length) [1] hoff hr rfl rfl rfl (by rw [List.take_length];exact hY i x v hi at_v (by simp only [Bx];omega)) rfl ?_ ?_
  ·intro Φ β' hq
   obtain ⟨x',hx',rfl,rfl⟩:=AHu hq
   rw [List.drop_length,List.append_nil]
   have ih':=ih (i+1,x') (by dsimp only;omega) ⟨hx',by dsimp only;omega⟩
   dsimp only at ih'
   clear ih
   refine wk 6 cz ?_
   exact tw (ih')
  ·intro q Φ β' C' hq
   have hq:=ADZ hq
   rw [List.drop_length,List.append_nil]
   refine Ai it 1 rfl (by simp) ?_
   refine Aq [_,_,_,_,_] rfl ?_
   refine R1 rfl rfl ?_ --ok
   exact ADr rfl rfl hq fun g hg=>List.mem_append_left _ hg
 ·obtain rfl:i=data.length:=by omega
  clear ih
  refine wk 5 cz ?_
  intro h1 --ok
  refine AKv hoff hr ?_
  exact Cv [0] rfl rfl ⟨x,hi,rfl,rfl⟩
theorem Vd {b2:Nat}(hl:data.length≤1000000):Bn Tryz.prog 152 [.slice none 0 0,.func (.func 117) #[] #[.pointer (some ⟨b2,0,none⟩)]] [] [Jo b2 [.slice ps n cs],Ap Aj ps n cs data] (RwI data.length data):=by
 refine Ab (F:=Kt) rfl fun C=>?_
 refine Aq [_,_] rfl ?_
 refine Aa rfl (O8 rfl rfl fun b1=>?_)
 refine Ai it 1 rfl (by simp) ?_
 refine Aq [_,_,_] rfl ?_
 refine Ai it 1 rfl (by simp) ?_
 refine Aq [_,_,_] rfl ?_ --ok
 refine Fh Aj 3 ?_
 refine AAl (n:=2) (Γ1:=[Jo b2 [.slice ps n cs],Ap Aj ps n cs data,A5 Aj ⟨none,0,[]⟩ 0 []]) (Qs:=fun _ _ _=>False) [1,2,0] rfl rfl rfl rfl
  (fun l r hr hY=>AE9 (X:=Nat×Row) (data:=data) (st:=fun x=>[(x.2.bo,3,x.2.cs),(some b1,22,[.slice (ad x.2.bo) x.1 x.2.cap])]) (gf:=fun x=>A5 Aj x.2 x.1 (data.take x.1)) (I:=fun i x=>x.1=i) (0,⟨none,0,[]⟩) rfl hr fun i x v hi at_v hv=>hY _ _ _ _ rfl fun C hoff=>?_) ?_ (fun _ _ _ _ _ h=>h.elim)
 ·obtain ⟨i',r1⟩:=x
  obtain rfl:i'=i:=hi
  have hil:i'<data.length:=(List.getElem?_eq_some_iff.1 at_v).1
  simp only [Bx] at hv
  obtain ⟨v0,v1⟩:=hv
  refine Uq (σ':=[(7,.int .i64 v),(2,.pointer (some ⟨b1,0,none⟩))]) (Ul rfl) ?_
  refine Aq [_,_,_] rfl ?_
  refine Ai it 1 rfl (by simp) ?_
  refine Aq [_,_] rfl ?_ --ok
  refine ALB hoff hr.1 fun C'=>?_
  simp only [List.cons_append,List.nil_append]
  refine wk 4 cz ?_
  intro b3
  refine Aa rfl (Fj (z:=(v:Int)) 1 0 0 rfl rfl rfl rfl rfl Ce Ee rfl (fun w A hG=>(Dz (by first|(simp only [Bx];omega)|(simp [Bx];done)))) (by omega) _ G2 (by omega) fun r2=>?_)
  refine wk 2 cz ?_ --ok
  refine Qw [0,2] rfl rfl ?_
  refine ACD [0] rfl (.inl ⟨rfl,(i'+1,r2),rfl,?_,rfl⟩)
  dsimp only
  rw [List.take_add_one,at_v];rfl
 ·rintro Φ β' D C' ⟨⟨i',r1⟩,hi,rfl,rfl⟩
  obtain rfl:i'=data.length:=hi
  simp only [List.cons_append,List.nil_append]
  rw [List.take_length]
  refine wk 4 cz ?_ --ok
  simp only [List.drop_succ_cons,List.drop_zero,List.drop_nil]
  refine Dt 2 [0] [0] rfl (.tmp rfl .nil) rfl rfl rfl ⟨r1,rfl,rfl,rfl⟩
theorem Rs {b2:Nat}(hl:data.length≤1000000):Bn Tryz.prog 115 [.func (.func 117) #[] #[.pointer (some ⟨b2,0,none⟩)]] [] [Jo b2 [.slice ps n cs],Ap Aj ps n cs data] (RwI data.length data):=by
 refine Ab (F:=Rn) rfl fun C=>?_
 have Kj:=fun {b2:Nat}=>Vd (ps:=ps) (n:=n) (cs:=cs) (data:=data) (b2:=b2) hl
 refine wk 7 (ct @Kj cz) ?_
 intro r1
 refine Dt 1 [0] [0] rfl (.tmp rfl .nil) rfl rfl rfl ⟨r1,rfl,rfl,rfl⟩
end
open Go Go.Fw
set_option maxRecDepth 100000
set_option linter.unusedVariables false
set_option linter.unusedSimpArgs false
set_option maxHeartbeats 0
theorem ABw:Bn Tryz.prog 183 [.slice none 0 0,.int .i64 0,.int .i64 0] [] [] (Rv (.tuple #[]) []):=by
 refine Ab (F:=Fb) rfl fun C=>?_
 refine wk 3 cz ?_
 refine Af (X:=Unit) [0,1,2] [] (fun _=>[(6,.int .i64 1)]) (fun _=>[]) (fun _=>[]) (fun _=>True) (fun _=>0) () [] rfl rfl rfl trivial (by repeat (first|exact Fr.sub_nil _|refine Fr.sub_cons rfl ?_)) rfl rfl ?_
 rintro ⟨⟩-ih
 simp only [List.cons_append,List.nil_append] at ih ⊢
 clear ih
 refine wk 5 cz ?_
 intro h1 --ok
 exact Cv [] rfl rfl ⟨rfl,rfl,rfl⟩
theorem AGU {k:Nat}(hk:k≤1000):Bn Tryz.prog 153 [.slice none 0 0,.int .i64 0,.int .i64 0,.int .i64 k] [] [] (Rv (.tuple #[]) []):=by
 refine Ab (F:=G6) rfl fun C=>?_
 have Ds:=ABw
 refine wk 5 cz ?_
 refine Af (X:=Unit) [0] [] (fun _=>[(1,.int .i64 0),(2,.int .i64 0)]) (fun _=>[]) (fun _=>[]) (fun _=>True) (fun _=>0) () [] rfl rfl rfl trivial (by repeat (first|exact Fr.sub_nil _|refine Fr.sub_cons rfl ?_)) rfl rfl ?_
 rintro ⟨⟩-ih
 simp only [List.cons_append,List.nil_append] at ih ⊢
 clear ih
 refine wk 10 (ct @Ds cz) ?_
 intro h1 --ok
 exact Wk [] rfl rfl rfl ⟨rfl,rfl,rfl⟩
theorem AEK:Bn Tryz.prog 116 [.slice none 0 0] [] [] (Rv (.tuple #[]) []):=by
 refine Ab (F:=Il) rfl fun C=>?_
 have h8:=ACp (n:=0) (k:=8) (by simp)
 have Ev:=AGU (k:=T3 0) (by omega)
 refine wk 9 (ct @AAt (ct @Ev cz)) ?_ --ok
 exact Cv [] rfl rfl ⟨rfl,rfl,rfl⟩
section
variable {b cap n:Nat}{cs:List Value}{l:List Int}{k:Int}
theorem ADk (hn:n≤12) (hr:∀ x∈l,Bx .i64 x) (hl:l.length=n) :
  Bn Tryz.prog 153 [.slice (some ⟨b,0,none⟩) n cap,.int .i64 0,.int .i64 n,.int .i64 k] [(some b,3,cs)] [A5 Aj ⟨some b,cap,cs⟩ n l] (AJ4 b cap n fun L=>Seg 0 n l L∧K4 L 0 n):=by
 refine Ab (F:=G6) rfl fun C=>?_
 have Ds:=fun {cs:List Value}=>O1 (b:=b) (cap:=cap) (n:=n) (cs:=cs) (l:=l) (a:=0) (e:=n) (by omega) hr hl (Nat.zero_le _) (Nat.le_refl _)
 refine wk 5 cz ?_
 refine Af (X:=Nat) [0] [0] (fun _=>[(1,.int .i64 0),(2,.int .i64 n)]) (fun _=>_) (fun _=>[]) (fun _=>True) (fun i=>i) 0 [] rfl rfl rfl trivial (by repeat (first|exact Fr.sub_nil _|refine Fr.sub_cons rfl ?_)) rfl rfl ?_
 rintro i hi ih
 simp only [List.cons_append,List.nil_append] at hi ih ⊢
 refine wk 8 cz ?_
 intro h1
 refine Aa rfl (Zr 0 [0] rfl rfl (Ds) rfl ?_)
 rintro _ _ _ ⟨cs'1,L1,h2,h3,rfl,rfl,rfl⟩
 simp only [List.cons_append,List.nil_append]
 refine wk 1 cz ?_
 refine Wk [0] rfl rfl rfl ⟨_,_,‹Seg 0 n l _∧K4 _ 0 n›,rfl,rfl,rfl⟩
theorem AC9 (hn:n≤12) (hr:∀ x∈l,Bx .i64 x) (hl:l.length=n) :
  Bn Tryz.prog 116 [.slice (some ⟨b,0,none⟩) n cap] [(some b,3,cs)] [A5 Aj ⟨some b,cap,cs⟩ n l] (AJ4 b cap n fun L=>Seg 0 n l L∧K4 L 0 n):=by
 refine Ab (F:=Il) rfl fun C=>?_
 have h8:=ACp (n:=n) (k:=8) (by simpa using (show n<256 by omega))
 have Ev:=fun {k:Int}=>ADk (b:=b) (cap:=cap) (n:=n) (cs:=cs) (l:=l) (k:=k) hn hr hl
 refine wk 7 (ct @AAt cz) ?_
 refine Aa rfl (Zr 0 [0] rfl rfl (Ev) rfl ?_)
 rintro _ _ _ ⟨cs'1,L1,h1,h2,rfl,rfl,rfl⟩
 simp only [List.cons_append,List.nil_append]
 refine wk 1 cz ?_ --ok
 refine Cv [0] rfl rfl ⟨_,_,‹Seg 0 n l _∧K4 _ 0 n›,rfl,rfl,rfl⟩
end
section
variable {ps:Option Addr}{n cs:Nat}{data:List Int}
theorem AGV {b2:Nat}(hl:data.length≤255) (hS:∀ {b cap:Nat}{cs:List Value},Bn Tryz.prog 116 [.slice (some ⟨b,0,none⟩) data.length cap] [(some b,3,cs)] [A5 Aj ⟨some b,cap,cs⟩ data.length data] (AJ4 b cap data.length fun L=>Seg 0 data.length data L∧K4 L 0 data.length)):Bn Tryz.prog 68 [.func (.func 117) #[] #[.pointer (some ⟨b2,0,none⟩)]] [] [Jo b2 [.slice ps n cs],Ap Aj ps n cs data]
  (fun v Φ β=>∃ (r:Row) (L:List Int),v = .slice (ad r.bo) data.length r.cap∧Φ=[A5 Aj r data.length L]∧β=[(r.bo,3,r.cs)]∧Seg 0 data.length data L∧K4 L 0 data.length):=by
 refine Ab (F:=S6) rfl fun C=>?_
 have Rj:=fun {b2:Nat}=>Rs (ps:=ps) (n:=n) (cs:=cs) (data:=data) (b2:=b2) (by omega)
 refine wk 5 (ct @Rj cz) ?_
 intro r1
 simp only [List.cons_append,List.nil_append,List.append_nil]
 obtain ⟨bo,cap,cs1⟩:=r1
 cases bo with
 | none =>
  refine Z4 (q:=data.length=0∧cap=0) (fun w A hG=>by
   obtain ⟨_,h2,_⟩:=hG _ (Ae (n:=0) rfl)
   rcases h2 with ⟨_,h3,h4,_⟩|⟨b,h3,_⟩
   ·exact ⟨h3,h4⟩
   ·cases h3) fun ⟨h1,h2⟩=>?_
  obtain rfl:data=[]:=List.eq_nil_of_length_eq_zero h1
  subst h2
  have F7:=AEK
  simp only [ad,List.length_nil]
  refine wk 7 (ct @F7 cz) ?_ --ok
  refine Dt 1 [0] [0] rfl (.tmp rfl .nil) rfl rfl rfl ⟨⟨none,0,cs1⟩,[],rfl,rfl,rfl,Seg.refl,.short (by simp)⟩
 | some b =>
  have F7:=fun {cs:List Value}=>hS (b:=b) (cap:=cap) (cs:=cs)
  simp only [ad]
  refine wk 3 cz ?_
  refine Aa rfl (Zr 0 [0] rfl rfl (F7) rfl ?_)
  rintro _ _ _ ⟨cs'1,L1,h1,h2,rfl,rfl,rfl⟩
  simp only [List.cons_append,List.nil_append]
  refine wk 3 cz ?_ --ok
  refine Dt 1 [0] [0] rfl (.tmp rfl .nil) rfl rfl rfl ⟨⟨some b,cap,cs'1⟩,L1,rfl,rfl,rfl,h1.1,h1.2⟩
theorem Z9 {b2:Nat}(hl:data.length≤12) (hr:∀ x∈data,Bx .i64 x):Bn Tryz.prog 68 [.func (.func 117) #[] #[.pointer (some ⟨b2,0,none⟩)]] [] [Jo b2 [.slice ps n cs],Ap Aj ps n cs data]
  (fun v Φ β=>∃ (r:Row) (L:List Int),v = .slice (ad r.bo) data.length r.cap∧Φ=[A5 Aj r data.length L]∧β=[(r.bo,3,r.cs)]∧Seg 0 data.length data L∧K4 L 0 data.length):=AGV (by omega) fun {b cap cs}=>AC9 (b:=b) (cap:=cap) (cs:=cs) hl hr rfl
end
open Go Go.Fw
set_option maxRecDepth 100000
set_option linter.unusedVariables false
set_option linter.unusedSimpArgs false
set_option maxHeartbeats 0
def mvK (n:Nat) (v l:List Int) (i:Nat):List Int:=(List.range n).map fun j:Nat=>if l.idxOf (j:Int)<i then Bj v (l.idxOf (j:Int)) else 0
theorem AIp (n:Nat) (v l:List Int):mvK n v l 0=List.replicate n 0:=by
 rw [mvK]
 refine List.ext_getElem (by simp) fun i h1 h2=>?_
 simp
theorem AIZ {n:Nat}{v l:List Int}(h:PmOk n l):mvK n v l n=mvI n v l:=by
 rw [mvK,mvI,pkI,AHt,List.map_map]
 refine List.map_congr_left fun j hj=>?_
 have h1:=List.idxOf_lt_length_iff.2 (h.mem (List.mem_range.1 hj))
 rw [h.len] at h1
 simp [h1]
theorem AJV {n i:Nat}{v l:List Int}:(mvK n v l i).length=n:=by simp [mvK]
theorem AKc {n i:Nat}{v l:List Int}{p:Int}(h:PmOk n l) (hp:l[i]?=some p):(mvK n v l i).set p.toNat (Bj v i)=mvK n v l (i+1):=by
 have hi:i<l.length:=(List.getElem?_eq_some_iff.1 hp).1
 have hpe:l[i]=p:=(List.getElem?_eq_some_iff.1 hp).2
 obtain ⟨p0,p1⟩:=h.rng p (List.mem_of_getElem? hp)
 have hix:l.idxOf p=i:=by rw [← hpe];exact AI7 h.nd hi
 refine List.ext_getElem (by simp [mvK]) fun j h1 h2=>?_
 rw [List.getElem_set]
 have hjn:j<n:=by simpa [mvK] using h2
 simp only [mvK,List.getElem_map,List.getElem_range]
 by_cases e:p.toNat=j
 ·rw [if_pos e]
  have ej:(j:Int)=p:=by omega
  rw [ej,hix,if_pos (by omega)]
 ·rw [if_neg e]
  have hne:l.idxOf (j:Int)≠i:=fun h3=>by
   have h4:=List.idxOf_lt_length_iff.2 (h.mem hjn)
   have h5:=List.getElem_idxOf h4
   simp only [h3] at h5
   omega
  by_cases h3:l.idxOf (j:Int)<i
  ·rw [if_pos h3,if_pos (by omega)]
  ·rw [if_neg h3,if_neg (by omega)]
theorem AJl {n k:Nat}{l L:List Int}(hs:Seg 0 k l L) (ho:K4 L 0 k) (hl:l.length=k):(k=n∧stP n L)↔PmOk n l:=by
 have hp:=hs.perm
 have hLl:L.length=k:=by rw [hp.length_eq,hl]
 constructor
 ·rintro ⟨rfl,h1,h2⟩
  exact ⟨hl,hp.nodup_iff.1 (h2.imp fun h=>by omega),fun x hx=>h1 x (hp.mem_iff.2 hx)⟩
 ·intro h
  have hkn:k=n:=by rw [← hl];exact h.len
  refine ⟨hkn,fun x hx=>h.rng x (hp.mem_iff.1 hx),?_⟩
  have hnd:L.Nodup:=hp.nodup_iff.2 h.nd
  refine List.pairwise_iff_getElem.2 fun i j hi hj hij=>?_
  have h1:=ho i j (Nat.zero_le _) hij (by omega)
  rw [AGE hi,AGE hj] at h1
  have h2:L[i]≠L[j]:=fun e=>by
   have:=(List.getElem_inj hnd).1 e
   omega
  omega
noncomputable def pmE (P M:Int) (md:List Int) (N:Int) (rows:List (List Int)) (l:List Int):Int:=open Classical in if Nw P M md N rows≠0 then Nw P M md N rows else if PmOk N.toNat l then 0 else 6
noncomputable def pmX (P M:Int) (md:List Int) (N:Int) (rows:List (List Int)) (l:List Int):CR:=if pmE P M md N rows l=0 then ⟨P,M,N,md,(C4 P.toNat M.toNat md N.toNat (rows.map fun r=>mvI N.toNat r l)).1,0⟩ else zeR (pmE P M md N rows l)
theorem AHr {p m n:Nat}{md l:List Int}{rows:List (List Int)}(CC:Cok p m md n rows) (h:PmOk n l):pmX p m md n rows l=⟨p,m,n,md,(C4 p m md n (rows.map fun r=>mvI n r l)).1,0⟩:=by
 rw [pmX,if_pos (by rw [pmE,if_neg (fun e=>e CC.ck),Int.toNat_natCast,if_pos h])];simp only [Int.toNat_natCast]
theorem AKC {p m n:Nat}{md l:List Int}{rows:List (List Int)}(CC:Cok p m md n rows) (h:¬ PmOk n l):pmX p m md n rows l=zeR 6:=by
 have:pmE p m md n rows l=6:=by rw [pmE,if_neg (fun e=>e CC.ck),Int.toNat_natCast,if_neg h]
 rw [pmX,if_neg (by omega),this]
theorem AKJ {P M N:Int}{md l:List Int}{rows:List (List Int)}(h:Nw P M md N rows≠0):pmX P M md N rows l=zeR (Nw P M md N rows):=by
 have:pmE P M md N rows l=Nw P M md N rows:=by rw [pmE,if_pos h]
 rw [pmX,this,if_neg h]
theorem AKp {q n:Nat}(hq:0<q) {v l:List Int}(hv:Wd q n v):Wd q n (mvI n v l):=by
 have:=AHW hq hv (AHt n l)
 rwa [show (AHt n l).length=n by simp [AHt]] at this
theorem ALG {q n:Nat}(hq:0<q) {rows:List (List Int)}{l:List Int}(hM:Da q n rows):Da q n (rows.map fun r=>mvI n r l):=fun r hr=>by
 obtain ⟨s,hs,rfl⟩:=List.mem_map.1 hr
 exact AKp hq (hM s hs)
section
variable {P M:Int}{n c nm cm ns cs':Nat}{pm ps pt:Option Addr}{md l:List Int}{rows:List (List Int)}
theorem V0 {N:Int}(hN:Bx .i64 N) (hll:l.length≤255) (hS:(∀ x∈l,Bx .i64 x)→∀ {b2 n cs:Nat}{ps:Option Addr},Bn Tryz.prog 68 [.func (.func 117) #[] #[.pointer (some ⟨b2,0,none⟩)]] [] [Jo b2 [.slice ps n cs],Ap Aj ps n cs l] (fun v Φ β=>∃ (r:Row) (L:List Int),v = .slice (ad r.bo) l.length r.cap∧Φ=[A5 Aj r l.length L]∧β=[(r.bo,3,r.cs)]∧Seg 0 l.length l L∧K4 L 0 l.length)):Bn Tryz.prog 22 [.agg #[.int .i64 P,.int .i64 M,.slice pm nm cm,.int .i64 N,.slice ps n c],.slice pt ns cs'] [] [Ap Aj pm nm cm md,Ap (Ah Aj) ps n c rows,Ap Aj pt ns cs' l] (CdX (pmX P M md N rows l)):=by
 refine Ab (F:=X4) rfl fun C=>?_
 refine A8 1 rfl fun hn hb1 _=>?_
 subst hn
 refine A8 2 rfl fun hn hb _=>?_
 subst hn
 refine AMF 2 rfl fun hrl=>?_
 have hb':l.length*8≤140737488355328:=hb
 have hr:=Ll P M md N rows
 have Au:=fun {pm ps:Option Addr}{nm cm n c:Nat}=>D4 (P:=P) (M:=M) (pm:=pm) (ps:=ps) (nm:=nm) (cm:=cm) (n:=n) (c:=c) (md:=md) (rows:=rows) (N:=N) hN rfl
 by_cases h0:Nw P M md N rows=0
 ·obtain ⟨p,m,n',rfl,rfl,rfl,CC⟩:=Vl h0
  rw [h0] at Au
  have M1:=fun {ps:Option Addr}{n cs:Nat}=>Mi (ps:=ps) (n:=n) (cs:=cs)
  have S0:=fun {ps:Option Addr}{n cs b2:Nat}=>hS hrl (ps:=ps) (n:=n) (cs:=cs) (b2:=b2)
  have C8:=fun {L:List Int}{ps:Option Addr}{nn c:Nat}{res:Bool}(h:decide (stP (n':Int) L)=res)=>Gw (ps:=ps) (nn:=nn) (c:=c) (n:=(n':Int)) (l:=L) h
  refine wk 15 (ct @Au (ct @M1 cz)) ?_
  intro b1 b2 h1 b21
  refine Aa rfl (Aw [0,3] rfl (S0) rfl ?_)
  rintro _ _ _ ⟨r1,L1,rfl,rfl,rfl,h2,h3⟩
  simp only [List.cons_append,List.nil_append]
  refine wk 4 cz ?_
  have hsg:=‹Seg 0 l.length l L1›
  have hso:=‹K4 L1 0 l.length›
  refine Dx 0 0 rfl rfl (by show l.length*8≤140737488355328;omega) ?_
  simp only [List.eraseIdx_cons_zero]
  have hiff:=AJl (n:=n') hsg hso rfl
  refine Dl (Ap Aj none 0 0 []) (fun w A _=>Cm _ w A none 0) ?_
  refine Dl (Ap (Ah Aj) none 0 0 []) (fun w A _=>Cm _ w A none 0) ?_
  by_cases hp:PmOk n' l
  ·obtain ⟨hln,hst⟩:=hiff.2 hp
   rw [AHr CC hp]
   have K:=CC.K
   have hq:=K.q
   have q2:=(Dy K).q2
   have hl:=CC.len
   have h64:=CC.n64
   have hSM:Da (p ^ m) n' (rows.map fun r=>mvI n' r l):=ALG (by omega) CC.mat
   have hRl:(rows.map fun r=>mvI n' r l).length=rows.length:=List.length_map _
   have C8:=fun {ps:Option Addr}{nn c:Nat}=>Gw (ps:=ps) (nn:=nn) (c:=c) (n:=(n':Int)) (l:=L1) (decide_eq_true hst)
   have Dp:=fun {pm ps:Option Addr}{nm cm n c:Nat}=>I5 (pm:=pm) (ps:=ps) (nm:=nm) (cm:=cm) (n:=n) (c:=c) (N:=n') (rows:=rows.map fun r=>mvI n' r l) K CC.n1 CC.n64 (by omega) hSM
   generalize hG:C4 p m md n' (rows.map fun r=>mvI n' r l)=G at *
   clear hG
   refine Aa rfl (An rfl If ?_)
   refine Aa rfl (Bu 1 rfl rfl Ci rfl ?_)
   refine Ai it 2 rfl (by simp) ?_
   refine Qq (t:=28) rfl (fun h4=>by exfalso;omega) (fun h4=>?_)
   refine Ai it 1 rfl (by simp) ?_
   refine Ch rfl rfl (An rfl If ?_)
   refine Ch rfl rfl (Bu 1 rfl rfl Ci rfl ?_)
   refine Ch rfl rfl (Aw [2] rfl (C8) rfl ?_)
   rintro _ _ _ ⟨rfl,rfl,rfl⟩
   simp only [List.cons_append,List.nil_append]
   simp only [decide_true]
   refine Ai it 2 rfl (by simp) ?_
   refine Aq [_,_] rfl ?_
   refine Nl rfl rfl ?_
   refine Aq [_,_] rfl ?_
   refine Aa rfl (An rfl If ?_)
   refine Aa rfl (Bu 1 rfl rfl Ci rfl ?_)
   refine Aa rfl (Dc (cs:=[Value.int IntKind.i64 ↑n',Value.slice none 0 0]) W1 Hq rfl rfl ?_)
   refine Aa rfl (B1 Hq fun b3=>?_)
   refine Aa rfl (Bf 0 rfl rfl rfl Gg rfl rfl (by simp [Value.oneCell']) ?_)
   refine Aq [_,_,_] rfl ?_
   refine Aa rfl (An rfl M0 ?_)
   refine Aa rfl (Bu 2 rfl rfl Hp rfl ?_)
   refine Aa rfl (Hv Df rfl ?_)
   refine Ai it 1 rfl (by simp) ?_
   refine Aq [_,_,_] rfl ?_
   refine Fh (Ah Aj) 22 ?_
   simp only [Cc,Dr,setB,List.take_succ_cons,List.cons_append,List.nil_append,List.take_zero,List.drop_succ_cons,List.drop_zero,List.length_singleton,Nat.zero_add]
   refine Af (X:=Nat×Row) [1,2,4,5,8,40,41] [0,1,2,3,4,5,6,7,8] (fun z=>[(42,.int .i64 (z.1:Int))]) (fun z=>(z.2.bo,22,z.2.cs)::(some b3,62,[.int .i64 (n':Nat),.slice (ad z.2.bo) z.1 z.2.cap])::_) (fun z=>[A5 (Ah Aj) z.2 z.1 ((rows.take z.1).map fun r=>mvI n' r l)]) (fun z=>z.1≤rows.length) (fun z=>rows.length-z.1) (0,⟨none,0,[]⟩) [0] rfl rfl rfl (Nat.zero_le _) (by repeat (first|exact Fr.sub_nil _|refine Fr.sub_cons rfl ?_)) rfl rfl ?_
   rintro ⟨i,r⟩ hi ih
   simp only [List.cons_append,List.nil_append] at hi ih ⊢
   by_cases hil:i<rows.length
   ·obtain ⟨u,at_u⟩:∃ u,rows[i]?=some u:=⟨_,List.getElem?_eq_getElem hil⟩
    have hu:=CC.mat u (List.mem_of_getElem? at_u)
    have hul:=hu.1
    have ih1:=fun r=>ih (i+1,r) (by dsimp only;omega) (by dsimp only;omega)
    dsimp only at ih1
    rw [List.take_add_one (l:=rows),at_u,Option.toList_some,List.map_append,List.map_cons,List.map_nil] at ih1
    clear ih
    refine wk 18 cz ?_
    intro h5 b4 o1 hz1 pa1 ca1 b5
    rw [show Ao .i64 (List.replicate n' 0)=Ak .i64 (mvK n' u l 0) by rw [AIp];simp [Ao,Ak]]
    simp only [List.cons_append,List.nil_append]
    refine Af (X:=Nat) [1,2,4,5,8,10,11,40,41,42,43,44,45,46,47,48,49,50] [0,1,2,3,4,5,6,7,8,9,10,11] (fun t=>[(51,.int .i64 (t:Int))]) (fun t=>(some b5,3,Ak .i64 (mvK n' u l t))::_) (fun _=>[]) (fun t=>t≤l.length) (fun t=>l.length-t) 0 [] rfl rfl rfl (Nat.zero_le _) (by repeat (first|exact Fr.sub_nil _|refine Fr.sub_cons rfl ?_)) rfl rfl ?_
    rintro t ht ih
    simp only [List.cons_append,List.nil_append] at ht ih ⊢
    by_cases htl:t<l.length
    ·obtain ⟨x,at_x⟩:∃ x,l[t]?=some x:=⟨_,List.getElem?_eq_getElem htl⟩
     obtain ⟨x0,x1⟩:=hp.rng x (List.mem_of_getElem? at_x)
     have at_y:u[t]?=some (Bj u t):=by rw [Bj,List.getD_eq_getElem?_getD,List.getElem?_eq_getElem (by omega)];rfl
     have hyr:=Bm (show 0<p ^ m by omega) hu t
     have ih':=ih (t+1) (by omega) (by omega)
     rw [← AKc hp at_x] at ih'
     have hKl:=AJV (n:=n') (i:=t) (v:=u) (l:=l)
     generalize mvK n' u l t=T at *
     clear ih
     refine wk 7 cz ?_
     intro h6 b6 o2 hz2
     refine Aa rfl (Av 0 rfl rfl Ci fun ⟨r2,r3⟩=>?_)
     refine wk 4 cz ?_
     intro b7 o3 hz3
     refine Aa rfl (Av 0 rfl rfl Ci fun ⟨r4,r5⟩=>?_)
     refine wk 5 cz ?_
     exact tw (ih')
    ·obtain rfl:t=l.length:=by omega
     clear ih
     have hmv:=AKp (l:=l) (show 0<p ^ m by omega) hu
     rw [show mvK n' u l l.length=mvI n' u l by rw [hln];exact AIZ hp]
     have hmr:∀ z∈mvI n' u l,Bx .i64 z:=fun z hz=>by have:=hmv.2 z hz;simp only [Bx];omega
     have hml:=hmv.1
     generalize mvI n' u l=T at *
     refine Bk 0 rfl hml.symm hmr (by omega) ?_
     refine wk 9 cz ?_
     intro h6 b6
     refine C3 1 0 rfl rfl (by show (n')*8≤140737488355328;omega) ?_
     refine Aa rfl (Fj (z:=T) 1 0 4 rfl rfl rfl rfl rfl Df Gq rfl (fun w A hG=>(Ax (hG _ (Ae (n:=0) rfl)))) (by omega) _ Jw (by omega) fun r2=>?_)
     refine wk 5 cz ?_
     refine Jx [true,false,true,true,true] [0,6,7,8,9,10,11,12,13,14] (by exact Ul rfl) rfl rfl (ih1 r2)
   ·obtain rfl:i=rows.length:=by omega
    clear ih
    rw [List.take_length]
    refine Dx 0 0 rfl rfl (by show rows.length*24≤140737488355328;omega) ?_
    simp only [List.eraseIdx_cons_zero,List.eraseIdx_cons_succ]
    refine wk 13 (ct @Dp cz) ?_
    intro h5 pb1 pc1 nb1 cb1 nc1 cc1
    refine Bb [0,1] rfl (.agg 1 rfl rfl Dj rfl (.tmp rfl .nil)) rfl ⟨_,_,_,_,_,_,rfl,rfl,rfl⟩
  ·rw [AKC CC hp]
   by_cases hln:l.length=n'
   ·have C8:=fun {ps:Option Addr}{nn c:Nat}=>Gw (ps:=ps) (nn:=nn) (c:=c) (n:=(n':Int)) (l:=L1) (decide_eq_false fun h=>hp (hiff.1 ⟨hln,h⟩))
    refine wk 17 (ct @C8 cz) ?_
    intro h4
    refine Bb [1,0] rfl (.agg 0 rfl rfl Dj rfl (.tmp rfl .nil)) rfl ⟨_,_,_,_,_,_,rfl,rfl,rfl⟩
   ·refine wk 13 cz ?_
    intro h4
    refine Bb [1,0] rfl (.agg 0 rfl rfl Dj rfl (.tmp rfl .nil)) rfl ⟨_,_,_,_,_,_,rfl,rfl,rfl⟩
 ·rw [AKJ h0]
  generalize Nw P M md N rows=e at *
  refine Dl (Ap Aj none 0 0 []) (fun w A _=>Cm _ w A none 0) ?_
  refine Dl (Ap (Ah Aj) none 0 0 []) (fun w A _=>Cm _ w A none 0) ?_
  refine wk 18 (ct @Au cz) ?_
  intro b1 b2 h1
  refine Bb [1,0] rfl (.agg 0 rfl rfl Dj rfl (.tmp rfl .nil)) rfl ⟨_,_,_,_,_,_,rfl,rfl,rfl⟩
end
end Go.Proofs.YtpienolhkccpnaaGreat
