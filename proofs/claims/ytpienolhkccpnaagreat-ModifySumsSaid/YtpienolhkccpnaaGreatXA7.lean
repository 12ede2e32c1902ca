/-
Canonical rows, null spaces, combinations and columns in the document. The document's tests of spaces and codes, of sets and pairs. Columns and ranks in the document, what is enough, and the least witness. What is enough by ranks and by witnesses; the walk of RepairSuffices. Words of messages in the document; the walk of RepairDetermines. Differences in a field; the program's test of a word. The rows of a space are taken off a word, in the program. A part split by a pivot: what holds meanwhile. A part split into what is no greater than an entry and what is. The parts of a list that is put in order by pivots. Two spaces: what is left of the rows of one, sums, intersections. Intersections; two codes, their sum and what they share. Sets of positions, and codes without them. Punctured and shortened codes. The word of ones. Expurgated and augmented codes, subcodes. Sums, products and digits in a field, behind a pointer. Extended codes. Codes that are the same; codes small enough. The branches of a node of a hitting tree, in the program and in the document. Dual codes and weights, in the document. The document's extended codes. Independent columns: a basis that grows, and the pivots of the rows. Independent columns and the pivots of the rows. Columns taken as long as they are independent, in plain words. Exclusion trees in plain words. Columns in their order, as far as they are independent, in the program. The nodes below a node of an exclusion tree, in the program. The program's walk through an exclusion tree. The program's CheckRank and CheckDistance. Entries of a word at some places, in the document. Tests of exclusion trees in the document. The document's sets of positions and punctured codes. The document's words of a space that vanish at some positions. The document's shortened and expurgated codes. The document's augmented codes. Binary digits; powers by squaring; binomial coefficients. Equations with their right hand sides, and their solution by places. The program's test whether a word is in a space, or in a code. The program's test whether a word is in a code. Hitting trees: what the program's walk through one answers, and what an accepted one shows. The program's walk through a hitting tree. The program's judgement on a hitting tree. The program's CheckProof. The law's function RepairSound: an accepted tree, and what the document says. Sets with one more position; branches, in the document. The hunt for a smallest set of helpers, in plain words. Short lists are put in order, in the library. Insertion, in the library. A round of a range over a function. The values of a slice, collected. Sorted lists of values, for short lists. Permuted codes.
-/
import Derived.Test.YtpienolhkccpnaaGreatXA6
set_option linter.unusedVariables false
set_option linter.unusedSimpArgs false
namespace Go.Proofs.YtpienolhkccpnaaGreat
open Go Go.Fw
set_option maxRecDepth 100000
set_option linter.unusedVariables false
set_option linter.unusedSimpArgs false
set_option maxHeartbeats 0
abbrev CnO (E:List (List Int)×List Nat):Value→List Fact→List A3→Prop:=fun v Φ β=>∃ (r:Row) (pp:Option Addr) (cp:Nat),v = .tuple #[.slice (ad r.bo) E.2.length r.cap,.slice pp E.2.length cp]
 ∧ Φ=[A5 (Ah Aj) r E.2.length E.1,Ap Aj pp E.2.length cp (Bc E.2)]∧β=[(r.bo,22,r.cs)]
theorem Ja {p m n N nm cm c:Nat}{pm ps:Option Addr}{rows:List (List Int)}{md:List Int}(K:Fok p m md) (hn:n≤1000000) (hN:N≤1000000) (hl:rows.length=n) (hM:Da (p ^ m) N rows) :
  Bn Tryz.prog 105 [.agg #[.int .i64 p,.int .i64 m,.slice pm nm cm],.slice ps n c,.int .i64 N] [] [Ap Aj pm nm cm md,Ap (Ah Aj) ps n c rows] (CnO (C4 p m md N rows)):=by
 refine Ab (F:=Ow) rfl fun C=>?_
 have Lm:=fun {nm cm c:Nat}{pm ps:Option Addr}=>Ls (nm:=nm) (cm:=cm) (pm:=pm) (ps:=ps) (c:=c) K hn (Nat.le_refl N) hN hl hM
 have hEk:(Kr p m md N 0 0 rows).2.length≤n:=by
  have:=V6 (A:=Ad (fA p m)) (M:=Ad (fM p (Az m md))) (N:=B9 p m) (V:=Hw p m md) N 0 0 rows (Nat.zero_le _)
  rw [Nat.zero_add,hl] at this;exact this
 show J _ _ _ _ _ _ (Fv C (CnO ((Kr p m md N 0 0 rows).1.take (Kr p m md N 0 0 rows).2.length,(Kr p m md N 0 0 rows).2)))
 generalize Kr p m md N 0 0 rows=E at *
 refine A9 1 rfl fun hlx _ _=>?_
 refine Aq [_,_] rfl ?_
 refine Aa rfl (Cu rfl fun b1=>?_)
 refine Ai it 2 rfl (by simp) ?_
 refine Aq [_,_] rfl ?_
 refine Aa rfl (Bi 0 rfl rfl Gi rfl ?_)
 refine Ai it 2 rfl (by simp) ?_
 refine Aa rfl (Aw [0,1] rfl (Lm) rfl ?_)
 rintro _ _ _ ⟨r1,pp1,cp1,rfl,rfl,rfl⟩
 simp only [List.cons_append,List.nil_append]
 refine Ai it 5 rfl (by simp) ?_
 refine Aq [_,_] rfl ?_
 refine Ai it 2 rfl (by simp) ?_
 refine Aa rfl (Hn Ce rfl ?_) --ok
 refine AIo 0 rfl fun hEn=>?_
 refine Aa rfl (ABi E.2.length 0 rfl rfl rfl Df rfl (by omega) ?_)
 refine wk 2 cz ?_
 refine Dp 2 [0] [0,2] rfl (.tmp rfl (.tmp rfl .nil)) rfl rfl rfl ⟨r1,_,_,rfl,rfl,rfl⟩
theorem Ge {p m n N nm cm c:Nat}{pm ps:Option Addr}{rows:List (List Int)}{md:List Int}(K:Fok p m md) (hn:n≤1000000) (hN:N≤1000000) (hl:rows.length=n) (hM:Da (p ^ m) N rows) :
  Bn Tryz.prog 105 [.agg #[.int .i64 p,.int .i64 m,.slice pm nm cm],.slice ps n c,.int .i64 N] [] [Ap Aj pm nm cm md,Ap (Ah Aj) ps n c rows] (CnR (C4 p m md N rows)) :=
 (Ja K hn hN hl hM).pubT (by
  have hk:=(Vl K hM).2
  show _*24≤140737488355328;omega)
def ldL (N:Nat) (P:List Nat) (k:Nat):List Int:=(List.range N).map fun e=>if e∈P.take k then ((P.idxOf e:Nat):Int) else -1
theorem AFs {N k:Nat}{P:List Nat}:(ldL N P k).length=N:=by simp [ldL]
theorem AHg {N:Nat}{P:List Nat}:ldL N P 0=List.replicate N (-1):=by
 refine List.ext_getElem (by simp [ldL]) fun j h1 h2=>?_
 simp only [ldL,List.getElem_map,List.getElem_range,List.take_zero,List.getElem_replicate]
 exact if_neg (by simp)
theorem AJa {q N n k a:Nat}{R:List (List Int)}{P:List Nat}(h:Red q n R P) (hk:P[k]?=some a):(ldL N P k).set a (k:Int)=ldL N P (k+1):=by
 refine List.ext_getElem (by simp [ldL]) fun j h1 h2=>?_
 rw [List.getElem_set]
 simp only [ldL,List.getElem_map,List.getElem_range]
 by_cases e:a=j
 ·subst e
  rw [if_pos rfl,if_pos (List.mem_of_getElem? (i:=k) (by rw [List.getElem?_take,if_pos (by omega),hk])),h.idx hk]
 ·rw [if_neg e,List.take_add_one,hk]
  by_cases hm:j∈P.take k
  ·rw [if_pos hm,if_pos (List.mem_append_left _ hm)]
  ·rw [if_neg hm,if_neg]
   intro hm2
   rcases List.mem_append.1 hm2 with h3|h3
   ·exact hm h3
   ·rw [Option.toList_some,List.mem_singleton] at h3;exact e h3.symm
theorem ALm {N j:Nat}{P:List Nat}(hj:j<N):(ldL N P P.length)[j]?=some (if j∈P then ((P.idxOf j:Nat):Int) else -1):=by
 rw [ldL,List.getElem?_map,List.getElem?_range hj,List.take_length];rfl
theorem Js {p m n N nm cm c:Nat}{pm ps:Option Addr}{rows:List (List Int)}{md:List Int}(K:Fok p m md) (hn:n≤1000000) (hN:N≤1000000) (hl:rows.length=n) (hM:Da (p ^ m) N rows) :
  Bn Tryz.prog 82 [.agg #[.int .i64 p,.int .i64 m,.slice pm nm cm],.slice ps n c,.int .i64 N] [] [Ap Aj pm nm cm md,Ap (Ah Aj) ps n c rows]
   (fun v Φ β=>∃ r:Row,v = .slice (ad r.bo) (Jg p m md N rows).length r.cap∧Φ=[A5 (Ah Aj) r (Jg p m md N rows).length (Jg p m md N rows)]∧β=[(r.bo,22,r.cs)]):=by
 refine Ab (F:=P7) rfl fun C=>?_
 have O:=AFf K
 have hq:=K.q
 have q2:=O.q2
 have Bq:=fun {nm cm c n:Nat}{pm ps:Option Addr}{rows:List (List Int)}(hn:n≤1000000) (hl:rows.length=n) (hM:Da (p ^ m) N rows)=>Ge (nm:=nm) (cm:=cm) (pm:=pm) (ps:=ps) (c:=c) K hn hN hl hM
 have Dh:=fun {nm cm:Nat}{pm:Option Addr}{x:Int}=>Hb (nm:=nm) (cm:=cm) (pm:=pm) (x:=x) K
 have hred:Red (p ^ m) N (C4 p m md N rows).1 (C4 p m md N rows).2:=(O.cn hM).1
 have hEl:(C4 p m md N rows).1.length=(C4 p m md N rows).2.length:=O.cn_len hM
 have hnm:Da (p ^ m) N (nvK (B9 p m) N (C4 p m md N rows) N):=O.nv_mat hred
 have hnl:(C4 p m md N (nvK (B9 p m) N (C4 p m md N rows) N)).1.length=(C4 p m md N (nvK (B9 p m) N (C4 p m md N rows) N)).2.length:=O.cn_len hnm
 have hnk:=fun k=>AFo (N:=B9 p m) (n:=N) (k:=k) (E:=C4 p m md N rows)
 rw [show Jg p m md N rows=(C4 p m md N (nvK (B9 p m) N (C4 p m md N rows) N)).1 from rfl,hnl]
 clear hnl
 refine wk 15 (ct @Bq cz) ?_
 intro b1 pb1 pp1 cb1 cp1 b2
 generalize hE:C4 p m md N rows=E at *
 have hple:=hred.piv_le
 rw [show Ao .i64 (List.replicate N 0)=Ak .i64 (List.replicate 0 (-1:Int)++List.replicate (N-0) (0:Int)) by simp [Ao,Ak]]
 refine Af (X:=Nat) [2,3,6,7,8,9] [0,1,2,3] (fun i=>[(10,.int .i64 (i:Int))]) (fun i=>(some b2,3,Ak .i64 (List.replicate i (-1:Int)++List.replicate (N-i) (0:Int)))::_) (fun _=>[]) (fun i=>i≤N) (fun i=>N-i) 0 [] rfl rfl rfl (Nat.zero_le _) (by repeat (first|exact Fr.sub_nil _|refine Fr.sub_cons rfl ?_)) rfl rfl ?_
 rintro i hi ih
 simp only [List.cons_append,List.nil_append] at hi ih ⊢
 by_cases hiN:i<N
 ·have ih':=ih (i+1) (by omega) (by omega)
  have hset:List.replicate (i+1) (-1:Int)++List.replicate (N-(i+1)) (0:Int)=(List.replicate i (-1:Int)++List.replicate (N-i) (0:Int)).set i (-1):=by
   have e2:List.replicate (N-i) (0:Int)=0::List.replicate (N-(i+1)) 0:=by rw [show N-i=(N-(i+1))+1 by omega,List.replicate_succ]
   rw [e2,List.set_append_right _ _ (by simp),List.length_replicate,Nat.sub_self,List.set_cons_zero,List.replicate_succ',List.append_assoc];rfl
  rw [hset] at ih'
  have hln:(List.replicate i (-1:Int)++List.replicate (N-i) (0:Int)).length=N:=by simp;omega
  generalize List.replicate i (-1:Int)++List.replicate (N-i) (0:Int)=L at *
  refine wk 11 cz ?_
  intro h1
  exact tw (ih')
 ·obtain rfl:i=N:=by omega
  clear ih
  rw [Nat.sub_self,List.replicate_zero,List.append_nil,← AHg (P:=E.2)]
  refine wk 7 cz ?_
  intro h1
  refine Af (X:=Nat) [2,3,6,7,8,9] [0,1,2,3] (fun k=>[(11,.int .i64 (k:Int))]) (fun k=>(some b2,3,Ak .i64 (ldL i E.2 k))::_) (fun _=>[]) (fun k=>k≤E.2.length) (fun k=>E.2.length-k) 0 [] rfl rfl rfl (Nat.zero_le _) (by repeat (first|exact Fr.sub_nil _|refine Fr.sub_cons rfl ?_)) rfl rfl ?_
  rintro k hk ih
  simp only [List.cons_append,List.nil_append] at hk ih ⊢
  by_cases hkE:k<E.2.length
  ·obtain ⟨a,ha⟩:∃ a,E.2[k]?=some a:=⟨_,List.getElem?_eq_getElem hkE⟩
   have at_a:(Bc E.2)[k]?=some (a:Int):=by rw [Bc,List.getElem?_map,ha];rfl
   have haN:=hred.ech.lt a (List.mem_of_getElem? ha)
   have ih':=ih (k+1) (by omega) (by omega)
   rw [← AJa hred ha] at ih'
   have hln:=AFs (N:=i) (P:=E.2) (k:=k)
   generalize ldL i E.2 k=L at *
   refine wk 9 cz ?_
   intro h2 b3 o1 hz1
   refine Aa rfl (Av 0 rfl rfl Ci fun ⟨r1,r2⟩=>?_)
   refine wk 6 cz ?_
   exact tw (ih')
  ·obtain rfl:k=E.2.length:=by omega
   clear ih
   have hla:=fun j (hj:j<i)=>ALm (P:=E.2) hj
   have hln:=AFs (N:=i) (P:=E.2) (k:=E.2.length)
   generalize ldL i E.2 E.2.length=LD at *
   refine wk 11 cz ?_
   intro h2
   refine Fh (Ah Aj) 22 ?_
   refine Af (X:=Nat×Row) [2,3,6,7,8,9] [0,1,2,3,4] (fun x=>[(13,.int .i64 (x.1:Int)),(12,.slice (ad x.2.bo) (nvK (B9 p m) i E x.1).length x.2.cap)]) (fun x=>(x.2.bo,22,x.2.cs)::_) (fun x=>[A5 (Ah Aj) x.2 (nvK (B9 p m) i E x.1).length (nvK (B9 p m) i E x.1)]) (fun x=>x.1≤i) (fun x=>i-x.1) (0,⟨none,0,[]⟩) [0] rfl rfl rfl (Nat.zero_le _) (by repeat (first|exact Fr.sub_nil _|refine Fr.sub_cons rfl ?_)) rfl rfl ?_
   rintro ⟨k,r⟩ hk ih
   simp only [List.cons_append,List.nil_append] at hk ih ⊢
   by_cases h8:k<i
   ·have ih':=fun r=>ih (k+1,r) (by dsimp only;omega) (by dsimp only;omega)
    simp only [ADk] at ih'
    have hnk1:=hnk k
    have at_l:=hla k h8
    clear ih
    by_cases hm:k∈E.2
    ·rw [if_pos hm] at at_l
     simp only [if_pos hm,List.append_nil] at ih'
     refine wk 7 cz ?_
     intro h3
     refine Aa rfl (Tv 1 rfl rfl Ci (by first|omega|(simp;omega)) fun z1 hz1=>?_)
     obtain rfl:_=z1:=Option.some.inj (at_l.symm.trans hz1)
     refine wk 6 cz ?_
     intro h4
     exact tw (ih' r)
    ·rw [if_neg hm] at at_l
     simp only [if_neg hm,List.length_append,List.length_singleton] at ih'
     refine wk 7 cz ?_
     intro h3
     refine Aa rfl (Tv 1 rfl rfl Ci (by first|omega|(simp;omega)) fun z1 hz1=>?_)
     obtain rfl:_=z1:=Option.some.inj (at_l.symm.trans hz1)
     refine wk 10 cz ?_
     intro h4 b3
     refine Aa rfl (Tk 0 1 rfl rfl rfl Ci (by first|rfl|omega) (by first|omega|(simp;omega)) ?_)
     refine wk 3 cz ?_
     have hx0:Ao .i64 ((List.replicate i 0).set k 1)=Ak .i64 (nvI (B9 p m) i E.1 E.2 k 0):=by
      rw [ADG]
      simp [Ao,Ak,zW,List.map_set]
     simp only [setB]
     rw [hx0]
     refine Af (X:=Nat) [2,3,6,7,8,9,12,13,14,46,47,48,51,52,53,54,55,56,57,58,59,60] [0,1,2,3,4,5] (fun t=>[(15,.int .i64 (t:Int))]) (fun t=>(some b3,3,Ak .i64 (nvI (B9 p m) i E.1 E.2 k t))::_) (fun _=>[]) (fun t=>t≤E.2.length) (fun t=>E.2.length-t) 0 [] rfl rfl rfl (Nat.zero_le _) (by repeat (first|exact Fr.sub_nil _|refine Fr.sub_cons rfl ?_)) rfl rfl ?_
     rintro t ht ih
     simp only [List.cons_append,List.nil_append] at ht ih ⊢
     by_cases h9:t<E.2.length
     ·obtain ⟨a,ha⟩:∃ a,E.2[t]?=some a:=⟨_,List.getElem?_eq_getElem h9⟩
      have at_a:(Bc E.2)[t]?=some (a:Int):=by rw [Bc,List.getElem?_map,ha];rfl
      obtain ⟨u,at_u⟩:∃ u,E.1[t]?=some u:=⟨_,List.getElem?_eq_getElem (by omega)⟩
      have hu:=hred.mat u (List.mem_of_getElem? at_u)
      have hul:=hu.1
      have ea:=Rb at_a
      have eu:=Rb at_u
      have hen:Bh u k=en E.1 t k:=by rw [en,Ar,List.getD_eq_getElem?_getD,at_u];rfl
      have at_y:(E.1.getD t default)[k]?=some (en E.1 t k):=by
       rw [eu,← hen,Bh,List.getD_eq_getElem?_getD,List.getElem?_eq_getElem (by omega)];rfl
      have ey:=Rb at_y
      rw [← eu] at hul
      obtain ⟨y0,y1⟩:=Bm (q:=p ^ m) (by omega) hu k
      rw [hen] at y0 y1
      have haN:=hred.ech.lt a (List.mem_of_getElem? ha)
      have ih':=ih (t+1) (by omega) (by omega)
      rw [← AFM hred hm ha] at ih'
      have hln:=AFV (N:=B9 p m) (n:=i) (c:=k) (i:=t) (R:=E.1) (P:=E.2)
      generalize nvI (B9 p m) i E.1 E.2 k t=L at *
      refine wk 13 (ct @Dh cz) ?_
      intro h5 b4 o1 b5 o2 pa1 ca1 b6 o3
      simp only [ey,ea,Int.toNat_natCast]
      exact tw (ih')
     ·obtain rfl:t=E.2.length:=by omega
      rw [AFE]
      clear ih
      have hnw:=O.null_wd hred k
      have hnr:∀ z∈Ih (B9 p m) i E.1 E.2 k,Bx .i64 z:=fun z hz=>by
       have:=hnw.2 z hz
       simp only [Bx];omega
      have hnl:(Ih (B9 p m) i E.1 E.2 k).length=i:=hnw.1
      generalize Ih (B9 p m) i E.1 E.2 k=T at *
      refine wk 3 cz ?_
      refine Bk 0 rfl hnl.symm hnr (by omega) ?_
      refine wk 6 cz ?_
      intro h5 b4
      refine C3 1 0 rfl rfl (by show (i)*8≤140737488355328;omega) ?_
      refine Aa rfl (Fi (z:=T) 1 0 2 rfl rfl rfl rfl rfl Df Gr rfl (fun w A hG=>(Ax (hG _ (Ae (n:=0) rfl)))) (by omega) _ Jx (by omega) fun r1=>?_)
      refine wk 4 cz ?_
      refine Jw [true,false,true,true] [0,4,5,6,7,8] (by exact T8 rfl) rfl rfl (ih' r1)
   ·obtain rfl:k=i:=by omega
    have:=hnk k
    refine Dy 0 0 rfl rfl (by show (nvK (B9 p m) k E k).length*24≤140737488355328;omega) ?_
    clear Bq
    have Bq:=fun {nm cm c n:Nat}{pm ps:Option Addr}{rows:List (List Int)}(hn:n≤1000000) (hl:rows.length=n) (hM:Da (p ^ m) k rows)=>Ja (nm:=nm) (cm:=cm) (pm:=pm) (ps:=ps) (c:=c) K hn hN hl hM
    refine wk 12 (ct @Bq cz) ?_
    intro h3 r1 pp2 cp2
    simp only [List.eraseIdx_cons_zero,List.cons_append,List.nil_append]
    refine Dp 3 [0] [0] rfl (.tmp rfl .nil) rfl rfl rfl ⟨r1,rfl,rfl,rfl⟩
theorem Qw {p m n N nm cm c:Nat}{pm ps:Option Addr}{rows:List (List Int)}{md:List Int}(K:Fok p m md) (hn:n≤1000000) (hN:N≤1000000) (hl:rows.length=n) (hM:Da (p ^ m) N rows) :
  Bn Tryz.prog 82 [.agg #[.int .i64 p,.int .i64 m,.slice pm nm cm],.slice ps n c,.int .i64 N] [] [Ap Aj pm nm cm md,Ap (Ah Aj) ps n c rows]
   (fun v Φ β=>∃ (pb:Option Addr) (cb:Nat),v = .slice pb (Jg p m md N rows).length cb∧Φ=[Ap (Ah Aj) pb (Jg p m md N rows).length cb (Jg p m md N rows)]∧β=[]) :=
 (Js K hn hN hl hM).pubR (by
  have hk:=Zv K hM
  show _*24≤140737488355328;omega)
open Classical in
noncomputable def sfE (P M:Int) (md:List Int) (N:Int) (rows:List (List Int)):Int:=if ¬ V9 P M md then 1 else spE P.toNat M.toNat md N rows
theorem O1 {P M N e:Int}{nm cm n c:Nat}{pm ps:Option Addr}{md:List Int}{rows:List (List Int)}(hN:Bx .i64 N) (he:sfE P M md N rows=e) :
  Bn Tryz.prog 88 [.agg #[.int .i64 P,.int .i64 M,.slice pm nm cm],.agg #[.int .i64 N,.slice ps n c]] [] [Ap Aj pm nm cm md,Ap (Ah Aj) ps n c rows] (Rv (.int .i64 e) []):=by
 refine Ab (F:=Pc) rfl fun C=>?_
 refine A9 1 rfl fun hn hb _=>?_
 subst hn
 have hb':rows.length*24≤140737488355328:=hb
 have B3:=fun {nm cm n c:Nat}{pm ps:Option Addr}=>Pz (P:=P) (M:=M) (N:=N) (md:=md) (rows:=rows) (nm:=nm) (cm:=cm) (n:=n) (c:=c) (pm:=pm) (ps:=ps) hN rfl
 rw [sfE] at he
 by_cases hc:V9 P M md
 ·rw [if_neg (fun h=>h hc)] at he
  have hk:mkE P M md N rows=Vk N rows (P.toNat ^ M.toNat):=by rw [mkE,if_neg (fun h=>h hc)]
  rw [hk] at B3
  obtain ⟨p,m,rfl,rfl,K⟩:=ACO hc
  rw [Int.toNat_natCast,Int.toNat_natCast] at he B3
  have hr:=To N rows (p ^ m)
  rw [spE] at he
  by_cases h0:Vk N rows (p ^ m)=0
  ·rw [if_neg (by omega)] at he
   rw [h0] at B3
   obtain ⟨k,rfl,hk,hl,hM⟩:=AEV h0
   rw [Int.toNat_natCast] at he
   have Bq:=fun {nm cm c:Nat}{pm ps:Option Addr}=>Ge (nm:=nm) (cm:=cm) (pm:=pm) (ps:=ps) (c:=c) (n:=rows.length) K (by omega) (show k≤1000000 by omega) rfl hM
   by_cases hcn:(C4 p m md k rows).1=rows
   ·rw [if_pos hcn] at he
    subst he
    have hd:decide ((C4 p m md k rows).1=rows)=true:=decide_eq_true hcn
    refine wk 32 (ct @B3 (ct @Bq (ct @D2 cz))) ?_
    intro b1 b2 h1 pb1 pp1 cb1 cp1
    exact ge
   ·rw [if_neg hcn] at he
    subst he
    have hd:decide ((C4 p m md k rows).1=rows)=false:=decide_eq_false hcn
    refine wk 32 (ct @B3 (ct @Bq (ct @D2 cz))) ?_
    intro b1 b2 h1 pb1 pp1 cb1 cp1
    exact ge
  ·rw [if_pos h0] at he
   subst he
   refine wk 16 (ct @B3 cz) ?_
   intro b1 b2 h1
   exact ge
 ·rw [if_pos hc] at he
  subst he
  have hk:mkE P M md N rows=1:=by rw [mkE,if_pos hc]
  rw [hk] at B3
  refine wk 16 (ct @B3 cz) ?_
  intro b1 b2 h1
  exact ge
theorem Gb {P M N e:Int}{pm ps:Option Addr}{nm cm n c:Nat}{md:List Int}{rows:List (List Int)}(hN:Bx .i64 N) (h:Nz P M md N rows=e) :
  Bn Tryz.prog 38 [.agg #[.int .i64 P,.int .i64 M,.slice pm nm cm,.int .i64 N,.slice ps n c]] [] [Ap Aj pm nm cm md,Ap (Ah Aj) ps n c rows] (Rv (.int .i64 e) []):=by
 refine Ab (F:=P4) rfl fun C=>?_
 rw [Nz] at h
 by_cases hc:V9 P M md
 ·rw [if_neg (fun h=>h hc)] at h
  have A8:=fun {pm:Option Addr}{nm cm:Nat}=>Eu (P:=P) (M:=M) (md:=md) (pm:=pm) (nm:=nm) (cm:=cm) (if_pos hc).symm
  have hs:sfE P M md N rows=spE P.toNat M.toNat md N rows:=by rw [sfE,if_neg (fun h=>h hc)]
  by_cases h1:N<1
  ·rw [if_pos (.inl h1)] at h
   subst h
   refine wk 24 (ct @A8 cz) ?_
   intro b1 h2 h3
   exact ge
  ·by_cases h2:64<N
   ·rw [if_pos (.inr h2)] at h
    subst h
    refine wk 26 (ct @A8 cz) ?_
    intro b1 h3 h4 h5
    exact ge
   ·rw [if_neg (by omega),← hs] at h
    have Pp:=fun {nm cm n c:Nat}{pm ps:Option Addr}=>O1 (nm:=nm) (cm:=cm) (n:=n) (c:=c) (pm:=pm) (ps:=ps) hN h
    refine wk 34 (ct @A8 (ct @Pp cz)) ?_
    intro b1 h3 h4 h5
    exact ge
 ·rw [if_pos hc] at h
  subst h
  have A8:=fun {pm:Option Addr}{nm cm:Nat}=>Eu (P:=P) (M:=M) (md:=md) (pm:=pm) (nm:=nm) (cm:=cm) (if_neg hc).symm
  refine wk 15 (ct @A8 cz) ?_
  intro b1 h1
  exact ge
section
variable {p m:Nat}{md:List Int}
theorem Q2 {b ng cg ne ce nl cl:Nat}{pg pe pl:Option Addr}{x y:Int}(K:Fok p m md) (x0:0≤x) (x1:x<((p ^ m:Nat):Int)) (y0:0≤y) (y1:y<((p ^ m:Nat):Int)) :
  Bn Tryz.prog 207 [.pointer (some ⟨b,0,none⟩),.int .i64 x,.int .i64 y] [] [Jp b p m (p ^ m) pg ng cg pe ne ce pl nl cl] (Rv (.int .i64 (Ad (fA p m) x (B9 p m y))) []):=by
 refine Ab (F:=Zi) rfl fun C=>?_
 have hq:=K.q
 have h2:=K.p2
 have h1:=K.m1
 obtain ⟨⟨n0,n1⟩,_⟩:=(AFf K).ng y y0 y1
 refine wk 99 (ct @G6 (ct @Dn cz)) ?_
 exact ge
end
open Go Go.Fw
set_option maxRecDepth 100000
set_option linter.unusedVariables false
set_option linter.unusedSimpArgs false
set_option maxHeartbeats 0
abbrev ReQ (N:Nat) (l:List Int):Value→List Fact→List A3→Prop:=fun v Φ β=>∃ (r:Row) (pt:Option Addr) (kt ct:Nat),v = .tuple #[.slice (ad r.bo) N r.cap,.slice pt kt ct]∧Φ=[A5 Aj r N l]∧β=[(r.bo,3,r.cs)]
theorem S5 {p m b ng cg ce cl n c k cp nx cx N:Nat}{pg pe pl ps pp px:Option Addr}{md x:List Int}{rows:List (List Int)}{P:List Nat}(K:Fok p m md) (hR:Red (p ^ m) N rows P) (hlen:rows.length=P.length) (hN1:1≤N) (hN:N≤1000000) (hPl:P.length≤1000000) (hx:Wd (p ^ m) N x) :
  Bn Tryz.prog 176 [.agg #[.pointer (some ⟨b,0,none⟩),.int .i64 N,.slice ps n c,.slice pp k cp],.slice px nx cx] [] [Jp b p m (p ^ m) pg ng cg pe (p ^ m-1) ce pl (p ^ m) cl,Ap Aj pe (p ^ m-1) ce (J8 p m md),Ap Aj pl (p ^ m) cl (J3 p m md),Ap (Ah Aj) ps n c rows,Ap Aj pp k cp (Bc P),Ap Aj px nx cx x]
   (ReQ N (rpF (Ad (fA p m)) (Ad (fM p (Az m md))) (B9 p m) P rows x)):=by
 refine Ab (F:=S2) rfl fun C=>?_
 have O:=AFf K
 have FF:=O.fi
 have hq:=K.q
 have hq2:=O.q2
 refine A9 3 rfl fun hn hb _=>?_
 subst hn
 refine A9 4 rfl fun hn hb2 _=>?_
 rw [Co] at hn
 subst hn
 refine A9 5 rfl fun hn hb3 _=>?_
 have hnx:=hx.1
 rw [hnx] at hn
 subst hn
 have A6:=fun {b ng cg ce cl:Nat}{pg pe pl:Option Addr}{x y:Int}=>C6 (b:=b) (ng:=ng) (cg:=cg) (ce:=ce) (cl:=cl) (pg:=pg) (pe:=pe) (pl:=pl) (x:=x) (y:=y) K
 have K2:=fun {b ng cg ne ce nl cl:Nat}{pg pe pl:Option Addr}{x y:Int}=>Q2 (b:=b) (ng:=ng) (cg:=cg) (ne:=ne) (ce:=ce) (nl:=nl) (cl:=cl) (pg:=pg) (pe:=pe) (pl:=pl) (x:=x) (y:=y) K
 generalize Ad (fM p (Az m md))=M at *
 generalize Ad (fA p m)=A0 at *
 generalize B9 p m=Ng at *
 refine wk 13 (ct @Ec cz) ?_
 intro b1 r1
 simp only [List.cons_append,List.nil_append]
 refine D1 0 rfl hN1 fun b9 cap9 cs9 hr=>?_
 subst hr
 refine Fh Aj 3 ?_
 refine Af (X:=Nat×List Value×Row×List Int) [2,4,14,15] [0,1,2,3,4,5,6,7] (fun x'=>[(16,.int .i64 (x'.1:Int)),(4,.slice (some ⟨b9,0,none⟩) nx cap9),(5,.slice (ad x'.2.2.1.bo) x'.1 x'.2.2.1.cap)]) (fun x'=>[(x'.2.2.1.bo,3,x'.2.2.1.cs),(some b9,3,x'.2.1),(some b1,108,[.pointer (some ⟨b,0,none⟩),.int .i64 nx,.slice ps rows.length c,.slice pp P.length cp])])
  (fun x'=>[A5 Aj x'.2.2.1 x'.1 x'.2.2.2,A5 Aj ⟨some b9,cap9,x'.2.1⟩ nx (rpF A0 M Ng (P.take x'.1) (rows.take x'.1) x)]) (fun x'=>x'.1≤P.length) (fun x'=>P.length-x'.1) (0,cs9,⟨none,0,[]⟩,[]) [0,1] rfl rfl rfl (Nat.zero_le _) (by repeat (first|exact Fr.sub_nil _|refine Fr.sub_cons rfl ?_)) rfl rfl ?_
 rintro ⟨i,cs,r,tl⟩ hi ih
 simp only [List.cons_append,List.nil_append] at hi ih ⊢
 by_cases hil:i<P.length
 ·obtain ⟨pi,hpi⟩:∃ pi,P[i]?=some pi:=⟨_,List.getElem?_eq_getElem hil⟩
  obtain ⟨ri,at_r⟩:∃ ri,rows[i]?=some ri:=⟨_,List.getElem?_eq_getElem (by omega)⟩
  have at_p:(Bc P)[i]?=some (pi:Int):=I2 hpi
  have hpn:=hR.ech.lt pi (List.mem_of_getElem? hpi)
  have hri:=hR.mat ri (List.mem_of_getElem? at_r)
  have hL:=O.rp_wd (P:=P.take i) (R:=rows.take i) (fun r hr=>hR.mat r (List.mem_of_mem_take hr)) hx
  have hst:rpF A0 M Ng (P.take (i+1)) (rows.take (i+1)) x=F7 A0 M (Ng (Bh (rpF A0 M Ng (P.take i) (rows.take i) x) pi)) ri (rpF A0 M Ng (P.take i) (rows.take i) x):=by
   rw [List.take_add_one,List.take_add_one,hpi,at_r]
   exact ADu (by rw [List.length_take,List.length_take,hlen])
  have ih':=fun cs r tl=>ih (i+1,cs,r,tl) (by dsimp only;omega) (by dsimp only;omega)
  dsimp only at ih'
  simp only [hst] at ih'
  generalize rpF A0 M Ng (P.take i) (rows.take i) x=L at *
  have at_y:L[pi]?=some (Bh L pi):=by rw [Bh,List.getD_eq_getElem?_getD,List.getElem?_eq_getElem (by rw [hL.1];exact hpn)];rfl
  obtain ⟨y0,y1⟩:=Bm (by omega) hL pi
  generalize Bh L pi=y at *
  obtain ⟨⟨n0,n1⟩,_⟩:=O.ng y y0 y1
  by_cases hy:y=0
  ·have e0:F7 A0 M (Ng y) ri L=L:=by rw [hy,O.n0];exact O.axp0 hri hL
   rw [e0] at ih'
   refine wk 6 cz ?_
   intro h1
   refine Aa rfl (Ia 8 (i) rfl rfl rfl Ce rfl (by omega) fun z1 hz1 b2 o1=>?_)
   obtain rfl:_=z1:=Option.some.inj (at_p.symm.trans hz1)
   refine Aa rfl (Av 0 rfl rfl Ci fun ⟨r1,r2⟩=>?_)
   refine wk 4 cz ?_
   refine Aa rfl (S9 1 2 (pi) rfl rfl rfl Ci rfl (by assumption) fun hr1=>?_)
   refine wk 4 cz ?_
   intro b3
   refine Aa rfl (Fi (z:=(y:Int)) 1 0 1 rfl rfl rfl rfl rfl Ce Ee rfl (fun w A hG=>(Dz (by first|(simp only [Bx];omega)|(simp [Bx];done)))) (by omega) _ G5 (by omega) fun r3=>?_)
   refine wk 8 cz ?_
   intro h2
   refine Jw [true,false,true,true] [0,3,4,5,6,7,8,9,10,11] (by exact T8 rfl) rfl rfl (ih' cs r3 (tl++[y]))
  ·have hy':=hy
   obtain ⟨hax0,hax1⟩:Wd (p ^ m) nx (F7 A0 M (Ng y) ri L):=FF.axw n0 n1 hri hL
   have hLl:=hL.1
   have hrl:=hri.1
   refine wk 6 cz ?_
   intro h1
   refine Aa rfl (Ia 8 (i) rfl rfl rfl Ce rfl (by omega) fun z1 hz1 b2 o1=>?_)
   obtain rfl:_=z1:=Option.some.inj (at_p.symm.trans hz1)
   refine Aa rfl (Av 0 rfl rfl Ci fun ⟨r1,r2⟩=>?_)
   refine wk 4 cz ?_
   refine Aa rfl (S9 1 2 (pi) rfl rfl rfl Ci rfl (by assumption) fun hr1=>?_)
   refine wk 4 cz ?_
   intro b3
   refine Aa rfl (Fi (z:=(y:Int)) 1 0 1 rfl rfl rfl rfl rfl Ce Ee rfl (fun w A hG=>(Dz (by first|(simp only [Bx];omega)|(simp [Bx];done)))) (by omega) _ G5 (by omega) fun r3=>?_)
   refine wk 8 cz ?_
   intro h2
   refine Aa rfl (Bu 3 rfl rfl Hp rfl ?_)
   refine wk 1 cz ?_
   refine Aa rfl (Ia 9 (i) rfl rfl rfl Df rfl (by omega) fun z1 hz2 b4 o2=>?_)
   obtain rfl:_=z1:=Option.some.inj (at_r.symm.trans hz2)
   refine Aa rfl (Tt 0 rfl rfl E6 fun pa1 ca1=>?_)
   refine wk 3 cz ?_
   refine Af (X:=Nat×List Value) [2,4,5,6,7,8,14,15,16,17,18,19,20,21,22,23,24,25,26,27,28,29,30,31,32,33,34,35,36,37] [0,1,2,3,4,5,6,7,8,9,10,11,12,13] (fun z=>[(38,.int .i64 (z.1:Int))]) (fun z=>[(r3.bo,3,r3.cs),(some b3,3,[.int .i64 y]),(some b9,3,z.2),(some b1,108,[.pointer (some ⟨b,0,none⟩),.int .i64 nx,.slice ps rows.length c,.slice pp P.length cp])]) (fun z=>[A5 Aj ⟨some b9,cap9,z.2⟩ nx ((F7 A0 M (Ng y) ri L).take z.1++L.drop z.1)]) (fun z=>z.1≤nx) (fun z=>nx-z.1) (0,cs) [5] rfl rfl rfl (Nat.zero_le _) (by repeat (first|exact Fr.sub_nil _|refine Fr.sub_cons rfl ?_)) rfl rfl ?_
   rintro ⟨j,cs⟩ hj ihj
   simp only [List.cons_append,List.nil_append] at hj ihj ⊢
   by_cases hjl:j<nx
   ·obtain ⟨z,at_z⟩:∃ z,ri[j]?=some z:=⟨_,List.getElem?_eq_getElem (by omega)⟩
    obtain ⟨u,hu⟩:∃ u,L[j]?=some u:=⟨_,List.getElem?_eq_getElem (by omega)⟩
    obtain ⟨z0,z1⟩:=hri.2 z (List.mem_of_getElem? at_z)
    obtain ⟨u0,u1⟩:=hL.2 u (List.mem_of_getElem? hu)
    obtain ⟨m0,m1⟩:=FF.ml y z y0 y1 z0 z1
    have hT:(F7 A0 M (Ng y) ri L)[j]?=some (A0 u (Ng (M y z))):=by rw [F7,List.getElem?_zipWith,hu,at_z,O.ng_mul y0 y1 z0 z1]
    have hLj:=(ACY hax0 hL.1 hjl).trans hu
    have hset:=AAq hax0 hL.1 hjl hT
    have hLl:((F7 A0 M (Ng y) ri L).take j++L.drop j).length=nx:=by rw [List.length_append,List.length_take,List.length_drop];omega
    have ihj':=fun cs=>ihj (j+1,cs) (by dsimp only;omega) (by dsimp only;omega)
    dsimp only at ihj'
    rw [← hset] at ihj'
    generalize (F7 A0 M (Ng y) ri L).take j++L.drop j=L2 at *
    obtain ⟨⟨g0,g1⟩,_⟩:=O.ng _ m0 m1
    obtain ⟨a0,a1⟩:=FF.al u _ u0 u1 g0 g1
    refine wk 6 cz ?_
    intro h3
    refine Aa rfl (Ia 1 (j) rfl rfl rfl Ce rfl (by omega) fun z2 hz3 b5 o3=>?_)
    obtain rfl:_=z2:=Option.some.inj (at_z.symm.trans hz3)
    refine Aa rfl (Av 0 rfl rfl Ci fun ⟨r4,r5⟩=>?_)
    refine wk 2 cz ?_
    (apply E5 it mx 14;(· rfl);(· rfl))
    (apply A1 2;(· rfl);(· simp))
    (apply Ac;(· rfl);(· exact Bz fun _=>An rfl AFq Al))
    (apply Ac;(· rfl);(· exact Bv 3 rfl rfl X5 rfl))
    (apply A1 2;(· rfl);(· simp))
    (apply Ac;(· rfl);(· exact Bz fun _=>Bf (j) (j) rfl rfl Ce rfl (by omega) (Nat.mul_one _) Al))
    (apply Ac;(· rfl);(· exact H2 2 1 (j) rfl rfl rfl Ci rfl (by assumption)))
    (apply Ac;(· rfl);(· exact Bz fun _=>An rfl AFq Al))
    (apply Ac;(· rfl);(· exact Bv 3 rfl rfl X5 rfl))
    (apply A1 2;(· rfl);(· simp))
    (apply Ac;(· rfl);(· exact Bz fun _=>Aw [10,11,12] rfl (A6 (by omega) (by omega) (by omega) (by omega)) rfl (by rintro _ _ _ ⟨rfl,rfl,rfl⟩;exact Al)))
    (apply Ac;(· rfl);(· exact Bz fun _=>Aw [10] rfl (K2 (by omega) (by omega) (by omega) (by omega)) rfl (by rintro _ _ _ ⟨rfl,rfl,rfl⟩;exact Al)))
    refine Et rfl ?_
    simp only [List.map_cons,List.map_nil,List.cons_append,List.nil_append]
    refine wk 1 cz ?_
    refine Aa rfl (Hg (vs:=[Value.int IntKind.i64 (A0 u (Ng (M y z)))]) (z:=(A0 u (Ng (M y z)):Int)) 2 1 (j) rfl rfl rfl rfl rfl Ci (Nat.mul_one _).symm (by omega) (fun w A hG=>(Dz (by first|(simp only [Bx];omega)|(simp [Bx];done)))) fun cs1=>?_)
    refine wk 3 cz ?_
    exact tw (ihj' cs1)
   ·obtain rfl:nx=j:=by omega
    rw [List.take_of_length_le (by omega),List.drop_of_length_le (by omega),List.append_nil]
    refine wk 7 cz ?_
    intro h3
    refine Jw [true,false,true,true] [3,0,7,8,9,10,11,12,13,14] (by exact T8 rfl) rfl rfl (ih' cs r3 (tl++[y]))
 ·obtain rfl:i=P.length:=by omega
  rw [List.take_length,← hlen,List.take_length] at *
  refine wk 7 cz ?_
  intro h1
  refine Dp 3 [1] [1] rfl (.tmp rfl (.tmp rfl .nil)) rfl rfl rfl ⟨⟨some b9,cap9,cs⟩,_,_,_,rfl,rfl,rfl⟩
structure PtI (l L:List Int) (a e:Nat) (p:Int) (i j:Nat):Prop where
 seg:Seg a e l L
 p0:Bh L a=p
 i1:a+1≤i
 ij:i≤j+1
 je:j<e
 lo:∀ k,a+1≤k→k<i→Bh L k<p
 hi:∀ k,j<k→k<e→p≤Bh L k
section
variable {l L:List Int}{a e i j:Nat}{p:Int}
theorem PtI.next (h:PtI l L a e p i j) (hij:i≤j) (hx:Bh L i<p):PtI l L a e p (i+1) j:=⟨h.seg,h.p0,by have:=h.i1;omega,by omega,h.je,fun k k1 k2=>by
 by_cases c:k=i
 ·rw [c];exact hx
 ·exact h.lo k k1 (by omega),h.hi⟩
theorem PtI.swap (h:PtI l L a e p i j) (he:e≤l.length) (hij:i≤j) (hx:¬ Bh L i<p) (hy:Bh L j<p):i<j∧PtI l (sw L i j) a e p (i+1) (j-1):=by
 have hL:=h.seg.len
 have h1:=h.i1
 have h2:=h.je
 have hne:i≠j:=fun c=>by rw [c] at hx;exact hx hy
 have hsw:∀ k,Bh (sw L i j) k=if k=j then Bh L i else if k=i then Bh L j else Bh L k:=fun k=>Yt (by omega) (by omega)
 refine ⟨by omega,h.seg.trans (AAj (by omega) (by omega) (by omega) (by omega) (by omega)),?_,by omega,by omega,by omega,fun k k1 k2=>?_,fun k k1 k2=>?_⟩
 ·rw [hsw,if_neg (by omega),if_neg (by omega)];exact h.p0
 ·rw [hsw,if_neg (by omega)]
  by_cases c:k=i
  ·rw [if_pos c];exact hy
  ·rw [if_neg c];exact h.lo k k1 (by omega)
 ·rw [hsw]
  by_cases c:k=j
  ·rw [if_pos c];omega
  ·rw [if_neg c,if_neg (by omega)];exact h.hi k (by omega) k2
structure PtE (l L:List Int) (a e m:Nat):Prop where
 seg:Seg a e l L
 am:a≤m
 me:m<e
 lo:∀ k,a≤k→k<m→Bh L k≤Bh L m
 hi:∀ k,m<k→k<e→Bh L m≤Bh L k
theorem PtI.fin (h:PtI l L a e p i j) (he:e≤l.length) (hij:¬ i≤j):PtE l (sw L j a) a e j:=by
 have hL:=h.seg.len
 have h1:=h.i1
 have h2:=h.je
 have h3:=h.ij
 have hsw:∀ k,Bh (sw L j a) k=if k=a then Bh L j else if k=j then Bh L a else Bh L k:=fun k=>Yt (by omega) (by omega)
 have hm:Bh (sw L j a) j=p:=by
  rw [hsw]
  by_cases c:j=a
  ·rw [if_pos c,c];exact h.p0
  ·rw [if_neg c,if_pos rfl];exact h.p0
 refine ⟨h.seg.trans (AAj (by omega) (by omega) (by omega) (by omega) (by omega)),by omega,h2,fun k k1 k2=>?_,fun k k1 k2=>?_⟩
 ·rw [hm,hsw]
  by_cases c:k=a
  ·rw [if_pos c];exact Int.le_of_lt (h.lo j (by omega) (by omega))
  ·rw [if_neg c,if_neg (by omega)];exact Int.le_of_lt (h.lo k (by omega) (by omega))
 ·rw [hm,hsw,if_neg (by omega),if_neg (by omega)]
  exact h.hi k k1 k2
end
open Go Go.Fw
set_option maxRecDepth 100000
set_option linter.unusedVariables false
set_option linter.unusedSimpArgs false
set_option maxHeartbeats 0
structure PeI (l L:List Int) (a e:Nat) (p:Int) (i j:Nat):Prop where
 seg:Seg a e l L
 p0:Bh L a=p
 i1:a+1≤i
 ij:i≤j+1
 je:j<e
 lo:∀ k,a+1≤k→k<i→Bh L k≤p
 hi:∀ k,j<k→k<e→p<Bh L k
section
variable {l L:List Int}{a e i j:Nat}{p:Int}
theorem PeI.next (h:PeI l L a e p i j) (hij:i≤j) (hx:¬ p<Bh L i):PeI l L a e p (i+1) j:=⟨h.seg,h.p0,by have:=h.i1;omega,by omega,h.je,fun k k1 k2=>by
 by_cases c:k=i
 ·rw [c];omega
 ·exact h.lo k k1 (by omega),h.hi⟩
theorem PeI.swap (h:PeI l L a e p i j) (he:e≤l.length) (hij:i≤j) (hx:p<Bh L i) (hy:¬ p<Bh L j):i<j∧PeI l (sw L i j) a e p (i+1) (j-1):=by
 have hL:=h.seg.len
 have h1:=h.i1
 have h2:=h.je
 have hne:i≠j:=fun c=>by rw [c] at hx;exact hy hx
 have hsw:∀ k,Bh (sw L i j) k=if k=j then Bh L i else if k=i then Bh L j else Bh L k:=fun k=>Yt (by omega) (by omega)
 refine ⟨by omega,h.seg.trans (AAj (by omega) (by omega) (by omega) (by omega) (by omega)),?_,by omega,by omega,by omega,fun k k1 k2=>?_,fun k k1 k2=>?_⟩
 ·rw [hsw,if_neg (by omega),if_neg (by omega)];exact h.p0
 ·rw [hsw,if_neg (by omega)]
  by_cases c:k=i
  ·rw [if_pos c];omega
  ·rw [if_neg c];exact h.lo k k1 (by omega)
 ·rw [hsw]
  by_cases c:k=j
  ·rw [if_pos c];exact hx
  ·rw [if_neg c,if_neg (by omega)];exact h.hi k (by omega) k2
structure PeE (l L:List Int) (a e m:Nat) (p:Int):Prop where
 seg:Seg a e l L
 am:a<m
 me:m≤e
 lo:∀ k,a≤k→k<m→Bh L k≤p
 hi:∀ k,m≤k→k<e→p<Bh L k
theorem PeI.fin (h:PeI l L a e p i j) (hij:¬ i≤j):PeE l L a e i p:=by
 have h1:=h.i1
 have h2:=h.je
 have h3:=h.ij
 refine ⟨h.seg,by omega,by omega,fun k k1 k2=>?_,fun k k1 k2=>h.hi k (by omega) k2⟩
 by_cases c:k=a
 ·rw [c,h.p0];exact Int.le_refl _
 ·exact h.lo k (by omega) k2
end
open Go Go.Fw
set_option maxRecDepth 100000
set_option linter.unusedVariables false
set_option linter.unusedSimpArgs false
set_option maxHeartbeats 0
structure PdI (l L:List Int) (a0 e0 a e:Nat):Prop where
 seg:Seg a0 e0 l L
 aa:a0≤a
 ae:a≤e
 ee:e≤e0
 low:AEM L a e
 fin:∀ L',Seg a e L L'→Lb L' a e→Lb L' a0 e0
section
variable {l L L2 L3:List Int}{a0 e0 a e m:Nat}{p:Int}
theorem PdI.seg2 (h:PdI l L a0 e0 a e) (s:Seg a e L L2):PdI l L2 a0 e0 a e :=
 ⟨h.seg.trans (s.wide h.aa h.ee),h.aa,h.ae,h.ee,h.low.seg s,fun L' t u=>h.fin L' (s.trans t) u⟩
theorem PdI.done (h:PdI l L a0 e0 a e) (s:Seg a e L L2) (u:Lb L2 a e):Seg a0 e0 l L2∧Lb L2 a0 e0 :=
 ⟨h.seg.trans (s.wide h.aa h.ee),h.fin _ s u⟩
theorem PdI.eq (h:PdI l L a0 e0 a e) (h0:0<a) (hp:p≤Bh L (a-1)) (q:PeE L L2 a e m p):PdI l L2 a0 e0 m e:=by
 have hlow:∀ i,a≤i→i<e→p≤Bh L i:=fun i h1 h2=>by
  rcases h.low with h3|h3
  ·omega
  ·have:=h3 i h1 h2;omega
 have hall:=q.seg.all (P:=fun x=>p≤x) hlow
 have am:=q.am
 have me:=q.me
 have heq:∀ i,a≤i→i<m→Bh L2 i=p:=fun i h1 h2=>Int.le_antisymm (q.lo i h1 h2) (hall i h1 (by omega))
 have h2:=h.seg2 q.seg
 refine ⟨h2.seg,by have:=h.aa;omega,me,h.ee,.inr fun i h1 h3=>?_,fun L' s u=>?_⟩
 ·rw [heq (m-1) (by omega) (by omega)];exact Int.le_of_lt (q.hi i h1 h3)
 ·refine h2.fin L' (s.wide (by omega) (Nat.le_refl _)) (ALj (m:=m) (x:=p) (fun i h1 h3=>?_) (fun i h1 h3=>?_) u)
  ·rw [s.out i (.inl h3)];exact heq i h1 h3
  ·exact s.all (P:=fun x=>p≤x) (fun j j1 j2=>Int.le_of_lt (q.hi j j1 j2)) i h1 h3
end
open Go Go.Fw
set_option maxRecDepth 100000
set_option linter.unusedVariables false
set_option linter.unusedSimpArgs false
set_option maxHeartbeats 0
noncomputable abbrev rsR (p m:Nat) (md:List Int) (P:List Nat) (rows B:List (List Int)):List (List Int):=B.map (rpF (Ad (fA p m)) (Ad (fM p (Az m md))) (B9 p m) P rows)
theorem T6 {p m b ng cg ce cl n c k cp nx cx N:Nat}{pg pe pl ps pp px:Option Addr}{md:List Int}{rows B:List (List Int)}{P:List Nat}(K:Fok p m md) (hR:Red (p ^ m) N rows P) (hlen:rows.length=P.length) (hN1:1≤N) (hN:N≤1000000) (hPl:P.length≤1000000) (hB:Da (p ^ m) N B) :
  Bn Tryz.prog 160 [.agg #[.pointer (some ⟨b,0,none⟩),.int .i64 N,.slice ps n c,.slice pp k cp],.agg #[.int .i64 N,.slice px nx cx]] [] [Jp b p m (p ^ m) pg ng cg pe (p ^ m-1) ce pl (p ^ m) cl,Ap Aj pe (p ^ m-1) ce (J8 p m md),Ap Aj pl (p ^ m) cl (J3 p m md),Ap (Ah Aj) ps n c rows,Ap Aj pp k cp (Bc P),Ap (Ah Aj) px nx cx B]
   (fun v Φ β=>∃ (pr:Option Addr) (cr:Nat),v = .agg #[.int .i64 N,.slice pr nx cr]∧Φ=[Ap (Ah Aj) pr nx cr (rsR p m md P rows B)]∧β=[]):=by
 refine Ab (F:=T0) rfl fun C=>?_
 refine A9 5 rfl fun hn hb _=>?_
 subst hn
 have hb':B.length*24≤140737488355328:=hb
 have hq:=K.q
 have O:=Dx K
 have So:=fun {b ng cg ce cl n c k cp nx cx:Nat}{pg pe pl ps pp px:Option Addr}{x:List Int}(h:Wd (p ^ m) N x)=>S5 (b:=b) (ng:=ng) (cg:=cg) (ce:=ce) (cl:=cl) (n:=n) (c:=c) (k:=k) (cp:=cp) (nx:=nx) (cx:=cx) (pg:=pg) (pe:=pe) (pl:=pl) (ps:=ps) (pp:=pp) (px:=px) K hR hlen hN1 hN hPl h
 refine Aq [_,_] rfl ?_
 refine Aa rfl (Cu rfl fun b1=>?_)
 refine Aa rfl (Cu rfl fun b2=>?_)
 refine Aa rfl (B2 Hs fun b3=>?_)
 refine Aq [_,_] rfl ?_
 refine Aa rfl (An rfl Jr ?_)
 refine Aa rfl (Bu 1 rfl rfl Ci rfl ?_)
 refine Aa rfl (Dc (cs:=[Value.int IntKind.i64 ↑N,Value.slice none 0 0]) Vx Hs rfl rfl ?_)
 refine Aa rfl (B2 Hs fun b4=>?_)
 refine Aa rfl (Be 0 rfl rfl rfl Gf rfl rfl (by simp [Value.oneCell']) ?_)
 refine Aq [_,_,_] rfl ?_
 refine Aa rfl (An rfl Ic ?_)
 refine Aa rfl (Bu 2 rfl rfl Hp rfl ?_)
 refine Aa rfl (Hn Df rfl ?_)
 refine Ai it 1 rfl (by simp) ?_
 refine Aq [_,_,_] rfl ?_
 refine Fh (Ah Aj) 22 ?_
 simp only [Cc,Dq,setB,List.take_succ_cons,List.cons_append,List.nil_append,List.take_zero,List.drop_succ_cons,List.drop_zero,List.length_singleton,Nat.zero_add]
 refine Af (X:=Nat×Row) [2,4,5,14,15] [0,1,2,3,4,5,6] (fun z=>[(16,.int .i64 (z.1:Int))]) (fun z=>(z.2.bo,22,z.2.cs)::(some b4,62,[.int .i64 N,.slice (ad z.2.bo) z.1 z.2.cap])::_) (fun z=>[A5 (Ah Aj) z.2 z.1 (rsR p m md P rows (B.take z.1))]) (fun z=>z.1≤B.length) (fun z=>B.length-z.1) (0,⟨none,0,[]⟩) [0] rfl rfl rfl (Nat.zero_le _) (by repeat (first|exact Fr.sub_nil _|refine Fr.sub_cons rfl ?_)) rfl rfl ?_
 rintro ⟨i,r⟩ hi ih
 simp only [List.cons_append,List.nil_append] at hi ih ⊢
 by_cases hil:i<B.length
 ·obtain ⟨u,at_u⟩:∃ u,B[i]?=some u:=⟨_,List.getElem?_eq_getElem hil⟩
  have hu:=hB u (List.mem_of_getElem? at_u)
  have ih1:=fun r=>ih (i+1,r) (by dsimp only;omega) (by dsimp only;omega)
  dsimp only at ih1
  rw [rsR,List.take_add_one (l:=B),at_u,Option.toList_some,List.map_append,List.map_cons,List.map_nil] at ih1
  have hw:=O.rp_wd (P:=P) hR.mat hu
  have hwl:=hw.1
  clear ih
  refine wk 18 (ct @So cz) ?_
  intro h1 b5 o1 hz1 pa1 ca1 r1 pt1 kt1 ct1 b6
  refine Dy 1 0 rfl rfl (by show (N)*8≤140737488355328;omega) ?_
  refine Aa rfl (Fi (z:=rpF (Ad (fA p m)) (Ad (fM p (Az m md))) (B9 p m) P rows u) 1 0 4 rfl rfl rfl rfl rfl Df Gr rfl (fun w A hG=>(Ax (hG _ (Ae (n:=0) rfl)))) (by omega) _ Jx (by omega) fun r2=>?_)
  refine wk 5 cz ?_
  refine Jw [true,false,true,true,true,true] [0,6,7,8,9,10,11,12] (by exact T8 rfl) rfl rfl (ih1 r2)
 ·obtain rfl:i=B.length:=by omega
  clear ih
  rw [List.take_length]
  refine Dy 0 0 rfl rfl (by show B.length*24≤140737488355328;omega) ?_
  simp only [List.eraseIdx_cons_zero,List.eraseIdx_cons_succ]
  refine wk 8 cz ?_
  intro h1
  refine Bb [0] rfl (.agg 1 rfl rfl Gf rfl .nil) rfl ⟨_,_,rfl,rfl,rfl⟩
section
variable {p m n c nm cm n2 c2 N:Nat}{pm ps p2:Option Addr}{md:List Int}{rows B:List (List Int)}
theorem Q6 (CC:Cok p m md N rows) (CB:Cok p m md N B) :
  Bn Tryz.prog 159 [.agg #[.int .i64 p,.int .i64 m,.slice pm nm cm],.agg #[.int .i64 N,.slice ps n c],.agg #[.int .i64 N,.slice p2 n2 c2]] [] [Ap Aj pm nm cm md,Ap (Ah Aj) ps n c rows,Ap (Ah Aj) p2 n2 c2 B]
   (fun v Φ β=>∃ (b b':Nat) (pg:Option Addr) (cg:Nat) (pe:Option Addr) (ce:Nat) (pl:Option Addr) (cl:Nat) (pp pp':Option Addr) (cp cp':Nat),
    v = .tuple #[.agg #[.pointer (some ⟨b,0,none⟩),.int .i64 N,.slice ps rows.length c,.slice pp (C4 p m md N rows).2.length cp],.agg #[.pointer (some ⟨b',0,none⟩),.int .i64 N,.slice p2 B.length c2,.slice pp' (C4 p m md N B).2.length cp'],.int .i64 0]
    ∧ Φ=Ap Aj pp (C4 p m md N rows).2.length cp (Bc (C4 p m md N rows).2)::gfL p m md b pg cg pe ce pl cl∧β=[]):=by
 refine Ab (F:=ACe) rfl fun C=>?_
 have h64:=CC.n64
 have hl1:=CC.len
 have hl2:=CB.len
 have Ef:=fun {pm ps:Option Addr}{nm cm n c:Nat}{rows:List (List Int)}(h:Cok p m md N rows)=>K5 (pm:=pm) (nm:=nm) (cm:=cm) (ps:=ps) (n:=n) (c:=c) (rows:=rows) h.K (show N≤256 by omega) (by have:=h.len;omega) h.mat h.can
 refine wk 38 (ct @Ef (ct @Ef cz)) ?_
 intro b1 b2 b3 b4 b5 b6 pg1 cg1 pe1 ce1 pl1 cl1 pp1 cp1 h1 b7 pg2 cg2 pe2 ce2 pl2 cl2 pp2 cp2 h2 h3
 refine Bb [5,6,7,8,9] rfl (.agg 1 rfl rfl AAr rfl (.agg 0 rfl rfl AAr rfl (.tmp rfl .nil))) rfl ⟨_,_,_,_,_,_,_,_,_,_,_,_,rfl,rfl,rfl⟩
theorem Sz (CC:Cok p m md N rows) (CB:Cok p m md N B) :
  Bn Tryz.prog 125 [.agg #[.int .i64 p,.int .i64 m,.slice pm nm cm],.agg #[.int .i64 N,.slice ps n c],.agg #[.int .i64 N,.slice p2 n2 c2]] [] [Ap Aj pm nm cm md,Ap (Ah Aj) ps n c rows,Ap (Ah Aj) p2 n2 c2 B]
   (fun v Φ β=>∃ (pb:Option Addr) (nb cb:Nat),v = .tuple #[.agg #[.int .i64 N,.slice pb nb cb],.int .i64 0]∧Φ=[Ap (Ah Aj) pb nb cb (C4 p m md N (rows++B)).1]∧β=[]):=by
 refine Ab (F:=ADV) rfl fun C=>?_
 refine A9 1 rfl fun hn _ _=>?_
 subst hn
 refine A9 2 rfl fun hn _ _=>?_
 subst hn
 have K:=CC.K
 have O:=Dx K
 have h64:=CC.n64
 have h1:=CC.n1
 have hl1:=CC.len
 have hl2:=CB.len
 obtain ⟨hR,hRl⟩:=CC.red
 have hPl:=hR.piv_le
 have hRM:Da (p ^ m) N (rsR p m md (C4 p m md N rows).2 rows B):=O.rests_mat CC.mat CB.mat
 have hRL:(rsR p m md (C4 p m md N rows).2 rows B).length=B.length:=List.length_map _
 have hC1:Da (p ^ m) N (C4 p m md N (rsR p m md (C4 p m md N rows).2 rows B)).1:=(O.cn hRM).1.mat
 obtain ⟨hC2,hC3⟩:=Vl K hRM
 have hS:C4 p m md N ((C4 p m md N (rsR p m md (C4 p m md N rows).2 rows B)).1++rows)=C4 p m md N (rows++B):=O.sum_rests CC.mat CB.mat
 have hSM:=Jm hC1 CC.mat
 rw [← hS]
 have Qt:=fun {pm ps p2:Option Addr}{nm cm n c n2 c2:Nat}=>Q6 (pm:=pm) (nm:=nm) (cm:=cm) (ps:=ps) (n:=n) (c:=c) (p2:=p2) (n2:=n2) (c2:=c2) CC CB
 have T3:=fun {b ng cg ce cl n c k cp nx cx:Nat}{pg pe pl ps pp px:Option Addr}=>T6 (b:=b) (ng:=ng) (cg:=cg) (ce:=ce) (cl:=cl) (n:=n) (c:=c) (k:=k) (cp:=cp) (nx:=nx) (cx:=cx) (pg:=pg) (pe:=pe) (pl:=pl) (ps:=ps) (pp:=pp) (px:=px) K hR hRl h1 (show N≤1000000 by omega) (by omega) CB.mat
 have Bt:=fun {pm ps:Option Addr}{nm cm n c:Nat}{rows:List (List Int)}(hl:rows.length≤256) (hM:Da (p ^ m) N rows)=>T5 (pm:=pm) (ps:=ps) (nm:=nm) (cm:=cm) (n:=n) (c:=c) (rows:=rows) K (show N≤256 by omega) hl hM
 generalize hP:(C4 p m md N rows).2=P at *
 generalize hr:rsR p m md P rows B=rs at *
 refine wk 22 (ct @Qt cz) ?_
 intro b1 b2 b3 b4 b5 b'1 pg1 cg1 pe1 ce1 pl1 cl1 pp1 pp'1 cp1 cp'1 b6 b7 h2
 (apply AHe (x0:=none) it mx 0 10 [7,8,11] 2;(· rfl);(· rfl);(· rfl);(· decide))
 (apply Ac;(· rfl);(· exact Ct 5 rfl rfl Gi rfl))
 (apply Ac;(· rfl);(· exact Ct 1 rfl rfl AAr rfl))
 (apply Ac;(· rfl);(· exact Ct 3 rfl rfl Gf rfl))
 (apply Ix (val:=(fun g=>Value.agg #[Value.int IntKind.i64 ↑N,Value.slice (g 0).fst B.length (g 1).snd.fst])) (f:=(fun g=>[Ap (Ah Aj) (g 0).fst B.length (g 1).snd.fst rs]));(· rfl);(· exact Bz fun _=>Aw [1,3,4,6,0,7] rfl (T3) rfl (by rintro _ _ _ ⟨prg0,crg1,rfl,rfl,rfl⟩;exact fun _ _ _ hG=>⟨(fun|0=>(prg0,0,0,[])|1=>(none,crg1,0,[])|_=>default),rfl,fun g hg=>Ez (hG _ (List.mem_append_left _ hg))⟩));intro g1;dsimp only [List.map_cons,List.map_nil])
 (apply Ix (val:=(fun g=>Value.tuple #[Value.agg #[Value.int IntKind.i64 ↑N,Value.slice (g 0).fst (C4 p m md N rs).snd.length (C4 p m md N rs).snd.length],Value.slice (g 1).fst (C4 p m md N rs).snd.length (g 2).snd.fst,Value.int IntKind.i64 0])) (f:=(fun g=>[Ap (Ah Aj) (g 0).fst (C4 p m md N rs).snd.length (C4 p m md N rs).snd.length (C4 p m md N rs).fst,Ap Aj (g 1).fst (C4 p m md N rs).snd.length (g 2).snd.fst (Bc (C4 p m md N rs).snd)]));(· rfl);(· exact Bz fun _=>Aw [6,0] rfl (Bt (by omega) (by omega)) rfl (by rintro _ _ _ ⟨pbg0,ppg1,cpg2,rfl,rfl,rfl⟩;exact fun _ _ _ hG=>⟨(fun|0=>(pbg0,0,0,[])|1=>(ppg1,0,0,[])|2=>(none,cpg2,0,[])|_=>default),rfl,fun g hg=>Ez (hG _ (List.mem_append_left _ hg))⟩));intro g2;dsimp only [List.map_cons,List.map_nil])
 (apply G1 [32] (fun vs=>vs.getD 0 undef) (v:=Value.tuple #[Value.agg #[Value.int IntKind.i64 ↑N,Value.slice (g2 0).fst (C4 p m md N rs).snd.length (C4 p m md N rs).snd.length],Value.slice (g2 1).fst (C4 p m md N rs).snd.length (g2 2).snd.fst,Value.int IntKind.i64 0]);(· rfl);(· rfl);(· rfl);(· rfl);(· exact Bz fun _=>Kx it rfl (by trivial) Al))
 (apply G1 [27] (fun vs=>match vs.getD 0 undef with | .tuple a=>a.getD 0 undef|_=>undef) (v:=Value.agg #[Value.int IntKind.i64 ↑N,Value.slice (g2 0).fst (C4 p m md N rs).snd.length (C4 p m md N rs).snd.length]);(· rfl);(· rfl);(· rfl);(· rfl);(· exact Bz fun _=>Kx it rfl (by trivial) Al))
 (apply G1 [27] (fun vs=>match vs.getD 0 undef with | .tuple a=>a.getD 1 undef|_=>undef) (v:=Value.slice (g2 1).fst (C4 p m md N rs).snd.length (g2 2).snd.fst);(· rfl);(· rfl);(· rfl);(· rfl);(· exact Bz fun _=>Kx it rfl (by trivial) Al))
 (apply Ac;(· rfl);(· exact Bz fun _=>Kx it rfl (by trivial) Al))
 (apply Hy;(· rfl);(· exact Hs);intro b8)
 refine F1 rfl ?_
 (rotate_left;rfl;rotate_right)
 simp only [List.map_cons,List.map_nil,List.cons_append,List.nil_append]
 refine G7 it rfl rfl ⟨⟨_,_,_,_,rfl,rfl,rfl,rfl,rfl,rfl,(by first|trivial|(repeat' first|exact trivial|apply And.intro|omega))⟩,⟨⟨_,_,_,_,rfl,rfl,rfl,rfl,rfl,rfl,(by first|trivial|(repeat' first|exact trivial|apply And.intro|omega))⟩,trivial⟩⟩ (Be 0 rfl rfl rfl Gf rfl rfl (by simp [Value.oneCell']) ?_)
 refine AE4 it rfl rfl rfl rfl rfl (by trivial) ?_ ⟨⟨_,_,_,_,rfl,rfl,rfl,rfl,rfl,rfl,(by first|trivial|(repeat' first|exact trivial|apply And.intro|omega))⟩,⟨⟨_,_,_,_,rfl,rfl,rfl,rfl,rfl,rfl,(by first|trivial|(repeat' first|exact trivial|apply And.intro|omega))⟩,trivial⟩⟩
 refine Is it ⟨⟨_,_,_,_,rfl,rfl,rfl,rfl,rfl,rfl,(by first|trivial|(repeat' first|exact trivial|apply And.intro|omega))⟩,⟨⟨_,_,_,_,rfl,rfl,rfl,rfl,rfl,rfl,(by first|trivial|(repeat' first|exact trivial|apply And.intro|omega))⟩,⟨⟨_,_,_,_,rfl,rfl,rfl,rfl,rfl,rfl,(by first|trivial|(repeat' first|exact trivial|apply And.intro|omega))⟩,trivial⟩⟩⟩ ?_
 refine wk 10 cz ?_
 intro h3
 refine Aa rfl (AKT 0 9 rfl rfl rfl rfl Df Gr rfl (by omega) _ Jx (by omega) (by first|omega|(show _*24≤_;omega)|(show _*8≤_;omega)) fun pr1 cr1=>?_)
 refine wk 5 cz ?_
 refine Aa rfl (Aw [9,0] rfl (Bt (by simp;omega) (by omega)) rfl ?_)
 rintro _ _ _ ⟨pb1,pp2,cp2,rfl,rfl,rfl⟩
 simp only [List.cons_append,List.nil_append]
 simp only [decide_true]
 refine wk 10 cz ?_
 intro b9
 refine Bb [0] rfl (.agg 4 rfl rfl Gf rfl (.tmp rfl .nil)) rfl ⟨_,_,_,rfl,rfl,rfl⟩
end
open Go Go.Fw
set_option maxRecDepth 100000
set_option linter.unusedVariables false
set_option linter.unusedSimpArgs false
set_option maxHeartbeats 0
theorem Cok.nu {p m N:Nat}{md:List Int}{rows:List (List Int)}(CC:Cok p m md N rows):Cok p m md N (Jg p m md N rows):=by
 have O:=Dx CC.K
 refine ⟨CC.K,CC.n1,CC.n64,(O.nu CC.mat).1,?_⟩
 have h:C4 p m md N (Jg p m md N rows)=_:=O.cn_nu CC.mat
 rw [h];rfl
theorem Cok.cn {p m N:Nat}{md:List Int}{rows:List (List Int)}(K:Fok p m md) (h1:1≤N) (h2:N≤64) (hM:Da (p ^ m) N rows):Cok p m md N (C4 p m md N rows).1:=by
 have O:=Dx K
 refine ⟨K,h1,h2,(O.cn hM).1.mat,?_⟩
 have h:C4 p m md N (C4 p m md N rows).1=_:=O.cn_cn hM
 rw [h]
section
variable {p m n c nm cm n2 c2 nm2 cm2 N:Nat}{pm ps p2 pm2:Option Addr}{md:List Int}{rows B:List (List Int)}
theorem Y8 (CC:Cok p m md N rows) (CB:Cok p m md N B) :
  Bn Tryz.prog 124 [.agg #[.int .i64 p,.int .i64 m,.slice pm nm cm],.agg #[.int .i64 N,.slice ps n c],.agg #[.int .i64 N,.slice p2 n2 c2]] [] [Ap Aj pm nm cm md,Ap (Ah Aj) ps n c rows,Ap (Ah Aj) p2 n2 c2 B]
   (fun v Φ β=>∃ (pb:Option Addr) (nb cb:Nat),v = .tuple #[.agg #[.int .i64 N,.slice pb nb cb],.int .i64 0]∧Φ=[Ap (Ah Aj) pb nb cb (Jg p m md N (Jg p m md N rows++Jg p m md N B))]∧β=[]):=by
 refine Ab (F:=ADc) rfl fun C=>?_
 refine A9 1 rfl fun hn _ _=>?_
 subst hn
 refine A9 2 rfl fun hn _ _=>?_
 subst hn
 have K:=CC.K
 have O:=Dx K
 have h64:=CC.n64
 have h1:=CC.n1
 have hNN:=Jm (CC.nu).mat (CB.nu).mat
 have hS:Jg p m md N (C4 p m md N (Jg p m md N rows++Jg p m md N B)).1=Jg p m md N (Jg p m md N rows++Jg p m md N B):=O.nu_cn hNN
 have CS:=Cok.cn K h1 h64 hNN
 have CN1:=CC.nu
 have CN2:=CB.nu
 rw [← hS]
 have Qt:=fun {pm ps p2:Option Addr}{nm cm n c n2 c2:Nat}=>Q6 (pm:=pm) (nm:=nm) (cm:=cm) (ps:=ps) (n:=n) (c:=c) (p2:=p2) (n2:=n2) (c2:=c2) CC CB
 have Ew:=fun {pm ps:Option Addr}{nm cm n c:Nat}{rows:List (List Int)}(h:Cok p m md N rows)=>I4 (pm:=pm) (ps:=ps) (nm:=nm) (cm:=cm) (n:=n) (c:=c) (rows:=rows) K (show N≤256 by omega) (by have:=h.len;omega) h.mat
 have S0:=fun {pm ps p2:Option Addr}{nm cm n c n2 c2:Nat}{rows B:List (List Int)}(h:Cok p m md N rows) (h2:Cok p m md N B)=>Sz (pm:=pm) (nm:=nm) (cm:=cm) (ps:=ps) (n:=n) (c:=c) (p2:=p2) (n2:=n2) (c2:=c2) (rows:=rows) (B:=B) h h2
 refine wk 58 (ct @Qt (ct @Ew (ct @Ew (ct @S0 (ct @Ew cz))))) ?_
 intro b1 b2 b3 b4 b5 b'1 pg1 cg1 pe1 ce1 pl1 cl1 pp1 pp'1 cp1 cp'1 b6 b7 h2 pb1 cb1 b8 pb2 cb2 b9 pb3 nb1 cb3 b10 h3 pb4 cb4
 refine Bb [0] rfl (.agg 5 rfl rfl Gf rfl (.tmp rfl .nil)) rfl ⟨_,_,_,rfl,rfl,rfl⟩
theorem Ur (CC:Cok p m md N rows) (CB:Cok p m md N B):Bn Tryz.prog 123 [.agg #[.int .i64 p,.int .i64 m,.slice pm nm cm,.int .i64 N,.slice ps n c],.agg #[.int .i64 p,.int .i64 m,.slice pm2 nm2 cm2,.int .i64 N,.slice p2 n2 c2]] [] [Ap Aj pm nm cm md,Ap (Ah Aj) ps n c rows,Ap Aj pm2 nm2 cm2 md,Ap (Ah Aj) p2 n2 c2 B] (Rv (.int .i64 0) []):=by
 refine Ab (F:=AEN) rfl fun C=>?_
 have h64:=CC.n64
 have Au:=fun {pm ps:Option Addr}{nm cm n c:Nat}{rows:List (List Int)}(h:Cok p m md N rows)=>D5 (P:=p) (M:=m) (pm:=pm) (ps:=ps) (nm:=nm) (cm:=cm) (n:=n) (c:=c) (md:=md) (rows:=rows) (N:=N) (by simp only [Bx];omega) h.ck
 have ACw:=fun {pm p2:Option Addr}{nm cm n2 c2:Nat}=>ACL (P:=p) (M:=m) (P2:=p) (M2:=m) (md:=md) (md2:=md) (pm:=pm) (p2:=p2) (nm:=nm) (cm:=cm) (n2:=n2) (c2:=c2) (res:=true) (decide_eq_true ⟨rfl,rfl,rfl⟩)
 refine wk 35 (ct @Au (ct @Au (ct @ACw cz))) ?_
 intro b1 b2 h1 h2 h3
 exact ge
theorem Uk (CC:Cok p m md N rows) (CB:Cok p m md N B):Bn Tryz.prog 83 [.agg #[.int .i64 p,.int .i64 m,.slice pm nm cm,.int .i64 N,.slice ps n c],.agg #[.int .i64 p,.int .i64 m,.slice pm2 nm2 cm2,.int .i64 N,.slice p2 n2 c2]] [] [Ap Aj pm nm cm md,Ap (Ah Aj) ps n c rows,Ap Aj pm2 nm2 cm2 md,Ap (Ah Aj) p2 n2 c2 B] (CdQ p m N md (C4 p m md N (rows++B)).1 0):=by
 refine Ab (F:=AEK) rfl fun C=>?_
 have h8:=CC.K.md8
 have U4:=fun {pm ps p2 pm2:Option Addr}{nm cm n c n2 c2 nm2 cm2:Nat}=>Ur (pm:=pm) (nm:=nm) (cm:=cm) (ps:=ps) (n:=n) (c:=c) (p2:=p2) (n2:=n2) (c2:=c2) (pm2:=pm2) (nm2:=nm2) (cm2:=cm2) CC CB
 have I0:=fun {P M N:Int}{pm ps:Option Addr}{nm cm n c:Nat}=>Qf (P:=P) (M:=M) (N:=N) (pm:=pm) (ps:=ps) (nm:=nm) (cm:=cm) (n:=n) (c:=c)
 have S0:=fun {pm ps p2:Option Addr}{nm cm n c n2 c2:Nat}=>Sz (pm:=pm) (nm:=nm) (cm:=cm) (ps:=ps) (n:=n) (c:=c) (p2:=p2) (n2:=n2) (c2:=c2) (rows:=rows) (B:=B) CC CB
 have J6:=fun {pm ps:Option Addr}{nm cm n c:Nat}{rows:List (List Int)}=>Lp (P:=p) (M:=m) (N:=N) (pm:=pm) (ps:=ps) (nm:=nm) (cm:=cm) (n:=n) (c:=c) (md:=md) (rows:=rows) (by omega)
 generalize (C4 p m md N (rows++B)).1=R at *
 refine wk 15 (ct @U4 cz) ?_
 intro b1 b2 b3 h1
 (apply Gn (x0:=none) it mx 0 11 [9] 1;(· rfl);(· rfl);(· rfl);(· decide))
 simp only [List.drop_zero]
 (apply Ac;(· rfl);(· exact Bz fun _=>An rfl K4 Al))
 (apply Ac;(· rfl);(· exact Fp 2 rfl rfl Gi rfl rfl))
 (apply Ac;(· rfl);(· exact Ct 2 rfl rfl Dl rfl))
 (apply Ac;(· rfl);(· exact Bz fun _=>Aw [] rfl (I0) rfl (by rintro _ _ _ ⟨rfl,rfl,rfl⟩;exact Al)))
 (apply Ac;(· rfl);(· exact Ct 1 rfl rfl Dl rfl))
 (apply Ac;(· rfl);(· exact Bz fun _=>Aw [] rfl (I0) rfl (by rintro _ _ _ ⟨rfl,rfl,rfl⟩;exact Al)))
 (apply Ix (val:=(fun g=>Value.tuple #[Value.agg #[Value.int IntKind.i64 ↑N,Value.slice (g 0).fst (g 1).snd.fst (g 2).snd.fst],Value.int IntKind.i64 0])) (f:=(fun g=>[Ap (Ah Aj) (g 0).fst (g 1).snd.fst (g 2).snd.fst R]));(· rfl);(· exact Bz fun _=>Aw [0,1,3] rfl (S0) rfl (by rintro _ _ _ ⟨pbg0,nbg1,cbg2,rfl,rfl,rfl⟩;exact fun _ _ _ hG=>⟨(fun|0=>(pbg0,0,0,[])|1=>(none,nbg1,0,[])|2=>(none,cbg2,0,[])|_=>default),rfl,fun g hg=>Ez (hG _ (List.mem_append_left _ hg))⟩));intro g1;dsimp only [List.map_cons,List.map_nil])
 (apply G1 [23] (fun vs=>vs.getD 0 undef) (v:=Value.tuple #[Value.agg #[Value.int IntKind.i64 ↑N,Value.slice (g1 0).fst (g1 1).snd.fst (g1 2).snd.fst],Value.int IntKind.i64 0]);(· rfl);(· rfl);(· rfl);(· rfl);(· exact Bz fun _=>Kx it rfl (by trivial) Al))
 (apply G1 [16] (fun vs=>match vs.getD 0 undef with | .tuple a=>a.getD 0 undef|_=>undef) (v:=Value.agg #[Value.int IntKind.i64 ↑N,Value.slice (g1 0).fst (g1 1).snd.fst (g1 2).snd.fst]);(· rfl);(· rfl);(· rfl);(· rfl);(· exact Bz fun _=>Kx it rfl (by trivial) Al))
 (apply Ac;(· rfl);(· exact Bz fun _=>Kx it rfl (by trivial) Al))
 (apply Hy;(· rfl);(· exact Hs);intro b4)
 refine F1 rfl ?_
 (rotate_left;rfl;rotate_right)
 simp only [List.map_cons,List.map_nil,List.cons_append,List.nil_append]
 refine G7 it rfl rfl ⟨⟨_,_,_,_,rfl,rfl,rfl,rfl,rfl,rfl,(by first|trivial|(repeat' first|exact trivial|apply And.intro|omega))⟩,trivial⟩ (Be 0 rfl rfl rfl Gf rfl rfl (by simp [Value.oneCell']) ?_)
 refine Is it ⟨⟨_,_,_,_,rfl,rfl,rfl,rfl,rfl,rfl,(by first|trivial|(repeat' first|exact trivial|apply And.intro|omega))⟩,trivial⟩ ?_
 refine wk 11 (ct @J6 cz) ?_
 intro pb1 pc1 nb1 cb1 nc1 cc1
 refine Bb [0,1] rfl (.agg 1 rfl rfl Dl rfl (.tmp rfl .nil)) rfl ⟨_,_,_,_,_,_,rfl,rfl,rfl⟩
theorem AAR (CC:Cok p m md N rows) (CB:Cok p m md N B):Bn Tryz.prog 79 [.agg #[.int .i64 p,.int .i64 m,.slice pm nm cm,.int .i64 N,.slice ps n c],.agg #[.int .i64 p,.int .i64 m,.slice pm2 nm2 cm2,.int .i64 N,.slice p2 n2 c2]] [] [Ap Aj pm nm cm md,Ap (Ah Aj) ps n c rows,Ap Aj pm2 nm2 cm2 md,Ap (Ah Aj) p2 n2 c2 B] (CdQ p m N md (Jg p m md N (Jg p m md N rows++Jg p m md N B)) 0):=by
 refine Ab (F:=ADZ) rfl fun C=>?_
 have h8:=CC.K.md8
 have U4:=fun {pm ps p2 pm2:Option Addr}{nm cm n c n2 c2 nm2 cm2:Nat}=>Ur (pm:=pm) (nm:=nm) (cm:=cm) (ps:=ps) (n:=n) (c:=c) (p2:=p2) (n2:=n2) (c2:=c2) (pm2:=pm2) (nm2:=nm2) (cm2:=cm2) CC CB
 have I0:=fun {P M N:Int}{pm ps:Option Addr}{nm cm n c:Nat}=>Qf (P:=P) (M:=M) (N:=N) (pm:=pm) (ps:=ps) (nm:=nm) (cm:=cm) (n:=n) (c:=c)
 have ACf:=fun {pm ps p2:Option Addr}{nm cm n c n2 c2:Nat}=>Y8 (pm:=pm) (nm:=nm) (cm:=cm) (ps:=ps) (n:=n) (c:=c) (p2:=p2) (n2:=n2) (c2:=c2) (rows:=rows) (B:=B) CC CB
 have J6:=fun {pm ps:Option Addr}{nm cm n c:Nat}{rows:List (List Int)}=>Lp (P:=p) (M:=m) (N:=N) (pm:=pm) (ps:=ps) (nm:=nm) (cm:=cm) (n:=n) (c:=c) (md:=md) (rows:=rows) (by omega)
 generalize Jg p m md N (Jg p m md N rows++Jg p m md N B)=R at *
 refine wk 15 (ct @U4 cz) ?_
 intro b1 b2 b3 h1
 (apply Gn (x0:=none) it mx 0 11 [9] 1;(· rfl);(· rfl);(· rfl);(· decide))
 simp only [List.drop_zero]
 (apply Ac;(· rfl);(· exact Bz fun _=>An rfl K4 Al))
 (apply Ac;(· rfl);(· exact Fp 2 rfl rfl Gi rfl rfl))
 (apply Ac;(· rfl);(· exact Ct 2 rfl rfl Dl rfl))
 (apply Ac;(· rfl);(· exact Bz fun _=>Aw [] rfl (I0) rfl (by rintro _ _ _ ⟨rfl,rfl,rfl⟩;exact Al)))
 (apply Ac;(· rfl);(· exact Ct 1 rfl rfl Dl rfl))
 (apply Ac;(· rfl);(· exact Bz fun _=>Aw [] rfl (I0) rfl (by rintro _ _ _ ⟨rfl,rfl,rfl⟩;exact Al)))
 (apply Ix (val:=(fun g=>Value.tuple #[Value.agg #[Value.int IntKind.i64 ↑N,Value.slice (g 0).fst (g 1).snd.fst (g 2).snd.fst],Value.int IntKind.i64 0])) (f:=(fun g=>[Ap (Ah Aj) (g 0).fst (g 1).snd.fst (g 2).snd.fst R]));(· rfl);(· exact Bz fun _=>Aw [0,1,3] rfl (ACf) rfl (by rintro _ _ _ ⟨pbg0,nbg1,cbg2,rfl,rfl,rfl⟩;exact fun _ _ _ hG=>⟨(fun|0=>(pbg0,0,0,[])|1=>(none,nbg1,0,[])|2=>(none,cbg2,0,[])|_=>default),rfl,fun g hg=>Ez (hG _ (List.mem_append_left _ hg))⟩));intro g1;dsimp only [List.map_cons,List.map_nil])
 (apply G1 [23] (fun vs=>vs.getD 0 undef) (v:=Value.tuple #[Value.agg #[Value.int IntKind.i64 ↑N,Value.slice (g1 0).fst (g1 1).snd.fst (g1 2).snd.fst],Value.int IntKind.i64 0]);(· rfl);(· rfl);(· rfl);(· rfl);(· exact Bz fun _=>Kx it rfl (by trivial) Al))
 (apply G1 [16] (fun vs=>match vs.getD 0 undef with | .tuple a=>a.getD 0 undef|_=>undef) (v:=Value.agg #[Value.int IntKind.i64 ↑N,Value.slice (g1 0).fst (g1 1).snd.fst (g1 2).snd.fst]);(· rfl);(· rfl);(· rfl);(· rfl);(· exact Bz fun _=>Kx it rfl (by trivial) Al))
 (apply Ac;(· rfl);(· exact Bz fun _=>Kx it rfl (by trivial) Al))
 (apply Hy;(· rfl);(· exact Hs);intro b4)
 refine F1 rfl ?_
 (rotate_left;rfl;rotate_right)
 simp only [List.map_cons,List.map_nil,List.cons_append,List.nil_append]
 refine G7 it rfl rfl ⟨⟨_,_,_,_,rfl,rfl,rfl,rfl,rfl,rfl,(by first|trivial|(repeat' first|exact trivial|apply And.intro|omega))⟩,trivial⟩ (Be 0 rfl rfl rfl Gf rfl rfl (by simp [Value.oneCell']) ?_)
 refine Is it ⟨⟨_,_,_,_,rfl,rfl,rfl,rfl,rfl,rfl,(by first|trivial|(repeat' first|exact trivial|apply And.intro|omega))⟩,trivial⟩ ?_
 refine wk 11 (ct @J6 cz) ?_
 intro pb1 pc1 nb1 cb1 nc1 cc1
 refine Bb [0,1] rfl (.agg 1 rfl rfl Dl rfl (.tmp rfl .nil)) rfl ⟨_,_,_,_,_,_,rfl,rfl,rfl⟩
end
open Go Go.Fw
set_option maxRecDepth 100000
set_option linter.unusedVariables false
set_option linter.unusedSimpArgs false
set_option maxHeartbeats 0
theorem ACz {n:Nat}{set:List Int}(h:stP n set):(De n [set]).length+set.length=n:=by
 have e:set.map Int.toNat=(List.range n).filter fun i:Nat=>decide ((i:Int)∈set):=by
  refine Zp ?_ ?_ fun x=>?_
  ·rw [List.pairwise_map]
   refine List.Pairwise.imp_of_mem (fun {a b} ha hb hab=>?_) h.2
   have:=h.1 a ha;have:=h.1 b hb;omega
  ·exact List.Pairwise.sublist List.filter_sublist List.pairwise_lt_range
  ·rw [List.mem_map,List.mem_filter,List.mem_range,decide_eq_true_eq]
   constructor
   ·rintro ⟨y,hy,rfl⟩
    have:=h.1 y hy
    rw [Int.toNat_of_nonneg this.1]
    exact ⟨by omega,hy⟩
   ·rintro ⟨_,h2⟩;exact ⟨_,h2,Int.toNat_natCast x⟩
 have e2:set.length=((List.range n).filter fun i:Nat=>decide ((i:Int)∈set)).length:=by rw [← e,List.length_map]
 have e3:=List.length_eq_countP_add_countP (fun i:Nat=>decide ((i:Int)∈set)) (l:=List.range n)
 rw [List.length_range,List.countP_eq_length_filter,List.countP_eq_length_filter] at e3
 have e4:((List.range n).filter (Vm [set])).length=((List.range n).filter fun a:Nat=>decide (¬ decide ((a:Int)∈set)=true)).length:=by
  congr 1
  refine List.filter_congr fun i _=>?_
  simp [Vm]
 rw [De,List.length_map,e4]
 omega
noncomputable def psE (P M:Int) (md:List Int) (N:Int) (rows:List (List Int)) (set:List Int):Int :=
 if Nz P M md N rows≠0 then Nz P M md N rows else if ¬ stP N set then 6 else if (set.length:Int)=N then 4 else 0
theorem AKw {P M N:Int}{md set:List Int}{rows:List (List Int)}(h:psE P M md N rows set=0):∃ p m n:Nat,P=p∧M=m∧N=n∧Cok p m md n rows∧stP n set∧set.length≠n:=by
 rw [psE] at h
 by_cases h0:Nz P M md N rows=0
 ·obtain ⟨p,m,n,rfl,rfl,rfl,CC⟩:=Wk h0
  rw [if_neg (fun e=>e h0)] at h
  by_cases h1:stP n set
  ·rw [if_neg (fun e=>e h1)] at h
   by_cases h2:set.length=n
   ·rw [if_pos (by omega)] at h;omega
   ·exact ⟨p,m,n,rfl,rfl,rfl,CC,h1,h2⟩
  ·rw [if_pos h1] at h;omega
 ·rw [if_pos h0] at h;exact absurd h h0
theorem AFn (P M:Int) (md:List Int) (N:Int) (rows:List (List Int)) (set:List Int):0≤psE P M md N rows set∧psE P M md N rows set≤6:=by
 have:=Ll P M md N rows
 rw [psE];(repeat' split) <;> omega
theorem G0 {ps:Option Addr}{nn c:Nat}{n:Int}{l:List Int}{res:Bool}(hr:decide (stP n l)=res):Bn Tryz.prog 65 [.slice ps nn c,.int .i64 n] [] [Ap Aj ps nn c l] (Rv (.bool res) []):=by
 refine Ab (F:=ACW) rfl fun C=>?_
 subst hr
 refine A9 0 rfl fun hn hb _=>?_
 subst hn
 have hb':l.length*8≤140737488355328:=hb
 refine wk 7 cz ?_
 refine Af (X:=Nat) [0,1,7,8] [0] (fun i=>[(9,.int .i64 (i:Int))]) (fun _=>[]) (fun _=>[]) (fun i=>i≤l.length∧∀ j,j<i→stA n l j) (fun i=>l.length-i) 0 [] rfl rfl rfl ⟨Nat.zero_le _,fun j h=>by omega⟩ (by repeat (first|exact Fr.sub_nil _|refine Fr.sub_cons rfl ?_)) rfl rfl ?_
 rintro i ⟨hi,hno⟩ ih
 simp only [List.cons_append,List.nil_append] at hi ih ⊢
 by_cases h9:i<l.length
 ·obtain ⟨x,at_x⟩:∃ x,l[i]?=some x:=⟨_,List.getElem?_eq_getElem h9⟩
  have bad:∀ P:Prop,¬ stA n l i→decide (stP n l)=false:=fun _ h=>decide_eq_false (AKU h9 h)
  have good:stA n l i→∀ j,j<i+1→stA n l j:=fun h j hj=>by
   rcases Nat.lt_succ_iff_lt_or_eq.1 hj with h1|rfl
   ·exact hno j h1
   ·exact h
  by_cases a0:x<0
  ·rw [bad True fun h=>by have:=(h x at_x).1;omega]
   refine Aq [_,_,_,_,_] rfl ?_
   refine Ai it 1 rfl (by simp) ?_
   refine Aq [_,_,_,_,_] rfl ?_
   refine L7 rfl rfl (fun h1=>?_) (fun h1=>by exfalso;omega)
   refine Aq [_,_,_,_,_,_,_] rfl ?_
   refine Ai it 1 rfl (by simp) ?_
   refine Aa rfl (Ia 0 (i) rfl rfl rfl Ce rfl (by omega) fun z1 hz1 b1 o1=>?_)
   obtain rfl:_=z1:=Option.some.inj (at_x.symm.trans hz1)
   refine Aa rfl (Av 0 rfl rfl Ci fun ⟨r1,r2⟩=>?_)
   refine Ai it 2 rfl (by simp) ?_
   refine Aq [_,_,_,_,_,_,_] rfl ?_
   refine Ai it 3 rfl (by simp) ?_
   refine B8 (t:=16) rfl (fun h2=>?_) (fun h2=>by exfalso;omega)
   refine Ai it 8 rfl (by simp) ?_
   refine Ed rfl rfl ?_
   refine Ed rfl rfl ?_
   refine Ed rfl rfl ?_
   refine Ed rfl rfl ?_
   refine Ed rfl rfl ?_
   refine Ed rfl rfl ?_
   refine Ed rfl rfl ?_
   refine Ai it 2 rfl (by simp) ?_
   refine Aq [_,_,_,_,_,_] rfl ?_
   refine R2 rfl rfl ?_
   refine Aq [_,_,_,_,_,_,_] rfl ?_
   refine Ai it 1 rfl (by simp) ?_
   refine Aq [_,_,_,_,_,_] rfl ?_
   exact ge
  ·by_cases a1:n≤x
   ·rw [bad True fun h=>by have:=(h x at_x).1;omega]
    refine Aq [_,_,_,_,_] rfl ?_
    refine Ai it 1 rfl (by simp) ?_
    refine Aq [_,_,_,_,_] rfl ?_
    refine L7 rfl rfl (fun h1=>?_) (fun h1=>by exfalso;omega)
    refine Aq [_,_,_,_,_,_,_] rfl ?_
    refine Ai it 1 rfl (by simp) ?_
    refine Aa rfl (Ia 0 (i) rfl rfl rfl Ce rfl (by omega) fun z1 hz1 b1 o1=>?_)
    obtain rfl:_=z1:=Option.some.inj (at_x.symm.trans hz1)
    refine Aa rfl (Av 0 rfl rfl Ci fun ⟨r1,r2⟩=>?_)
    refine Ai it 2 rfl (by simp) ?_
    refine Aq [_,_,_,_,_,_,_] rfl ?_
    refine Ai it 3 rfl (by simp) ?_
    refine B8 (t:=16) rfl (fun h2=>by exfalso;omega) (fun h2=>?_)
    refine Ai it 5 rfl (by simp) ?_
    refine B8 (t:=21) rfl (fun h3=>?_) (fun h3=>by exfalso;omega)
    refine Ai it 3 rfl (by simp) ?_
    refine Ed rfl rfl ?_
    refine Ed rfl rfl ?_
    refine Ed rfl rfl ?_
    refine Ed rfl rfl ?_
    refine Ed rfl rfl ?_
    refine Ed rfl rfl ?_
    refine Ed rfl rfl ?_
    refine Ai it 2 rfl (by simp) ?_
    refine Aq [_,_,_,_,_,_] rfl ?_
    refine R2 rfl rfl ?_
    refine Aq [_,_,_,_,_,_,_] rfl ?_
    refine Ai it 1 rfl (by simp) ?_
    refine Aq [_,_,_,_,_,_] rfl ?_
    exact ge
   ·rcases Nat.eq_zero_or_pos i with hi0|hi0
    ·subst hi0
     refine wk 20 cz ?_
     intro h1 b1 o1 hz1 _ r1 r2 h2
     refine B8 (t:=21) rfl (fun h3=>by exfalso;omega) (fun h3=>?_)
     refine wk 6 cz ?_
     exact tw (ih 1 (by omega) ⟨by omega,good fun z hz=>by
      rw [at_x] at hz;obtain rfl:=Option.some.inj hz
      exact ⟨by omega,fun y h=>by omega⟩⟩)
    ·obtain ⟨k,rfl⟩:∃ k,i=k+1:=⟨i-1,by omega⟩
     obtain ⟨y,at_y⟩:∃ y,l[k]?=some y:=⟨_,List.getElem?_eq_getElem (by omega)⟩
     by_cases a2:x≤y
     ·rw [bad True fun h=>by have:=(h x at_x).2 y (by omega) at_y;omega]
      refine Aq [_,_,_,_,_] rfl ?_
      refine Ai it 1 rfl (by simp) ?_
      refine Aq [_,_,_,_,_] rfl ?_
      refine L7 rfl rfl (fun h1=>?_) (fun h1=>by exfalso;omega)
      refine Aq [_,_,_,_,_,_,_] rfl ?_
      refine Ai it 1 rfl (by simp) ?_
      refine Aa rfl (Ia 0 (k+1) rfl rfl rfl Ce rfl (by omega) fun z1 hz1 b1 o1=>?_)
      obtain rfl:_=z1:=Option.some.inj (at_x.symm.trans hz1)
      refine Aa rfl (Av 0 rfl rfl Ci fun ⟨r1,r2⟩=>?_)
      refine Ai it 2 rfl (by simp) ?_
      refine Aq [_,_,_,_,_,_,_] rfl ?_
      refine Ai it 3 rfl (by simp) ?_
      refine B8 (t:=16) rfl (fun h2=>by exfalso;omega) (fun h2=>?_)
      refine Ai it 5 rfl (by simp) ?_
      refine B8 (t:=21) rfl (fun h3=>by exfalso;omega) (fun h3=>?_)
      refine Ai it 3 rfl (by simp) ?_
      refine B8 (t:=24) rfl (fun h4=>?_) (fun h4=>by exfalso;omega)
      refine Ai it 4 rfl ⟨⟨by omega,by omega⟩,trivial,trivial,trivial,trivial⟩ ?_
      refine Cg rfl rfl (Ia 1 ((k+1)-1) rfl rfl rfl Ce (by omega) (by omega) fun z1 hz2 b2 o2=>?_)
      obtain rfl:_=z1:=Option.some.inj (at_y.symm.trans hz2)
      refine Cg rfl rfl (Av 0 rfl rfl Ci fun ⟨r3,r4⟩=>?_)
      refine Ai it 3 rfl (by simp) ?_
      refine Aq [_,_,_,_,_,_] rfl ?_
      refine L7 rfl rfl (fun h5=>?_) (fun h5=>by exfalso;omega)
      refine Aq [_,_,_,_,_,_,_] rfl ?_
      refine Ai it 1 rfl (by simp) ?_
      refine Aq [_,_,_,_,_,_] rfl ?_
      exact ge
     ·refine Aq [_,_,_,_,_] rfl ?_
      refine Ai it 1 rfl (by simp) ?_
      refine Aq [_,_,_,_,_] rfl ?_
      refine L7 rfl rfl (fun h1=>?_) (fun h1=>by exfalso;omega)
      refine Aq [_,_,_,_,_,_,_] rfl ?_
      refine Ai it 1 rfl (by simp) ?_
      refine Aa rfl (Ia 0 (k+1) rfl rfl rfl Ce rfl (by omega) fun z1 hz1 b1 o1=>?_)
      obtain rfl:_=z1:=Option.some.inj (at_x.symm.trans hz1)
      refine Aa rfl (Av 0 rfl rfl Ci fun ⟨r1,r2⟩=>?_)
      refine Ai it 2 rfl (by simp) ?_
      refine Aq [_,_,_,_,_,_,_] rfl ?_
      refine Ai it 3 rfl (by simp) ?_
      refine B8 (t:=16) rfl (fun h2=>by exfalso;omega) (fun h2=>?_)
      refine Ai it 5 rfl (by simp) ?_
      refine B8 (t:=21) rfl (fun h3=>by exfalso;omega) (fun h3=>?_)
      refine Ai it 3 rfl (by simp) ?_
      refine B8 (t:=24) rfl (fun h4=>?_) (fun h4=>by exfalso;omega)
      refine Ai it 4 rfl ⟨⟨by omega,by omega⟩,trivial,trivial,trivial,trivial⟩ ?_
      refine Cg rfl rfl (Ia 1 ((k+1)-1) rfl rfl rfl Ce (by omega) (by omega) fun z1 hz2 b2 o2=>?_)
      obtain rfl:_=z1:=Option.some.inj (at_y.symm.trans hz2)
      refine Cg rfl rfl (Av 0 rfl rfl Ci fun ⟨r3,r4⟩=>?_)
      refine Ai it 3 rfl (by simp) ?_
      refine Aq [_,_,_,_,_,_] rfl ?_
      refine L7 rfl rfl (fun h5=>by exfalso;omega) (fun h5=>?_)
      refine Aq [_,_,_,_] rfl ?_
      refine Ai it 2 rfl ⟨trivial,⟨by omega,by omega⟩,trivial⟩ ?_
      refine Yu 1 [.lp [1,0,1,0,0],.blk 0,.c [1,1]] rfl ?_
      exact tw (ih (k+2) (by omega) ⟨by omega,good fun z hz=>by
       rw [at_x] at hz;obtain rfl:=Option.some.inj hz
       exact ⟨by omega,fun z h hz=>by
        rw [show k+1-1=k by omega,at_y] at hz;obtain rfl:=Option.some.inj hz;omega⟩⟩)
 ·rw [decide_eq_true (ACa.2 fun j hj=>hno j (by omega))]
  refine wk 7 cz ?_
  intro h1
  exact ge
theorem Ud {ps:Option Addr}{nn c n:Nat}{l:List Int}(hn:n≤1000000):Bn Tryz.prog 62 [.slice ps nn c,.int .i64 n] [] [Ap Aj ps nn c l] (RwI (De n [l]).length (De n [l])):=by
 refine Ab (F:=ABs) rfl fun C=>?_
 have hle:=fun k=>ADl k [l]
 have B4:=fun {x:Int}{res:Bool}(h:decide (x∈l)=res)=>Cp (pl:=ps) (nl:=nn) (cl:=c) (l:=l) (x:=x) (res:=res) h
 refine wk 7 cz ?_
 refine Fh Aj 3 ?_
 refine Af (X:=Nat×Row) [0,4,7] [0,1] (fun x=>[(8,.int .i64 (x.1:Int)),(5,.slice (ad x.2.bo) (De x.1 [l]).length x.2.cap)]) (fun x=>[(x.2.bo,3,x.2.cs)]) (fun x=>[A5 Aj x.2 (De x.1 [l]).length (De x.1 [l])]) (fun x=>x.1≤n) (fun x=>n-x.1) (0,⟨none,0,[]⟩) [0] rfl rfl rfl (Nat.zero_le _) (by repeat (first|exact Fr.sub_nil _|refine Fr.sub_cons rfl ?_)) rfl rfl ?_
 rintro ⟨k,r⟩ hk ih
 simp only [List.cons_append,List.nil_append] at hk ih ⊢
 by_cases h9:k<n
 ·have hk1:=hle k
  have ih':=fun r=>ih (k+1,r) (by dsimp only;omega) (by dsimp only;omega)
  simp only [ABW] at ih'
  clear ih
  by_cases hm:(k:Int)∈l
  ·have B4:=B4 (x:=(k:Int)) (decide_eq_true hm)
   rw [show Vm [l] k=false by simp [Vm,hm],if_neg (by simp),List.append_nil] at ih'
   refine wk 15 (ct @B4 cz) ?_
   intro h1
   exact tw (ih' r)
  ·have B4:=B4 (x:=(k:Int)) (decide_eq_false hm)
   rw [show Vm [l] k=true by simp [Vm,hm],if_pos rfl] at ih'
   simp only [List.length_append,List.length_singleton] at ih'
   refine wk 15 (ct @B4 cz) ?_
   intro h1 b1
   refine Aa rfl (Fi (z:=(↑k:Int)) 1 0 0 rfl rfl rfl rfl rfl Ce Ee rfl (fun w A hG=>(Dz (by first|(simp only [Bx];omega)|(simp [Bx];done)))) (by omega) _ G5 (by omega) fun r1=>?_)
   refine wk 4 cz ?_
   refine Jw [true,false] [0,2,3] (by exact T8 rfl) rfl rfl (ih' r1)
 ·obtain rfl:k=n:=by omega
  clear ih
  refine wk 7 cz ?_
  intro h1
  refine Dp 1 [0] [0] rfl (.tmp rfl .nil) rfl rfl rfl ⟨r,rfl,rfl,rfl⟩
theorem Wi {P M N:Int}{pm ps:Option Addr}{nm cm n c:Nat}:Bn Tryz.prog 56 [.agg #[.int .i64 P,.int .i64 M,.slice pm nm cm,.int .i64 N,.slice ps n c]] [] [] (Rv (.agg #[.int .i64 N,.slice ps n c]) []):=by
 refine Ab (F:=ACB) rfl fun C=>?_
 refine Aq [_,_] rfl ?_
 refine Aa rfl (Cu rfl fun b1=>?_)
 refine Aa rfl (B2 Hs fun b2=>?_)
 refine Aq [_,_] rfl ?_
 refine Aa rfl (An rfl If ?_)
 refine Aa rfl (Bu 1 rfl rfl Ci rfl ?_)
 refine Aa rfl (An rfl Mn ?_)
 refine Aa rfl (Bu 1 rfl rfl Hp rfl ?_)
 refine Aa rfl (Dc (cs:=[Value.int IntKind.i64 N,Value.slice ps n c]) Vx Hs rfl rfl ?_)
 refine Aa rfl (Be 0 rfl rfl rfl Gf rfl rfl (by simp [Value.oneCell']) ?_)
 refine Aq [_] rfl ?_
 refine Bb [] rfl (.agg 0 rfl rfl Gf rfl .nil) rfl ⟨rfl,rfl,rfl⟩
section
variable {P M:Int}{p m n c nm cm ns cs':Nat}{pm ps pt:Option Addr}{md set:List Int}{rows:List (List Int)}
theorem Me {N e:Int}(hN:Bx .i64 N) (h:psE P M md N rows set=e):Bn Tryz.prog 54 [.agg #[.int .i64 P,.int .i64 M,.slice pm nm cm,.int .i64 N,.slice ps n c],.slice pt ns cs'] [] [Ap Aj pm nm cm md,Ap (Ah Aj) ps n c rows,Ap Aj pt ns cs' set] (Rv (.int .i64 e) []):=by
 refine Ab (F:=U9) rfl fun C=>?_
 refine A9 2 rfl fun hn hb _=>?_
 subst hn
 have hb':set.length*8≤140737488355328:=hb
 rw [psE] at h
 have Au:=fun {pm ps:Option Addr}{nm cm n c:Nat}=>D5 (P:=P) (M:=M) (pm:=pm) (ps:=ps) (nm:=nm) (cm:=cm) (n:=n) (c:=c) (md:=md) (rows:=rows) (N:=N) hN rfl
 by_cases h0:Nz P M md N rows=0
 ·rw [if_neg (fun e=>e h0)] at h
  rw [h0] at Au
  by_cases h1:stP N set
  ·rw [if_neg (fun e=>e h1)] at h
   have C7:=fun {ps:Option Addr}{nn c:Nat}=>G0 (ps:=ps) (nn:=nn) (c:=c) (n:=N) (l:=set) (decide_eq_true h1)
   by_cases h2:(set.length:Int)=N
   ·rw [if_pos h2] at h
    subst h
    refine wk 30 (ct @Au (ct @C7 cz)) ?_
    intro b1 h3 h4
    exact ge
   ·rw [if_neg h2] at h
    subst h
    refine wk 30 (ct @Au (ct @C7 cz)) ?_
    intro b1 h3 h4
    exact ge
  ·rw [if_pos h1] at h
   subst h
   have C7:=fun {ps:Option Addr}{nn c:Nat}=>G0 (ps:=ps) (nn:=nn) (c:=c) (n:=N) (l:=set) (decide_eq_false h1)
   refine wk 22 (ct @Au (ct @C7 cz)) ?_
   intro b1 h2
   exact ge
 ·rw [if_pos h0] at h
  subst h
  refine wk 14 (ct @Au cz) ?_
  intro b1 h1
  exact ge
theorem Uc {N:Nat}(K:Fok p m md) (hN:N≤64) (hl:rows.length≤256) (hM:Da (p ^ m) N rows) (hst:stP N set) (hne:set.length≠N) :
  Bn Tryz.prog 55 [.agg #[.int .i64 p,.int .i64 m,.slice pm nm cm],.agg #[.int .i64 N,.slice ps n c],.slice pt ns cs'] [] [Ap Aj pm nm cm md,Ap (Ah Aj) ps n c rows,Ap Aj pt ns cs' set]
   (CdQ p m ((De N [set]).length:Nat) md (C4 p m md (De N [set]).length (rows.map fun r=>pkI r (De N [set]))).1 0):=by
 refine Ab (F:=ABo) rfl fun C=>?_
 have O:=Dx K
 have hol:=ACz hst
 have ho64:(De N [set]).length≤64:=by omega
 have ho1:1≤(De N [set]).length:=by omega
 have hor:∀ x∈De N [set],0≤x∧x<(N:Int):=(Z2 N [set]).1
 have hPM:Da (p ^ m) (De N [set]).length (rows.map fun r=>pkI r (De N [set])):=O.pk_mat hM _
 have hRl:(rows.map fun r=>pkI r (De N [set])).length≤256:=by rw [List.length_map];exact hl
 have N5:=fun {ps:Option Addr}{nn c:Nat}=>(Ud (ps:=ps) (nn:=nn) (c:=c) (n:=N) (l:=set) (by omega)).pubR (by show _*8≤140737488355328;omega)
 have J1:=fun {pm ps pt:Option Addr}{nm cm n c ns cs':Nat}=>Ld (pm:=pm) (ps:=ps) (pt:=pt) (nm:=nm) (cm:=cm) (n:=n) (c:=c) (ns:=ns) (cs':=cs') K (show N≤256 by omega) hl hM (show (De N [set]).length≤256 by omega) hor
 have Dr:=fun {pm ps:Option Addr}{nm cm n c:Nat}=>I5 (pm:=pm) (ps:=ps) (nm:=nm) (cm:=cm) (n:=n) (c:=c) (N:=(De N [set]).length) (rows:=rows.map fun r=>pkI r (De N [set])) K ho1 ho64 hRl hPM
 generalize (rows.map fun r=>pkI r (De N [set]))=R at *
 generalize De N [set]=T at *
 refine wk 6 cz ?_
 intro b1 b2 b3
 (apply Gn (x0:=none) it mx 0 10 [9] 1;(· rfl);(· rfl);(· rfl);(· decide))
 simp only [List.drop_zero]
 (apply Ac;(· rfl);(· exact Ct 2 rfl rfl Gi rfl))
 (apply Ac;(· rfl);(· exact Ct 1 rfl rfl Gf rfl))
 (apply A1 1;(· rfl);(· simp))
 (apply Ac;(· rfl);(· exact Bz fun _=>An rfl Jr Al))
 (apply Ac;(· rfl);(· exact Bv 1 rfl rfl Ci rfl))
 (apply Fa;(· rfl);(· exact Bz fun _=>Aw [2] rfl (N5) rfl (by rintro _ _ _ ⟨pa1,ca1,rfl,rfl,rfl⟩;exact (Jd 0 rfl)));intro pa1 ca1)
 (apply Ix (val:=(fun g=>Value.tuple #[Value.agg #[Value.int IntKind.i64 ↑T.length,Value.slice (g 0).fst rows.length (g 1).snd.fst],Value.int IntKind.i64 0])) (f:=(fun g=>[Ap (Ah Aj) (g 0).fst rows.length (g 1).snd.fst R]));(· rfl);(· exact Bz fun _=>Aw [1,2,0] rfl (J1) rfl (by rintro _ _ _ ⟨pbg0,cbg1,rfl,rfl,rfl⟩;exact fun _ _ _ hG=>⟨(fun|0=>(pbg0,0,0,[])|1=>(none,cbg1,0,[])|_=>default),rfl,fun g hg=>Ez (hG _ (List.mem_append_left _ hg))⟩));intro g1;dsimp only [List.map_cons,List.map_nil])
 (apply G1 [16] (fun vs=>vs.getD 0 undef) (v:=Value.tuple #[Value.agg #[Value.int IntKind.i64 ↑T.length,Value.slice (g1 0).fst rows.length (g1 1).snd.fst],Value.int IntKind.i64 0]);(· rfl);(· rfl);(· rfl);(· rfl);(· exact Bz fun _=>Kx it rfl (by trivial) Al))
 (apply G1 [9] (fun vs=>match vs.getD 0 undef with | .tuple a=>a.getD 0 undef|_=>undef) (v:=Value.agg #[Value.int IntKind.i64 ↑T.length,Value.slice (g1 0).fst rows.length (g1 1).snd.fst]);(· rfl);(· rfl);(· rfl);(· rfl);(· exact Bz fun _=>Kx it rfl (by trivial) Al))
 (apply Ac;(· rfl);(· exact Bz fun _=>Kx it rfl (by trivial) Al))
 refine F1 rfl ?_
 (rotate_left;rfl;rotate_right)
 simp only [List.map_cons,List.map_nil,List.cons_append,List.nil_append]
 refine G7 it rfl rfl ⟨⟨_,_,_,_,rfl,rfl,rfl,rfl,rfl,rfl,(by first|trivial|(repeat' first|exact trivial|apply And.intro|omega))⟩,trivial⟩ (Be 1 rfl rfl rfl Gf rfl rfl (by simp [Value.oneCell']) ?_)
 refine Is it ⟨⟨_,_,_,_,rfl,rfl,rfl,rfl,rfl,rfl,(by first|trivial|(repeat' first|exact trivial|apply And.intro|omega))⟩,trivial⟩ ?_
 refine wk 13 (ct @Dr cz) ?_
 intro h1 pb1 pc1 nb1 cb1 nc1 cc1
 refine Bb [0,1] rfl (.agg 0 rfl rfl Dl rfl (.tmp rfl .nil)) rfl ⟨_,_,_,_,_,_,rfl,rfl,rfl⟩
end
open Go Go.Fw
set_option maxRecDepth 100000
set_option linter.unusedVariables false
set_option linter.unusedSimpArgs false
set_option maxHeartbeats 0
structure CR where
 P:Int
 M:Int
 N:Int
 md:List Int
 rows:List (List Int)
 e:Int
abbrev CdX (x:CR):Value→List Fact→List A3→Prop:=CdQ x.P x.M x.N x.md x.rows x.e
abbrev zeR (e:Int):CR:=⟨0,0,0,[],[],e⟩
theorem AHn {n:Nat}{set:List Int}(h:stP n set):De n [De n [set]]=set:=by
 have e:(De n [De n [set]]).map Int.toNat=set.map Int.toNat:=by
  refine Zp ?_ ?_ fun x=>?_
  ·rw [List.pairwise_map]
   have h2:=Z2 n [De n [set]]
   refine List.Pairwise.imp_of_mem (fun {a b} ha hb hab=>?_) h2.2
   have:=h2.1 a ha;have:=h2.1 b hb;omega
  ·rw [List.pairwise_map]
   refine List.Pairwise.imp_of_mem (fun {a b} ha hb hab=>?_) h.2
   have:=h.1 a ha;have:=h.1 b hb;omega
  ·rw [List.mem_map,List.mem_map]
   constructor
   ·rintro ⟨y,hy,rfl⟩
    obtain ⟨⟨h0,h1⟩,h2⟩:=Ov.1 hy
    have h3:=h2 _ (.head _)
    refine ⟨y,Classical.byContradiction fun hn=>h3 (Ov.2 ⟨⟨h0,h1⟩,fun l hl=>?_⟩),rfl⟩
    rw [List.mem_singleton.1 hl];exact hn
   ·rintro ⟨y,hy,rfl⟩
    refine ⟨y,Ov.2 ⟨h.1 y hy,fun l hl hm=>?_⟩,rfl⟩
    rw [List.mem_singleton.1 hl] at hm
    exact (Ov.1 hm).2 _ (.head _) hy
 have hb:=fun (l:List Int) (hl:∀ x∈l,0≤x)=>show (l.map Int.toNat).map (fun i:Nat=>(i:Int))=l by
  rw [List.map_map]
  conv=>rhs;rw [← List.map_id l]
  exact List.map_congr_left fun x hx=>Int.toNat_of_nonneg (hl x hx)
 rw [← hb (De n [De n [set]]) fun x hx=>((Z2 _ _).1 x hx).1,e,hb set fun x hx=>(h.1 x hx).1]
noncomputable def puX (P M:Int) (md:List Int) (N:Int) (rows:List (List Int)) (set:List Int):CR :=
 if psE P M md N rows set=0 then ⟨P,M,((De N.toNat [set]).length:Nat),md,(C4 P.toNat M.toNat md (De N.toNat [set]).length (rows.map fun r=>pkI r (De N.toNat [set]))).1,0⟩ else zeR (psE P M md N rows set)
noncomputable def shX (P M:Int) (md:List Int) (N:Int) (rows:List (List Int)) (set:List Int):CR :=
 if psE P M md N rows set=0 then ⟨P,M,((De N.toNat [set]).length:Nat),md,(C4 P.toNat M.toNat md (De N.toNat [set]).length ((wiP P.toNat M.toNat md N.toNat rows set).map fun r=>pkI r (De N.toNat [set]))).1,0⟩ else zeR (psE P M md N rows set)
theorem AIh {p m n:Nat}{md set:List Int}{rows:List (List Int)}(h:psE p m md n rows set=0):puX p m md n rows set=⟨p,m,((De n [set]).length:Nat),md,(C4 p m md (De n [set]).length (rows.map fun r=>pkI r (De n [set]))).1,0⟩:=by
 rw [puX,if_pos h];simp only [Int.toNat_natCast]
theorem AHx {p m n:Nat}{md set:List Int}{rows:List (List Int)}(h:psE p m md n rows set=0):shX p m md n rows set=⟨p,m,((De n [set]).length:Nat),md,(C4 p m md (De n [set]).length ((wiP p m md n rows set).map fun r=>pkI r (De n [set]))).1,0⟩:=by
 rw [shX,if_pos h];simp only [Int.toNat_natCast]
theorem ALy {p m n:Nat}{md set:List Int}{rows:List (List Int)}(CC:Cok p m md n rows):Da (p ^ m) n (wiP p m md n rows set)∧(wiP p m md n rows set).length≤n:=by
 have O:=Dx CC.K
 have hc:Da (p ^ m) rows.length (set.map fun j=>Hm rows j.toNat):=fun r hr=>by
  obtain ⟨j,_,rfl⟩:=List.mem_map.1 hr
  exact Ym (by have:=O.q2;omega) CC.mat _
 obtain ⟨h1,h2⟩:=Vl CC.K (O.wo_mat CC.mat hc)
 exact ⟨(O.wi CC.mat hc).1,Nat.le_trans (Nat.le_of_eq h1) h2⟩
section
variable {P M:Int}{n c nm cm ns cs':Nat}{pm ps pt:Option Addr}{md set:List Int}{rows:List (List Int)}
theorem Wo {N:Int}(hN:Bx .i64 N):Bn Tryz.prog 15 [.agg #[.int .i64 P,.int .i64 M,.slice pm nm cm,.int .i64 N,.slice ps n c],.slice pt ns cs'] [] [Ap Aj pm nm cm md,Ap (Ah Aj) ps n c rows,Ap Aj pt ns cs' set] (CdX (puX P M md N rows set)):=by
 refine Ab (F:=Wc) rfl fun C=>?_
 have hr:=AFn P M md N rows set
 have Do:=fun {pm ps pt:Option Addr}{nm cm n c ns cs':Nat}=>Me (P:=P) (M:=M) (pm:=pm) (ps:=ps) (pt:=pt) (nm:=nm) (cm:=cm) (n:=n) (c:=c) (ns:=ns) (cs':=cs') (md:=md) (set:=set) (rows:=rows) hN rfl
 by_cases h0:psE P M md N rows set=0
 ·obtain ⟨p,m,n',rfl,rfl,rfl,CC,hst,hne⟩:=AKw h0
  rw [h0] at Do
  rw [AIh h0]
  have h64:=CC.n64
  have Qz:=fun {P M N:Int}{pm ps:Option Addr}{nm cm n c:Nat}=>Wi (P:=P) (M:=M) (N:=N) (pm:=pm) (ps:=ps) (nm:=nm) (cm:=cm) (n:=n) (c:=c)
  have Oj:=fun {pm ps pt:Option Addr}{nm cm n c ns cs':Nat}=>Uc (pm:=pm) (ps:=ps) (pt:=pt) (nm:=nm) (cm:=cm) (n:=n) (c:=c) (ns:=ns) (cs':=cs') CC.K h64 (by have:=CC.len;omega) CC.mat hst hne
  refine wk 14 (ct @Do cz) ?_
  intro b1 b2 h1
  (apply E5 it mx 8;(· rfl);(· rfl))
  (apply Ac;(· rfl);(· exact Bz fun _=>An rfl K4 Al))
  (apply Ac;(· rfl);(· exact Fp 1 rfl rfl Gi rfl rfl))
  (apply Ac;(· rfl);(· exact Ct 1 rfl rfl Dl rfl))
  (apply Ac;(· rfl);(· exact Bz fun _=>Aw [] rfl (Qz) rfl (by rintro _ _ _ ⟨rfl,rfl,rfl⟩;exact Al)))
  (apply A1 1;(· rfl);(· simp))
  (apply Ix (val:=(fun g=>Value.tuple #[Value.agg #[Value.int IntKind.i64 ↑p,Value.int IntKind.i64 ↑m,Value.slice (g 0).fst (g 2).snd.fst (g 3).snd.fst,Value.int IntKind.i64 ↑(De n' [set]).length,Value.slice (g 1).fst (g 4).snd.fst (g 5).snd.fst],Value.int IntKind.i64 0])) (f:=(fun g=>[Ap Aj (g 0).fst (g 2).snd.fst (g 3).snd.fst md,Ap (Ah Aj) (g 1).fst (g 4).snd.fst (g 5).snd.fst (C4 p m md (De n' [set]).length (List.map (fun r=>pkI r (De n' [set])) rows)).fst]));(· rfl);(· exact Bz fun _=>Aw [0,1,2] rfl (Oj) rfl (by rintro _ _ _ ⟨pbg0,pcg1,nbg2,cbg3,ncg4,ccg5,rfl,rfl,rfl⟩;exact fun _ _ _ hG=>⟨(fun|0=>(pbg0,0,0,[])|1=>(pcg1,0,0,[])|2=>(none,nbg2,0,[])|3=>(none,cbg3,0,[])|4=>(none,ncg4,0,[])|5=>(none,ccg5,0,[])|_=>default),rfl,fun g hg=>Ez (hG _ (List.mem_append_left _ hg))⟩));intro g1;dsimp only [List.map_cons,List.map_nil])
  (apply G1 [19] (fun vs=>match vs.getD 0 undef with | .tuple a=>a.getD 0 undef|_=>undef) (v:=Value.agg #[Value.int IntKind.i64 ↑p,Value.int IntKind.i64 ↑m,Value.slice (g1 0).fst (g1 2).snd.fst (g1 3).snd.fst,Value.int IntKind.i64 ↑(De n' [set]).length,Value.slice (g1 1).fst (g1 4).snd.fst (g1 5).snd.fst]);(· rfl);(· rfl);(· rfl);(· rfl);(· exact Bz fun _=>Kx it rfl (by trivial) Al))
  (apply Ac;(· rfl);(· exact Bz fun _=>Kx it rfl (by trivial) Al))
  refine Et rfl ?_
  simp only [List.map_cons,List.map_nil,List.cons_append,List.nil_append]
  refine wk 3 cz ?_
  refine Bb [0,1] rfl (.agg 0 rfl rfl Dl rfl (.tmp rfl .nil)) rfl ⟨_,_,_,_,_,_,rfl,rfl,rfl⟩
 ·rw [puX,if_neg h0]
  generalize psE P M md N rows set=e at *
  refine Dk (Ap Aj none 0 0 []) (fun w A _=>Cl _ w A none 0) ?_
  refine Dk (Ap (Ah Aj) none 0 0 []) (fun w A _=>Cl _ w A none 0) ?_
  refine wk 19 (ct @Do cz) ?_
  intro b1 b2 h1
  refine Bb [1,0] rfl (.agg 0 rfl rfl Dl rfl (.tmp rfl .nil)) rfl ⟨_,_,_,_,_,_,rfl,rfl,rfl⟩
theorem Xh {N:Int}(hN:Bx .i64 N):Bn Tryz.prog 18 [.agg #[.int .i64 P,.int .i64 M,.slice pm nm cm,.int .i64 N,.slice ps n c],.slice pt ns cs'] [] [Ap Aj pm nm cm md,Ap (Ah Aj) ps n c rows,Ap Aj pt ns cs' set] (CdX (shX P M md N rows set)):=by
 refine Ab (F:=Xx) rfl fun C=>?_
 have hr:=AFn P M md N rows set
 have Do:=fun {pm ps pt:Option Addr}{nm cm n c ns cs':Nat}=>Me (P:=P) (M:=M) (pm:=pm) (ps:=ps) (pt:=pt) (nm:=nm) (cm:=cm) (n:=n) (c:=c) (ns:=ns) (cs':=cs') (md:=md) (set:=set) (rows:=rows) hN rfl
 by_cases h0:psE P M md N rows set=0
 ·obtain ⟨p,m,n',rfl,rfl,rfl,CC,hst,hne⟩:=AKw h0
  rw [h0] at Do
  rw [AHx h0]
  have h64:=CC.n64
  have hol:=ACz hst
  obtain ⟨hWM,hWl⟩:=ALy (set:=set) CC
  have Qz:=fun {P M N:Int}{pm ps:Option Addr}{nm cm n c:Nat}=>Wi (P:=P) (M:=M) (N:=N) (pm:=pm) (ps:=ps) (nm:=nm) (cm:=cm) (n:=n) (c:=c)
  have N5:=fun {ps:Option Addr}{nn c:Nat}=>(Ud (ps:=ps) (nn:=nn) (c:=c) (n:=n') (l:=set) (by omega)).pubR (by show _*8≤140737488355328;omega)
  have Ny:=fun {pm ps pt:Option Addr}{nm cm n c ns cs':Nat}=>R3 (pm:=pm) (ps:=ps) (pt:=pt) (nm:=nm) (cm:=cm) (n:=n) (c:=c) (ns:=ns) (cs':=cs') CC (Z2 n' [set])
  rw [AHn hst] at Ny
  have Oj:=fun {pm ps pt:Option Addr}{nm cm n c ns cs':Nat}=>Uc (pm:=pm) (ps:=ps) (pt:=pt) (nm:=nm) (cm:=cm) (n:=n) (c:=c) (ns:=ns) (cs':=cs') CC.K h64 (by omega) hWM hst hne
  generalize wiP p m md n' rows set=W at *
  refine wk 14 (ct @Do cz) ?_
  intro b1 b2 h1
  (apply Gn (x0:=none) it mx 0 13 [11] 1;(· rfl);(· rfl);(· rfl);(· decide))
  simp only [List.drop_zero]
  (apply Ac;(· rfl);(· exact Bz fun _=>An rfl K4 Al))
  (apply Ac;(· rfl);(· exact Fp 1 rfl rfl Gi rfl rfl))
  (apply Ac;(· rfl);(· exact Ct 1 rfl rfl Dl rfl))
  (apply Ac;(· rfl);(· exact Bz fun _=>Aw [] rfl (Qz) rfl (by rintro _ _ _ ⟨rfl,rfl,rfl⟩;exact Al)))
  (apply A1 1;(· rfl);(· simp))
  (apply Ac;(· rfl);(· exact Bz fun _=>An rfl If Al))
  (apply Ac;(· rfl);(· exact Bv 1 rfl rfl Ci rfl))
  (apply Fa;(· rfl);(· exact Bz fun _=>Aw [2] rfl (N5) rfl (by rintro _ _ _ ⟨pa1,ca1,rfl,rfl,rfl⟩;exact (Jd 0 rfl)));intro pa1 ca1)
  (apply Ix (val:=(fun g=>Value.tuple #[Value.agg #[Value.int IntKind.i64 ↑n',Value.slice (g 0).fst W.length (g 1).snd.fst],Value.int IntKind.i64 0])) (f:=(fun g=>[Ap (Ah Aj) (g 0).fst W.length (g 1).snd.fst W]));(· rfl);(· exact Bz fun _=>Aw [1,2,0] rfl (Ny) rfl (by rintro _ _ _ ⟨pbg0,cbg1,rfl,rfl,rfl⟩;exact fun _ _ _ hG=>⟨(fun|0=>(pbg0,0,0,[])|1=>(none,cbg1,0,[])|_=>default),rfl,fun g hg=>Ez (hG _ (List.mem_append_left _ hg))⟩));intro g1;dsimp only [List.map_cons,List.map_nil])
  (apply G1 [25] (fun vs=>vs.getD 0 undef) (v:=Value.tuple #[Value.agg #[Value.int IntKind.i64 ↑n',Value.slice (g1 0).fst W.length (g1 1).snd.fst],Value.int IntKind.i64 0]);(· rfl);(· rfl);(· rfl);(· rfl);(· exact Bz fun _=>Kx it rfl (by trivial) Al))
  (apply G1 [16] (fun vs=>match vs.getD 0 undef with | .tuple a=>a.getD 0 undef|_=>undef) (v:=Value.agg #[Value.int IntKind.i64 ↑n',Value.slice (g1 0).fst W.length (g1 1).snd.fst]);(· rfl);(· rfl);(· rfl);(· rfl);(· exact Bz fun _=>Kx it rfl (by trivial) Al))
  (apply Ac;(· rfl);(· exact Bz fun _=>Kx it rfl (by trivial) Al))
  (apply Hy;(· rfl);(· exact Hs);intro b3)
  refine F1 rfl ?_
  (rotate_left;rfl;rotate_right)
  simp only [List.map_cons,List.map_nil,List.cons_append,List.nil_append]
  refine G7 it rfl rfl ⟨⟨_,_,_,_,rfl,rfl,rfl,rfl,rfl,rfl,(by first|trivial|(repeat' first|exact trivial|apply And.intro|omega))⟩,trivial⟩ (Be 0 rfl rfl rfl Gf rfl rfl (by simp [Value.oneCell']) ?_)
  refine Is it ⟨⟨_,_,_,_,rfl,rfl,rfl,rfl,rfl,rfl,(by first|trivial|(repeat' first|exact trivial|apply And.intro|omega))⟩,trivial⟩ ?_
  refine wk 15 (ct @Oj cz) ?_
  intro h2 pb1 pc1 nb1 cb1 nc1 cc1
  refine Bb [0,1] rfl (.agg 1 rfl rfl Dl rfl (.tmp rfl .nil)) rfl ⟨_,_,_,_,_,_,rfl,rfl,rfl⟩
 ·rw [shX,if_neg h0]
  generalize psE P M md N rows set=e at *
  refine Dk (Ap Aj none 0 0 []) (fun w A _=>Cl _ w A none 0) ?_
  refine Dk (Ap (Ah Aj) none 0 0 []) (fun w A _=>Cl _ w A none 0) ?_
  refine wk 19 (ct @Do cz) ?_
  intro b1 b2 h1
  refine Bb [1,0] rfl (.agg 0 rfl rfl Dl rfl (.tmp rfl .nil)) rfl ⟨_,_,_,_,_,_,rfl,rfl,rfl⟩
end
open Go Go.Fw
set_option maxRecDepth 100000
set_option linter.unusedVariables false
set_option linter.unusedSimpArgs false
set_option maxHeartbeats 0
abbrev onW (n:Nat):List Int:=List.replicate n 1
theorem ALZ {p m:Nat}{md:List Int}(K:Fok p m md) (n:Nat):Wd (p ^ m) n (onW n):=⟨List.length_replicate,fun x hx=>by rw [List.eq_of_mem_replicate hx];have:=K.fi.q2;omega⟩
theorem Xl {p m:Nat}{md:List Int}(K:Fok p m md) (n:Nat):Da (p ^ m) n [onW n]:=fun r hr=>by rw [List.mem_singleton.1 hr];exact ALZ K n
noncomputable abbrev onP (p m:Nat) (md:List Int) (n:Nat):List (List Int):=(C4 p m md n [onW n]).1
section
variable {p m n c nm cm N:Nat}{P M:Int}{pm ps:Option Addr}{md:List Int}{rows:List (List Int)}
theorem Uj (K:Fok p m md) (h1:1≤N) (hN:N≤64):Bn Tryz.prog 78 [.agg #[.int .i64 p,.int .i64 m,.slice pm nm cm,.int .i64 N,.slice ps n c]] [] [Ap Aj pm nm cm md] (CdQ p m N md (onP p m md N) 0):=by
 refine Ab (F:=ABm) rfl fun C=>?_
 have Dr:=fun {pm ps:Option Addr}{nm cm n c:Nat}=>I5 (pm:=pm) (ps:=ps) (nm:=nm) (cm:=cm) (n:=n) (c:=c) (N:=N) (rows:=[onW N]) K h1 hN (show 1≤256 by omega) (Xl K N)
 refine wk 14 cz ?_
 intro b1 b2 b3
 rw [show Ao .i64 (List.replicate N 0)=Ak .i64 (List.replicate 0 1++List.replicate (N-0) 0) by simp [Ao,Ak]]
 refine Af (X:=Nat) [1,2,3,4,10] [0] (fun i=>[(11,.int .i64 (i:Int))]) (fun i=>(some b3,3,Ak .i64 (List.replicate i 1++List.replicate (N-i) 0))::_) (fun _=>[]) (fun i=>i≤N) (fun i=>N-i) 0 [] rfl rfl rfl (Nat.zero_le _) (by repeat (first|exact Fr.sub_nil _|refine Fr.sub_cons rfl ?_)) rfl rfl ?_
 rintro i hi ih
 simp only [List.cons_append,List.nil_append] at hi ih ⊢
 by_cases h9:i<N
 ·have ih':=ih (i+1) (by omega) (by omega)
  have hset:(List.replicate i (1:Int)++List.replicate (N-i) 0).set i 1=List.replicate (i+1) 1++List.replicate (N-(i+1)) 0:=by
   obtain ⟨k,hk⟩:∃ k,N-i=k+1:=⟨N-i-1,by omega⟩
   rw [hk,List.replicate_succ (n:=k),List.set_append_right _ _ (by simp),List.length_replicate,Nat.sub_self,List.set_cons_zero,show N-(i+1)=k by omega,List.replicate_succ' (n:=i),List.append_assoc]
   rfl
  rw [← hset] at ih'
  have hln:(List.replicate i (1:Int)++List.replicate (N-i) 0).length=N:=by simp;omega
  generalize List.replicate i (1:Int)++List.replicate (N-i) 0=L at *
  clear ih
  refine wk 13 cz ?_
  intro h2
  exact tw (ih')
 ·obtain rfl:i=N:=by omega
  rw [Nat.sub_self,List.replicate_zero,List.append_nil]
  clear ih
  refine Bk 0 rfl (show i=(onW i).length from List.length_replicate.symm) (fun x hx=>by rw [List.eq_of_mem_replicate hx];simp only [Bx];omega) (by omega) ?_
  refine C3 0 0 rfl rfl (by show i*8≤140737488355328;omega) ?_
  simp only [List.eraseIdx_cons_zero]
  refine wk 12 cz ?_
  intro h2 b4
  refine Cn (E:=(Ah (Aj))) (n:=1) [[Value.slice (some { block:=b3,off:=0 }) i i]] [List.replicate i 1] 0 (fun w A hG=>(Ay (Ax (hG _ (Ae (n:=0) rfl))) Ba)) rfl rfl rfl rfl (by first|decide|exact Nat.le_of_ble_eq_true rfl) (by first|decide|exact Nat.le_of_ble_eq_true rfl) ?_
  refine wk 5 (ct @Dr cz) ?_
  intro pb1 pc1 nb1 cb1 nc1 cc1
  refine Bb [0,1] rfl (.agg 0 rfl rfl Dl rfl (.tmp rfl .nil)) rfl ⟨_,_,_,_,_,_,rfl,rfl,rfl⟩
end
open Go Go.Fw
set_option maxRecDepth 100000
set_option linter.unusedVariables false
set_option linter.unusedSimpArgs false
set_option maxHeartbeats 0
noncomputable abbrev exP (p m:Nat) (md:List Int) (n:Nat) (rows:List (List Int)):List (List Int):=Jg p m md n (Jg p m md n rows++[onW n])
noncomputable abbrev auP (p m:Nat) (md:List Int) (n:Nat) (rows:List (List Int)):List (List Int):=(C4 p m md n (rows++[onW n])).1
theorem ACV {p m N:Nat}{md:List Int}(K:Fok p m md) (h1:1≤N) (h2:N≤64):Cok p m md N (onP p m md N):=Cok.cn K h1 h2 (Xl K N)
theorem AME {p m N:Nat}{md:List Int}{rows:List (List Int)}(CC:Cok p m md N rows):Jg p m md N (Jg p m md N rows++Jg p m md N (Jg p m md N (onP p m md N)))=exP p m md N rows:=by
 have O:=Dx CC.K
 have CO:=ACV CC.K CC.n1 CC.n64
 have hM:=Xl CC.K N
 refine O.nu_congr (Jm CC.nu.mat CO.nu.nu.mat) (Jm CC.nu.mat hM) fun x hx=>?_
 rw [Tq,Tq]
 refine and_congr_right fun _=>?_
 rw [show Jg p m md N (Jg p m md N (onP p m md N))=(C4 p m md N (onP p m md N)).1 from O.nu_nu CO.mat,CO.can]
 exact (O.cn hM).2 x hx
theorem AL7 {p m N:Nat}{md:List Int}{rows:List (List Int)}(CC:Cok p m md N rows):(C4 p m md N (rows++onP p m md N)).1=auP p m md N rows:=by
 have O:=Dx CC.K
 have CO:=ACV CC.K CC.n1 CC.n64
 have hM:=Xl CC.K N
 have:=O.cn_congr (Jm CC.mat CO.mat) (Jm CC.mat hM) fun x hx=>by
  rw [Tq,Tq]
  exact and_congr_right fun _=>(O.cn hM).2 x hx
 exact congrArg Prod.fst this
noncomputable def exX (P M:Int) (md:List Int) (N:Int) (rows:List (List Int)):CR:=if Nz P M md N rows=0 then ⟨P,M,N,md,exP P.toNat M.toNat md N.toNat rows,0⟩ else zeR (Nz P M md N rows)
noncomputable def auX (P M:Int) (md:List Int) (N:Int) (rows:List (List Int)):CR:=if Nz P M md N rows=0 then ⟨P,M,N,md,auP P.toNat M.toNat md N.toNat rows,0⟩ else zeR (Nz P M md N rows)
noncomputable def sbE (P M:Int) (md:List Int) (N:Int) (rows:List (List Int)) (set:List Int):Int:=if Nz P M md N rows≠0 then Nz P M md N rows else if stP (rows.length:Nat) set then 0 else 6
noncomputable abbrev sbL (rows:List (List Int)) (set:List Int):List (List Int):=set.map fun i=>Ar rows i.toNat
noncomputable def sbX (P M:Int) (md:List Int) (N:Int) (rows:List (List Int)) (set:List Int):CR:=if sbE P M md N rows set=0 then ⟨P,M,N,md,(C4 P.toNat M.toNat md N.toNat (sbL rows set)).1,0⟩ else zeR (sbE P M md N rows set)
theorem AEI {p m n:Nat}{md:List Int}{rows:List (List Int)}(CC:Cok p m md n rows):exX p m md n rows=⟨p,m,n,md,exP p m md n rows,0⟩:=by
 rw [exX,if_pos CC.ck];simp only [Int.toNat_natCast]
theorem AEv {p m n:Nat}{md:List Int}{rows:List (List Int)}(CC:Cok p m md n rows):auX p m md n rows=⟨p,m,n,md,auP p m md n rows,0⟩:=by
 rw [auX,if_pos CC.ck];simp only [Int.toNat_natCast]
theorem AH1 {p m n:Nat}{md set:List Int}{rows:List (List Int)}(CC:Cok p m md n rows) (hst:stP (rows.length:Nat) set):sbX p m md n rows set=⟨p,m,n,md,(C4 p m md n (sbL rows set)).1,0⟩:=by
 rw [sbX,if_pos (by rw [sbE,if_neg (fun e=>e CC.ck),if_pos hst])];simp only [Int.toNat_natCast]
theorem AKH {p m n:Nat}{md set:List Int}{rows:List (List Int)}(CC:Cok p m md n rows) (hst:stP (rows.length:Nat) set):Da (p ^ m) n (sbL rows set):=fun r hr=>by
 obtain ⟨i,hi,rfl⟩:=List.mem_map.1 hr
 have:=hst.1 i hi
 exact CC.mat.row (by omega)
section
variable {P M:Int}{n c nm cm ns cs':Nat}{pm ps pt:Option Addr}{md set:List Int}{rows:List (List Int)}
theorem M3 {N:Int}(hN:Bx .i64 N):Bn Tryz.prog 28 [.agg #[.int .i64 P,.int .i64 M,.slice pm nm cm,.int .i64 N,.slice ps n c]] [] [Ap Aj pm nm cm md,Ap (Ah Aj) ps n c rows] (CdX (exX P M md N rows)):=by
 refine Ab (F:=U2) rfl fun C=>?_
 have hr:=Ll P M md N rows
 have Au:=fun {pm ps:Option Addr}{nm cm n c:Nat}=>D5 (P:=P) (M:=M) (pm:=pm) (ps:=ps) (nm:=nm) (cm:=cm) (n:=n) (c:=c) (md:=md) (rows:=rows) (N:=N) hN rfl
 by_cases h0:Nz P M md N rows=0
 ·obtain ⟨p,m,n',rfl,rfl,rfl,CC⟩:=Wk h0
  rw [h0] at Au
  rw [AEI CC,← AME CC]
  have CO:=ACV CC.K CC.n1 CC.n64
  have CD:=CO.nu
  have Og:=fun {pm ps:Option Addr}{nm cm n c:Nat}=>Uj (pm:=pm) (ps:=ps) (nm:=nm) (cm:=cm) (n:=n) (c:=c) CC.K CC.n1 CC.n64
  have Kw:=fun {pm ps:Option Addr}{nm cm n c:Nat}=>Mi (pm:=pm) (ps:=ps) (nm:=nm) (cm:=cm) (n:=n) (c:=c) CO
  have ADU:=fun {pm ps p2 pm2:Option Addr}{nm cm n c n2 c2 nm2 cm2:Nat}=>AAR (pm:=pm) (nm:=nm) (cm:=cm) (ps:=ps) (n:=n) (c:=c) (p2:=p2) (n2:=n2) (c2:=c2) (pm2:=pm2) (nm2:=nm2) (cm2:=cm2) CC CD
  refine wk 41 (ct @Au (ct @Og (ct @Kw (ct @ADU cz)))) ?_
  intro b1 b2 h1 pb1 pc1 nb1 cb1 nc1 cc1 b3 h2 pb2 pc2 nb2 cb2 nc2 cc2 h3 pb3 pc3 nb3 cb3 nc3 cc3
  refine Bb [0,1] rfl (.agg 1 rfl rfl Dl rfl (.tmp rfl .nil)) rfl ⟨_,_,_,_,_,_,rfl,rfl,rfl⟩
 ·rw [exX,if_neg h0]
  generalize Nz P M md N rows=e at *
  refine Dk (Ap Aj none 0 0 []) (fun w A _=>Cl _ w A none 0) ?_
  refine Dk (Ap (Ah Aj) none 0 0 []) (fun w A _=>Cl _ w A none 0) ?_
  refine wk 18 (ct @Au cz) ?_
  intro b1 b2 h1
  refine Bb [1,0] rfl (.agg 0 rfl rfl Dl rfl (.tmp rfl .nil)) rfl ⟨_,_,_,_,_,_,rfl,rfl,rfl⟩
theorem Pn {N:Int}(hN:Bx .i64 N):Bn Tryz.prog 30 [.agg #[.int .i64 P,.int .i64 M,.slice pm nm cm,.int .i64 N,.slice ps n c]] [] [Ap Aj pm nm cm md,Ap (Ah Aj) ps n c rows] (CdX (auX P M md N rows)):=by
 refine Ab (F:=Xz) rfl fun C=>?_
 have hr:=Ll P M md N rows
 have Au:=fun {pm ps:Option Addr}{nm cm n c:Nat}=>D5 (P:=P) (M:=M) (pm:=pm) (ps:=ps) (nm:=nm) (cm:=cm) (n:=n) (c:=c) (md:=md) (rows:=rows) (N:=N) hN rfl
 by_cases h0:Nz P M md N rows=0
 ·obtain ⟨p,m,n',rfl,rfl,rfl,CC⟩:=Wk h0
  rw [h0] at Au
  rw [AEv CC,← AL7 CC]
  have CO:=ACV CC.K CC.n1 CC.n64
  have Og:=fun {pm ps:Option Addr}{nm cm n c:Nat}=>Uj (pm:=pm) (ps:=ps) (nm:=nm) (cm:=cm) (n:=n) (c:=c) CC.K CC.n1 CC.n64
  have Vh:=fun {pm ps p2 pm2:Option Addr}{nm cm n c n2 c2 nm2 cm2:Nat}=>Uk (pm:=pm) (nm:=nm) (cm:=cm) (ps:=ps) (n:=n) (c:=c) (p2:=p2) (n2:=n2) (c2:=c2) (pm2:=pm2) (nm2:=nm2) (cm2:=cm2) CC CO
  refine wk 31 (ct @Au (ct @Og (ct @Vh cz))) ?_
  intro b1 b2 h1 pb1 pc1 nb1 cb1 nc1 cc1 b3 h2 pb2 pc2 nb2 cb2 nc2 cc2
  refine Bb [0,1] rfl (.agg 1 rfl rfl Dl rfl (.tmp rfl .nil)) rfl ⟨_,_,_,_,_,_,rfl,rfl,rfl⟩
 ·rw [auX,if_neg h0]
  generalize Nz P M md N rows=e at *
  refine Dk (Ap Aj none 0 0 []) (fun w A _=>Cl _ w A none 0) ?_
  refine Dk (Ap (Ah Aj) none 0 0 []) (fun w A _=>Cl _ w A none 0) ?_
  refine wk 18 (ct @Au cz) ?_
  intro b1 b2 h1
  refine Bb [1,0] rfl (.agg 0 rfl rfl Dl rfl (.tmp rfl .nil)) rfl ⟨_,_,_,_,_,_,rfl,rfl,rfl⟩
theorem Xo {N:Int}(hN:Bx .i64 N):Bn Tryz.prog 20 [.agg #[.int .i64 P,.int .i64 M,.slice pm nm cm,.int .i64 N,.slice ps n c],.slice pt ns cs'] [] [Ap Aj pm nm cm md,Ap (Ah Aj) ps n c rows,Ap Aj pt ns cs' set] (CdX (sbX P M md N rows set)):=by
 refine Ab (F:=Xr) rfl fun C=>?_
 refine A9 1 rfl fun hn hb1 _=>?_
 subst hn
 refine A9 2 rfl fun hn hb _=>?_
 subst hn
 have hb':set.length*8≤140737488355328:=hb
 have hr:=Ll P M md N rows
 have Au:=fun {pm ps:Option Addr}{nm cm n c:Nat}=>D5 (P:=P) (M:=M) (pm:=pm) (ps:=ps) (nm:=nm) (cm:=cm) (n:=n) (c:=c) (md:=md) (rows:=rows) (N:=N) hN rfl
 by_cases h0:Nz P M md N rows=0
 ·obtain ⟨p,m,n',rfl,rfl,rfl,CC⟩:=Wk h0
  rw [h0] at Au
  by_cases hst:stP (rows.length:Nat) set
  ·rw [AH1 CC hst]
   have hSM:=AKH CC hst
   have hl:=CC.len
   have hSl:set.length≤64:=by have:=ACz hst;omega
   have hLl:(sbL rows set).length=set.length:=List.length_map _
   have C7:=fun {ps:Option Addr}{nn c:Nat}=>G0 (ps:=ps) (nn:=nn) (c:=c) (n:=(rows.length:Nat)) (l:=set) (decide_eq_true hst)
   have Dr:=fun {pm ps:Option Addr}{nm cm n c:Nat}=>I5 (pm:=pm) (ps:=ps) (nm:=nm) (cm:=cm) (n:=n) (c:=c) (N:=n') (rows:=sbL rows set) CC.K CC.n1 CC.n64 (by omega) hSM
   generalize hG:C4 p m md n' (sbL rows set)=G at *
   clear hG
   refine Aq [_,_] rfl ?_
   refine Aa rfl (Cu rfl fun b1=>?_)
   refine Aa rfl (B2 T7 fun b2=>?_)
   refine Ai it 1 rfl (by simp) ?_
   refine Aq [_,_,_] rfl ?_
   refine Aa rfl (Bi 1 rfl rfl Dl rfl ?_)
   refine Aa rfl (Aw [0,1] rfl (Au) rfl ?_)
   rintro _ _ _ ⟨rfl,rfl,rfl⟩
   simp only [List.cons_append,List.nil_append]
   refine Ai it 1 rfl (by simp) ?_
   refine Aq [_,_,_] rfl ?_
   refine Ai it 2 rfl (by simp) ?_
   refine Aq [_,_] rfl ?_
   refine Nm rfl rfl (fun h1=>by exfalso;omega) (fun h1=>?_)
   refine Aq [_,_,_] rfl ?_
   refine Ai it 1 rfl (by simp) ?_
   refine Aa rfl (An rfl Mn ?_)
   refine Aa rfl (Bu 1 rfl rfl Hp rfl ?_)
   refine Aa rfl (Hn Df rfl ?_)
   refine Aa rfl (Aw [2] rfl (C7) rfl ?_)
   rintro _ _ _ ⟨rfl,rfl,rfl⟩
   simp only [List.cons_append,List.nil_append]
   simp only [decide_true]
   refine Ai it 1 rfl (by simp) ?_
   refine Aq [_,_] rfl ?_
   refine Nq rfl rfl ?_
   refine Aq [_,_] rfl ?_
   refine Aa rfl (An rfl If ?_)
   refine Aa rfl (Bu 1 rfl rfl Ci rfl ?_)
   refine Aa rfl (Dc (cs:=[Value.int IntKind.i64 ↑n',Value.slice none 0 0]) Vx Hs rfl rfl ?_)
   refine Aa rfl (B2 Hs fun b3=>?_)
   refine Aa rfl (Be 0 rfl rfl rfl Gf rfl rfl (by simp [Value.oneCell']) ?_)
   refine Aq [_,_,_] rfl ?_
   refine Ai it 1 rfl (by simp) ?_
   refine Aa rfl (Hn Ce rfl ?_)
   refine Ai it 1 rfl (by simp) ?_
   refine Aq [_,_,_] rfl ?_
   refine Fh (Ah Aj) 22 ?_
   simp only [Cc,Dq,setB,List.take_succ_cons,List.cons_append,List.nil_append,List.take_zero,List.drop_succ_cons,List.drop_zero,List.length_singleton,Nat.zero_add]
   refine Af (X:=Nat×Row) [2,4,5,7,26,27] [0,1,2,3] (fun z=>[(28,.int .i64 (z.1:Int))]) (fun z=>(z.2.bo,22,z.2.cs)::(some b3,62,[.int .i64 (n':Nat),.slice (ad z.2.bo) z.1 z.2.cap])::_) (fun z=>[A5 (Ah Aj) z.2 z.1 (sbL rows (set.take z.1))]) (fun z=>z.1≤set.length) (fun z=>set.length-z.1) (0,⟨none,0,[]⟩) [0] rfl rfl rfl (Nat.zero_le _) (by repeat (first|exact Fr.sub_nil _|refine Fr.sub_cons rfl ?_)) rfl rfl ?_
   rintro ⟨i,r⟩ hi ih
   simp only [List.cons_append,List.nil_append] at hi ih ⊢
   by_cases hil:i<set.length
   ·obtain ⟨x,at_x⟩:∃ x,set[i]?=some x:=⟨_,List.getElem?_eq_getElem hil⟩
    obtain ⟨x0,x1⟩:=hst.1 x (List.mem_of_getElem? at_x)
    obtain ⟨u,at_u⟩:∃ u,rows[x.toNat]?=some u:=⟨_,List.getElem?_eq_getElem (by omega)⟩
    have ih1:=fun r=>ih (i+1,r) (by dsimp only;omega) (by dsimp only;omega)
    dsimp only at ih1
    have eu:Ar rows x.toNat=rows.getD x.toNat default:=rfl
    rw [sbL,List.take_add_one (l:=set),at_x,Option.toList_some,List.map_append,List.map_cons,List.map_nil,eu] at ih1
    clear ih
    refine wk 6 cz ?_
    intro h2 b4 o1 hz1
    refine Aa rfl (Av 0 rfl rfl Ci fun ⟨r1,r2⟩=>?_)
    refine wk 2 cz ?_
    (apply E5 it mx 8;(· rfl);(· rfl))
    (apply Ac;(· rfl);(· exact Bz fun _=>An rfl Ic Al))
    (apply Ac;(· rfl);(· exact Bv 1 rfl rfl Hp rfl))
    (apply Ac;(· rfl);(· exact Bz fun _=>An rfl Mn Al))
    (apply Ac;(· rfl);(· exact Bv 3 rfl rfl Hp rfl))
    (apply A1 1;(· rfl);(· simp))
    (apply Yd;(· rfl);(· exact Bz fun _=>Ia 4 ((x:Int).toNat) rfl rfl rfl Df (by omega) (by omega) fun z1 hz2 b5 o2=>(Xk default hz2 0 rfl));intro b5 o2)
    (apply Fa;(· rfl);(· exact Bz fun _=>Tt 0 rfl rfl E6 fun pa1 ca1=>(Jd 0 rfl));intro pa1 ca1)
    (apply Fa;(· rfl);(· exact Bz fun _=>H8 Df Gr rfl rfl rfl rfl (by decide) (by decide) rfl fun b6=>Vf (E:=(Ah (Aj))) [[Value.slice pa1 (rows.getD x.toNat default).length ca1]] [rows.getD x.toNat default] (fun w A hG=>(Ay (Ax (hG _ (Ae (n:=0) rfl))) Ba)) rfl rfl rfl (by first|decide|exact Nat.le_of_ble_eq_true rfl));intro pa2 ca2)
    refine Et rfl ?_
    simp only [List.map_cons,List.map_nil,List.cons_append,List.nil_append]
    refine Aa rfl (U6 0 4 0 rfl rfl rfl rfl rfl Df Gr rfl (by omega) _ Jx (by omega) fun r3=>?_)
    refine wk 5 cz ?_
    exact tw (ih1 r3)
   ·obtain rfl:i=set.length:=by omega
    clear ih
    rw [List.take_length]
    refine Dy 0 0 rfl rfl (by show set.length*24≤140737488355328;omega) ?_
    simp only [List.eraseIdx_cons_zero,List.eraseIdx_cons_succ]
    refine wk 13 (ct @Dr cz) ?_
    intro h2 pb1 pc1 nb1 cb1 nc1 cc1
    refine Bb [0,1] rfl (.agg 1 rfl rfl Dl rfl (.tmp rfl .nil)) rfl ⟨_,_,_,_,_,_,rfl,rfl,rfl⟩
  ·rw [sbX,if_neg (by rw [sbE,if_neg (fun e=>e h0),if_neg hst];omega),sbE,if_neg (fun e=>e h0),if_neg hst]
   have C7:=fun {ps:Option Addr}{nn c:Nat}=>G0 (ps:=ps) (nn:=nn) (c:=c) (n:=(rows.length:Nat)) (l:=set) (decide_eq_false hst)
   refine Dk (Ap Aj none 0 0 []) (fun w A _=>Cl _ w A none 0) ?_
   refine Dk (Ap (Ah Aj) none 0 0 []) (fun w A _=>Cl _ w A none 0) ?_
   refine wk 26 (ct @Au (ct @C7 cz)) ?_
   intro b1 b2 h1
   refine Bb [1,0] rfl (.agg 0 rfl rfl Dl rfl (.tmp rfl .nil)) rfl ⟨_,_,_,_,_,_,rfl,rfl,rfl⟩
 ·rw [sbX,if_neg (by rw [sbE,if_pos h0];exact h0),sbE,if_pos h0]
  generalize Nz P M md N rows=e at *
  refine Dk (Ap Aj none 0 0 []) (fun w A _=>Cl _ w A none 0) ?_
  refine Dk (Ap (Ah Aj) none 0 0 []) (fun w A _=>Cl _ w A none 0) ?_
  refine wk 18 (ct @Au cz) ?_
  intro b1 b2 h1
  refine Bb [1,0] rfl (.agg 0 rfl rfl Dl rfl (.tmp rfl .nil)) rfl ⟨_,_,_,_,_,_,rfl,rfl,rfl⟩
end
open Go Go.Fw
set_option maxRecDepth 100000
set_option linter.unusedVariables false
set_option linter.unusedSimpArgs false
set_option maxHeartbeats 0
def Q3 (A:Int→Int→Int) (l:List Int):Int:=l.foldl A 0
section
variable {p m q b ng cg ne ce nl cl:Nat}{pg pe pl:Option Addr}
theorem V8 (hq:q≤256):Bn Tryz.prog 165 [.pointer (some ⟨b,0,none⟩)] [] [Jp b p m q pg ng cg pe ne ce pl nl cl] (Rv (.int .i64 (q:Int)) []):=by
 refine Ab (F:=Wl) rfl fun C=>?_
 refine wk 8 cz ?_
 exact ge
theorem Qk {q:Nat}{A M:Int→Int→Int}(F:FI q A M):∀ (l:List Int) (a:Int),0≤a→a<q→(∀ x∈l,0≤x∧x<(q:Int))→0≤l.foldl A a∧l.foldl A a<q
 | [],a,a0,a1,_=>⟨a0,a1⟩
 | x::l,a,a0,a1,h=>by
  obtain ⟨x0,x1⟩:=h x (.head _)
  obtain ⟨y0,y1⟩:=F.al a x a0 a1 x0 x1
  exact Qk F l _ y0 y1 fun z hz=>h z (.tail _ hz)
theorem AAI {A:Int→Int→Int}{l:List Int}{i:Nat}{x:Int}(h:l[i]?=some x):Q3 A (l.take (i+1))=A (Q3 A (l.take i)) x:=by
 rw [Q3,Q3,List.take_add_one,h,List.foldl_append];rfl
theorem Rf {pu:Option Addr}{nu cu:Nat}{u md:List Int}(K:Fok p m md) (hu:∀ x∈u,0≤x∧x<((p ^ m:Nat):Int)) :
  Bn Tryz.prog 75 [.pointer (some ⟨b,0,none⟩),.slice pu nu cu] [] [Jp b p m (p ^ m) pg ng cg pe ne ce pl nl cl,Ap Aj pu nu cu u] (Rv (.int .i64 (Q3 (Ad (fA p m)) u)) []):=by
 refine Ab (F:=Zk) rfl fun C=>?_
 refine A9 1 rfl fun hn hb _=>?_
 subst hn
 have hb':u.length*8≤140737488355328:=hb
 have hq:=K.q
 have Br:=fun {b ng cg ne ce nl cl:Nat}{pg pe pl:Option Addr}{x y:Int}=>Dn (p:=p) (m:=m) (b:=b) (ng:=ng) (cg:=cg) (ne:=ne) (ce:=ce) (nl:=nl) (cl:=cl) (pg:=pg) (pe:=pe) (pl:=pl) (x:=x) (y:=y) K.p2 K.m1 hq
 have hF:=K.fi
 have hr:=fun i=>Qk hF (u.take i) 0 (Int.le_refl 0) hF.z fun x hx=>hu x (List.mem_of_mem_take hx)
 generalize Ad (fM p (Az m md))=M at *
 generalize Ad (fA p m)=A at *
 generalize p ^ m=q at *
 refine wk 9 cz ?_
 refine Af (X:=Nat) [0,4,8,9] [0,1] (fun i=>[(10,.int .i64 (i:Int)),(5,.int .i64 (Q3 A (u.take i)))]) (fun _=>_) (fun _=>[]) (fun i=>i≤u.length) (fun i=>u.length-i) 0 [] rfl rfl rfl (Nat.zero_le _) (by repeat (first|exact Fr.sub_nil _|refine Fr.sub_cons rfl ?_)) rfl rfl ?_
 rintro i hi ih
 simp only [List.cons_append,List.nil_append] at hi ih ⊢
 by_cases h9:i<u.length
 ·obtain ⟨x,at_x⟩:∃ x,u[i]?=some x:=⟨_,List.getElem?_eq_getElem h9⟩
  obtain ⟨hx0,hx1⟩:=hu x (List.mem_of_getElem? at_x)
  have ih':=ih (i+1) (by omega) (by omega)
  rw [AAI at_x] at ih'
  obtain ⟨s0,s1⟩:=hr i
  rw [← Q3] at s0 s1
  generalize Q3 A (u.take i)=s at *
  refine wk 6 cz ?_
  intro h1 b1 o1 hz1
  refine Aa rfl (Av 0 rfl rfl Ci fun ⟨r1,r2⟩=>?_)
  refine wk 8 (ct @Br cz) ?_
  exact tw (ih')
 ·obtain rfl:i=u.length:=by omega
  rw [List.take_length]
  clear ih
  refine wk 7 cz ?_
  intro h1
  exact ge
theorem Yy {pu pv:Option Addr}{nu cu nv cv:Nat}{u v md:List Int}(K:Fok p m md) (hu:∀ x∈u,0≤x∧x<((p ^ m:Nat):Int)) (hv:∀ x∈v,0≤x∧x<((p ^ m:Nat):Int)) :
  Bn Tryz.prog 166 [.pointer (some ⟨b,0,none⟩),.slice pu nu cu,.slice pv nv cv] [] [Jp b p m (p ^ m) pg ng cg pe (p ^ m-1) ce pl (p ^ m) cl,Ap Aj pe (p ^ m-1) ce (J8 p m md),Ap Aj pl (p ^ m) cl (J3 p m md),Ap Aj pu nu cu u,Ap Aj pv nv cv v] (Rv (.int .i64 (Q3 (Ad (fA p m)) (List.zipWith (Ad (fM p (Az m md))) u v))) []):=by
 refine Ab (F:=Zg) rfl fun C=>?_
 refine A9 3 rfl fun hn hb _=>?_
 subst hn
 refine A9 4 rfl fun hn hb2 _=>?_
 subst hn
 have hb':u.length*8≤140737488355328:=hb
 have hb2':v.length*8≤140737488355328:=hb2
 have hq:=K.q
 have Br:=fun {b ng cg ne ce nl cl:Nat}{pg pe pl:Option Addr}{x y:Int}=>Dn (p:=p) (m:=m) (b:=b) (ng:=ng) (cg:=cg) (ne:=ne) (ce:=ce) (nl:=nl) (cl:=cl) (pg:=pg) (pe:=pe) (pl:=pl) (x:=x) (y:=y) K.p2 K.m1 hq
 have A6:=fun {b ng cg ce cl:Nat}{pg pe pl:Option Addr}{x y:Int}=>C6 (b:=b) (ng:=ng) (cg:=cg) (ce:=ce) (cl:=cl) (pg:=pg) (pe:=pe) (pl:=pl) (x:=x) (y:=y) K
 have hF:=K.fi
 have hz:∀ x∈List.zipWith (Ad (fM p (Az m md))) u v,0≤x∧x<((p ^ m:Nat):Int):=fun x hx=>by
  obtain ⟨i,hi,rfl⟩:=List.getElem_of_mem hx
  rw [List.getElem_zipWith]
  rw [List.length_zipWith] at hi
  obtain ⟨a0,a1⟩:=hu u[i] (List.getElem_mem _)
  obtain ⟨b0,b1⟩:=hv v[i] (List.getElem_mem _)
  exact hF.ml _ _ a0 a1 b0 b1
 have hr:=fun i=>Qk hF ((List.zipWith (Ad (fM p (Az m md))) u v).take i) 0 (Int.le_refl 0) hF.z fun x hx=>hz x (List.mem_of_mem_take hx)
 have hml:=hF.ml
 generalize Ad (fM p (Az m md))=M at *
 generalize Ad (fA p m)=A at *
 generalize J8 p m md=ex at *
 generalize J3 p m md=lg at *
 generalize p ^ m=q at *
 refine wk 9 cz ?_
 refine Aa rfl (AMx rfl rfl ?_)
 refine wk 2 cz ?_
 refine Af (X:=Nat) [0,1,2,6,13] [0,1,2,3,4] (fun i=>[(14,.int .i64 (i:Int)),(7,.int .i64 (Q3 A ((List.zipWith M u v).take i)))]) (fun _=>_) (fun _=>[]) (fun i=>i≤min u.length v.length) (fun i=>min u.length v.length-i) 0 [] rfl rfl rfl (Nat.zero_le _) (by repeat (first|exact Fr.sub_nil _|refine Fr.sub_cons rfl ?_)) rfl rfl ?_
 rintro i hi ih
 simp only [List.cons_append,List.nil_append] at hi ih ⊢
 by_cases h9:i<min u.length v.length
 ·have hiu:i<u.length:=by omega
  have hiv:i<v.length:=by omega
  obtain ⟨x,at_x⟩:∃ x,u[i]?=some x:=⟨_,List.getElem?_eq_getElem hiu⟩
  obtain ⟨y,at_y⟩:∃ y,v[i]?=some y:=⟨_,List.getElem?_eq_getElem hiv⟩
  have ex':u.getD i default=x:=by rw [List.getD_eq_getElem?_getD,at_x];rfl
  have ey':v.getD i default=y:=by rw [List.getD_eq_getElem?_getD,at_y];rfl
  obtain ⟨hx0,hx1⟩:=hu x (List.mem_of_getElem? at_x)
  obtain ⟨hy0,hy1⟩:=hv y (List.mem_of_getElem? at_y)
  rw [← ex'] at hx0 hx1
  rw [← ey'] at hy0 hy1
  obtain ⟨hm0,hm1⟩:=hml _ _ hx0 hx1 hy0 hy1
  have ih':=ih (i+1) (by omega) (by omega)
  rw [AAI (l:=List.zipWith M u v) (i:=i) (x:=M (u.getD i default) (v.getD i default)) (by rw [List.getElem?_zipWith,at_x,at_y,ex',ey']),] at ih'
  obtain ⟨s0,s1⟩:=hr i
  rw [← Q3] at s0 s1
  generalize Q3 A ((List.zipWith M u v).take i)=s at *
  refine wk 12 (ct @A6 (ct @Br cz)) ?_
  intro h1 b1 o1 b2 o2
  exact tw (ih')
 ·have hall:(List.zipWith M u v).take i=List.zipWith M u v:=List.take_of_length_le (by rw [List.length_zipWith];omega)
  rw [hall]
  clear ih
  refine wk 7 cz ?_
  intro h1
  exact ge
theorem W3 {md:List Int}{cg:Nat}(hm8:md.length≤8) (hp:p≤256) (hm:m≤8) :
  Bn Tryz.prog 196 [.pointer (some ⟨b,0,none⟩)] [] [Jp b p m q pg md.length cg pe ne ce pl nl cl,Ap Aj pg md.length cg md] (fun v Φ β=>∃ (pb:Option Addr) (nb cb:Nat),v = .agg #[.int .i64 p,.int .i64 m,.slice pb nb cb]∧Φ=[Ap Aj pb nb cb md]∧β=[]):=by
 refine Ab (F:=Wp) rfl fun C=>?_
 refine wk 3 cz ?_
 intro b1
 (apply Kv it mx 0 18;(· rfl);(· rfl);(· rfl))
 (apply A1 2;(· rfl);(· simp))
 (apply Ac;(· rfl);(· exact Bz fun _=>An rfl Tc Al))
 (apply Ac;(· rfl);(· exact Bz fun _=>An rfl Ot Al))
 (apply Ac;(· rfl);(· exact AAA 0 rfl rfl Ci rfl))
 (apply A1 2;(· rfl);(· simp))
 (apply Ac;(· rfl);(· exact Bz fun _=>An rfl Tc Al))
 (apply Ac;(· rfl);(· exact Bz fun _=>An rfl Ok Al))
 (apply Ac;(· rfl);(· exact AAA 0 rfl rfl Ci rfl))
 (apply Wq (Ds IntKind.i64 8);(· rfl);(· exact Ce);intro pa1)
 (apply A1 2;(· rfl);(· simp))
 (apply Ac;(· rfl);(· exact Bz fun _=>An rfl Tc Al))
 (apply Ac;(· rfl);(· exact Bz fun _=>An rfl AB9 Al))
 (apply Ac;(· rfl);(· exact AAA 0 rfl rfl E6 rfl))
 (apply Yl 0 2;(· rfl);(· rfl);(· rfl);(· rfl);(· rfl);(· exact Ce);(· exact Ee);(· rfl);(· (first|omega|(simp only [List.length_cons,List.length_nil];omega)));(· exact G5);(· (first|omega|(simp only [List.length_cons,List.length_nil];omega)));intro pa2 cap1 b2 cs1)
 (apply G1 [7,12,19] (fun vs=>Value.agg ((Up ([(0,1),(1,1),(2,1)]) ([Value.int IntKind.i64 0,Value.int IntKind.i64 0,Value.slice none 0 0]) [(0,Cc (vs.getD 0 undef)),(1,Cc (vs.getD 1 undef)),(2,Cc (vs.getD 2 undef))]).getD []).toArray) (v:=Value.agg #[Value.int IntKind.i64 ↑p,Value.int IntKind.i64 ↑m,Value.slice pa2 (0+md.length) cap1]);(· rfl);(· rfl);(· rfl);(· rfl);(· exact Bz fun _=>Dc (cs:=[Value.int IntKind.i64 ↑p,Value.int IntKind.i64 ↑m,Value.slice pa2 (0+md.length) cap1]) AIK AEC rfl rfl Al))
 refine Mj rfl ?_
 (rotate_left;rfl;rotate_right)
 simp only [List.append_nil,List.append_assoc,List.map_cons,List.map_nil,List.cons_append,List.nil_append,List.drop_zero]
 (refine Vb 0 0 (by first|rfl|exact (List.append_nil _).symm) rfl (by show (0+md.length)*8≤140737488355328;omega) ?_;simp only [List.take_succ_cons,List.take_zero,List.cons_append,List.nil_append,List.append_nil])
 refine wk 2 cz ?_ --ok
 refine Bb [0] rfl (.agg 0 rfl rfl Gi rfl .nil) rfl ⟨_,_,_,rfl,rfl,rfl⟩
theorem Uu {md:List Int}{x:Int}(K:Fok p m md) (x0:0≤x) (x1:x<((p ^ m:Nat):Int)) :
  Bn Tryz.prog 167 [.pointer (some ⟨b,0,none⟩),.int .i64 x] [] [Jp b p m (p ^ m) pg ng cg pe ne ce pl nl cl] (SvI m (Bc (Dm p m x.toNat))):=by
 refine Ab (F:=Uw) rfl fun C=>?_
 have hq:=K.q
 obtain ⟨a,rfl⟩:=Int.eq_ofNat_of_zero_le x0
 rw [Int.toNat_natCast]
 have hx2:a<p ^ m:=Int.ofNat_lt.1 x1
 have hp2:=K.p2
 have hp256:=K.p256
 have hm8:=K.m8
 have Xe:=J2 (p:=p) (n:=m) (x:=a) (by omega) (by omega) (by omega) (by omega)
 have Jl:=fun {b ng cg ne ce nl cl:Nat}{pg pe pl:Option Addr}{x:Int}=>B7 (p:=p) (m:=m) (b:=b) (ng:=ng) (cg:=cg) (ne:=ne) (ce:=ce) (nl:=nl) (cl:=cl) (pg:=pg) (pe:=pe) (pl:=pl) (x:=x) hq
 refine wk 6 (ct @Jl (ct @Xe cz)) ?_
 intro pa1 ca1 --ok
 refine Ps [0] rfl rfl rfl ⟨_,_,rfl,rfl,rfl⟩
theorem AKr {q:Nat}{A M:Nat→Nat→Nat}(R:Rng q A M) {g:Nat}(hg:g<q) (h:L8 q M g) (hq:2≤q) (i:Nat):∀ n,B6 M (B6 M g i) n=B6 M g ((i*n) % (q-1))
 | 0=>by rw [Nat.mul_zero,Nat.zero_mod];rfl
 | n+1=>by
  show M (B6 M (B6 M g i) n) (B6 M g i)=_
  rw [AKr R hg h hq i n,← R.exp_mul hg h,Nat.mod_add_mod,Nat.mul_succ]
theorem ANh {q:Nat}{A M:Nat→Nat→Nat}(R:Rng q A M) {n:Nat}(hn:1≤n) (hq:0<q):B6 M 0 n=0:=by
 obtain ⟨k,rfl⟩:∃ k,n=k+1:=⟨n-1,by omega⟩
 exact R.m0 (R.pw_lt hq k)
theorem Y3 {a k:Nat}{md:List Int}(K:Fok p m md) (x1:a<p ^ m) (k1:1≤k) (k2:k≤256) :
  Bn Tryz.prog 201 [.pointer (some ⟨b,0,none⟩),.int .i64 (a:Int),.int .i64 (k:Int)] [] [Jp b p m (p ^ m) pg ng cg pe (p ^ m-1) ce pl (p ^ m) cl,Ap Aj pe (p ^ m-1) ce (J8 p m md),Ap Aj pl (p ^ m) cl (J3 p m md)] (Rv (.tuple #[.int .i64 ((B6 (fM p (Az m md)) a k:Nat):Int),.int .i64 0]) []):=by
 refine Ab (F:=Yx) rfl fun C=>?_
 have R:=K.rng'
 have hq:=K.q
 have q2:=K.fi.q2
 obtain ⟨g2,g3,hgen,-⟩:=Ut ((N3 K.shp K.pr).2 K)
 have Jl:=fun {b ng cg ne ce nl cl:Nat}{pg pe pl:Option Addr}{x:Int}=>B7 (p:=p) (m:=m) (b:=b) (ng:=ng) (cg:=cg) (ne:=ne) (ce:=ce) (nl:=nl) (cl:=cl) (pg:=pg) (pe:=pe) (pl:=pl) (x:=x) hq
 unfold J8 J3
 generalize gnX (p ^ m) (fM p (Az m md))=g at *
 generalize fM p (Az m md)=M at *
 generalize p ^ m=q at *
 rcases Nat.eq_zero_or_pos a with h0|h0
 ·subst h0
  rw [ANh R k1 (by omega)]
  refine wk 21 (ct @Jl cz) ?_
  intro h1 h2 h3
  exact ge
 ·obtain ⟨i,hi,rfl⟩:=R.gen_all g3 hgen x1 (by omega)
  rw [AKr R g3 hgen q2]
  have ei:(S7 q M g)[B6 M g i]?=some (i:Int):=I2 (by rw [List.getElem?_map,List.getElem?_range x1];show some (lgN q M g _)=_;rw [ACr hgen hi])
  have ei':(S7 q M g).getD (B6 M g i) default=(i:Int):=by rw [List.getD_eq_getElem?_getD,ei];rfl
  have hk:(i*k) % (q-1)<q-1:=Nat.mod_lt _ (by omega)
  have ek:(We q M g)[(i*k) % (q-1)]?=some ((B6 M g ((i*k) % (q-1)):Nat):Int):=I2 (by rw [List.getElem?_map,List.getElem?_range hk];rfl)
  have hi0:(0:Int)≤(i:Int)∧(i:Int)<(q:Int)-1:=by omega
  have hr0:0≤(k:Int) % ((q:Int)-1):=Int.emod_nonneg _ (by omega)
  have hr1:(k:Int) % ((q:Int)-1)<(q:Int)-1:=Int.emod_lt_of_pos _ (by omega)
  have hs0:0≤((k:Int) % ((q:Int)-1)+((q:Int)-1)) % ((q:Int)-1):=Int.emod_nonneg _ (by omega)
  have hs1:((k:Int) % ((q:Int)-1)+((q:Int)-1)) % ((q:Int)-1)<(q:Int)-1:=Int.emod_lt_of_pos _ (by omega)
  have hse:((k:Int) % ((q:Int)-1)+((q:Int)-1)) % ((q:Int)-1)=(k:Int) % ((q:Int)-1):=by rw [Int.add_emod_right,Int.emod_emod]
  have hp0:0≤(S7 q M g).getD (B6 M g i) default*(((k:Int) % ((q:Int)-1)+((q:Int)-1)) % ((q:Int)-1)):=by rw [ei'];exact Int.mul_nonneg hi0.1 hs0
  have hp1:(S7 q M g).getD (B6 M g i) default*(((k:Int) % ((q:Int)-1)+((q:Int)-1)) % ((q:Int)-1))≤256*256:=by rw [ei'];exact Int.mul_le_mul (by omega) (by omega) hs0 (by omega)
  have hz0:0≤(S7 q M g).getD (B6 M g i) default*(((k:Int) % ((q:Int)-1)+((q:Int)-1)) % ((q:Int)-1)) % ((q:Int)-1):=Int.emod_nonneg _ (by omega)
  have hz1:(S7 q M g).getD (B6 M g i) default*(((k:Int) % ((q:Int)-1)+((q:Int)-1)) % ((q:Int)-1)) % ((q:Int)-1)<(q:Int)-1:=Int.emod_lt_of_pos _ (by omega)
  have hze:(S7 q M g).getD (B6 M g i) default*(((k:Int) % ((q:Int)-1)+((q:Int)-1)) % ((q:Int)-1)) % ((q:Int)-1)=((i*k % (q-1):Nat):Int):=by
   rw [hse,ei',Int.natCast_emod,Int.natCast_sub (by omega),Int.natCast_mul,Int.mul_emod,Int.emod_emod,← Int.mul_emod];rfl
  have hN:(((S7 q M g).getD (B6 M g i) default:Int).toNat*((k % (q-1)+(q-1)) % (q-1))) % (q-1)=i*k % (q-1):=by
   rw [ei',Int.toNat_natCast,Nat.add_mod_right,Nat.mod_mod,Nat.mul_mod_mod]
  have hN1:(((S7 q M g).getD (B6 M g i) default:Int).toNat*((k % (q-1)+(q-1)) % (q-1))) % (q-1)<q-1:=by rw [hN];exact hk
  have hNe:(S7 q M g).getD (B6 M g i) default*(((k:Int) % ((q:Int)-1)+((q:Int)-1)) % ((q:Int)-1)) % ((q:Int)-1)=(((((S7 q M g).getD (B6 M g i) default:Int).toNat*((k % (q-1)+(q-1)) % (q-1))) % (q-1):Nat):Int):=by rw [hN,hze]
  have ef:(We q M g).getD ((((S7 q M g).getD (B6 M g i) default:Int).toNat*((k % (q-1)+(q-1)) % (q-1))) % (q-1)) default=((B6 M g ((i*k) % (q-1)):Nat):Int):=by rw [hN,List.getD_eq_getElem?_getD,ek];rfl
  refine wk 33 (ct @Jl cz) ?_
  intro h1 h2 h3 b1 o1 b2 o2
  simp only [hze,Int.toNat_natCast]
  rw [hN] at ef
  rw [ef]
  exact ge
end
open Go Go.Fw
set_option maxRecDepth 100000
set_option linter.unusedVariables false
set_option linter.unusedSimpArgs false
set_option maxHeartbeats 0
noncomputable abbrev etW (p m:Nat) (r:List Int):List Int:=r++[B9 p m (Q3 (Ad (fA p m)) r)]
noncomputable abbrev etL (p m:Nat) (rows:List (List Int)):List (List Int):=rows.map (etW p m)
noncomputable def etE (P M:Int) (md:List Int) (N:Int) (rows:List (List Int)):Int:=if Nz P M md N rows≠0 then Nz P M md N rows else if N=64 then 4 else 0
noncomputable def etX (P M:Int) (md:List Int) (N:Int) (rows:List (List Int)):CR:=if etE P M md N rows=0 then ⟨P,M,N+1,md,(C4 P.toNat M.toNat md (N.toNat+1) (etL P.toNat M.toNat rows)).1,0⟩ else zeR (etE P M md N rows)
theorem AIa {p m n:Nat}{md:List Int}{rows:List (List Int)}(CC:Cok p m md n rows):Da (p ^ m) (n+1) (etL p m rows):=fun r hr=>by
 obtain ⟨s,hs,rfl⟩:=List.mem_map.1 hr
 have hw:=CC.mat s hs
 obtain ⟨s0,s1⟩:=Qk CC.K.fi s 0 (Int.le_refl 0) CC.K.fi.z hw.2
 have O:=Dx CC.K
 obtain ⟨⟨n0,n1⟩,_⟩:=O.ng _ s0 s1
 refine ⟨by rw [List.length_append,hw.1];rfl,fun x hx=>?_⟩
 rcases List.mem_append.1 hx with h|h
 ·exact hw.2 x h
 ·rw [List.mem_singleton.1 h];exact ⟨n0,n1⟩
theorem AEO {p m n:Nat}{md:List Int}{rows:List (List Int)}(CC:Cok p m md n rows) (hn:n≠64):etX p m md n rows=⟨p,m,(n+1:Nat),md,(C4 p m md (n+1) (etL p m rows)).1,0⟩:=by
 rw [etX,if_pos (by rw [etE,if_neg (fun e=>e CC.ck),if_neg (by omega)])];simp only [Int.toNat_natCast];rfl
section
variable {P M:Int}{n c nm cm:Nat}{pm ps:Option Addr}{md:List Int}{rows:List (List Int)}
theorem Q8 {N:Int}(hN:Bx .i64 N):Bn Tryz.prog 26 [.agg #[.int .i64 P,.int .i64 M,.slice pm nm cm,.int .i64 N,.slice ps n c]] [] [Ap Aj pm nm cm md,Ap (Ah Aj) ps n c rows] (CdX (etX P M md N rows)):=by
 refine Ab (F:=Zh) rfl fun C=>?_
 refine A9 1 rfl fun hn hb1 _=>?_
 subst hn
 have hr:=Ll P M md N rows
 have Au:=fun {pm ps:Option Addr}{nm cm n c:Nat}=>D5 (P:=P) (M:=M) (pm:=pm) (ps:=ps) (nm:=nm) (cm:=cm) (n:=n) (c:=c) (md:=md) (rows:=rows) (N:=N) hN rfl
 by_cases h0:Nz P M md N rows=0
 ·obtain ⟨p,m,n',rfl,rfl,rfl,CC⟩:=Wk h0
  rw [h0] at Au
  by_cases h64:n'=64
  ·rw [etX,if_neg (by rw [etE,if_neg (fun e=>e h0),if_pos (by omega)];omega),etE,if_neg (fun e=>e h0),if_pos (by omega)]
   refine Dk (Ap Aj none 0 0 []) (fun w A _=>Cl _ w A none 0) ?_
   refine Dk (Ap (Ah Aj) none 0 0 []) (fun w A _=>Cl _ w A none 0) ?_
   refine wk 23 (ct @Au cz) ?_
   intro b1 b2 h1 h2
   refine Bb [1,0] rfl (.agg 0 rfl rfl Dl rfl (.tmp rfl .nil)) rfl ⟨_,_,_,_,_,_,rfl,rfl,rfl⟩
  ·rw [AEO CC h64]
   have K:=CC.K
   have hq:=K.q
   have hSM:=AIa CC
   have hl:=CC.len
   have hn64:=CC.n64
   have hLl:(etL p m rows).length=rows.length:=List.length_map _
   have D9:=fun {pm:Option Addr}{nm cm:Nat}=>Ga (pm:=pm) (nm:=nm) (cm:=cm) K
   have Dr:=fun {pm ps:Option Addr}{nm cm n c:Nat}=>I5 (pm:=pm) (ps:=ps) (nm:=nm) (cm:=cm) (n:=n) (c:=c) (N:=n'+1) (rows:=etL p m rows) K (by omega) (by omega) (by omega) hSM
   generalize hG:C4 p m md (n'+1) (etL p m rows)=G at *
   clear hG
   refine Aq [_,_] rfl ?_
   refine Aa rfl (Cu rfl fun b1=>?_)
   refine Aa rfl (B2 T7 fun b2=>?_)
   refine Ai it 1 rfl (by simp) ?_
   refine Aq [_,_,_] rfl ?_
   refine Aa rfl (Bi 1 rfl rfl Dl rfl ?_)
   refine Aa rfl (Aw [0,1] rfl (Au) rfl ?_)
   rintro _ _ _ ⟨rfl,rfl,rfl⟩
   simp only [List.cons_append,List.nil_append]
   refine Ai it 1 rfl (by simp) ?_
   refine Aq [_,_,_] rfl ?_
   refine Ai it 2 rfl (by simp) ?_
   refine Aq [_,_] rfl ?_
   refine Nm rfl rfl (fun h1=>by exfalso;omega) (fun h1=>?_)
   refine Aq [_,_,_] rfl ?_
   refine Aa rfl (An rfl If ?_)
   refine Aa rfl (Bu 1 rfl rfl Ci rfl ?_)
   refine Ai it 1 rfl (by simp) ?_
   refine Aq [_,_] rfl ?_
   refine L7 rfl rfl (fun h2=>by exfalso;omega) (fun h2=>?_)
   refine Aq [_,_] rfl ?_
   refine Aa rfl (An rfl K4 ?_)
   refine Aa rfl (Tu 1 rfl rfl Gi rfl rfl ?_)
   refine Aa rfl (Aw [0] rfl (D9) rfl ?_)
   rintro _ _ _ ⟨b3,pg1,cg1,pe1,ce1,pl1,cl1,rfl,rfl,rfl⟩
   simp only [List.cons_append,List.nil_append]
   simp only [decide_true]
   refine Ai it 5 rfl (by simp) ?_
   refine Aq [_,_,_] rfl ?_
   refine Ai it 2 rfl (by simp) ?_
   refine Aq [_,_] rfl ?_
   refine Nm rfl rfl (fun h3=>by exfalso;omega) (fun h3=>?_)
   refine Aq [_,_] rfl ?_
   refine Aa rfl (An rfl If ?_)
   refine Aa rfl (Bu 1 rfl rfl Ci rfl ?_)
   refine Ai it 1 rfl ⟨⟨by omega,by omega⟩,trivial⟩ ?_
   refine Aa rfl (Dc (cs:=[Value.int IntKind.i64 (↑n'+1),Value.slice none 0 0]) Vx Hs rfl rfl ?_)
   refine Aa rfl (B2 Hs fun b4=>?_)
   refine Aa rfl (Be 0 rfl rfl rfl Gf rfl rfl (by simp [Value.oneCell']) ?_)
   refine Aq [_,_,_] rfl ?_
   refine Aa rfl (An rfl Mn ?_)
   refine Aa rfl (Bu 2 rfl rfl Hp rfl ?_)
   refine Aa rfl (Hn Df rfl ?_)
   refine Ai it 1 rfl (by simp) ?_
   refine Aq [_,_,_] rfl ?_
   refine Fh (Ah Aj) 22 ?_
   simp only [Cc,Dq,setB,List.take_succ_cons,List.cons_append,List.nil_append,List.take_zero,List.drop_succ_cons,List.drop_zero,List.length_singleton,Nat.zero_add]
   have hcl:=K.md8
   refine Af (X:=Nat×Row) [1,2,3,5,7,35,36] [0,1,2,3,4,5,6] (fun z=>[(37,.int .i64 (z.1:Int))]) (fun z=>(z.2.bo,22,z.2.cs)::(some b4,62,[.int .i64 ((n':Int)+1),.slice (ad z.2.bo) z.1 z.2.cap])::_) (fun z=>[A5 (Ah Aj) z.2 z.1 (etL p m (rows.take z.1))]) (fun z=>z.1≤rows.length) (fun z=>rows.length-z.1) (0,⟨none,0,[]⟩) [0] rfl rfl rfl (Nat.zero_le _) (by repeat (first|exact Fr.sub_nil _|refine Fr.sub_cons rfl ?_)) rfl rfl ?_
   rintro ⟨i,r⟩ hi ih
   simp only [List.cons_append,List.nil_append] at hi ih ⊢
   by_cases hil:i<rows.length
   ·obtain ⟨u,at_u⟩:∃ u,rows[i]?=some u:=⟨_,List.getElem?_eq_getElem hil⟩
    have hu:=CC.mat u (List.mem_of_getElem? at_u)
    have hul:=hu.1
    obtain ⟨s0,s1⟩:=Qk K.fi u 0 (Int.le_refl 0) K.fi.z hu.2
    rw [← Q3] at s0 s1
    obtain ⟨⟨g0,g1⟩,_⟩:=(Dx K).ng _ s0 s1
    have Fj:=fun {ps:Option Addr}{n cs:Nat}=>Ec (ps:=ps) (n:=n) (cs:=cs) (l:=u)
    have K1:=fun {b ng cg ne ce nl cl nu cu:Nat}{pg pe pl pu:Option Addr}=>Rf (b:=b) (ng:=ng) (cg:=cg) (ne:=ne) (ce:=ce) (nl:=nl) (cl:=cl) (pg:=pg) (pe:=pe) (pl:=pl) (pu:=pu) (nu:=nu) (cu:=cu) K hu.2
    have ih1:=fun r=>ih (i+1,r) (by dsimp only;omega) (by dsimp only;omega)
    dsimp only at ih1
    rw [etL,List.take_add_one (l:=rows),at_u,Option.toList_some,List.map_append,List.map_cons,List.map_nil,etW] at ih1
    clear ih
    have Ea:=fun {b ng cg ne ce nl cl:Nat}{pg pe pl:Option Addr}=>G6 (b:=b) (ng:=ng) (cg:=cg) (ne:=ne) (ce:=ce) (nl:=nl) (cl:=cl) (pg:=pg) (pe:=pe) (pl:=pl) K.p2 K.m1 hq s0 s1
    have g2:0≤B9 p m (Q3 (Ad (fA p m)) u)∧B9 p m (Q3 (Ad (fA p m)) u)<((p ^ m:Nat):Int):=⟨g0,g1⟩
    clear g0 g1
    generalize Q3 (Ad (fA p m)) u=s at *
    generalize hy:B9 p m s=y at *
    have hy2:((nP p m s.toNat:Nat):Int)=y:=hy
    simp only [hy2] at Ea
    refine wk 9 cz ?_
    intro h4 b5 o1 hz1 pa1 ca1
    (apply Kv it mx 0 12;(· rfl);(· rfl);(· rfl))
    (apply Ac;(· rfl);(· exact Bz fun _=>An rfl Ic Al))
    (apply Ac;(· rfl);(· exact Bv 1 rfl rfl Hp rfl))
    (apply A1 1;(· rfl);(· simp))
    (apply Xn [0];(· rfl);(· rfl);(· exact Fj);(· rfl);(· first|omega|(show _*8≤_;omega));intro pa2 cap1 b6 cs1)
    (apply A1 3;(· rfl);(· simp))
    (apply Ac;(· rfl);(· exact Bz fun _=>Aw [5,1] rfl (K1) rfl (by rintro _ _ _ ⟨rfl,rfl,rfl⟩;exact Al)))
    (apply Ac;(· rfl);(· exact Bz fun _=>Aw [5] rfl (Ea) rfl (by rintro _ _ _ ⟨rfl,rfl,rfl⟩;exact Al)))
    (apply Fa;(· rfl);(· exact Bz fun _=>H8 Ce Ee rfl rfl rfl rfl (by decide) (by decide) rfl fun b7=>Vf (E:=Aj) [[Value.int IntKind.i64 y]] [y] (fun w A hG=>(Ay ⟨rfl,by first|assumption|(simp only [Bx];omega)⟩ Ba)) rfl rfl rfl (by first|decide|exact Nat.le_of_ble_eq_true rfl));intro pa3 ca2)
    (apply ADF 1 0;(· rfl);(· rfl);(· rfl);(· rfl);(· rfl);(· exact Ce);(· exact Ee);(· rfl);(· (first|omega|(simp only [List.length_cons,List.length_nil];omega)));(· exact G5);(· (first|omega|(simp only [List.length_cons,List.length_nil];omega)));intro pa4 cap2 b7 cs2)
    (apply ADE 0;(· rfl);(· rfl);(· exact Df);(· exact Gr);(· rfl);(· rfl);(· rfl);(· decide);(· decide);intro pa5 cap3 b8 cs3 b9)
    refine Mj rfl ?_
    (rotate_left;rfl;rotate_right)
    (rotate_left;rfl;rotate_right)
    (rotate_left;rfl;rotate_right)
    simp only [List.append_nil,List.append_assoc,List.map_cons,List.map_nil,List.cons_append,List.nil_append,List.drop_zero]
    (refine Vb 1 0 (by first|rfl|exact (List.append_nil _).symm) rfl (by show (u.length+1)*8≤140737488355328;omega) ?_;simp only [List.take_succ_cons,List.take_zero,List.cons_append,List.nil_append,List.append_nil])
    refine Aa rfl (Fi (z:=u++[y]) 1 0 7 rfl rfl rfl rfl rfl Df Gr rfl (fun w A hG=>(Ax (hG _ (Ae (n:=0) rfl)))) (by omega) _ Jx (by omega) fun r1=>?_)
    refine wk 5 cz ?_
    refine Jw [true,false,true,true,true] [0,9,10,11,12,13,14,15] (by exact T8 rfl) rfl rfl (ih1 r1)
   ·obtain rfl:i=rows.length:=by omega
    clear ih
    rw [List.take_length]
    refine Dy 0 0 rfl rfl (by show rows.length*24≤140737488355328;omega) ?_
    simp only [List.eraseIdx_cons_zero,List.eraseIdx_cons_succ]
    refine wk 13 (ct @Dr cz) ?_
    intro h4 pb1 pc1 nb1 cb1 nc1 cc1
    refine Bb [0,1] rfl (.agg 1 rfl rfl Dl rfl (.tmp rfl .nil)) rfl ⟨_,_,_,_,_,_,rfl,rfl,rfl⟩
 ·rw [etX,if_neg (by rw [etE,if_pos h0];exact h0),etE,if_pos h0]
  generalize Nz P M md N rows=e at *
  refine Dk (Ap Aj none 0 0 []) (fun w A _=>Cl _ w A none 0) ?_
  refine Dk (Ap (Ah Aj) none 0 0 []) (fun w A _=>Cl _ w A none 0) ?_
  refine wk 18 (ct @Au cz) ?_
  intro b1 b2 h1
  refine Bb [1,0] rfl (.agg 0 rfl rfl Dl rfl (.tmp rfl .nil)) rfl ⟨_,_,_,_,_,_,rfl,rfl,rfl⟩
end
open Go Go.Fw
set_option maxRecDepth 100000
set_option linter.unusedVariables false
set_option linter.unusedSimpArgs false
set_option maxHeartbeats 0
theorem Qv {P M P2 M2:Int}{pm p2:Option Addr}{nm cm n2 c2:Nat}{md md2:List Int}{res:Bool}(hr:decide (P=P2∧M=M2∧md=md2)=res):Bn Tryz.prog 60 [.agg #[.int .i64 P,.int .i64 M,.slice pm nm cm],.agg #[.int .i64 P2,.int .i64 M2,.slice p2 n2 c2]] [] [Ap Aj pm nm cm md,Ap Aj p2 n2 c2 md2] (Rv (.bool res) []):=by
 refine Ab (F:=Qu) rfl fun C=>?_
 refine A9 0 rfl fun hn hb _=>?_
 subst hn
 refine A9 1 rfl fun hn hb2 _=>?_
 subst hn
 have hb':md.length*8≤140737488355328:=hb
 have hb2':md2.length*8≤140737488355328:=hb2
 by_cases h1:P=P2∧M=M2∧md.length=md2.length
 ·obtain ⟨rfl,rfl,hl⟩:=h1
  simp only [true_and] at hr
  refine wk 32 cz ?_
  intro b1 b2 h1 h2 h3
  refine Af (X:=Nat) [2,3] [0,1] (fun i=>[(5,.int .i64 (i:Int))]) (fun _=>_) (fun _=>[]) (fun i=>i≤md.length∧∀ j,j<i→md[j]?=md2[j]?) (fun i=>md.length-i) 0 [] rfl rfl rfl ⟨Nat.zero_le _,fun j hj=>by omega⟩ (by repeat (first|exact Fr.sub_nil _|refine Fr.sub_cons rfl ?_)) rfl rfl ?_
  rintro i ⟨hi,hj⟩ ih
  simp only [List.cons_append,List.nil_append] at ih ⊢
  by_cases h9:i<md.length
  ·obtain ⟨x,at_x⟩:∃ x,md[i]?=some x:=⟨_,List.getElem?_eq_getElem h9⟩
   obtain ⟨y,at_y⟩:∃ y,md2[i]?=some y:=⟨_,List.getElem?_eq_getElem (by omega)⟩
   have ex:md.getD i default=x:=by rw [List.getD_eq_getElem?_getD,at_x];rfl
   have ey:md2.getD i default=y:=by rw [List.getD_eq_getElem?_getD,at_y];rfl
   by_cases hxy:md.getD i default=md2.getD i default
   ·have hxy2:x=y:=by rw [← ex,← ey];exact hxy
    have ih':=ih (i+1) (by omega) ⟨by omega,fun j h=>by
     by_cases e:j=i
     ·rw [e,at_x,at_y,hxy2]
     ·exact hj j (by omega)⟩
    clear ih
    refine wk 15 cz ?_
    intro h4 b3 o1 b4 o2 h5
    exact tw (ih')
   ·have e:res=false:=by
     rw [← hr]
     refine decide_eq_false fun e=>hxy ?_
     rw [e]
    subst e
    clear ih
    refine wk 15 cz ?_
    intro h4 b3 o1 b4 o2 h5
    exact ge
  ·have e:res=true:=by
    rw [← hr]
    refine decide_eq_true (List.ext_getElem? fun j=>?_)
    by_cases h:j<md.length
    ·exact hj j (by omega)
    ·rw [List.getElem?_eq_none (by omega),List.getElem?_eq_none (by omega)]
   subst e
   clear ih
   refine wk 11 cz ?_
   intro h4
   exact ge
 ·have e:res=false:=by
   rw [← hr]
   exact decide_eq_false fun ⟨a,b,d⟩=>h1 ⟨a,b,by rw [d]⟩
  subst e
  by_cases hP:P=P2
  ·by_cases hM:M=M2
   ·have hl:md.length≠md2.length:=fun e=>h1 ⟨hP,hM,e⟩
    refine wk 32 cz ?_
    intro b1 b2 h2 h3 h4
    exact ge
   ·refine wk 26 cz ?_
    intro b1 b2 h2 h3
    exact ge
  ·refine wk 18 cz ?_
   intro b1 b2 h2
   exact ge
section
variable {P M N P2 M2 N2:Int}{n c nm cm n2 c2 nm2 cm2:Nat}{pm ps pm2 p2:Option Addr}{md md2:List Int}{rows rows2:List (List Int)}
theorem Qm {res:Bool}(hr:decide ((P=P2∧M=M2∧md=md2)∧N=N2∧rows=rows2)=res):Bn Tryz.prog 17 [.agg #[.int .i64 P,.int .i64 M,.slice pm nm cm,.int .i64 N,.slice ps n c],.agg #[.int .i64 P2,.int .i64 M2,.slice pm2 nm2 cm2,.int .i64 N2,.slice p2 n2 c2]] [] [Ap Aj pm nm cm md,Ap (Ah Aj) ps n c rows,Ap Aj pm2 nm2 cm2 md2,Ap (Ah Aj) p2 n2 c2 rows2] (Rv (.bool res) []):=by
 refine Ab (F:=Qg) rfl fun C=>?_
 have Ca:=fun {pm p2:Option Addr}{nm cm n2 c2:Nat}{res:Bool}(h:decide (P=P2∧M=M2∧md=md2)=res)=>Qv (pm:=pm) (p2:=p2) (nm:=nm) (cm:=cm) (n2:=n2) (c2:=c2) h
 have As:=fun {pl pk:Option Addr}{nl cl nk ck:Nat}{res:Bool}(h:decide (rows=rows2)=res)=>D2 (pl:=pl) (pk:=pk) (nl:=nl) (cl:=cl) (nk:=nk) (ck:=ck) h
 by_cases h1:P=P2∧M=M2∧md=md2
 ·have Ca:=fun {pm p2:Option Addr}{nm cm n2 c2:Nat}=>Ca (pm:=pm) (p2:=p2) (nm:=nm) (cm:=cm) (n2:=n2) (c2:=c2) (decide_eq_true h1)
  by_cases h2:N=N2
  ·by_cases h3:rows=rows2
   ·have As:=fun {pl pk:Option Addr}{nl cl nk ck:Nat}=>As (pl:=pl) (pk:=pk) (nl:=nl) (cl:=cl) (nk:=nk) (ck:=ck) (decide_eq_true h3)
    rw [decide_eq_true ⟨h1,h2,h3⟩] at hr
    subst hr
    refine wk 26 (ct @Ca (ct @As cz)) ?_
    intro b1 b2 h4
    exact ge
   ·have As:=fun {pl pk:Option Addr}{nl cl nk ck:Nat}=>As (pl:=pl) (pk:=pk) (nl:=nl) (cl:=cl) (nk:=nk) (ck:=ck) (decide_eq_false h3)
    rw [decide_eq_false fun h=>h3 h.2.2] at hr
    subst hr
    refine wk 26 (ct @Ca (ct @As cz)) ?_
    intro b1 b2 h4
    exact ge
  ·rw [decide_eq_false fun h=>h2 h.2.1] at hr
   subst hr
   refine wk 21 (ct @Ca cz) ?_
   intro b1 b2 h3
   exact ge
 ·have Ca:=fun {pm p2:Option Addr}{nm cm n2 c2:Nat}=>Ca (pm:=pm) (p2:=p2) (nm:=nm) (cm:=cm) (n2:=n2) (c2:=c2) (decide_eq_false h1)
  rw [decide_eq_false fun h=>h1 h.1] at hr
  subst hr
  refine wk 12 (ct @Ca cz) ?_
  intro b1 b2
  exact ge
def fwB (n:Int):List (List Int)→Int→Bool
 | [],_=>true
 | r::rs,left=>if left<(r.length:Int) then false else fwB n rs (left-r.length)
abbrev AGU (rows:List (List Int)) (n:Int):Bool:=if n<(rows.length:Int) then false else fwB n rows (n-rows.length)
theorem Rs {k:Int}(hk:k≤1000) (hk0:0≤k) {res:Bool}(hr:AGU rows k=res):Bn Tryz.prog 71 [.agg #[.int .i64 0,.slice ps n c],.int .i64 k] [] [Ap (Ah Aj) ps n c rows] (Rv (.bool res) []):=by
 refine Ab (F:=Ry) rfl fun C=>?_
 refine A9 0 rfl fun hn hb _=>?_
 subst hn
 by_cases h1:k<(rows.length:Int)
 ·rw [AGU,if_pos h1] at hr
  subst hr
  refine wk 17 cz ?_
  intro b1 h2 h3
  exact ge
 ·rw [AGU,if_neg h1] at hr
  refine wk 23 cz ?_
  intro b1 h2 h3
  refine Af (X:=Nat×Int) [2] [0] (fun z=>[(6,.int .i64 (z.1:Int)),(5,.int .i64 z.2)]) (fun _=>_) (fun _=>[]) (fun z=>z.1≤rows.length∧0≤z.2∧z.2≤1000∧fwB k (rows.drop z.1) z.2=res) (fun z=>rows.length-z.1) (0,k-rows.length) [] rfl rfl rfl ⟨Nat.zero_le _,by dsimp only;omega,by dsimp only;omega,hr⟩ (by repeat (first|exact Fr.sub_nil _|refine Fr.sub_cons rfl ?_)) rfl rfl ?_
  rintro ⟨i,left⟩ ⟨hi,hl0,hl1,hf⟩ ih
  simp only [List.cons_append,List.nil_append] at hi hl0 hl1 hf ih ⊢
  by_cases h9:i<rows.length
  ·obtain ⟨u,at_u⟩:∃ u,rows[i]?=some u:=⟨_,List.getElem?_eq_getElem h9⟩
   rw [List.drop_eq_getElem_cons h9,(List.getElem?_eq_some_iff.1 at_u).2,fwB] at hf
   by_cases h2:left<(u.length:Int)
   ·rw [if_pos h2] at hf
    subst hf
    clear ih
    refine wk 21 cz ?_
    intro h4 b2 o1 hz1 pa1 ca1 h5
    exact ge
   ·rw [if_neg h2] at hf
    have ih':=ih (i+1,left-u.length) (by dsimp only;omega) ⟨by dsimp only;omega,by dsimp only;omega,by dsimp only;omega,hf⟩
    dsimp only at ih'
    clear ih
    refine wk 30 cz ?_
    intro h4 b2 o1 hz1 pa1 ca1 h5 b3 o2 hz2 pa2 ca2
    exact tw (ih')
  ·rw [List.drop_of_length_le (by omega),fwB] at hf
   subst hf
   clear ih
   refine wk 11 cz ?_
   intro h4
   exact ge
theorem Rj {k:Int}(hk:k≤1000) (hk0:0≤k) {res:Bool}(hr:AGU rows k=res):Bn Tryz.prog 24 [.agg #[.int .i64 P,.int .i64 M,.slice pm nm cm,.int .i64 N,.slice ps n c],.int .i64 k] [] [Ap (Ah Aj) ps n c rows] (Rv (.bool res) []):=by
 refine Ab (F:=Rt) rfl fun C=>?_
 have Ri:=fun {ps:Option Addr}{n c:Nat}=>Rs (rows:=rows) (ps:=ps) (n:=n) (c:=c) hk hk0 hr
 refine wk 11 (ct @Ri cz) ?_
 intro b1
 exact ge
end
open Go Go.Fw
set_option maxRecDepth 100000
set_option linter.unusedVariables false
set_option linter.unusedSimpArgs false
set_option maxHeartbeats 0
section
variable {pw pl pa pz:Option Addr}{nw cw nl cl na ca nz cz':Nat}{w lost away z:List Int}
end
open Go Go.Fw
set_option maxRecDepth 100000
set_option linter.unusedVariables false
set_option linter.unusedSimpArgs false
set_option maxHeartbeats 0
section
variable {p m N nm cm n c nw cw:Nat}{pm ps pw:Option Addr}{md w:List Int}{rows:List (List Int)}
theorem Oz (K:Fok p m md):Bn Tryz.prog 106 [.agg #[.int .i64 p,.int .i64 m,.slice pm nm cm]] [] [Ap Aj pm nm cm md] (fun v Φ β=>∃ (pb:Option Addr) (nb cb:Nat),v = .agg #[.int .i64 p,.int .i64 m,.slice pb nb cb]∧Φ=[Ap Aj pb nb cb md]∧β=[]):=by
 refine Ab (F:=Pd) rfl fun C=>?_
 refine A9 0 rfl fun hn hb _=>?_
 subst hn
 have hb':md.length*8≤140737488355328:=hb
 refine wk 4 cz ?_
 intro b1 b2
 (apply Kv it mx 0 9;(· rfl);(· rfl);(· rfl))
 simp only [List.drop_zero,List.take_zero]
 (apply Ac;(· rfl);(· exact Bz fun _=>An rfl Ot Al))
 (apply Ac;(· rfl);(· exact Bv 1 rfl rfl Ci rfl))
 (apply Ac;(· rfl);(· exact Bz fun _=>An rfl Ok Al))
 (apply Ac;(· rfl);(· exact Bv 1 rfl rfl Ci rfl))
 (apply Wq (Ds IntKind.i64 8);(· rfl);(· exact Ce);intro pa1)
 (apply Ac;(· rfl);(· exact Bz fun _=>An rfl AB9 Al))
 (apply Ac;(· rfl);(· exact Bv 1 rfl rfl E6 rfl))
 (apply Yl 0 1;(· rfl);(· rfl);(· rfl);(· rfl);(· rfl);(· exact Ce);(· exact Ee);(· rfl);(· (first|omega|(simp only [List.length_cons,List.length_nil];omega)));(· exact G5);(· (first|omega|(simp only [List.length_cons,List.length_nil];omega)));intro pa2 cap1 b3 cs1)
 (apply G1 [4,6,10] (fun vs=>Value.agg ((Up ([(0,1),(1,1),(2,1)]) ([Value.int IntKind.i64 0,Value.int IntKind.i64 0,Value.slice none 0 0]) [(0,Cc (vs.getD 0 undef)),(1,Cc (vs.getD 1 undef)),(2,Cc (vs.getD 2 undef))]).getD []).toArray) (v:=Value.agg #[Value.int IntKind.i64 ↑p,Value.int IntKind.i64 ↑m,Value.slice pa2 (0+md.length) cap1]);(· rfl);(· rfl);(· rfl);(· rfl);(· exact Bz fun _=>Dc (cs:=[Value.int IntKind.i64 ↑p,Value.int IntKind.i64 ↑m,Value.slice pa2 (0+md.length) cap1]) AIK AEC rfl rfl Al))
 refine Mj rfl ?_
 (rotate_left;rfl;rotate_right)
 simp only [List.append_nil,List.append_assoc,List.map_cons,List.map_nil,List.cons_append,List.nil_append,List.drop_zero]
 (refine Vb 0 0 (by first|rfl|exact (List.append_nil _).symm) rfl (by show (0+md.length)*8≤140737488355328;omega) ?_;simp only [List.take_succ_cons,List.take_zero,List.cons_append,List.nil_append,List.append_nil])
 refine wk 2 cz ?_ --ok
 refine Bb [0] rfl (.agg 0 rfl rfl Gi rfl .nil) rfl ⟨_,_,_,rfl,rfl,rfl⟩
theorem Gw (K:Fok p m md) (hn:rows.length≤1000000) (hN:N≤1000000) (hM:Da (p ^ m) N rows):Bn Tryz.prog 58 [.agg #[.int .i64 p,.int .i64 m,.slice pm nm cm],.slice ps n c,.int .i64 N] [] [Ap Aj pm nm cm md,Ap (Ah Aj) ps n c rows]
  (fun v Φ β=>∃ (pb pc:Option Addr) (nb cb nc cc:Nat),v = .agg #[.int .i64 p,.int .i64 m,.slice pb nb cb,.int .i64 N,.slice pc nc cc]∧Φ=[Ap Aj pb nb cb md,Ap (Ah Aj) pc nc cc (C4 p m md N rows).1]∧β=[]):=by
 refine Ab (F:=Qc) rfl fun C=>?_
 refine A9 1 rfl fun hn2 _ _=>?_
 subst hn2
 have Bq:=fun {nm cm c:Nat}{pm ps:Option Addr}=>Ge (nm:=nm) (cm:=cm) (c:=c) (pm:=pm) (ps:=ps) K hn hN rfl hM
 have Pa:=fun {nm cm:Nat}{pm:Option Addr}=>Oz (nm:=nm) (cm:=cm) (pm:=pm) K
 refine Aq [_,_] rfl ?_
 refine Aa rfl (Cu rfl fun b1=>?_)
 refine Aa rfl (B2 T7 fun b2=>?_)
 refine Aq [_,_] rfl ?_
 refine Aa rfl (Bi 1 rfl rfl Gi rfl ?_)
 refine Ai it 2 rfl (by simp) ?_
 refine Aa rfl (Aw [0,1] rfl (Bq) rfl ?_)
 rintro _ _ _ ⟨pb1,pp1,cb1,cp1,rfl,rfl,rfl⟩
 simp only [List.cons_append,List.nil_append]
 refine Ai it 5 rfl (by simp) ?_
 refine Aq [_,_] rfl ?_
 refine Aa rfl (Bi 1 rfl rfl Gi rfl ?_)
 refine Aa rfl (Aw [2] rfl (Pa) rfl ?_)
 rintro _ _ _ ⟨pb2,nb1,cb2,rfl,rfl,rfl⟩
 simp only [List.cons_append,List.nil_append]
 refine Ai it 2 rfl (by simp) ?_
 refine Aa rfl (Dc (cs:=[Value.int IntKind.i64 ↑p,Value.int IntKind.i64 ↑m,Value.slice pb2 nb1 cb2,Value.int IntKind.i64 ↑N,Value.slice pb1 (C4 p m md N rows).snd.length cb1]) AJK T7 rfl rfl ?_)
 refine Aa rfl (Be 0 rfl rfl rfl Dl rfl rfl (by simp [Value.oneCell']) ?_)
 refine Aq [_] rfl ?_
 refine Bb [0,1] rfl (.agg 0 rfl rfl Dl rfl .nil) rfl ⟨_,_,_,_,_,_,rfl,rfl,rfl⟩
end
open Go Go.Fw
set_option maxRecDepth 100000
set_option linter.unusedVariables false
set_option linter.unusedSimpArgs false
set_option maxHeartbeats 0
section
variable {P M:Int}{n c nm cm nu cu:Nat}{pm ps pu:Option Addr}{md:List Int}{rows:List (List Int)}
theorem Rq {p m:Nat}{u:List Int}(K:Fok p m md) (hu:∀ x∈u,0≤x∧x<((p ^ m:Nat):Int)) :
  Bn Tryz.prog 77 [.agg #[.int .i64 p,.int .i64 m,.slice pm nm cm],.slice pu nu cu] [] [Ap Aj pm nm cm md,Ap Aj pu nu cu u] (Rv (.int .i64 (Q3 (Ad (fA p m)) u)) []):=by
 refine Ab (F:=Rz) rfl fun C=>?_
 refine A9 1 rfl fun hn hb _=>?_
 subst hn
 have hb':u.length*8≤140737488355328:=hb
 have hq:=K.q
 have He:=fun {nm cm:Nat}{pm:Option Addr}{x y:Int}=>Jy (nm:=nm) (cm:=cm) (pm:=pm) (x:=x) (y:=y) K
 have hF:=K.fi
 have hr:=fun i=>Qk hF (u.take i) 0 (Int.le_refl 0) hF.z fun x hx=>hu x (List.mem_of_mem_take hx)
 generalize Ad (fM p (Az m md))=M at *
 generalize Ad (fA p m)=A at *
 generalize p ^ m=q at *
 refine wk 8 cz ?_
 intro b1
 refine Af (X:=Nat) [1,2,4] [0,1] (fun i=>[(6,.int .i64 (i:Int)),(5,.int .i64 (Q3 A (u.take i)))]) (fun _=>_) (fun _=>[]) (fun i=>i≤u.length) (fun i=>u.length-i) 0 [] rfl rfl rfl (Nat.zero_le _) (by repeat (first|exact Fr.sub_nil _|refine Fr.sub_cons rfl ?_)) rfl rfl ?_
 rintro i hi ih
 simp only [List.cons_append,List.nil_append] at hi ih ⊢
 by_cases h9:i<u.length
 ·obtain ⟨x,at_x⟩:∃ x,u[i]?=some x:=⟨_,List.getElem?_eq_getElem h9⟩
  have ex:u.getD i default=x:=by rw [List.getD_eq_getElem?_getD,at_x];rfl
  obtain ⟨hx0,hx1⟩:=hu x (List.mem_of_getElem? at_x)
  have ih':=ih (i+1) (by omega) (by omega)
  rw [AAI at_x,← ex] at ih'
  rw [← ex] at hx0 hx1
  obtain ⟨s0,s1⟩:=hr i
  rw [← Q3] at s0 s1
  generalize Q3 A (u.take i)=s at *
  refine wk 12 (ct @He cz) ?_
  intro h1 b2 o1
  exact tw (ih')
 ·obtain rfl:i=u.length:=by omega
  rw [List.take_length]
  clear ih
  refine wk 9 cz ?_
  intro h1
  exact ge
theorem Ol {N:Int}(hN:Bx .i64 N):Bn Tryz.prog 27 [.agg #[.int .i64 P,.int .i64 M,.slice pm nm cm,.int .i64 N,.slice ps n c]] [] [Ap Aj pm nm cm md,Ap (Ah Aj) ps n c rows] (CdX (etX P M md N rows)):=by
 refine Ab (F:=On) rfl fun C=>?_
 refine A9 1 rfl fun hn hb1 _=>?_
 subst hn
 have hr:=Ll P M md N rows
 have A7:=fun {pm ps:Option Addr}{nm cm n c:Nat}=>Gb (P:=P) (M:=M) (pm:=pm) (ps:=ps) (nm:=nm) (cm:=cm) (n:=n) (c:=c) (md:=md) (rows:=rows) (N:=N) hN rfl
 by_cases h0:Nz P M md N rows=0
 ·obtain ⟨p,m,n',rfl,rfl,rfl,CC⟩:=Wk h0
  rw [h0] at A7
  by_cases h64:n'=64
  ·rw [etX,if_neg (by rw [etE,if_neg (fun e=>e h0),if_pos (by omega)];omega),etE,if_neg (fun e=>e h0),if_pos (by omega)]
   refine Dk (Ap Aj none 0 0 []) (fun w A _=>Cl _ w A none 0) ?_
   refine Dk (Ap (Ah Aj) none 0 0 []) (fun w A _=>Cl _ w A none 0) ?_
   refine wk 23 (ct @A7 cz) ?_
   intro b1 b2 h1 h2
   refine Bb [1,0] rfl (.agg 0 rfl rfl Dl rfl (.tmp rfl .nil)) rfl ⟨_,_,_,_,_,_,rfl,rfl,rfl⟩
  ·rw [AEO CC h64]
   have K:=CC.K
   have hq:=K.q
   have hSM:=AIa CC
   have hl:=CC.len
   have hn64:=CC.n64
   have hLl:(etL p m rows).length=rows.length:=List.length_map _
   have D4:=fun {pm ps:Option Addr}{nm cm n c:Nat}=>Gw (pm:=pm) (ps:=ps) (nm:=nm) (cm:=cm) (n:=n) (c:=c) (N:=n'+1) (rows:=etL p m rows) K (by omega) (by omega) hSM
   generalize hG:C4 p m md (n'+1) (etL p m rows)=G at *
   clear hG
   refine wk 23 (ct @A7 cz) ?_
   intro b1 b2 h1 h2
   refine Fh (Ah Aj) 22 ?_
   refine Af (X:=Nat×Row) [1,2,3] [0,1,2] (fun z=>[(6,.int .i64 (z.1:Int)),(5,.slice (ad z.2.bo) z.1 z.2.cap)]) (fun z=>(z.2.bo,22,z.2.cs)::_) (fun z=>[A5 (Ah Aj) z.2 z.1 (etL p m (rows.take z.1))]) (fun z=>z.1≤rows.length) (fun z=>rows.length-z.1) (0,⟨none,0,[]⟩) [0] rfl rfl rfl (Nat.zero_le _) (by repeat (first|exact Fr.sub_nil _|refine Fr.sub_cons rfl ?_)) rfl rfl ?_
   rintro ⟨i,r⟩ hi ih
   simp only [List.cons_append,List.nil_append] at hi ih ⊢
   by_cases hil:i<rows.length
   ·obtain ⟨u,at_u⟩:∃ u,rows[i]?=some u:=⟨_,List.getElem?_eq_getElem hil⟩
    have eu:rows.getD i default=u:=by rw [List.getD_eq_getElem?_getD,at_u];rfl
    have hu:=CC.mat u (List.mem_of_getElem? at_u)
    have hul:=hu.1
    obtain ⟨s0,s1⟩:=Qk K.fi u 0 (Int.le_refl 0) K.fi.z hu.2
    rw [← Q3] at s0 s1
    obtain ⟨⟨g0,g1⟩,_⟩:=(Dx K).ng _ s0 s1
    have hur:=hu.2
    rw [← eu] at hur hul s0 s1 g0 g1
    have Rw:=fun {nm cm nu cu:Nat}{pm pu:Option Addr}=>Rq (nm:=nm) (cm:=cm) (nu:=nu) (cu:=cu) (pm:=pm) (pu:=pu) K hur
    have Dh:=fun {nm cm:Nat}{pm:Option Addr}=>Hb (nm:=nm) (cm:=cm) (pm:=pm) K s0 s1
    have ih1:=fun r=>ih (i+1,r) (by dsimp only;omega) (by dsimp only;omega)
    dsimp only at ih1
    rw [etL,List.take_add_one (l:=rows),at_u,Option.toList_some,List.map_append,List.map_cons,List.map_nil,etW,← eu] at ih1
    clear ih
    have g2:0≤B9 p m (Q3 (Ad (fA p m)) (rows.getD i default))∧B9 p m (Q3 (Ad (fA p m)) (rows.getD i default))<((p ^ m:Nat):Int):=⟨g0,g1⟩
    clear g0 g1
    generalize Q3 (Ad (fA p m)) (rows.getD i default)=s at *
    generalize hy:B9 p m s=y at *
    have hy2:((nP p m s.toNat:Nat):Int)=y:=hy
    simp only [hy2] at Dh
    refine wk 9 cz ?_
    intro h3
    (apply Kv it mx 0 22;(· rfl);(· rfl);(· rfl))
    (apply A1 1;(· rfl);(· simp))
    (apply Wq (Ds IntKind.i64 8);(· rfl);(· exact Ce);intro pa1)
    (apply Ac;(· rfl);(· exact Bz fun _=>An rfl Mn Al))
    (apply Ac;(· rfl);(· exact Bv 2 rfl rfl Hp rfl))
    (apply A1 1;(· rfl);(· simp))
    (apply Yd;(· rfl);(· exact Bz fun _=>Ia 3 (i) rfl rfl rfl Df rfl (by omega) fun z1 hz1 b3 o1=>(Xk default hz1 0 rfl));intro b3 o1)
    (apply Fa;(· rfl);(· exact Bz fun _=>Tt 0 rfl rfl E6 fun pa2 ca1=>(Jd 0 rfl));intro pa2 ca1)
    (apply AHr (keep:=[]) 2 0;(· rfl);(· rfl);(· rfl);(· rfl);(· rfl);(· exact Ce);(· exact Ee);(· rfl);(· (first|omega|(simp only [List.length_cons,List.length_nil];omega)));(· exact G5);(· (first|omega|(simp only [List.length_cons,List.length_nil];omega)));intro pa3 cap1 b4 cs1)
    (apply Ac;(· rfl);(· exact Bz fun _=>An rfl K4 Al))
    (apply Ac;(· rfl);(· exact Fp 2 rfl rfl Gi rfl rfl))
    (apply Ac;(· rfl);(· exact Bz fun _=>An rfl K4 Al))
    (apply Ac;(· rfl);(· exact Fp 2 rfl rfl Gi rfl rfl))
    (apply Ac;(· rfl);(· exact Bz fun _=>An rfl Mn Al))
    (apply Ac;(· rfl);(· exact Bv 2 rfl rfl Hp rfl))
    (apply A1 1;(· rfl);(· simp))
    (apply Yd;(· rfl);(· exact Bz fun _=>Ia 3 (i) rfl rfl rfl Df rfl (by omega) fun z1 hz1 b5 o2=>(Xk default hz1 0 rfl));intro b5 o2)
    (apply Fa;(· rfl);(· exact Bz fun _=>Tt 0 rfl rfl E6 fun pa4 ca2=>(Jd 0 rfl));intro pa4 ca2)
    (apply Ac;(· rfl);(· exact Bz fun _=>Aw [8,0] rfl (Rw) rfl (by rintro _ _ _ ⟨rfl,rfl,rfl⟩;exact Al)))
    (apply Ac;(· rfl);(· exact Bz fun _=>Aw [] rfl (Dh) rfl (by rintro _ _ _ ⟨rfl,rfl,rfl⟩;exact Al)))
    (apply Fa;(· rfl);(· exact Bz fun _=>H8 Ce Ee rfl rfl rfl rfl (by decide) (by decide) rfl fun b6=>Vf (E:=Aj) [[Value.int IntKind.i64 y]] [y] (fun w A hG=>(Ay ⟨rfl,by first|assumption|(simp only [Bx];omega)⟩ Ba)) rfl rfl rfl (by first|decide|exact Nat.le_of_ble_eq_true rfl));intro pa5 ca3)
    (apply ADF 3 0;(· rfl);(· rfl);(· rfl);(· rfl);(· rfl);(· exact Ce);(· exact Ee);(· rfl);(· (first|omega|(simp only [List.length_cons,List.length_nil];omega)));(· exact G5);(· (first|omega|(simp only [List.length_cons,List.length_nil];omega)));intro pa6 cap2 b6 cs2)
    (apply ADE 0;(· rfl);(· rfl);(· exact Df);(· exact Gr);(· rfl);(· rfl);(· rfl);(· decide);(· decide);intro pa7 cap3 b7 cs3 b8)
    refine Mj rfl ?_
    (rotate_left;rfl;rotate_right)
    (rotate_left;rfl;rotate_right)
    (rotate_left;rfl;rotate_right)
    simp only [List.append_nil,List.append_assoc,List.map_cons,List.map_nil,List.cons_append,List.nil_append,List.drop_zero]
    (refine Vb 1 0 (by first|rfl|exact (List.append_nil _).symm) rfl (by show (0+(rows.getD i default).length+1)*8≤140737488355328;omega) ?_;simp only [List.take_succ_cons,List.take_zero,List.cons_append,List.nil_append,List.append_nil])
    refine Aa rfl (Fi (z:=rows.getD i default++[y]) 1 0 10 rfl rfl rfl rfl rfl Df Gr rfl (fun w A hG=>(Ax (hG _ (Ae (n:=0) rfl)))) (by omega) _ Jx (by omega) fun r1=>?_)
    refine wk 4 cz ?_
    refine Jw [true,false,true,true] [0,12,13,14] (by exact T8 rfl) rfl rfl (ih1 r1)
   ·obtain rfl:i=rows.length:=by omega
    clear ih
    rw [List.take_length]
    refine Dy 0 0 rfl rfl (by show rows.length*24≤140737488355328;omega) ?_
    simp only [List.eraseIdx_cons_zero,List.eraseIdx_cons_succ]
    refine wk 19 (ct @D4 cz) ?_
    intro h3 pb1 pc1 nb1 cb1 nc1 cc1
    refine Bb [0,1] rfl (.agg 0 rfl rfl Dl rfl (.tmp rfl .nil)) rfl ⟨_,_,_,_,_,_,rfl,rfl,rfl⟩
 ·rw [etX,if_neg (by rw [etE,if_pos h0];exact h0),etE,if_pos h0]
  generalize Nz P M md N rows=e at *
  refine Dk (Ap Aj none 0 0 []) (fun w A _=>Cl _ w A none 0) ?_
  refine Dk (Ap (Ah Aj) none 0 0 []) (fun w A _=>Cl _ w A none 0) ?_
  refine wk 18 (ct @A7 cz) ?_
  intro b1 b2 h1
  refine Bb [1,0] rfl (.agg 0 rfl rfl Dl rfl (.tmp rfl .nil)) rfl ⟨_,_,_,_,_,_,rfl,rfl,rfl⟩
end
set_option maxRecDepth 100000
set_option linter.unusedVariables false
set_option linter.unusedSimpArgs false
section
variable {q:Nat}{A M:Int→Int→Int}{N V:Int→Int}(O:FO q A M N V)
include O
end
set_option maxRecDepth 100000
set_option linter.unusedVariables false
set_option linter.unusedSimpArgs false
section
variable {q:Nat}{A M:Int→Int→Int}{N V:Int→Int}(O:FO q A M N V)
include O
end
open Go Go.Fw
set_option maxRecDepth 100000
set_option linter.unusedVariables false
set_option linter.unusedSimpArgs false
set_option maxHeartbeats 0
section
variable {q:Nat}{A M:Int→Int→Int}{N V:Int→Int}(O:FO q A M N V)
include O
end
open Go Go.Fw
set_option maxRecDepth 100000
set_option linter.unusedVariables false
set_option linter.unusedSimpArgs false
set_option maxHeartbeats 0
section
variable {q:Nat}{A M:Int→Int→Int}{N V:Int→Int}(O:FO q A M N V)
include O
end
open Go Go.Fw
set_option maxRecDepth 100000
set_option linter.unusedVariables false
set_option linter.unusedSimpArgs false
set_option maxHeartbeats 0
section
variable {p m N b bp nm cm ns cs ny cy nt ct:Nat}{pm ps py pt:Option Addr}{co:Bool}{Mo w ap:Int}{md:List Int}{rows:List (List Int)}
end
open Go Go.Fw
set_option maxRecDepth 100000
set_option linter.unusedVariables false
set_option linter.unusedSimpArgs false
set_option maxHeartbeats 0
section
variable {P:Program}{C:Cx}{σ:Fr}{β:List A3}{Γ:List Fact}{ty:TypeId}
end
section
variable {p m N b bp nm cm ns cs ny cy nt ct:Nat}{pm ps py pt:Option Addr}{co:Bool}{Mo w:Int}{md:List Int}{rows sets:List (List Int)}
end
open Go Go.Fw
set_option maxRecDepth 100000
set_option linter.unusedVariables false
set_option linter.unusedSimpArgs false
set_option maxHeartbeats 0
section
variable {p m N b bp nm cm ns cs ny cy nt ct:Nat}{pm ps py pt:Option Addr}{Mo w:Int}{md:List Int}{rows sets:List (List Int)}
end
open Go Go.Fw
set_option maxRecDepth 100000
set_option linter.unusedVariables false
set_option linter.unusedSimpArgs false
set_option maxHeartbeats 0
section
variable {p m N b bp nm cm ns cs ny cy nt ct:Nat}{pm ps py pt:Option Addr}{Mo:Int}{d:Nat}{md:List Int}{rows sets:List (List Int)}
end
open Go Go.Fw
set_option maxRecDepth 100000
set_option linter.unusedVariables false
set_option linter.unusedSimpArgs false
set_option maxHeartbeats 0
section
variable {p m N n c nm cm ny cy k:Nat}{pm ps py:Option Addr}{Mo w:Int}{md:List Int}{rows:List (List Int)}
end
open Go Go.Fw
set_option maxRecDepth 100000
set_option linter.unusedVariables false
set_option linter.unusedSimpArgs false
set_option maxHeartbeats 0
section
variable {P M:Int}{p m n c nm cm ns cs':Nat}{pm ps pt:Option Addr}{md set:List Int}{rows:List (List Int)}
end
open Go Go.Fw
set_option maxRecDepth 100000
set_option linter.unusedVariables false
set_option linter.unusedSimpArgs false
set_option maxHeartbeats 0
section
variable {p m n c nm cm ns cs' N:Nat}{P M:Int}{pm ps pt:Option Addr}{md set:List Int}{rows:List (List Int)}
theorem N9 (CC:Cok p m md N rows):Bn Tryz.prog 80 [.agg #[.int .i64 p,.int .i64 m,.slice pm nm cm,.int .i64 N,.slice ps n c]] [] [Ap Aj pm nm cm md,Ap (Ah Aj) ps n c rows]
  (fun v Φ β=>∃ r:Row,v = .slice (ad r.bo) (Jg p m md N rows).length r.cap∧Φ=[A5 (Ah Aj) r (Jg p m md N rows).length (Jg p m md N rows)]∧β=[(r.bo,22,r.cs)]):=by
 refine Ab (F:=Oo) rfl fun C=>?_
 refine A9 1 rfl fun hn2 _ _=>?_
 subst hn2
 have h64:=CC.n64
 have hl:=CC.len
 have E4:=fun {nm cm c:Nat}{pm ps:Option Addr}=>Js (nm:=nm) (cm:=cm) (c:=c) (pm:=pm) (ps:=ps) (n:=rows.length) (N:=N) CC.K (by omega) (by omega) rfl CC.mat
 refine wk 13 (ct @E4 cz) ?_
 intro b1 r1
 refine Dp 2 [0] [0] rfl (.tmp rfl .nil) rfl rfl rfl ⟨r1,rfl,rfl,rfl⟩
end
open Go Go.Fw
set_option maxRecDepth 100000
set_option linter.unusedVariables false
set_option linter.unusedSimpArgs false
set_option maxHeartbeats 0
section
variable {P M:Int}{n c nm cm ns cs':Nat}{pm ps pt:Option Addr}{md set:List Int}{rows:List (List Int)}
theorem Jn {N:Nat}(hN:N≤1000):Bn Tryz.prog 81 [.int .i64 N] [] [] (RwI N (onW N)):=by
 refine Ab (F:=Qy) rfl fun C=>?_
 refine wk 9 cz ?_
 intro b1
 rw [show Ao .i64 (List.replicate N 0)=Ak .i64 (List.replicate 0 1++List.replicate (N-0) 0) by simp [Ao,Ak]]
 refine Af (X:=Nat) [0,2,3] [] (fun i=>[(4,.int .i64 (i:Int))]) (fun i=>(some b1,3,Ak .i64 (List.replicate i 1++List.replicate (N-i) 0))::_) (fun _=>[]) (fun i=>i≤N) (fun i=>N-i) 0 [] rfl rfl rfl (Nat.zero_le _) (by repeat (first|exact Fr.sub_nil _|refine Fr.sub_cons rfl ?_)) rfl rfl ?_
 rintro i hi ih
 simp only [List.cons_append,List.nil_append] at hi ih ⊢
 by_cases h9:i<N
 ·have ih':=ih (i+1) (by omega) (by omega)
  have hset:(List.replicate i (1:Int)++List.replicate (N-i) 0).set i 1=List.replicate (i+1) 1++List.replicate (N-(i+1)) 0:=by
   obtain ⟨k,hk⟩:∃ k,N-i=k+1:=⟨N-i-1,by omega⟩
   rw [hk,List.replicate_succ (n:=k),List.set_append_right _ _ (by simp),List.length_replicate,Nat.sub_self,List.set_cons_zero,show N-(i+1)=k by omega,List.replicate_succ' (n:=i),List.append_assoc]
   rfl
  rw [← hset] at ih'
  have hln:(List.replicate i (1:Int)++List.replicate (N-i) 0).length=N:=by simp;omega
  generalize List.replicate i (1:Int)++List.replicate (N-i) 0=L at *
  clear ih
  refine wk 11 cz ?_
  intro h1
  exact tw (ih')
 ·obtain rfl:i=N:=by omega
  rw [Nat.sub_self,List.replicate_zero,List.append_nil]
  clear ih
  refine Bk 0 rfl (show i=(onW i).length from List.length_replicate.symm) (fun x hx=>by rw [List.eq_of_mem_replicate hx];simp only [Bx];omega) (by omega) ?_
  refine wk 7 cz ?_
  intro h1
  refine Dp 1 [0] [0] rfl (.tmp rfl .nil) rfl rfl rfl ⟨⟨some b1,i,_⟩,rfl,rfl,rfl⟩
theorem Li {N:Int}(hN:Bx .i64 N):Bn Tryz.prog 29 [.agg #[.int .i64 P,.int .i64 M,.slice pm nm cm,.int .i64 N,.slice ps n c]] [] [Ap Aj pm nm cm md,Ap (Ah Aj) ps n c rows] (CdX (exX P M md N rows)):=by
 refine Ab (F:=Lf) rfl fun C=>?_
 have hr:=Ll P M md N rows
 have A7:=fun {pm ps:Option Addr}{nm cm n c:Nat}=>Gb (P:=P) (M:=M) (pm:=pm) (ps:=ps) (nm:=nm) (cm:=cm) (n:=n) (c:=c) (md:=md) (rows:=rows) (N:=N) hN rfl
 by_cases h0:Nz P M md N rows=0
 ·obtain ⟨p,m,n',rfl,rfl,rfl,CC⟩:=Wk h0
  rw [h0] at A7
  have K:=CC.K
  have O:=Dx K
  have h64:=CC.n64
  have hM2:=Jm CC.nu.mat (Xl K n')
  have hNl:=Zv K CC.mat
  have hc:(C4 p m md n' (exP p m md n' rows)).1=exP p m md n' rows:=by
   have h:C4 p m md n' (exP p m md n' rows)=_:=O.cn_nu hM2
   rw [h];rfl
  have hEl:(exP p m md n' rows).length≤n':=Zv K hM2
  have hEM:Da (p ^ m) n' (exP p m md n' rows):=(O.nu hM2).1
  rw [AEI CC,← hc]
  have Oe:=fun {pm ps:Option Addr}{nm cm n c:Nat}=>N9 (pm:=pm) (ps:=ps) (nm:=nm) (cm:=cm) (n:=n) (c:=c) CC
  have Gy:=(Jn (N:=n') (by omega)).pubR (by show n'*8≤140737488355328;omega)
  have E4:=fun {nm cm c:Nat}{pm ps:Option Addr}=>Qw (nm:=nm) (cm:=cm) (c:=c) (pm:=pm) (ps:=ps) (n:=(Jg p m md n' rows).length+1) (N:=n') K (by omega) (by omega) (by rw [List.length_append];rfl) hM2
  have D4:=fun {pm ps:Option Addr}{nm cm n c:Nat}=>Gw (pm:=pm) (ps:=ps) (nm:=nm) (cm:=cm) (n:=n) (c:=c) (N:=n') (rows:=exP p m md n' rows) K (by omega) (by omega) hEM
  generalize hG:C4 p m md n' (exP p m md n' rows)=G at *
  clear hG hEM
  have hEe:Jg p m md n' (Jg p m md n' rows++[onW n'])=exP p m md n' rows:=rfl
  generalize exP p m md n' rows=X at *
  rw [hEe] at E4
  generalize Jg p m md n' rows=D at *
  refine wk 13 (ct @A7 cz) ?_
  intro b1 b2 h1
  (apply Kv it mx 0 7;(· rfl);(· rfl);(· rfl))
  (apply Ac;(· rfl);(· exact Ct 1 rfl rfl Dl rfl))
  (apply Xn [0,1];(· rfl);(· rfl);(· exact Oe);(· rfl);(· first|omega|(show _*8≤_;omega)|(show _*24≤_;omega));intro pa1 cap1 b3 cs1)
  (apply Ac;(· rfl);(· exact Bz fun _=>An rfl If Al))
  (apply Ac;(· rfl);(· exact Bv 1 rfl rfl Ci rfl))
  (apply Fa;(· rfl);(· exact Bz fun _=>Aw [] rfl (Gy) rfl (by rintro _ _ _ ⟨pa2,ca1,rfl,rfl,rfl⟩;exact (Jd 0 rfl)));intro pa2 ca1)
  (apply Fa;(· rfl);(· exact Bz fun _=>H8 Df Gr rfl rfl rfl rfl (by decide) (by decide) rfl fun b4=>Vf (E:=(Ah (Aj))) [[Value.slice pa2 n' ca1]] [onW n'] (fun w A hG=>(Ay (Ax (hG _ (Ae (n:=0) rfl))) Ba)) rfl rfl rfl (by first|decide|exact Nat.le_of_ble_eq_true rfl));intro pa3 ca2)
  (apply ABK 2 0;(· rfl);(· rfl);(· rfl);(· rfl);(· rfl);(· exact Df);(· exact Gr);(· rfl);(· (first|omega|(simp only [List.length_cons,List.length_nil];omega)));(· exact Jx);(· (first|omega|(simp only [List.length_cons,List.length_nil];omega)));intro pa4 cap2 b4 cs2)
  refine Mj rfl ?_
  (rotate_left;rfl;rotate_right)
  (rotate_left;rfl;rotate_right)
  simp only [List.append_nil,List.append_assoc,List.map_cons,List.map_nil,List.cons_append,List.nil_append,List.drop_zero]
  (refine Vb 0 0 (by first|rfl|exact (List.append_nil _).symm) rfl (by show (D.length+1)*24≤140737488355328;omega) ?_;simp only [List.take_succ_cons,List.take_zero,List.cons_append,List.nil_append,List.append_nil])
  refine wk 2 cz ?_
  (apply E5 it mx 11;(· rfl);(· rfl))
  (apply Ac;(· rfl);(· exact Bz fun _=>An rfl K4 Al))
  (apply Ac;(· rfl);(· exact Fp 1 rfl rfl Gi rfl rfl))
  (apply Ac;(· rfl);(· exact Bz fun _=>An rfl K4 Al))
  (apply Ac;(· rfl);(· exact Fp 1 rfl rfl Gi rfl rfl))
  (apply A1 1;(· rfl);(· simp))
  (apply Ac;(· rfl);(· exact Bz fun _=>An rfl If Al))
  (apply Ac;(· rfl);(· exact Bv 1 rfl rfl Ci rfl))
  (apply Fa;(· rfl);(· exact Bz fun _=>Aw [5,0] rfl (E4) rfl (by rintro _ _ _ ⟨pb1,cb1,rfl,rfl,rfl⟩;exact (Jd 0 rfl)));intro pa5 ca3)
  (apply Ac;(· rfl);(· exact Bz fun _=>An rfl If Al))
  (apply Ac;(· rfl);(· exact Bv 1 rfl rfl Ci rfl))
  (apply Ix (val:=(fun g=>Value.agg #[Value.int IntKind.i64 ↑p,Value.int IntKind.i64 ↑m,Value.slice (g 0).fst (g 2).snd.fst (g 3).snd.fst,Value.int IntKind.i64 ↑n',Value.slice (g 1).fst (g 4).snd.fst (g 5).snd.fst])) (f:=(fun g=>[Ap Aj (g 0).fst (g 2).snd.fst (g 3).snd.fst md,Ap (Ah Aj) (g 1).fst (g 4).snd.fst (g 5).snd.fst G.fst]));(· rfl);(· exact Bz fun _=>Aw [6,0] rfl (D4) rfl (by rintro _ _ _ ⟨pbg0,pcg1,nbg2,cbg3,ncg4,ccg5,rfl,rfl,rfl⟩;exact fun _ _ _ hG=>⟨(fun|0=>(pbg0,0,0,[])|1=>(pcg1,0,0,[])|2=>(none,nbg2,0,[])|3=>(none,cbg3,0,[])|4=>(none,ncg4,0,[])|5=>(none,ccg5,0,[])|_=>default),rfl,fun g hg=>Ez (hG _ (List.mem_append_left _ hg))⟩));intro g1;dsimp only [List.map_cons,List.map_nil])
  refine Et rfl ?_
  simp only [List.map_cons,List.map_nil,List.cons_append,List.nil_append]
  refine wk 3 cz ?_
  refine Bb [0,1] rfl (.agg 0 rfl rfl Dl rfl (.tmp rfl .nil)) rfl ⟨_,_,_,_,_,_,rfl,rfl,rfl⟩
 ·rw [exX,if_neg h0]
  generalize Nz P M md N rows=e at *
  refine Dk (Ap Aj none 0 0 []) (fun w A _=>Cl _ w A none 0) ?_
  refine Dk (Ap (Ah Aj) none 0 0 []) (fun w A _=>Cl _ w A none 0) ?_
  refine wk 18 (ct @A7 cz) ?_
  intro b1 b2 h1
  refine Bb [1,0] rfl (.agg 0 rfl rfl Dl rfl (.tmp rfl .nil)) rfl ⟨_,_,_,_,_,_,rfl,rfl,rfl⟩
end
open Go Go.Fw
set_option maxRecDepth 100000
set_option linter.unusedVariables false
set_option linter.unusedSimpArgs false
set_option maxHeartbeats 0
section
variable {P M:Int}{p m n c nm cm ns cs':Nat}{pm ps pt:Option Addr}{md set:List Int}{rows:List (List Int)}
theorem Nb {N:Int}(hN:Bx .i64 N):Bn Tryz.prog 31 [.agg #[.int .i64 P,.int .i64 M,.slice pm nm cm,.int .i64 N,.slice ps n c]] [] [Ap Aj pm nm cm md,Ap (Ah Aj) ps n c rows] (CdX (auX P M md N rows)):=by
 refine Ab (F:=M8) rfl fun C=>?_
 have hr:=Ll P M md N rows
 have A7:=fun {pm ps:Option Addr}{nm cm n c:Nat}=>Gb (P:=P) (M:=M) (pm:=pm) (ps:=ps) (nm:=nm) (cm:=cm) (n:=n) (c:=c) (md:=md) (rows:=rows) (N:=N) hN rfl
 by_cases h0:Nz P M md N rows=0
 ·obtain ⟨p,m,n',rfl,rfl,rfl,CC⟩:=Wk h0
  rw [h0] at A7
  have K:=CC.K
  have h64:=CC.n64
  have hl:=CC.len
  have hM2:=Jm CC.mat (Xl K n')
  have hAl:(rows++[onW n']).length=rows.length+1:=by rw [List.length_append];rfl
  rw [AEv CC]
  have E3:=fun {ps:Option Addr}{n c:Nat}=>Jo (ps:=ps) (n:=n) (c:=c) (rows:=rows) fun r hr=>by rw [(CC.mat r hr).1];omega
  have Gy:=(Jn (N:=n') (by omega)).pubR (by show n'*8≤140737488355328;omega)
  have D4:=fun {pm ps:Option Addr}{nm cm n c:Nat}=>Gw (pm:=pm) (ps:=ps) (nm:=nm) (cm:=cm) (n:=n) (c:=c) (N:=n') (rows:=rows++[onW n']) K (by omega) (by omega) hM2
  generalize hG:C4 p m md n' (rows++[onW n'])=G at *
  have hGa:auP p m md n' rows=G.1:=by rw [← hG]
  rw [hGa]
  clear hG hGa
  refine wk 13 (ct @A7 cz) ?_
  intro b1 b2 h1
  (apply Kv it mx 0 12;(· rfl);(· rfl);(· rfl))
  simp only [List.drop_zero,List.take_zero]
  (apply Ac;(· rfl);(· exact Bz fun _=>An rfl K4 Al))
  (apply Ac;(· rfl);(· exact Fp 1 rfl rfl Gi rfl rfl))
  (apply Ac;(· rfl);(· exact Bz fun _=>An rfl Mn Al))
  (apply Ac;(· rfl);(· exact Bv 1 rfl rfl Hp rfl))
  (apply Xn [1];(· rfl);(· rfl);(· exact E3);(· rfl);(· first|omega|(show _*8≤_;omega)|(show _*24≤_;omega));intro pa1 cap1 b3 cs1)
  (apply Ac;(· rfl);(· exact Bz fun _=>An rfl If Al))
  (apply Ac;(· rfl);(· exact Bv 1 rfl rfl Ci rfl))
  (apply Fa;(· rfl);(· exact Bz fun _=>Aw [] rfl (Gy) rfl (by rintro _ _ _ ⟨pa2,ca1,rfl,rfl,rfl⟩;exact (Jd 0 rfl)));intro pa2 ca1)
  (apply Fa;(· rfl);(· exact Bz fun _=>H8 Df Gr rfl rfl rfl rfl (by decide) (by decide) rfl fun b4=>Vf (E:=(Ah (Aj))) [[Value.slice pa2 n' ca1]] [onW n'] (fun w A hG=>(Ay (Ax (hG _ (Ae (n:=0) rfl))) Ba)) rfl rfl rfl (by first|decide|exact Nat.le_of_ble_eq_true rfl));intro pa3 ca2)
  (apply ABK 2 0;(· rfl);(· rfl);(· rfl);(· rfl);(· rfl);(· exact Df);(· exact Gr);(· rfl);(· (first|omega|(simp only [List.length_cons,List.length_nil];omega)));(· exact Jx);(· (first|omega|(simp only [List.length_cons,List.length_nil];omega)));intro pa4 cap2 b4 cs2)
  (apply Ac;(· rfl);(· exact Bz fun _=>An rfl If Al))
  (apply Ac;(· rfl);(· exact Bv 1 rfl rfl Ci rfl))
  refine Mj rfl ?_
  (rotate_left;rfl;rotate_right)
  (rotate_left;rfl;rotate_right)
  simp only [List.append_nil,List.append_assoc,List.map_cons,List.map_nil,List.cons_append,List.nil_append,List.drop_zero]
  (refine Vb 0 0 (by first|rfl|exact (List.append_nil _).symm) rfl (by show (rows.length+1)*24≤140737488355328;omega) ?_;simp only [List.take_succ_cons,List.take_zero,List.cons_append,List.nil_append,List.append_nil])
  refine wk 4 (ct @D4 cz) ?_
  intro pb1 pc1 nb1 cb1 nc1 cc1 --ok
  refine Bb [0,1] rfl (.agg 0 rfl rfl Dl rfl (.tmp rfl .nil)) rfl ⟨_,_,_,_,_,_,rfl,rfl,rfl⟩
 ·rw [auX,if_neg h0]
  generalize Nz P M md N rows=e at *
  refine Dk (Ap Aj none 0 0 []) (fun w A _=>Cl _ w A none 0) ?_
  refine Dk (Ap (Ah Aj) none 0 0 []) (fun w A _=>Cl _ w A none 0) ?_
  refine wk 18 (ct @A7 cz) ?_
  intro b1 b2 h1
  refine Bb [1,0] rfl (.agg 0 rfl rfl Dl rfl (.tmp rfl .nil)) rfl ⟨_,_,_,_,_,_,rfl,rfl,rfl⟩
end
set_option maxRecDepth 100000
set_option linter.unusedVariables false
set_option linter.unusedSimpArgs false
def Tw (n:Nat):Nat:=if _h:n=0 then 0 else Tw (n / 2)+1
termination_by n
decreasing_by omega
theorem Tg:Tw 0=0:=by rw [Tw];rfl
theorem ADq {n:Nat}(h:n≠0):Tw n=Tw (n / 2)+1:=by rw [Tw,dif_neg h]
def AF5:Nat→Nat→Nat
 | 0,_=>0
 | f+1,n=>if n=0 then 0 else AF5 f (n / 2)+1
theorem AHc (f:Nat):∀ n,n<2 ^ f→AF5 f n=Tw n:=by
 induction f with
 | zero => intro n h; have : n = 0 := by simpa using h
           subst this; rw [Tg]; rfl
 | succ f ih =>
  intro n h
  rw [AF5]
  by_cases h0:n=0
  ·subst h0;rw [if_pos rfl,Tg]
  ·rw [if_neg h0,ADq h0,ih _ (by rw [Nat.pow_succ] at h;omega)]
theorem AC4 {n k:Nat}(h:n<2 ^ k):Tw n≤k:=by
 induction k generalizing n with
 | zero => have : n = 0 := by simpa using h
           subst this; rw [Tg]; omega
 | succ k ih =>
  by_cases h0:n=0
  ·subst h0;rw [Tg];omega
  ·rw [ADq h0];have:=ih (n:=n / 2) (by rw [Nat.pow_succ] at h;omega);omega
def AKg (s:ByteArray):Bool:=(List.range 256).all fun n=>match s[n]? with
 | some b=>b.toNat == AF5 8 n
 | none=>false
theorem AI7 {s:ByteArray}(h:AKg s=true) {n:Nat}(hn:n<256):s[n]?=some (UInt8.ofNat (Tw n)):=by
 unfold AKg at h
 have:=List.all_eq_true.1 h n (List.mem_range.2 hn)
 cases hs:s[n]? with
 | none=>rw [hs] at this;simp at this
 | some b =>
  rw [hs] at this
  simp only [beq_iff_eq] at this
  rw [AHc 8 n (by simpa using hn)] at this
  rw [← this];simp
open Go Go.Fw
set_option maxHeartbeats 0
section
variable {p m N b ng cg ce cl n c k cp nx cx:Nat}{pg pe pl ps pp px:Option Addr}{md x:List Int}{rows:List (List Int)}
end
open Go Go.Fw
set_option maxRecDepth 100000
set_option linter.unusedVariables false
set_option linter.unusedSimpArgs false
set_option maxHeartbeats 0
section
variable {p m N n c nm cm nx cx:Nat}{pm ps px:Option Addr}{md x:List Int}{rows:List (List Int)}
end
open Go Go.Fw
set_option maxRecDepth 100000
set_option linter.unusedVariables false
set_option linter.unusedSimpArgs false
set_option maxHeartbeats 0
section
variable {p m N:Nat}{md lost away:List Int}{rows:List (List Int)}
end
open Go Go.Fw
set_option maxRecDepth 100000
set_option linter.unusedVariables false
set_option linter.unusedSimpArgs false
set_option maxHeartbeats 0
section
variable {p m N:Nat}{md lost away:List Int}{rows:List (List Int)}
end
open Go Go.Fw
set_option maxRecDepth 100000
set_option linter.unusedVariables false
set_option linter.unusedSimpArgs false
set_option maxHeartbeats 0
section
variable {p m N nm cm n c nl cl na ca nt ct:Nat}{md lost away:List Int}{rows t:List (List Int)}{pm ps pl pa pt:Option Addr}{w:Int}
end
open Go Go.Fw
set_option maxRecDepth 100000
set_option linter.unusedVariables false
set_option linter.unusedSimpArgs false
set_option maxHeartbeats 0
section
variable {P M N w e:Int}{nm cm n c nl cl na ca nt ct:Nat}{md lost away:List Int}{rows t:List (List Int)}{pm ps pl pa pt:Option Addr}
end
open Go Go.Fw
set_option maxRecDepth 100000
set_option linter.unusedVariables false
set_option linter.unusedSimpArgs false
set_option maxHeartbeats 0
section
variable {P M N w:Int}{n c nm cm nl cl na ca nh ch nt ct:Nat}{pm ps pl pa ph pt:Option Addr}{md lost away hs:List Int}{rows t:List (List Int)}
end
open Go Go.Fw
set_option maxRecDepth 100000
set_option linter.unusedVariables false
set_option linter.unusedSimpArgs false
set_option maxHeartbeats 0
section
variable {ps:Option Addr}{n c:Nat}{s:List Int}{y:Int}
end
section
variable {pw pl pa pz:Option Addr}{nw cw nl cl na ca nz cz':Nat}{w lost away z:List Int}
end
open Go Go.Fw
set_option maxRecDepth 100000
set_option linter.unusedVariables false
set_option linter.unusedSimpArgs false
set_option maxHeartbeats 0
section
variable {n:Int}{wt:List Int→Option (List Int)}{br:List Int→List Int→List Int}
end
open Go Go.Fw
set_option maxRecDepth 100000
set_option linter.unusedVariables false
set_option linter.unusedSimpArgs false
set_option maxHeartbeats 0
theorem X8 {x:Int}:Bn Tryz.prog 214 [.int .i64 x] [] [] (Rv (.bool false) []):=by
 refine Ab (F:=Xs) rfl fun C=>?_
 have hd:(!decide (x=x))=false:=by simp
 refine wk 5 cz ?_
 rw [hd]
 exact ge
theorem Rd {x y:Int}:Bn Tryz.prog 189 [.int .i64 x,.int .i64 y] [] [] (Rv (.bool (decide (x<y))) []):=by
 refine Ab (F:=Zn) rfl fun C=>?_
 refine wk 7 (ct @X8 cz) ?_
 exact ge
theorem AB8 {x:Nat}(hx:x<256):Bn Tryz.prog 193 [.int .u64 x] [] [] (Rv (.int .i64 (Tw x)) []):=by
 refine Ab (F:=ACS) rfl fun C=>?_
 refine Aq [_,_] rfl ?_
 refine Ai it 1 rfl (by simp) ?_
 refine Aq [_,_,_] rfl ?_
 refine Ai it 2 rfl (by simp) ?_
 refine Aq [_,_] rfl ?_
 refine L7 rfl rfl (fun h1=>by exfalso;omega) (fun h1=>?_)
 refine Aq [_,_,_] rfl ?_
 refine Ai it 2 rfl (by simp) ?_
 refine Aq [_,_] rfl ?_
 refine L7 rfl rfl (fun h2=>by exfalso;omega) (fun h2=>?_)
 refine Aq [_,_,_] rfl ?_
 refine Ai it 2 rfl (by simp) ?_
 refine Aq [_,_] rfl ?_
 refine L7 rfl rfl (fun h3=>by exfalso;omega) (fun h3=>?_)
 refine Aq [_,_] rfl ?_
 refine Ai it 3 rfl ⟨⟨by omega,by omega⟩,trivial,trivial,trivial⟩ ?_ --ok
 refine Aa rfl (ALs x rfl rfl rfl rfl (AI7 (by decide +kernel) hx) ?_)
 have h8:=AC4 (n:=x) (k:=8) (by simpa using hx)
 have e:(UInt8.ofNat (Tw x)).toNat=Tw x:=by
  simp only [UInt8.toNat_ofNat'];omega
 rw [e]
 refine wk 2 cz ?_
 rw [show (0:Int)+((Tw x:Nat):Int)=((Tw x:Nat):Int) by omega]
 exact ge
theorem AAH {x:Nat}(hx:x<256):Bn Tryz.prog 154 [.int .u64 x] [] [] (Rv (.int .i64 (Tw x)) []):=by
 refine Ab (F:=AFa) rfl fun C=>?_
 refine wk 9 (ct @AB8 cz) ?_
 exact ge
section
variable {b cap n:Nat}{cs:List Value}{l K:List Int}
end
open Go Go.Fw
set_option maxRecDepth 100000
set_option linter.unusedVariables false
set_option linter.unusedSimpArgs false
set_option maxHeartbeats 0
abbrev AJA (b cap n:Nat) (P:List Int→Prop):Value→List Fact→List A3→Prop:=fun v Φ β=>∃ cs' L,P L∧v = .tuple #[]∧Φ=[A5 Aj ⟨some b,cap,cs'⟩ n L]∧β=[(some b,3,cs')]
section
variable {b cap n a e:Nat}{cs:List Value}{l:List Int}
theorem Pq (hn:n≤1000000) (hr:∀ x∈l,Bx .i64 x) (hl:l.length=n) (hae:a≤e) (he:e≤n) :
  Bn Tryz.prog 183 [.slice (some ⟨b,0,none⟩) n cap,.int .i64 a,.int .i64 e] [(some b,3,cs)] [A5 Aj ⟨some b,cap,cs⟩ n l] (AJA b cap n fun L=>Seg a e l L∧Lb L a e):=by
 refine Ab (F:=Fb) rfl fun C=>?_
 refine wk 3 cz ?_
 refine Af (X:=Nat×List Value×List Int) [0,1,2] [0] (fun x=>[(6,.int .i64 (x.1:Int))]) (fun x=>[(some b,3,x.2.1)]) (fun x=>[A5 Aj ⟨some b,cap,x.2.1⟩ n x.2.2]) (fun x=>a+1≤x.1∧(x.1≤e∨x.1=a+1)∧Seg a e l x.2.2∧Lb x.2.2 a x.1) (fun x=>e-x.1) (a+1,cs,l) [0] rfl rfl rfl ⟨Nat.le_refl _,.inr rfl,.refl,.short (Nat.le_refl _)⟩ (by repeat (first|exact Fr.sub_nil _|refine Fr.sub_cons rfl ?_)) rfl rfl ?_
 rintro ⟨i,cs,L⟩ ⟨hi1,hi,hS,ho⟩ ih
 simp only [List.cons_append,List.nil_append] at hi1 hi hS ho ih ⊢
 by_cases hin:i<e
 ·refine wk 7 cz ?_
  intro h1
  refine Af (X:=Nat×List Value×List Int) [0,1,2,6,10,11,12,15] [0,1] (fun x=>[(7,.int .i64 (x.1:Int))]) (fun x=>[(some b,3,x.2.1)]) (fun x=>[A5 Aj ⟨some b,cap,x.2.1⟩ n x.2.2]) (fun x=>x.1≤i∧a≤x.1∧Seg a e l x.2.2∧AH7 x.2.2 a i x.1) (fun x=>x.1) (i,cs,L) [0] rfl rfl rfl ⟨Nat.le_refl _,by omega,hS,AGP ho⟩ (by repeat (first|exact Fr.sub_nil _|refine Fr.sub_cons rfl ?_)) rfl rfl ?_
  rintro ⟨j,cs,L⟩ ⟨hji,haj,hS,ho⟩ ihj
  simp only [List.cons_append,List.nil_append] at hji haj hS ho ihj ⊢
  have hLl:L.length=n:=hS.len.trans hl
  by_cases hj0:a<j
  ·have at_u:=gt0 (L:=L) (i:=j) (by omega)
   have at_v:=gt0 (L:=L) (i:=j-1) (by omega)
   have hu:=AHv (hS.inR hr) (i:=j) (by omega)
   have hv:=AHv (hS.inR hr) (i:=j-1) (by omega)
   simp only [Bx] at hu hv
   by_cases hx:Bh L j<Bh L (j-1)
   ·have ihj':=fun cs=>ihj (j-1,cs,sw L j (j-1)) (by dsimp only;omega) ⟨by dsimp only;omega,by dsimp only;omega,hS.trans (AAj (by omega) (by omega) (by omega) (by omega) (by omega)),AH0 ho hj0 (by omega) hji hx⟩
    dsimp only at ihj'
    rw [sw] at ihj'
    generalize Bh L j=u at *
    generalize Bh L (j-1)=v at *
    refine wk 5 (ct @Rd cz) ?_
    intro h2
    (apply Gn (x0:=none) it mx 0 15 [2,3,4] 1;(· rfl);(· rfl);(· rfl);(· decide))
    simp only [List.drop_zero]
    (apply A1 5;(· rfl);(· exact ⟨⟨by omega,by omega⟩,trivial,trivial,trivial,trivial,trivial⟩))
    (apply A1 2;(· rfl);(· simp))
    (apply Ac (v:=Value.int IntKind.i64 ((((j)-1:Nat)):Int));(· rfl);(· exact Bz fun _=>ADv it _ rfl ⟨by omega,by omega⟩ (by omega) Al))
    simp only [Nat.add_sub_cancel]
    (apply Ac;(· rfl);(· exact Bz fun _=>Bf (j-1) (j-1) rfl rfl Ce rfl (by omega) (Nat.mul_one _) Al))
    (apply Ac;(· rfl);(· exact H2 0 0 (j-1) rfl rfl rfl Ci rfl (by assumption)))
    (apply A1 2;(· rfl);(· simp))
    (apply Ac;(· rfl);(· exact Bz fun _=>Bf (j) (j) rfl rfl Ce rfl (by omega) (Nat.mul_one _) Al))
    (apply Ac;(· rfl);(· exact H2 0 0 (j) rfl rfl rfl Ci rfl (by assumption)))
    (apply Ac;(· rfl);(· exact Bz fun _=>Bf (j) (j) rfl rfl Ce rfl (by omega) (Nat.mul_one _) Al)) --ok
    refine F1 rfl ?_
    rotate_left
    rfl
    simp only [List.map_nil,List.nil_append]
    refine G7 it rfl rfl ⟨⟨_,_,_,_,rfl,rfl,rfl,rfl,rfl,rfl,(by first|trivial|(repeat' first|exact trivial|apply And.intro|omega))⟩,⟨⟨_,_,_,_,rfl,rfl,rfl,rfl,rfl,rfl,(by first|trivial|(repeat' first|exact trivial|apply And.intro|omega))⟩,⟨⟨_,_,_,_,rfl,rfl,rfl,rfl,rfl,rfl,(by first|trivial|(repeat' first|exact trivial|apply And.intro|omega))⟩,trivial⟩⟩⟩ (Hg (vs:=[Value.int IntKind.i64 v]) (z:=(v:Int)) 0 0 (j) rfl rfl rfl rfl rfl Ci (Nat.mul_one _).symm (by omega) (fun w A hG=>(Dz (by first|(simp only [Bx];omega)|(simp [Bx];done)))) fun cs1=>?_)
    refine Is it ⟨⟨_,_,_,_,rfl,rfl,rfl,rfl,rfl,rfl,(by first|trivial|(repeat' first|exact trivial|apply And.intro|omega))⟩,⟨⟨_,_,_,_,rfl,rfl,rfl,rfl,rfl,rfl,(by first|trivial|(repeat' first|exact trivial|apply And.intro|omega))⟩,⟨⟨_,_,_,_,rfl,rfl,rfl,rfl,rfl,rfl,(by first|trivial|(repeat' first|exact trivial|apply And.intro|omega))⟩,trivial⟩⟩⟩ ?_
    refine wk 1 cz ?_
    refine Aa rfl (Hg (vs:=[Value.int IntKind.i64 u]) (z:=(u:Int)) 0 0 (j-1) rfl rfl rfl rfl rfl Ci (Nat.mul_one _).symm (by omega) (fun w A hG=>(Dz (by first|(simp only [Bx];omega)|(simp [Bx];done)))) fun cs2=>?_)
    refine wk 3 cz ?_
    exact tw (ihj' cs2)
   ·have stop':=AD1 ho haj (.inr hx)
    generalize Bh L j=u at *
    generalize Bh L (j-1)=v at *
    refine wk 7 (ct @Rd cz) ?_
    intro h2
    exact tw (ih (i+1,cs,L) (by dsimp only;omega) ⟨by dsimp only;omega,.inl (by dsimp only;omega),hS,stop'⟩)
  ·refine wk 7 cz ?_
   exact tw (ih (i+1,cs,L) (by dsimp only;omega) ⟨by dsimp only;omega,.inl (by dsimp only;omega),hS,AD1 ho haj (.inl (by omega))⟩)
 ·clear ih
  refine wk 5 cz ?_
  intro h1
  refine Cv [0] rfl rfl ⟨cs,L,⟨hS,fun u v h1 h2 h3=>ho u v h1 h2 (by omega)⟩,rfl,rfl,rfl⟩
end
open Go Go.Fw
set_option maxRecDepth 100000
set_option linter.unusedVariables false
set_option linter.unusedSimpArgs false
set_option maxHeartbeats 0
abbrev AJn {X:Type}(st:X→List A3) (gf:X→Fact) (I:Nat→X→Prop) (i:Nat) (Qs:List Nat→List Fact→List A3→Prop):Value→List Fact→List A3→Prop:=fun v Φ β =>
 (v=jv none∧∃ x,I (i+1) x∧Φ=[gf x]∧β=st x)∨∃ q,v=jv (some q)∧Qs q Φ β
theorem AHm {X:Type}{st:X→List A3}{gf:X→Fact}{I:Nat→X→Prop}{i:Nat}{Qs:List Nat→List Fact→List A3→Prop}{Φ:List Fact}{β:List A3}(h:AJn st gf I i Qs (jv none) Φ β):∃ x,I (i+1) x∧Φ=[gf x]∧β=st x:=by
 rcases h with ⟨_,h⟩|⟨q,e,_⟩
 ·exact h
 ·exact absurd (AEs e) (by simp)
theorem ADT {X:Type}{st:X→List A3}{gf:X→Fact}{I:Nat→X→Prop}{i:Nat}{Qs:List Nat→List Fact→List A3→Prop}{q:List Nat}{Φ:List Fact}{β:List A3}(h:AJn st gf I i Qs (jv (some q)) Φ β):Qs q Φ β:=by
 rcases h with ⟨e,_⟩|⟨q',e,h⟩
 ·exact absurd (AEs e) (by simp)
 ·obtain rfl:=Option.some.inj (AEs e)
  exact h
section
variable {ps:Option Addr}{n cs:Nat}{data:List Int}
theorem L9:Bn Tryz.prog 69 [.slice ps n cs] [] []
  (fun v Φ β=>∃ b2,v = .func (.func 117) #[] #[.pointer (some ⟨b2,0,none⟩)]∧Φ=[Jt b2 [.slice ps n cs]]∧β=[]):=by
 refine Ab (F:=Mk) rfl fun C=>?_
 refine wk 7 cz ?_
 intro b1 --ok
 refine Uz 0 rfl ?_
 simp only [List.eraseIdx_cons_zero]
 exact V4 [0] rfl rfl rfl ⟨_,rfl,rfl,rfl⟩
theorem AE5 {b2 l:Nat}{r:Loop}{B:Code}{X:Type}{st:X→List A3}{gf:X→Fact}{I:Nat→X→Prop}{Qs:List Nat→List Fact→List A3→Prop}(x0:X) (h0:I 0 x0) (hr:Rdy r)
  (hY:∀ i x v,I i x→data[i]?=some v→Bx .i64 v→AGR Tryz.prog l r B [.int .i64 v] (st x) [gf x] (AJn st gf I i Qs)) :
  AJ5 Tryz.prog 117 [.func (.yield l) #[] #[],.pointer (some ⟨b2,0,none⟩)] l r B (st x0) [Jt b2 [.slice ps n cs],Ap Aj ps n cs data,gf x0]
   (fun Φ β=>∃ x,I data.length x∧Φ=[gf x]∧β=st x) Qs:=by
 refine ABX (F:=K7) rfl fun C hoff=>?_
 refine A9 1 rfl fun hn hb _=>?_
 subst hn
 have hb':data.length*8≤140737488355328:=hb
 refine wk 5 cz ?_ --ok
 refine Af (X:=Nat×X) [0,5,6] [0,1,2] (fun z=>[(7,.int .i64 (z.1:Int))]) (fun z=>st z.2) (fun z=>[gf z.2]) (fun z=>I z.1 z.2∧z.1≤data.length) (fun z=>data.length-z.1) (0,x0) [2] rfl rfl rfl ⟨h0,Nat.zero_le _⟩ (by repeat (first|exact Fr.sub_nil _|refine Fr.sub_cons rfl ?_)) rfl rfl ?_
 rintro ⟨i,x⟩ ⟨hi,hi2⟩ ih
 simp only [List.cons_append,List.nil_append] at hi hi2 ih ⊢
 by_cases hl:i<data.length
 ·obtain ⟨v,at_v⟩:∃ v,data[i]?=some v:=⟨_,List.getElem?_eq_getElem hl⟩
  refine Aq [_,_,_,_] rfl ?_
  refine Ai it 1 rfl (by simp) ?_
  refine Aq [_,_,_,_] rfl ?_
  refine L7 rfl rfl (fun h1=>?_) (fun h1=>by exfalso;omega)
  refine Aq [_,_,_,_,_,_] rfl ?_
  refine Aa rfl (Ia 2 (i) rfl rfl rfl Ce rfl (by omega) fun z1 hz1 b1 o1=>?_)
  obtain rfl:_=z1:=Option.some.inj (at_v.symm.trans hz1)
  refine Aa rfl (Av 0 rfl rfl Ci fun ⟨r1,r2⟩=>?_)
  refine Ai it 1 rfl (by simp) ?_
  refine Aq [_,_,_,_,_,_] rfl ?_
  refine Ai it 2 rfl (by simp) ?_ --ok
  refine AFB (n:=(st x).length) [1] hoff hr rfl rfl rfl (by rw [List.take_length];exact hY i x v hi at_v (by simp only [Bx];omega)) rfl ?_ ?_
  ·intro Φ β' hq
   obtain ⟨x',hx',rfl,rfl⟩:=AHm hq
   rw [List.drop_length,List.append_nil]
   have ih':=ih (i+1,x') (by dsimp only;omega) ⟨hx',by dsimp only;omega⟩
   dsimp only at ih'
   clear ih
   refine wk 6 cz ?_
   exact tw (ih')
  ·intro q Φ β' C' hq
   have hq:=ADT hq
   rw [List.drop_length,List.append_nil]
   refine Ai it 1 rfl (by simp) ?_
   refine Aq [_,_,_,_,_] rfl ?_
   refine R2 rfl rfl ?_ --ok
   exact AEg rfl rfl hq fun g hg=>List.mem_append_left _ hg
 ·obtain rfl:i=data.length:=by omega
  clear ih
  refine wk 5 cz ?_
  intro h1 --ok
  refine AKu hoff hr ?_
  exact Cv [0] rfl rfl ⟨x,hi,rfl,rfl⟩
theorem Ux {b2:Nat}(hl:data.length≤1000000):Bn Tryz.prog 152 [.slice none 0 0,.func (.func 117) #[] #[.pointer (some ⟨b2,0,none⟩)]] [] [Jt b2 [.slice ps n cs],Ap Aj ps n cs data] (RwI data.length data):=by
 refine Ab (F:=Kk) rfl fun C=>?_
 refine Aq [_,_] rfl ?_
 refine Aa rfl (O9 rfl rfl fun b1=>?_)
 refine Ai it 1 rfl (by simp) ?_
 refine Aq [_,_,_] rfl ?_
 refine Ai it 1 rfl (by simp) ?_
 refine Aq [_,_,_] rfl ?_ --ok
 refine Fh Aj 3 ?_
 refine AAL (n:=2) (Γ1:=[Jt b2 [.slice ps n cs],Ap Aj ps n cs data,A5 Aj ⟨none,0,[]⟩ 0 []]) (Qs:=fun _ _ _=>False) [1,2,0] rfl rfl rfl rfl
  (fun l r hr hY=>AE5 (X:=Nat×Row) (data:=data) (st:=fun x=>[(x.2.bo,3,x.2.cs),(some b1,22,[.slice (ad x.2.bo) x.1 x.2.cap])]) (gf:=fun x=>A5 Aj x.2 x.1 (data.take x.1)) (I:=fun i x=>x.1=i) (0,⟨none,0,[]⟩) rfl hr fun i x v hi at_v hv=>hY _ _ _ _ rfl fun C hoff=>?_) ?_ (fun _ _ _ _ _ h=>h.elim)
 ·obtain ⟨i',r1⟩:=x
  obtain rfl:i'=i:=hi
  have hil:i'<data.length:=(List.getElem?_eq_some_iff.1 at_v).1
  simp only [Bx] at hv
  obtain ⟨v0,v1⟩:=hv
  refine Un (σ':=[(7,.int .i64 v),(2,.pointer (some ⟨b1,0,none⟩))]) (T8 rfl) ?_
  refine Aq [_,_,_] rfl ?_
  refine Ai it 1 rfl (by simp) ?_
  refine Aq [_,_] rfl ?_ --ok
  refine AK0 hoff hr.1 fun C'=>?_
  simp only [List.cons_append,List.nil_append]
  refine wk 4 cz ?_
  intro b3
  refine Aa rfl (Fi (z:=(v:Int)) 1 0 0 rfl rfl rfl rfl rfl Ce Ee rfl (fun w A hG=>(Dz (by first|(simp only [Bx];omega)|(simp [Bx];done)))) (by omega) _ G5 (by omega) fun r2=>?_)
  refine wk 2 cz ?_ --ok
  refine Ql [0,2] rfl rfl ?_
  refine ACb [0] rfl (.inl ⟨rfl,(i'+1,r2),rfl,?_,rfl⟩)
  dsimp only
  rw [List.take_add_one,at_v];rfl
 ·rintro Φ β' D C' ⟨⟨i',r1⟩,hi,rfl,rfl⟩
  obtain rfl:i'=data.length:=hi
  simp only [List.cons_append,List.nil_append]
  rw [List.take_length]
  refine wk 4 cz ?_ --ok
  simp only [List.drop_succ_cons,List.drop_zero,List.drop_nil]
  refine Dp 2 [0] [0] rfl (.tmp rfl .nil) rfl rfl rfl ⟨r1,rfl,rfl,rfl⟩
theorem Rl {b2:Nat}(hl:data.length≤1000000):Bn Tryz.prog 115 [.func (.func 117) #[] #[.pointer (some ⟨b2,0,none⟩)]] [] [Jt b2 [.slice ps n cs],Ap Aj ps n cs data] (RwI data.length data):=by
 refine Ab (F:=Rk) rfl fun C=>?_
 have Kq:=fun {b2:Nat}=>Ux (ps:=ps) (n:=n) (cs:=cs) (data:=data) (b2:=b2) hl
 refine wk 7 (ct @Kq cz) ?_
 intro r1
 refine Dp 1 [0] [0] rfl (.tmp rfl .nil) rfl rfl rfl ⟨r1,rfl,rfl,rfl⟩
end
open Go Go.Fw
set_option maxRecDepth 100000
set_option linter.unusedVariables false
set_option linter.unusedSimpArgs false
set_option maxHeartbeats 0
theorem ABy:Bn Tryz.prog 183 [.slice none 0 0,.int .i64 0,.int .i64 0] [] [] (Rv (.tuple #[]) []):=by
 refine Ab (F:=Fb) rfl fun C=>?_
 refine wk 3 cz ?_
 refine Af (X:=Unit) [0,1,2] [] (fun _=>[(6,.int .i64 1)]) (fun _=>[]) (fun _=>[]) (fun _=>True) (fun _=>0) () [] rfl rfl rfl trivial (by repeat (first|exact Fr.sub_nil _|refine Fr.sub_cons rfl ?_)) rfl rfl ?_
 rintro ⟨⟩-ih
 simp only [List.cons_append,List.nil_append] at ih ⊢
 clear ih
 refine wk 5 cz ?_
 intro h1 --ok
 exact Cv [] rfl rfl ⟨rfl,rfl,rfl⟩
theorem AGs {k:Nat}(hk:k≤1000):Bn Tryz.prog 153 [.slice none 0 0,.int .i64 0,.int .i64 0,.int .i64 k] [] [] (Rv (.tuple #[]) []):=by
 refine Ab (F:=G3) rfl fun C=>?_
 have Dt:=ABy
 refine wk 5 cz ?_
 refine Af (X:=Unit) [0] [] (fun _=>[(1,.int .i64 0),(2,.int .i64 0)]) (fun _=>[]) (fun _=>[]) (fun _=>True) (fun _=>0) () [] rfl rfl rfl trivial (by repeat (first|exact Fr.sub_nil _|refine Fr.sub_cons rfl ?_)) rfl rfl ?_
 rintro ⟨⟩-ih
 simp only [List.cons_append,List.nil_append] at ih ⊢
 clear ih
 refine wk 10 (ct @Dt cz) ?_
 intro h1 --ok
 exact V4 [] rfl rfl rfl ⟨rfl,rfl,rfl⟩
theorem AEt:Bn Tryz.prog 116 [.slice none 0 0] [] [] (Rv (.tuple #[]) []):=by
 refine Ab (F:=Ik) rfl fun C=>?_
 have h8:=AC4 (n:=0) (k:=8) (by simp)
 have Ev:=AGs (k:=Tw 0) (by omega)
 refine wk 9 (ct @AAH (ct @Ev cz)) ?_ --ok
 exact Cv [] rfl rfl ⟨rfl,rfl,rfl⟩
section
variable {b cap n:Nat}{cs:List Value}{l:List Int}{k:Int}
theorem ADw (hn:n≤12) (hr:∀ x∈l,Bx .i64 x) (hl:l.length=n) :
  Bn Tryz.prog 153 [.slice (some ⟨b,0,none⟩) n cap,.int .i64 0,.int .i64 n,.int .i64 k] [(some b,3,cs)] [A5 Aj ⟨some b,cap,cs⟩ n l] (AJA b cap n fun L=>Seg 0 n l L∧Lb L 0 n):=by
 refine Ab (F:=G3) rfl fun C=>?_
 have Dt:=fun {cs:List Value}=>Pq (b:=b) (cap:=cap) (n:=n) (cs:=cs) (l:=l) (a:=0) (e:=n) (by omega) hr hl (Nat.zero_le _) (Nat.le_refl _)
 refine wk 5 cz ?_
 refine Af (X:=Nat) [0] [0] (fun _=>[(1,.int .i64 0),(2,.int .i64 n)]) (fun _=>_) (fun _=>[]) (fun _=>True) (fun i=>i) 0 [] rfl rfl rfl trivial (by repeat (first|exact Fr.sub_nil _|refine Fr.sub_cons rfl ?_)) rfl rfl ?_
 rintro i hi ih
 simp only [List.cons_append,List.nil_append] at hi ih ⊢
 refine wk 8 cz ?_
 intro h1
 refine Aa rfl (Z0 0 [0] rfl rfl (Dt) rfl ?_)
 rintro _ _ _ ⟨cs'1,L1,h2,h3,rfl,rfl,rfl⟩
 simp only [List.cons_append,List.nil_append]
 refine wk 1 cz ?_
 refine V4 [0] rfl rfl rfl ⟨_,_,‹Seg 0 n l _∧Lb _ 0 n›,rfl,rfl,rfl⟩
theorem ACp (hn:n≤12) (hr:∀ x∈l,Bx .i64 x) (hl:l.length=n) :
  Bn Tryz.prog 116 [.slice (some ⟨b,0,none⟩) n cap] [(some b,3,cs)] [A5 Aj ⟨some b,cap,cs⟩ n l] (AJA b cap n fun L=>Seg 0 n l L∧Lb L 0 n):=by
 refine Ab (F:=Ik) rfl fun C=>?_
 have h8:=AC4 (n:=n) (k:=8) (by simpa using (show n<256 by omega))
 have Ev:=fun {k:Int}=>ADw (b:=b) (cap:=cap) (n:=n) (cs:=cs) (l:=l) (k:=k) hn hr hl
 refine wk 7 (ct @AAH cz) ?_
 refine Aa rfl (Z0 0 [0] rfl rfl (Ev) rfl ?_)
 rintro _ _ _ ⟨cs'1,L1,h1,h2,rfl,rfl,rfl⟩
 simp only [List.cons_append,List.nil_append]
 refine wk 1 cz ?_ --ok
 refine Cv [0] rfl rfl ⟨_,_,‹Seg 0 n l _∧Lb _ 0 n›,rfl,rfl,rfl⟩
end
section
variable {ps:Option Addr}{n cs:Nat}{data:List Int}
theorem AGZ {b2:Nat}(hl:data.length≤255) (hS:∀ {b cap:Nat}{cs:List Value},Bn Tryz.prog 116 [.slice (some ⟨b,0,none⟩) data.length cap] [(some b,3,cs)] [A5 Aj ⟨some b,cap,cs⟩ data.length data] (AJA b cap data.length fun L=>Seg 0 data.length data L∧Lb L 0 data.length)):Bn Tryz.prog 68 [.func (.func 117) #[] #[.pointer (some ⟨b2,0,none⟩)]] [] [Jt b2 [.slice ps n cs],Ap Aj ps n cs data]
  (fun v Φ β=>∃ (r:Row) (L:List Int),v = .slice (ad r.bo) data.length r.cap∧Φ=[A5 Aj r data.length L]∧β=[(r.bo,3,r.cs)]∧Seg 0 data.length data L∧Lb L 0 data.length):=by
 refine Ab (F:=Sj) rfl fun C=>?_
 have Rm:=fun {b2:Nat}=>Rl (ps:=ps) (n:=n) (cs:=cs) (data:=data) (b2:=b2) (by omega)
 refine wk 5 (ct @Rm cz) ?_
 intro r1
 simp only [List.cons_append,List.nil_append,List.append_nil]
 obtain ⟨bo,cap,cs1⟩:=r1
 cases bo with
 | none =>
  refine Z9 (q:=data.length=0∧cap=0) (fun w A hG=>by
   obtain ⟨_,h2,_⟩:=hG _ (Ae (n:=0) rfl)
   rcases h2 with ⟨_,h3,h4,_⟩|⟨b,h3,_⟩
   ·exact ⟨h3,h4⟩
   ·cases h3) fun ⟨h1,h2⟩=>?_
  obtain rfl:data=[]:=List.eq_nil_of_length_eq_zero h1
  subst h2
  have F4:=AEt
  simp only [ad,List.length_nil]
  refine wk 7 (ct @F4 cz) ?_ --ok
  refine Dp 1 [0] [0] rfl (.tmp rfl .nil) rfl rfl rfl ⟨⟨none,0,cs1⟩,[],rfl,rfl,rfl,Seg.refl,.short (by simp)⟩
 | some b =>
  have F4:=fun {cs:List Value}=>hS (b:=b) (cap:=cap) (cs:=cs)
  simp only [ad]
  refine wk 3 cz ?_
  refine Aa rfl (Z0 0 [0] rfl rfl (F4) rfl ?_)
  rintro _ _ _ ⟨cs'1,L1,h1,h2,rfl,rfl,rfl⟩
  simp only [List.cons_append,List.nil_append]
  refine wk 3 cz ?_ --ok
  refine Dp 1 [0] [0] rfl (.tmp rfl .nil) rfl rfl rfl ⟨⟨some b,cap,cs'1⟩,L1,rfl,rfl,rfl,h1.1,h1.2⟩
theorem AAW {b2:Nat}(hl:data.length≤12) (hr:∀ x∈data,Bx .i64 x):Bn Tryz.prog 68 [.func (.func 117) #[] #[.pointer (some ⟨b2,0,none⟩)]] [] [Jt b2 [.slice ps n cs],Ap Aj ps n cs data]
  (fun v Φ β=>∃ (r:Row) (L:List Int),v = .slice (ad r.bo) data.length r.cap∧Φ=[A5 Aj r data.length L]∧β=[(r.bo,3,r.cs)]∧Seg 0 data.length data L∧Lb L 0 data.length):=AGZ (by omega) fun {b cap cs}=>ACp (b:=b) (cap:=cap) (cs:=cs) hl hr rfl
end
open Go Go.Fw
set_option maxRecDepth 100000
set_option linter.unusedVariables false
set_option linter.unusedSimpArgs false
set_option maxHeartbeats 0
def mvK (n:Nat) (v l:List Int) (i:Nat):List Int:=(List.range n).map fun j:Nat=>if l.idxOf (j:Int)<i then Bh v (l.idxOf (j:Int)) else 0
theorem AHM (n:Nat) (v l:List Int):mvK n v l 0=List.replicate n 0:=by
 rw [mvK]
 refine List.ext_getElem (by simp) fun i h1 h2=>?_
 simp
theorem AJs {n:Nat}{v l:List Int}(h:PmOk n l):mvK n v l n=mvI n v l:=by
 rw [mvK,mvI,pkI,AIg,List.map_map]
 refine List.map_congr_left fun j hj=>?_
 have h1:=List.idxOf_lt_length_iff.2 (h.mem (List.mem_range.1 hj))
 rw [h.len] at h1
 simp [h1]
theorem AKa {n i:Nat}{v l:List Int}:(mvK n v l i).length=n:=by simp [mvK]
theorem AJi {n i:Nat}{v l:List Int}{p:Int}(h:PmOk n l) (hp:l[i]?=some p):(mvK n v l i).set p.toNat (Bh v i)=mvK n v l (i+1):=by
 have hi:i<l.length:=(List.getElem?_eq_some_iff.1 hp).1
 have hpe:l[i]=p:=(List.getElem?_eq_some_iff.1 hp).2
 obtain ⟨p0,p1⟩:=h.rng p (List.mem_of_getElem? hp)
 have hix:l.idxOf p=i:=by rw [← hpe];exact AJP h.nd hi
 refine List.ext_getElem (by simp [mvK]) fun j h1 h2=>?_
 rw [List.getElem_set]
 have hjn:j<n:=by simpa [mvK] using h2
 simp only [mvK,List.getElem_map,List.getElem_range]
 by_cases e:p.toNat=j
 ·rw [if_pos e]
  have ej:(j:Int)=p:=by omega
  rw [ej,hix,if_pos (by omega)]
 ·rw [if_neg e]
  have hne:l.idxOf (j:Int)≠i:=fun h3=>by
   have h4:=List.idxOf_lt_length_iff.2 (h.mem hjn)
   have h5:=List.getElem_idxOf h4
   simp only [h3] at h5
   omega
  by_cases h3:l.idxOf (j:Int)<i
  ·rw [if_pos h3,if_pos (by omega)]
  ·rw [if_neg h3,if_neg (by omega)]
theorem AIX {n k:Nat}{l L:List Int}(hs:Seg 0 k l L) (ho:Lb L 0 k) (hl:l.length=k):(k=n∧stP n L)↔PmOk n l:=by
 have hp:=hs.perm
 have hLl:L.length=k:=by rw [hp.length_eq,hl]
 constructor
 ·rintro ⟨rfl,h1,h2⟩
  exact ⟨hl,hp.nodup_iff.1 (h2.imp fun h=>by omega),fun x hx=>h1 x (hp.mem_iff.2 hx)⟩
 ·intro h
  have hkn:k=n:=by rw [← hl];exact h.len
  refine ⟨hkn,fun x hx=>h.rng x (hp.mem_iff.1 hx),?_⟩
  have hnd:L.Nodup:=hp.nodup_iff.2 h.nd
  refine List.pairwise_iff_getElem.2 fun i j hi hj hij=>?_
  have h1:=ho i j (Nat.zero_le _) hij (by omega)
  rw [AGx hi,AGx hj] at h1
  have h2:L[i]≠L[j]:=fun e=>by
   have:=(List.getElem_inj hnd).1 e
   omega
  omega
noncomputable def pmE (P M:Int) (md:List Int) (N:Int) (rows:List (List Int)) (l:List Int):Int:=open Classical in if Nz P M md N rows≠0 then Nz P M md N rows else if PmOk N.toNat l then 0 else 6
noncomputable def pmX (P M:Int) (md:List Int) (N:Int) (rows:List (List Int)) (l:List Int):CR:=if pmE P M md N rows l=0 then ⟨P,M,N,md,(C4 P.toNat M.toNat md N.toNat (rows.map fun r=>mvI N.toNat r l)).1,0⟩ else zeR (pmE P M md N rows l)
theorem AHP {p m n:Nat}{md l:List Int}{rows:List (List Int)}(CC:Cok p m md n rows) (h:PmOk n l):pmX p m md n rows l=⟨p,m,n,md,(C4 p m md n (rows.map fun r=>mvI n r l)).1,0⟩:=by
 rw [pmX,if_pos (by rw [pmE,if_neg (fun e=>e CC.ck),Int.toNat_natCast,if_pos h])];simp only [Int.toNat_natCast]
theorem ALh {p m n:Nat}{md l:List Int}{rows:List (List Int)}(CC:Cok p m md n rows) (h:¬ PmOk n l):pmX p m md n rows l=zeR 6:=by
 have:pmE p m md n rows l=6:=by rw [pmE,if_neg (fun e=>e CC.ck),Int.toNat_natCast,if_neg h]
 rw [pmX,if_neg (by omega),this]
theorem ALp {P M N:Int}{md l:List Int}{rows:List (List Int)}(h:Nz P M md N rows≠0):pmX P M md N rows l=zeR (Nz P M md N rows):=by
 have:pmE P M md N rows l=Nz P M md N rows:=by rw [pmE,if_pos h]
 rw [pmX,this,if_neg h]
theorem AKm {q n:Nat}(hq:0<q) {v l:List Int}(hv:Wd q n v):Wd q n (mvI n v l):=by
 have:=AHG hq hv (AIg n l)
 rwa [show (AIg n l).length=n by simp [AIg]] at this
theorem AKN {q n:Nat}(hq:0<q) {rows:List (List Int)}{l:List Int}(hM:Da q n rows):Da q n (rows.map fun r=>mvI n r l):=fun r hr=>by
 obtain ⟨s,hs,rfl⟩:=List.mem_map.1 hr
 exact AKm hq (hM s hs)
section
variable {P M:Int}{n c nm cm ns cs':Nat}{pm ps pt:Option Addr}{md l:List Int}{rows:List (List Int)}
theorem Wx {N:Int}(hN:Bx .i64 N) (hll:l.length≤255) (hS:(∀ x∈l,Bx .i64 x)→∀ {b2 n cs:Nat}{ps:Option Addr},Bn Tryz.prog 68 [.func (.func 117) #[] #[.pointer (some ⟨b2,0,none⟩)]] [] [Jt b2 [.slice ps n cs],Ap Aj ps n cs l] (fun v Φ β=>∃ (r:Row) (L:List Int),v = .slice (ad r.bo) l.length r.cap∧Φ=[A5 Aj r l.length L]∧β=[(r.bo,3,r.cs)]∧Seg 0 l.length l L∧Lb L 0 l.length)):Bn Tryz.prog 22 [.agg #[.int .i64 P,.int .i64 M,.slice pm nm cm,.int .i64 N,.slice ps n c],.slice pt ns cs'] [] [Ap Aj pm nm cm md,Ap (Ah Aj) ps n c rows,Ap Aj pt ns cs' l] (CdX (pmX P M md N rows l)):=by
 refine Ab (F:=X0) rfl fun C=>?_
 refine A9 1 rfl fun hn hb1 _=>?_
 subst hn
 refine A9 2 rfl fun hn hb _=>?_
 subst hn
 refine AL4 2 rfl fun hrl=>?_
 have hb':l.length*8≤140737488355328:=hb
 have hr:=Ll P M md N rows
 have Au:=fun {pm ps:Option Addr}{nm cm n c:Nat}=>D5 (P:=P) (M:=M) (pm:=pm) (ps:=ps) (nm:=nm) (cm:=cm) (n:=n) (c:=c) (md:=md) (rows:=rows) (N:=N) hN rfl
 by_cases h0:Nz P M md N rows=0
 ·obtain ⟨p,m,n',rfl,rfl,rfl,CC⟩:=Wk h0
  rw [h0] at Au
  have M0:=fun {ps:Option Addr}{n cs:Nat}=>L9 (ps:=ps) (n:=n) (cs:=cs)
  have Sn:=fun {ps:Option Addr}{n cs b2:Nat}=>hS hrl (ps:=ps) (n:=n) (cs:=cs) (b2:=b2)
  have C7:=fun {L:List Int}{ps:Option Addr}{nn c:Nat}{res:Bool}(h:decide (stP (n':Int) L)=res)=>G0 (ps:=ps) (nn:=nn) (c:=c) (n:=(n':Int)) (l:=L) h
  refine wk 15 (ct @Au (ct @M0 cz)) ?_
  intro b1 b2 h1 b21
  refine Aa rfl (Aw [0,3] rfl (Sn) rfl ?_)
  rintro _ _ _ ⟨r1,L1,rfl,rfl,rfl,h2,h3⟩
  simp only [List.cons_append,List.nil_append]
  refine wk 4 cz ?_
  have hsg:=‹Seg 0 l.length l L1›
  have hso:=‹Lb L1 0 l.length›
  refine Dy 0 0 rfl rfl (by show l.length*8≤140737488355328;omega) ?_
  simp only [List.eraseIdx_cons_zero]
  have hiff:=AIX (n:=n') hsg hso rfl
  refine Dk (Ap Aj none 0 0 []) (fun w A _=>Cl _ w A none 0) ?_
  refine Dk (Ap (Ah Aj) none 0 0 []) (fun w A _=>Cl _ w A none 0) ?_
  by_cases hp:PmOk n' l
  ·obtain ⟨hln,hst⟩:=hiff.2 hp
   rw [AHP CC hp]
   have K:=CC.K
   have hq:=K.q
   have q2:=(Dx K).q2
   have hl:=CC.len
   have h64:=CC.n64
   have hSM:Da (p ^ m) n' (rows.map fun r=>mvI n' r l):=AKN (by omega) CC.mat
   have hRl:(rows.map fun r=>mvI n' r l).length=rows.length:=List.length_map _
   have C7:=fun {ps:Option Addr}{nn c:Nat}=>G0 (ps:=ps) (nn:=nn) (c:=c) (n:=(n':Int)) (l:=L1) (decide_eq_true hst)
   have Dr:=fun {pm ps:Option Addr}{nm cm n c:Nat}=>I5 (pm:=pm) (ps:=ps) (nm:=nm) (cm:=cm) (n:=n) (c:=c) (N:=n') (rows:=rows.map fun r=>mvI n' r l) K CC.n1 CC.n64 (by omega) hSM
   generalize hG:C4 p m md n' (rows.map fun r=>mvI n' r l)=G at *
   clear hG
   refine Aa rfl (An rfl If ?_)
   refine Aa rfl (Bu 1 rfl rfl Ci rfl ?_)
   refine Ai it 2 rfl (by simp) ?_
   refine Qj (t:=28) rfl (fun h4=>by exfalso;omega) (fun h4=>?_)
   refine Ai it 1 rfl (by simp) ?_
   refine Cg rfl rfl (An rfl If ?_)
   refine Cg rfl rfl (Bu 1 rfl rfl Ci rfl ?_)
   refine Cg rfl rfl (Aw [2] rfl (C7) rfl ?_)
   rintro _ _ _ ⟨rfl,rfl,rfl⟩
   simp only [List.cons_append,List.nil_append]
   simp only [decide_true]
   refine Ai it 2 rfl (by simp) ?_
   refine Aq [_,_] rfl ?_
   refine Nq rfl rfl ?_
   refine Aq [_,_] rfl ?_
   refine Aa rfl (An rfl If ?_)
   refine Aa rfl (Bu 1 rfl rfl Ci rfl ?_)
   refine Aa rfl (Dc (cs:=[Value.int IntKind.i64 ↑n',Value.slice none 0 0]) Vx Hs rfl rfl ?_)
   refine Aa rfl (B2 Hs fun b3=>?_)
   refine Aa rfl (Be 0 rfl rfl rfl Gf rfl rfl (by simp [Value.oneCell']) ?_)
   refine Aq [_,_,_] rfl ?_
   refine Aa rfl (An rfl Mn ?_)
   refine Aa rfl (Bu 2 rfl rfl Hp rfl ?_)
   refine Aa rfl (Hn Df rfl ?_)
   refine Ai it 1 rfl (by simp) ?_
   refine Aq [_,_,_] rfl ?_
   refine Fh (Ah Aj) 22 ?_
   simp only [Cc,Dq,setB,List.take_succ_cons,List.cons_append,List.nil_append,List.take_zero,List.drop_succ_cons,List.drop_zero,List.length_singleton,Nat.zero_add]
   refine Af (X:=Nat×Row) [1,2,4,5,8,40,41] [0,1,2,3,4,5,6,7,8] (fun z=>[(42,.int .i64 (z.1:Int))]) (fun z=>(z.2.bo,22,z.2.cs)::(some b3,62,[.int .i64 (n':Nat),.slice (ad z.2.bo) z.1 z.2.cap])::_) (fun z=>[A5 (Ah Aj) z.2 z.1 ((rows.take z.1).map fun r=>mvI n' r l)]) (fun z=>z.1≤rows.length) (fun z=>rows.length-z.1) (0,⟨none,0,[]⟩) [0] rfl rfl rfl (Nat.zero_le _) (by repeat (first|exact Fr.sub_nil _|refine Fr.sub_cons rfl ?_)) rfl rfl ?_
   rintro ⟨i,r⟩ hi ih
   simp only [List.cons_append,List.nil_append] at hi ih ⊢
   by_cases hil:i<rows.length
   ·obtain ⟨u,at_u⟩:∃ u,rows[i]?=some u:=⟨_,List.getElem?_eq_getElem hil⟩
    have hu:=CC.mat u (List.mem_of_getElem? at_u)
    have hul:=hu.1
    have ih1:=fun r=>ih (i+1,r) (by dsimp only;omega) (by dsimp only;omega)
    dsimp only at ih1
    rw [List.take_add_one (l:=rows),at_u,Option.toList_some,List.map_append,List.map_cons,List.map_nil] at ih1
    clear ih
    refine wk 18 cz ?_
    intro h5 b4 o1 hz1 pa1 ca1 b5
    rw [show Ao .i64 (List.replicate n' 0)=Ak .i64 (mvK n' u l 0) by rw [AHM];simp [Ao,Ak]]
    simp only [List.cons_append,List.nil_append]
    refine Af (X:=Nat) [1,2,4,5,8,10,11,40,41,42,43,44,45,46,47,48,49,50] [0,1,2,3,4,5,6,7,8,9,10,11] (fun t=>[(51,.int .i64 (t:Int))]) (fun t=>(some b5,3,Ak .i64 (mvK n' u l t))::_) (fun _=>[]) (fun t=>t≤l.length) (fun t=>l.length-t) 0 [] rfl rfl rfl (Nat.zero_le _) (by repeat (first|exact Fr.sub_nil _|refine Fr.sub_cons rfl ?_)) rfl rfl ?_
    rintro t ht ih
    simp only [List.cons_append,List.nil_append] at ht ih ⊢
    by_cases htl:t<l.length
    ·obtain ⟨x,at_x⟩:∃ x,l[t]?=some x:=⟨_,List.getElem?_eq_getElem htl⟩
     obtain ⟨x0,x1⟩:=hp.rng x (List.mem_of_getElem? at_x)
     have at_y:u[t]?=some (Bh u t):=by rw [Bh,List.getD_eq_getElem?_getD,List.getElem?_eq_getElem (by omega)];rfl
     have hyr:=Bm (show 0<p ^ m by omega) hu t
     have ih':=ih (t+1) (by omega) (by omega)
     rw [← AJi hp at_x] at ih'
     have hKl:=AKa (n:=n') (i:=t) (v:=u) (l:=l)
     generalize mvK n' u l t=T at *
     clear ih
     refine wk 7 cz ?_
     intro h6 b6 o2 hz2
     refine Aa rfl (Av 0 rfl rfl Ci fun ⟨r2,r3⟩=>?_)
     refine wk 4 cz ?_
     intro b7 o3 hz3
     refine Aa rfl (Av 0 rfl rfl Ci fun ⟨r4,r5⟩=>?_)
     refine wk 5 cz ?_
     exact tw (ih')
    ·obtain rfl:t=l.length:=by omega
     clear ih
     have hmv:=AKm (l:=l) (show 0<p ^ m by omega) hu
     rw [show mvK n' u l l.length=mvI n' u l by rw [hln];exact AJs hp]
     have hmr:∀ z∈mvI n' u l,Bx .i64 z:=fun z hz=>by have:=hmv.2 z hz;simp only [Bx];omega
     have hml:=hmv.1
     generalize mvI n' u l=T at *
     refine Bk 0 rfl hml.symm hmr (by omega) ?_
     refine wk 9 cz ?_
     intro h6 b6
     refine C3 1 0 rfl rfl (by show (n')*8≤140737488355328;omega) ?_
     refine Aa rfl (Fi (z:=T) 1 0 4 rfl rfl rfl rfl rfl Df Gr rfl (fun w A hG=>(Ax (hG _ (Ae (n:=0) rfl)))) (by omega) _ Jx (by omega) fun r2=>?_)
     refine wk 5 cz ?_
     refine Jw [true,false,true,true,true] [0,6,7,8,9,10,11,12,13,14] (by exact T8 rfl) rfl rfl (ih1 r2)
   ·obtain rfl:i=rows.length:=by omega
    clear ih
    rw [List.take_length]
    refine Dy 0 0 rfl rfl (by show rows.length*24≤140737488355328;omega) ?_
    simp only [List.eraseIdx_cons_zero,List.eraseIdx_cons_succ]
    refine wk 13 (ct @Dr cz) ?_
    intro h5 pb1 pc1 nb1 cb1 nc1 cc1
    refine Bb [0,1] rfl (.agg 1 rfl rfl Dl rfl (.tmp rfl .nil)) rfl ⟨_,_,_,_,_,_,rfl,rfl,rfl⟩
  ·rw [ALh CC hp]
   by_cases hln:l.length=n'
   ·have C7:=fun {ps:Option Addr}{nn c:Nat}=>G0 (ps:=ps) (nn:=nn) (c:=c) (n:=(n':Int)) (l:=L1) (decide_eq_false fun h=>hp (hiff.1 ⟨hln,h⟩))
    refine wk 17 (ct @C7 cz) ?_
    intro h4
    refine Bb [1,0] rfl (.agg 0 rfl rfl Dl rfl (.tmp rfl .nil)) rfl ⟨_,_,_,_,_,_,rfl,rfl,rfl⟩
   ·refine wk 13 cz ?_
    intro h4
    refine Bb [1,0] rfl (.agg 0 rfl rfl Dl rfl (.tmp rfl .nil)) rfl ⟨_,_,_,_,_,_,rfl,rfl,rfl⟩
 ·rw [ALp h0]
  generalize Nz P M md N rows=e at *
  refine Dk (Ap Aj none 0 0 []) (fun w A _=>Cl _ w A none 0) ?_
  refine Dk (Ap (Ah Aj) none 0 0 []) (fun w A _=>Cl _ w A none 0) ?_
  refine wk 18 (ct @Au cz) ?_
  intro b1 b2 h1
  refine Bb [1,0] rfl (.agg 0 rfl rfl Dl rfl (.tmp rfl .nil)) rfl ⟨_,_,_,_,_,_,rfl,rfl,rfl⟩
end
end Go.Proofs.YtpienolhkccpnaaGreat
