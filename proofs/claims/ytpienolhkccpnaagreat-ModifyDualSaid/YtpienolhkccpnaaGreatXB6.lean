/-
Elimination over a field, in place. Reduced rows of a matrix, as handed back. New refuses what is no field. The field and the matrices of a call are checked. Canonical matrices. The kernel of a matrix. Functions of slices that are handed a function; sets of positions. The program's tests of spaces and codes. A multiple of a row is added to an own row; combinations of rows. Products and transposes of matrices. The words of a space that vanish outside some positions; the least witness. The document's tests of entries, shapes and sets; its copies. The least witness, and the program's answer whether helpers suffice. Multiples and sums of rows in the document. Elimination in the document. Canonical rows, null spaces, combinations and columns in the document. The document's tests of spaces and codes, of sets and pairs. Sums and intersections of spaces, as the program makes them; moved entries. Duals of punctured, shortened and permuted codes. Lists put in order by pivots and heaps. Codes: made of rows, their duals. Canonical rows without room; two fields that are the same. The document's fields: sums of products; rows of elements. Whether helpers suffice: what the program answers. Columns and ranks in the document, what is enough, and the least witness. What is enough by ranks and by witnesses; the walk of RepairSuffices. Words of messages in the document; the walk of RepairDetermines. Differences in a field; the program's test of a word.
-/
import Derived.Test.YtpienolhkccpnaaGreatXB5
set_option linter.unusedVariables false
set_option linter.unusedSimpArgs false
namespace Go.Proofs.YtpienolhkccpnaaGreat
open Go Go.Fw
set_option maxRecDepth 100000
set_option linter.unusedVariables false
set_option linter.unusedSimpArgs false
set_option maxHeartbeats 0
abbrev C3 (p m:Nat) (x:Int):Int:=((nP p m x.toNat:Nat):Int)
abbrev Hi (p m:Nat) (md:List Int) (x:Int):Int:=((iF (p ^ m) (fM p (Ax m md)) x.toNat:Nat):Int)
abbrev J9 (p m:Nat) (md:List Int) (n c t:Nat) (rows:List (List Int)):List (List Int)×List Nat:=Ds (Ad (fA p m)) (Ad (fM p (Ax m md))) (C3 p m) (Hi p m md) n c t rows
theorem ADZ {rows:List (List Int)}{t c:Nat}(h:rows.length≤t):Hp rows t c=none:=by
 rw [Hp,show rows.length-t=0 by omega];rfl
theorem Lj {A M:Int→Int→Int}{N V:Int→Int}:∀ (n c t:Nat) (rows:List (List Int)),rows.length≤t→Ds A M N V n c t rows=(rows,[])
 | 0,_,_,_,_=>rfl
 | n+1,c,t,rows,h=>by rw [Ds,ADZ h];exact Lj n (c+1) t rows h
theorem Zj {rows:List (List Int)}{t c k:Nat}(h1:t≤k) (h2:k<rows.length) (h3:en rows k c≠0) (hn:∀ j,t≤j→j<k→en rows j c=0):Hp rows t c=some k:=by
 rw [Hp,show List.range' t (rows.length-t)=List.range' t (k-t)++k::List.range' (k+1) (rows.length-t-(k-t)-1) by
  rw [← List.range'_succ]
  have:=List.range'_append_1 (s:=t) (m:=k-t) (n:=rows.length-t-(k-t)-1+1)
  rw [show t+(k-t)=k by omega,show k-t+(rows.length-t-(k-t)-1+1)=rows.length-t by omega] at this
  exact this.symm]
 rw [List.find?_append,List.find?_eq_none.2 fun i hi=>by
  obtain ⟨a,b⟩:=List.mem_range'_1.1 hi
  simpa using hn i a (by omega)]
 rw [Option.none_or,List.find?_cons,decide_eq_true h3]
theorem AAq {rows:List (List Int)}{t c:Nat}(hn:∀ j,t≤j→j<rows.length→en rows j c=0):Hp rows t c=none:=by
 rw [Hp,List.find?_eq_none.2 fun i hi=>by
  obtain ⟨a,b⟩:=List.mem_range'_1.1 hi
  simpa using hn i a (by omega)]
theorem AEE {q n:Nat}{A M:Int→Int→Int}(F:FI q A M) {r u:List Int}(hr:Wd q n r) (hu:Wd q n u):Ey A M 0 r u=u:=by
 have q2:=F.q2
 refine List.ext_getElem (by rw [Ey,List.length_zipWith,hr.1,hu.1];omega) fun i h1 h2=>?_
 rw [Ey] at h1
 simp only [Ey,List.getElem_zipWith]
 obtain ⟨y0,y1⟩:=hu.2 _ (List.getElem_mem h2)
 obtain ⟨x0,x1⟩:=hr.2 (r[i]'(by rw [hr.1,← hu.1];exact h2)) (List.getElem_mem _)
 rw [F.mc 0 _ (by omega) (by omega) x0 x1,F.m0 x0 x1,F.a0 _ y0 y1]
theorem AE0 {q n:Nat}{A M:Int→Int→Int}(F:FI q A M) {v:List Int}(hv:Wd q n v):Ct M 1 v=v:=by
 have q2:=F.q2
 rw [Ct]
 conv=>rhs;rw [← List.map_id v]
 refine List.map_congr_left fun x hx=>?_
 obtain ⟨h0,h1⟩:=hv.2 x hx
 rw [F.mc 1 x (by omega) (by omega) h0 h1,F.m1 x h0 h1];rfl
abbrev ElQ (rh:Row) (n:Nat) (E:List (List Int)×List Nat):Value→List Fact→List A2→Prop:=fun v Φ β=>∃ (r:Row) (ch':List Value) (hd':Nat→Hd) (cs':Nat→List Value) (d:Int),v = .tuple #[.slice (ad r.bo) E.2.length r.cap,.int .i64 d]
 ∧ Φ=[A6 Ai r E.2.length (Bc E.2),A6 Sd ⟨rh.bo,rh.cap,ch'⟩ n (Iv hd' n),Ej Ai hd' cs' (Ar E.1) n []]∧β=(r.bo,3,r.cs)::(rh.bo,22,ch')::Da 3 hd' cs' n []
theorem Ta {b p m n N W ng cg ce cl:Nat}{pg pe pl:Option Addr}{rh:Row}{hd:Nat→Hd}{cs:Nat→List Value}{rows:List (List Int)}{md:List Int}(K:Fok p m md) (hn:n≤1000000) (hNW:N≤W) (hN:W≤1000000) (hl:rows.length=n) (hM:Cz (p ^ m) W rows) :
  Bs Tryz.prog 174 [.pointer (some ⟨b,0,none⟩),.slice (ad rh.bo) n rh.cap,.int .i64 N,.slice none 0 0] ((rh.bo,22,rh.cs)::Da 3 hd cs n [])
   [I2 b p m (p ^ m) pg ng cg pe (p ^ m-1) ce pl (p ^ m) cl,Ap Ai pe (p ^ m-1) ce (Jg p m md),Ap Ai pl (p ^ m) cl (Jf p m md),A6 Sd rh n (Iv hd n),Ej Ai hd cs (Ar rows) n []]
   (ElQ rh n (J9 p m md N 0 0 rows)):=by
 refine Ab (F:=Ig) rfl fun C=>?_
 have O:=Dc K
 generalize hEE:J9 p m md N 0 0 rows=EE
 rcases Nat.eq_zero_or_pos n with hn0|hn0
 ·subst hn0
  rw [J9,Lj _ _ _ _ (by omega)] at hEE
  subst hEE
  refine wk 15 cz ?_
  intro b1 b2 b3
  refine Fz Ai 3 ?_
  refine Ah (X:=Unit) [2,4,5,8,9,11] [0,1,2,3,4,5] (fun _=>[(13,.int .i64 0),(12,.slice none 0 0),(10,.int .i64 1)]) (fun _=>(none,3,[])::(some b3,25,[.slice none 0 0])::(some b2,25,[.slice (ad rh.bo) 0 rh.cap])::(some b1,76,[.pointer (some ⟨b,0,none⟩)])::(rh.bo,22,rh.cs)::Da 3 hd cs 0 []) (fun _=>[]) (fun _=>True) (fun _=>0) () [] rfl rfl rfl trivial (by repeat (first|exact Fr.sub_nil _|refine Fr.sub_cons rfl ?_)) rfl rfl ?_
  rintro ⟨⟩-ih
  simp only [List.cons_append,List.nil_append] at ih ⊢
  rcases Nat.eq_zero_or_pos N with hN0|hN0
  ·subst hN0
   refine wk 7 cz ?_
   refine Dx 5 [0,4] [0,4,5] rfl (.tmp rfl (.tmp rfl .nil)) rfl rfl rfl ⟨⟨none,0,[]⟩,rh.cs,hd,cs,1,rfl,rfl,rfl⟩
  ·refine wk 16 cz ?_
   intro h1 h2
   refine Dx 5 [0,4] [0,4,5] rfl (.tmp rfl (.tmp rfl .nil)) rfl rfl rfl ⟨⟨none,0,[]⟩,rh.cs,hd,cs,1,rfl,rfl,rfl⟩
 ·refine Dt 3 rfl hn0 fun bh caph csh hr=>?_
  subst hr
  dsimp only
  refine wk 15 cz ?_
  intro b1 b2 b3
  refine Fz Ai 3 ?_
  have q2:=O.q2
  have hq:=K.q
  refine Ah (X:=Nat×Row×Int×List Value×(Nat→Hd)×(Nat→List Value)×List (List Int)×List Nat) [2,4,5,8,9,11] [1,2,3] (fun x=>[(13,.int .i64 (x.1:Int)),(12,.slice (ad x.2.1.bo) x.2.2.2.2.2.2.2.length x.2.1.cap),(10,.int .i64 x.2.2.1)])
   (fun x=>(x.2.1.bo,3,x.2.1.cs)::(some b3,25,[.slice none 0 0])::(some b2,25,[.slice (ad (some bh)) n caph])::(some b1,76,[.pointer (some ⟨b,0,none⟩)])::(some bh,22,x.2.2.2.1)::Da 3 x.2.2.2.2.1 x.2.2.2.2.2.1 n [])
   (fun x=>[A6 Ai x.2.1 x.2.2.2.2.2.2.2.length (Bc x.2.2.2.2.2.2.2),A6 Sd ⟨some bh,caph,x.2.2.2.1⟩ n (Iv x.2.2.2.2.1 n),Ej Ai x.2.2.2.2.1 x.2.2.2.2.2.1 (Ar x.2.2.2.2.2.2.1) n []])
   (fun x=>x.1≤N∧x.2.2.2.2.2.2.1.length=n∧Cz (p ^ m) W x.2.2.2.2.2.2.1∧x.2.2.2.2.2.2.2.length≤n∧(0≤x.2.2.1∧x.2.2.1<((p ^ m:Nat):Int))∧(J9 p m md (N-x.1) x.1 x.2.2.2.2.2.2.2.length x.2.2.2.2.2.2.1).1=EE.1∧x.2.2.2.2.2.2.2++(J9 p m md (N-x.1) x.1 x.2.2.2.2.2.2.2.length x.2.2.2.2.2.2.1).2=EE.2) (fun x=>N-x.1)
   (0,⟨none,0,[]⟩,1,csh,hd,cs,rows,[]) [0,4,5] rfl rfl rfl ⟨Nat.zero_le _,hl,hM,Nat.zero_le _,⟨by dsimp only;decide,by dsimp only;omega⟩,by dsimp only;rw [Nat.sub_zero];exact congrArg Prod.fst hEE,by dsimp only;rw [Nat.sub_zero,List.nil_append];exact congrArg Prod.snd hEE⟩ (by repeat (first|exact Fr.sub_nil _|refine Fr.sub_cons rfl ?_)) rfl rfl ?_
  rintro ⟨c,r,d,ch,hd,cs,rws,pv⟩ ⟨hcN,hl,hM,hpv,⟨hd0,hd1⟩,hE1,hE2⟩ ih
  simp only [List.cons_append,List.nil_append] at hcN hl hM hpv hd0 hd1 hE1 hE2 ih ⊢
  by_cases hcl:c<N
  ·by_cases hpl:pv.length<n
   ·have hrl:∀ k,k<n→(Ar rws k).length=W:=fun k hk=>(hM.row (by omega)).1
    have hre:∀ k,k<n→(Ar rws k)[c]?=some (en rws k c):=fun k hk=>by
     rw [en,Ba,List.getD_eq_getElem?_getD,List.getElem?_eq_getElem (by rw [hrl k hk];omega)];rfl
    have hen:∀ k,k<n→0≤en rws k c∧en rws k c<((p ^ m:Nat):Int):=fun k hk=>Bh (by omega) (hM.row (by omega)) c
    refine G5 2 rfl fun hlen=>?_
    have hhd:∀ k,k<n→(hd k).2.1=W:=fun k hk=>by rw [hlen k hk rfl];exact hrl k hk
    refine wk 23 cz ?_
    intro h1 h2 b4 b5
    simp only [setB]
    refine Ah (X:=Nat×(Nat→List Value)) [2,4,5,8,9,10,11,12,13,14,15,21,22,23,24,25,26,27,28,29,30,33,34,35] [0,1,2,3,4,5] (fun _=>[]) (fun k=>(some b5,3,[.int .i64 (k.1:Int)])::(some b4,3,[.int .i64 (pv.length:Int)])::(r.bo,3,r.cs)::(some b3,25,[.slice none 0 0])::(some b2,25,[.slice (ad (some bh)) n caph])::(some b1,76,[.pointer (some ⟨b,0,none⟩)])::(some bh,22,ch)::Da 3 hd k.2 n []) (fun k=>[Ej Ai hd k.2 (Ar rws) n []]) (fun k=>pv.length≤k.1∧k.1≤n∧∀ j,pv.length≤j→j<k.1→en rws j c=0) (fun k=>n-k.1) (pv.length,cs) [2] rfl rfl rfl ⟨Nat.le_refl _,hpv,fun j h1 h2=>by dsimp only at h2;omega⟩ (by repeat (first|exact Fr.sub_nil _|refine Fr.sub_cons rfl ?_)) rfl rfl ?_
    clear hlen hhd
    rintro ⟨k,cs⟩ ⟨hk1,hk2,hk3⟩ ihk
    simp only [List.cons_append,List.nil_append] at hk1 hk2 hk3 ihk ⊢
    by_cases hkn:k<n
    ·refine G5 0 rfl fun hlen=>?_
     have hhd:∀ k,k<n→(hd k).2.1=W:=fun k hk=>by rw [hlen k hk rfl];exact hrl k hk
     have hhk:=hhd k hkn
     have hz:=hre k hkn
     have hrk:=hrl k hkn
     refine Do 7 (k) 0 (W) rfl rfl (by first|assumption|omega) (by first|rfl|assumption|(simp [Ag,Bd];done)|(simp [Ag,Bd];omega)) (by first|assumption|omega) fun r1 hr1=>?_
     simp only [List.take_succ_cons,List.take_zero,List.cons_append,List.nil_append]
     by_cases hz0:en rws k c=0
     ·refine wk 12 cz ?_
      intro h3
      refine Dt 0 rfl (by omega) fun b6 cap1 cs1 hr2=>?_
      subst hr2
      dsimp only
      refine wk 10 cz ?_
      intro hr2 h4
      simp only [setB,List.set_cons_succ,List.set_cons_zero]
      refine Bu 7 (k) 0 0 1 rfl rfl rfl rfl (by first|assumption|omega) (by first|rfl|assumption|(simp [Ag,Bd];done)|(simp [Ag,Bd];omega)) ?_
      simp only [List.eraseIdx_cons_zero,List.eraseIdx_cons_succ,List.take_succ_cons,List.take_zero,List.cons_append,List.nil_append]
      rw [D6 (Fx hr1 hkn),show Ek (Ar rws) k (Ar rws k)=Ar rws from D6 rfl]
      exact tw (ihk (k+1,Ek cs k cs1) (by dsimp only;omega) ⟨by dsimp only;omega,by dsimp only;omega,fun j h1 h2=>by
       dsimp only at h2
       rcases Nat.lt_succ_iff_lt_or_eq.1 h2 with h|rfl
       ·exact hk3 j h1 h
       ·exact hz0⟩)
     ·clear ihk
      have hkne:¬ k=n:=by omega
      refine wk 12 cz ?_
      intro h3
      refine Dt 0 rfl (by omega) fun b6 cap1 cs1 hr2=>?_
      subst hr2
      dsimp only
      refine wk 10 cz ?_
      intro hr2 h4
      refine Bu 7 (k) 0 0 1 rfl rfl rfl rfl (by first|assumption|omega) (by first|rfl|assumption|(simp [Ag,Bd];done)|(simp [Ag,Bd];omega)) ?_
      simp only [List.eraseIdx_cons_zero,List.eraseIdx_cons_succ,List.take_succ_cons,List.take_zero,List.cons_append,List.nil_append]
      rw [D6 (Fx hr1 hkn),show Ek (Ar rws) k (Ar rws k)=Ar rws from D6 rfl]
      have key:∀ (d':Int) (ch':List Value) (hd':Nat→Hd) (cs':Nat→List Value),0≤d'→d'<((p ^ m:Nat):Int)→J Ig C [It.c (pL 128159),It.blk 1,It.c (pL 2003),It.lp (pL 500),It.blk 0,It.c [1,1,1,1,1]]
        [(2,.int .i64 N),(4,.pointer (some ⟨b1,0,none⟩)),(5,.pointer (some ⟨b2,0,none⟩)),(8,.slice none 0 0),(9,.int .i64 0),(10,.int .i64 d'),(11,.func (.func 202) #[] #[.pointer (some ⟨b2,0,none⟩),.pointer (some ⟨b3,0,none⟩)]),(12,.slice (ad r.bo) pv.length r.cap),(13,.int .i64 c),(14,.pointer (some ⟨b4,0,none⟩))]
        ((some b4,3,[.int .i64 (pv.length:Int)])::(r.bo,3,r.cs)::(some b3,25,[.slice none 0 0])::(some b2,25,[.slice (ad (some bh)) n caph])::(some b1,76,[.pointer (some ⟨b,0,none⟩)])::(some bh,22,ch')::Da 3 hd' cs' n [])
        [Ej Ai hd' cs' (Ar (Cc rws pv.length k)) n [],A6 Ai r pv.length (Bc pv),A6 Sd ⟨some bh,caph,ch'⟩ n (Iv hd' n),I2 b p m (p ^ m) pg ng cg pe (p ^ m-1) ce pl (p ^ m) cl,Ap Ai pe (p ^ m-1) ce (Jg p m md),Ap Ai pl (p ^ m) cl (Jf p m md)] (Fm C (ElQ ⟨some bh,caph,csh⟩ n EE)):=by
       clear hz hrk hlen hhd hhk hr1
       intro d' ch' hd' cs' d0' d1'
       have htn:pv.length<n:=hpl
       have hsl:(Cc rws pv.length k).length=n:=by rw [Cc,List.length_set,List.length_set,hl]
       have hsW:∀ i,i<n→Wd (p ^ m) W (Ar (Cc rws pv.length k) i):=fun i hi=>Mc hM (by omega) (by omega) (by omega)
       have hsrl:∀ i,i<n→(Ar (Cc rws pv.length k) i).length=W:=fun i hi=>(hsW i hi).1
       have hsre:∀ i,i<n→(Ar (Cc rws pv.length k) i)[c]?=some (en (Cc rws pv.length k) i c):=fun i hi=>by
        rw [en,Ba,List.getD_eq_getElem?_getD,List.getElem?_eq_getElem (by rw [hsrl i hi];omega)];rfl
       have hsen:∀ i,i<n→0≤en (Cc rws pv.length k) i c∧en (Cc rws pv.length k) i c<((p ^ m:Nat):Int):=fun i hi=>Bh (by omega) (hsW i hi) c
       have het:en (Cc rws pv.length k) pv.length c=en rws k c:=by
        rw [en,Fa (by omega) (by omega)]
        split
        ·rename_i e;rw [← e]
        ·rw [if_pos rfl]
       obtain ⟨a0,a1⟩:=hen k hkn
       refine G5 0 rfl fun hlen=>?_
       have hht:(hd' pv.length).2.1=W:=by rw [hlen _ htn rfl];exact hsrl _ htn
       have hzt:=hsre _ htn
       rw [het] at hzt
       have hrt:=hsrl _ htn
       have A8:=fun {b ng cg ce cl:Nat}{pg pe pl:Option Addr}{x y:Int}=>C1 (b:=b) (ng:=ng) (cg:=cg) (ce:=ce) (cl:=cl) (pg:=pg) (pe:=pe) (pl:=pl) (x:=x) (y:=y) K
       have Fi:=fun {b ng cg ce cl:Nat}{pg pe pl:Option Addr}{x:Int}=>Qf (b:=b) (ng:=ng) (cg:=cg) (ce:=ce) (cl:=cl) (pg:=pg) (pe:=pe) (pl:=pl) (x:=x) K
       have hap:0<en rws k c:=by omega
       obtain ⟨⟨v0,v1⟩,hiv⟩:=O.iv _ a0 a1 hz0
       have FF:=K.fi
       have key2:∀ (d2:Int) (ch2:List Value) (hd2:Nat→Hd) (cs2:Nat→List Value),0≤d2→d2<((p ^ m:Nat):Int)→J Ig C [It.c (pL 4101114),It.blk 4,It.c (pL 1025279),It.blk 1,It.c (pL 2003),It.lp (pL 500),It.blk 0,It.c [1,1,1,1,1]]
         [(2,.int .i64 N),(4,.pointer (some ⟨b1,0,none⟩)),(5,.pointer (some ⟨b2,0,none⟩)),(8,.slice none 0 0),(9,.int .i64 0),(10,.int .i64 d2),(11,.func (.func 202) #[] #[.pointer (some ⟨b2,0,none⟩),.pointer (some ⟨b3,0,none⟩)]),(12,.slice (ad r.bo) pv.length r.cap),(13,.int .i64 c),(14,.pointer (some ⟨b4,0,none⟩)),(97,.int .i64 n),(98,.int .i64 0)]
         ((some b4,3,[.int .i64 (pv.length:Int)])::(r.bo,3,r.cs)::(some b3,25,[.slice none 0 0])::(some b2,25,[.slice (ad (some bh)) n caph])::(some b1,76,[.pointer (some ⟨b,0,none⟩)])::(some bh,22,ch2)::Da 3 hd2 cs2 n [])
         [Ej Ai hd2 cs2 (Ek (Ar (Cc rws pv.length k)) pv.length (Ct (Ad (fM p (Ax m md))) ((iF (p ^ m) (fM p (Ax m md)) (en rws k c).toNat:Nat):Int) (Ar (Cc rws pv.length k) pv.length))) n [],A6 Ai r pv.length (Bc pv),A6 Sd ⟨some bh,caph,ch2⟩ n (Iv hd2 n),I2 b p m (p ^ m) pg ng cg pe (p ^ m-1) ce pl (p ^ m) cl,Ap Ai pe (p ^ m-1) ce (Jg p m md),Ap Ai pl (p ^ m) cl (Jf p m md)] (Fm C (ElQ ⟨some bh,caph,csh⟩ n EE)):=by
        intro d2 ch2 hd2 cs2 e0 e1
        clear hht hlen A8 Fi
        have hprW:=O.scl_wd v0 v1 (hsW _ htn)
        generalize hpr:Ct (Ad (fM p (Ax m md))) ((iF (p ^ m) (fM p (Ax m md)) (en rws k c).toNat:Nat):Int) (Ar (Cc rws pv.length k) pv.length)=pr at *
        let clr:Nat→Nat→List Int:=fun i j=>if j=pv.length then pr else if j<i then Ey (Ad (fA p m)) (Ad (fM p (Ax m md))) (C3 p m (en (Cc rws pv.length k) j c)) pr (Ar (Cc rws pv.length k) j) else Ar (Cc rws pv.length k) j
        have hclW:∀ i j,j<n→Wd (p ^ m) W (clr i j):=fun i j hj=>by
         show Wd _ _ (if _ then _ else if _ then _ else _)
         split
         ·exact hprW
         ·split
          ·obtain ⟨x0,x1⟩:=hsen j hj
           have:=ADd (show 0<p by have:=K.p2;omega) m (en (Cc rws pv.length k) j c).toNat
           exact FF.axw (Int.natCast_nonneg _) (Int.ofNat_lt.2 this) hprW (hsW j hj)
          ·exact hsW j hj
        refine Br (clr 0) 0 rfl (fun g hg=>by
         show _=if _ then _ else if _ then _ else _
         by_cases e:g=pv.length
         ·subst e;rw [Bn,if_pos rfl]
         ·rw [C0 e,if_neg e,if_neg (Nat.not_lt_zero g)]) ?_
        refine Ah (X:=Nat×(Nat→List Value)) [2,4,5,8,9,10,11,12,13,14,97] [0,1,2,3,4,5,6] (fun x=>[(98,.int .i64 (x.1:Int))]) (fun x=>(some b4,3,[.int .i64 (pv.length:Int)])::(r.bo,3,r.cs)::(some b3,25,[.slice none 0 0])::(some b2,25,[.slice (ad (some bh)) n caph])::(some b1,76,[.pointer (some ⟨b,0,none⟩)])::(some bh,22,ch2)::Da 3 hd2 x.2 n []) (fun x=>[Ej Ai hd2 x.2 (clr x.1) n []]) (fun x=>x.1≤n) (fun x=>n-x.1) (0,cs2) [0] rfl rfl rfl (Nat.zero_le _) (by repeat (first|exact Fr.sub_nil _|refine Fr.sub_cons rfl ?_)) rfl rfl ?_
        rintro ⟨i,cs2⟩ hi ihi
        simp only [List.cons_append,List.nil_append] at hi ihi ⊢
        by_cases hin:i<n
        ·refine G5 0 rfl fun hlen=>?_
         have hhi:(hd2 i).2.1=W:=by rw [hlen i hin rfl];exact (hclW i i hin).1
         have hli:=(hclW i i hin).1
         obtain ⟨z,at_z⟩:∃ z,(clr i i)[c]?=some z:=⟨_,List.getElem?_eq_getElem (by rw [hli];omega)⟩
         have nxt:∀ j,j<n→j≠i→clr (i+1) j=clr i j:=fun j hj hji=>by
          show (if _ then _ else if _ then _ else _)=(if _ then _ else if _ then _ else _)
          by_cases g1:j<i
          ·rw [if_pos g1,if_pos (show j<i+1 by omega)]
          ·rw [if_neg g1,if_neg (show ¬ j<i+1 by omega)]
         by_cases hit:i=pv.length
         ·have nxi:clr (i+1) i=clr i i:=by
           show (if _ then _ else if _ then _ else _)=(if _ then _ else if _ then _ else _)
           rw [if_pos hit,if_pos hit]
          clear_value clr
          refine Do 6 (i) 0 (W) rfl rfl (by first|assumption|omega) (by first|rfl|assumption|(simp [Ag,Bd];done)|(simp [Ag,Bd];omega)) (by first|assumption|omega) fun r1 hr1=>?_
          simp only [List.take_succ_cons,List.take_zero,List.cons_append,List.nil_append]
          refine wk 14 cz ?_
          intro h5 b7
          refine Dt 0 rfl (by omega) fun b8 cap2 cs3 hr3=>?_
          subst hr3
          dsimp only
          refine wk 16 cz ?_
          intro hr3 b9 h6
          simp only [setB,List.set_cons_zero,List.set_cons_succ]
          refine Bu 8 (i) 2 0 1 rfl rfl rfl rfl (by first|assumption|omega) (by first|rfl|assumption|(simp [Ag,Bd];done)|(simp [Ag,Bd];omega)) ?_
          simp only [List.eraseIdx_cons_zero,List.eraseIdx_cons_succ,List.take_succ_cons,List.take_zero,List.cons_append,List.nil_append]
          rw [D6 (Fx (by assumption) hin)]
          refine Br (clr (i+1)) 0 rfl (fun g hg=>by
           by_cases e:g=i
           ·subst e;rw [Bn,nxi]
           ·rw [C0 e,nxt g hg e]) ?_
          refine Pj 8 [2,3,4,5,6,7] [0,5,6,7,8,9,10,11] (by exact Ux rfl) rfl rfl rfl rfl (ihi (i+1,Ek cs2 i cs3) (by dsimp only;omega) (by dsimp only;omega))
         ·have cli:clr i i=Ar (Cc rws pv.length k) i:=by
           show (if _ then _ else if _ then _ else _)=_
           rw [if_neg hit,if_neg (Nat.lt_irrefl i)]
          have nxi:clr (i+1) i=Ey (Ad (fA p m)) (Ad (fM p (Ax m md))) (C3 p m (en (Cc rws pv.length k) i c)) pr (Ar (Cc rws pv.length k) i):=by
           show (if _ then _ else if _ then _ else _)=_
           rw [if_neg hit,if_pos (Nat.lt_succ_self i)]
          have clt:clr i pv.length=pr:=if_pos rfl
          have ez:z=en (Cc rws pv.length k) i c:=by
           rw [cli,hsre i hin] at at_z;exact (Option.some.inj at_z).symm
          obtain ⟨z0,z1⟩:=hsen i hin
          rw [← ez] at nxi z0 z1
          clear_value clr
          by_cases hz9:z=0
          ·rw [hz9,show C3 p m 0=0 by rw [C3];exact congrArg Int.ofNat (AIY p m),AEE FF hprW (hsW i hin),← cli] at nxi
           refine Do 6 (i) 0 (W) rfl rfl (by first|assumption|omega) (by first|rfl|assumption|(simp [Ag,Bd];done)|(simp [Ag,Bd];omega)) (by first|assumption|omega) fun r1 hr1=>?_
           simp only [List.take_succ_cons,List.take_zero,List.cons_append,List.nil_append]
           refine wk 14 cz ?_
           intro h5 b7
           refine Dt 0 rfl (by omega) fun b8 cap2 cs3 hr3=>?_
           subst hr3
           dsimp only
           refine wk 17 cz ?_
           intro hr3 b9 h6 h7
           simp only [setB,List.set_cons_zero,List.set_cons_succ]
           refine Bu 8 (i) 2 0 1 rfl rfl rfl rfl (by first|assumption|omega) (by first|rfl|assumption|(simp [Ag,Bd];done)|(simp [Ag,Bd];omega)) ?_
           simp only [List.eraseIdx_cons_zero,List.eraseIdx_cons_succ,List.take_succ_cons,List.take_zero,List.cons_append,List.nil_append]
           rw [D6 (Fx (by assumption) hin)]
           refine Br (clr (i+1)) 0 rfl (fun g hg=>by
            by_cases e:g=i
            ·subst e;rw [Bn,nxi]
            ·rw [C0 e,nxt g hg e]) ?_
           refine Pj 8 [2,3,4,5,6,7] [0,5,6,7,8,9,10,11] (by exact Ux rfl) rfl rfl rfl rfl (ihi (i+1,Ek cs2 i cs3) (by dsimp only;omega) (by dsimp only;omega))
          ·refine Do 6 (i) 0 (W) rfl rfl (by first|assumption|omega) (by first|rfl|assumption|(simp [Ag,Bd];done)|(simp [Ag,Bd];omega)) (by first|assumption|omega) fun r1 hr1=>?_
           simp only [List.take_succ_cons,List.take_zero,List.cons_append,List.nil_append]
           refine Am [_,_,_,_,_,_,_,_,_,_] rfl ?_
           refine Ae it 1 rfl (by simp) ?_
           refine Am [_,_,_,_,_,_,_,_,_,_] rfl ?_
           refine Kj rfl rfl (fun h5=>?_) (fun h5=>by exfalso;omega)
           refine Am [_,_,_,_,_,_,_,_,_,_,_,_] rfl ?_
           refine Ae it 1 rfl (by simp) ?_
           refine Aa rfl (Bk zo3 fun b7=>?_)
           refine Aa rfl (Nt 0 rfl rfl rfl rfl Ci rfl (Nat.le_of_ble_eq_true rfl) ?_)
           refine Am [_,_,_,_,_,_,_,_,_,_,_,_] rfl ?_
           refine Aa rfl (Bm 5 rfl rfl H3 rfl ?_)
           refine Aa rfl (Bm 0 rfl rfl Ci rfl ?_)
           refine Aa rfl (Be (i) (i) rfl rfl D5 rfl (by omega) (Nat.mul_one _) ?_)
           refine Aa rfl (ACP 7 6 (i) rfl rfl rfl Fb rfl (by assumption) ?_)
           refine Ae it 1 rfl (by simp) ?_
           refine Dt 0 rfl (by omega) fun b8 cap2 cs3 hr3=>?_
           subst hr3
           dsimp only
           refine Aa rfl (Be (c) (c) rfl rfl Cb rfl (by omega) (Nat.mul_one _) ?_)
           refine Aa rfl (Ss 1 0 (c) rfl rfl rfl Ci rfl (by assumption) fun hr3=>?_)
           refine Aa rfl (Bk zo3 fun b9=>?_)
           refine Aa rfl (Nt 0 rfl rfl rfl rfl Ci rfl (Nat.le_of_ble_eq_true rfl) ?_)
           refine Am [_,_,_,_,_,_,_,_,_,_,_,_] rfl ?_
           refine Aa rfl (Bm 1 rfl rfl Ci rfl ?_)
           refine Aa rfl (Bm 3 rfl rfl Ci rfl ?_)
           refine Ae it 2 rfl (by simp) ?_
           refine Pg (t:=111) rfl (fun h6=>?_) (fun h6=>by exfalso;omega)
           refine Bt rfl rfl (Bm 0 rfl rfl Ci rfl ?_)
           refine Ae it 2 rfl (by simp) ?_
           refine Am [_,_,_,_,_,_,_,_,_,_,_] rfl ?_
           refine Kw rfl rfl (fun h7=>?_) (fun h7=>by exfalso;omega)
           refine Am [_,_,_,_,_,_,_,_,_,_,_] rfl ?_
           refine Ae it 2 rfl (by simp) ?_ --ok
           simp only [setB,List.set_cons_zero,List.set_cons_succ]
           refine Bu 8 (i) 2 0 1 rfl rfl rfl rfl (by first|assumption|omega) (by first|rfl|assumption|(simp [Ag,Bd];done)|(simp [Ag,Bd];omega)) ?_
           simp only [List.eraseIdx_cons_zero,List.eraseIdx_cons_succ,List.take_succ_cons,List.take_zero,List.cons_append,List.nil_append]
           rw [D6 (Fx (by assumption) hin),show Ek (clr i) i (clr i i)=clr i from D6 rfl]
           have Ee:=fun {br ba bg bi bf bt:Nat}{cs:Nat→List Value}=>AEG (b:=b) (ng:=ng) (cg:=cg) (ce:=ce) (cl:=cl) (pg:=pg) (pe:=pe) (pl:=pl) (rh:=⟨some bh,caph,ch2⟩) (br:=br) (ba:=ba) (bg:=bg) (bi:=bi) (bf:=bf) (bt:=bt) (hd:=hd2) (cs:=cs) K z0 z1 hin htn hit hn hN (hclW i)
           refine Wu 8 [3,5,4,6,1,0,2,7] rfl rfl ?_
           simp only [List.cons_append,List.nil_append,List.drop_succ_cons,List.drop_zero]
           refine Aa rfl <| ADq rfl rfl (Mz 1 [8,9,10,7,0] rfl rfl (Ee) rfl ?_)
           rintro _ _ _ ⟨cs'1,rfl,rfl,rfl⟩
           simp only [List.cons_append,List.nil_append]
           refine wk 3 cz ?_
           simp only [List.take_succ_cons,List.take_zero,List.cons_append,List.nil_append]
           refine Br (clr (i+1)) 1 rfl (fun g hg=>by
            by_cases e:g=i
            ·subst e;rw [Bn,nxi,clt,cli]
            ·rw [C0 e,nxt g hg e]) ?_
           refine Pj 8 [6,0,2,1,3,7] [0,7,8,9,1,11,12,13] (by exact Ux rfl) rfl rfl rfl rfl (ihi (i+1,cs'1) (by dsimp only;omega) (by dsimp only;omega))
        ·obtain rfl:i=n:=by omega
         have eF:Hp rws pv.length c=some k:=Zj hk1 (by omega) hz0 hk3
         have eC:N-c=N-(c+1)+1:=by omega
         rw [eC,J9,Ds,eF] at hE1 hE2
         dsimp only at hE1 hE2
         refine wk 7 cz ?_
         intro h5 b7
         refine Aa rfl (F1 (z:=(↑c:Int)) 2 0 3 rfl rfl rfl rfl rfl Cb Er rfl (fun w A hG=>(Dh (by first|(simp only [Bv];omega)|(simp [Bv];done)))) (by omega) _ Hf (by omega) fun r1=>?_)
         refine wk 4 cz ?_
         simp only [List.eraseIdx_cons_zero,List.eraseIdx_cons_succ]
         rw [show Bc pv++[(c:Int)]=Bc (pv++[c]) by simp [Bc]]
         refine Br (Ar (Ka (Ad (fA p m)) (Ad (fM p (Ax m md))) (C3 p m) (Hi p m md) pv.length k c rws)) 1 rfl (fun g hg=>by
          rw [M3 (by omega)]
          show (if _ then _ else if _ then _ else _)=_
          by_cases e:g=pv.length
          ·rw [if_pos e,if_pos e,← hpr,Fa (by omega) (by omega)]
           have:Ar (Cc rws pv.length k) pv.length=Ar rws k:=by
            rw [Fa (by omega) (by omega)]
            split
            ·rename_i e;rw [← e]
            ·rw [if_pos rfl]
           rw [Fa (by omega) (by omega)] at this
           rw [this]
          ·rw [if_neg e,if_neg e,if_pos hg,← hpr]
           have:Ar (Cc rws pv.length k) pv.length=Ar rws k:=by
            rw [Fa (by omega) (by omega)]
            split
            ·rename_i e;rw [← e]
            ·rw [if_pos rfl]
           rw [this]) ?_
         have hpw:=O.piv_wd hM (t:=pv.length) (k:=k) (c:=c) (by omega) (by omega) hz0
         have ih':=ih (c+1,r1,d2,ch2,hd2,cs2,Ka (Ad (fA p m)) (Ad (fM p (Ax m md))) (C3 p m) (Hi p m md) pv.length k c rws,pv++[c]) (by dsimp only;omega) ⟨by dsimp only;omega,by dsimp only;rw [Hh];exact hl,hpw,by dsimp only;rw [List.length_append,List.length_singleton];omega,⟨e0,e1⟩,by dsimp only;rw [List.length_append,List.length_singleton];exact hE1,by dsimp only;rw [List.length_append,List.length_singleton,List.append_assoc];exact hE2⟩
         dsimp only at ih'
         rw [List.length_append,List.length_singleton] at ih'
         refine Pj 7 [0,3,4,5,6] [1,6,0,7,8,9] (by exact Ux rfl) rfl rfl rfl rfl (ih')
       refine Do 6 (pv.length) 0 (W) rfl rfl (by first|assumption|omega) (by first|rfl|assumption|(simp [Ag,Bd];done)|(simp [Ag,Bd];omega)) (by first|assumption|omega) fun r1 hr1=>?_
       simp only [List.take_succ_cons,List.take_zero,List.cons_append,List.nil_append]
       refine Dt 0 rfl (by omega) fun b9 cap9 cs9 h9=>?_
       subst h9
       obtain ⟨dm0,dm1⟩:=FF.ml d' _ d0' d1' a0 a1
       by_cases hv1:((iF (p ^ m) (fM p (Ax m md)) (en rws k c).toNat:Nat):Int)=1
       ·refine wk 1 cz ?_
        (apply E7 it mx 10;(· rfl);(· rfl))
        (apply Ac;(· rfl);(· exact Ca 5 rfl rfl Xo rfl))
        (apply A3 1;(· rfl);(· simp))
        (apply Ac;(· rfl);(· exact Ca 4 rfl rfl H3 rfl))
        (apply Ac;(· rfl);(· exact Ca 1 rfl rfl Ci rfl))
        (apply Ac;(· rfl);(· exact Cf fun _=>Be (pv.length) (pv.length) rfl rfl D5 rfl (by omega) (Nat.mul_one _) An))
        (apply Ac;(· rfl);(· exact F4 6 4 (pv.length) rfl rfl rfl Fb rfl (by assumption)))
        dsimp only
        (apply A3 1;(· rfl);(· simp))
        (apply Ac;(· rfl);(· exact Cf fun _=>Be (c) (c) rfl rfl Cb rfl (by omega) (Nat.mul_one _) An))
        (apply Ac;(· rfl);(· exact Hn 0 0 (c) rfl rfl rfl Ci rfl (by assumption)))
        (apply Ac;(· rfl);(· exact Cf fun _=>Aw [5,6,7] rfl (A8 (by omega) (by omega) (by omega) (by omega)) rfl (by rintro _ _ _ ⟨rfl,rfl,rfl⟩;exact An)))
        refine Eu rfl ?_
        simp only [List.map_cons,List.map_nil,List.cons_append,List.nil_append]
        refine wk 2 cz ?_
        (apply Ga (x0:=none) it mx 0 13 [11] 1;(· rfl);(· rfl);(· rfl);(· decide))
        simp only [List.drop_zero]
        (apply Ac;(· rfl);(· exact Ca 5 rfl rfl Xo rfl))
        (apply Ac;(· rfl);(· exact Ca 4 rfl rfl H3 rfl))
        (apply Ac;(· rfl);(· exact Ca 1 rfl rfl Ci rfl))
        (apply Ac;(· rfl);(· exact Cf fun _=>Be (pv.length) (pv.length) rfl rfl D5 rfl (by omega) (Nat.mul_one _) An))
        (apply Ac;(· rfl);(· exact F4 6 4 (pv.length) rfl rfl rfl Fb rfl (by assumption)))
        dsimp only
        (apply A3 1;(· rfl);(· simp))
        (apply Ac;(· rfl);(· exact Cf fun _=>Be (c) (c) rfl rfl Cb rfl (by omega) (Nat.mul_one _) An))
        (apply Ac;(· rfl);(· exact Hn 0 0 (c) rfl rfl rfl Ci rfl (by assumption)))
        (apply Ac;(· rfl);(· exact Cf fun _=>Aw [5,6,7] rfl (Fi (by omega) (by omega)) rfl (by rintro _ _ _ ⟨rfl,rfl,rfl⟩;exact An)))
        (apply A3 3;(· rfl);(· simp))
        (apply Hk;(· rfl);(· exact zo3);intro b7)
        refine Fl rfl ?_
        (rotate_left;rfl;rotate_right)
        simp only [List.map_cons,List.map_nil,List.cons_append,List.nil_append]
        refine Gq it rfl rfl ⟨⟨_,_,_,_,rfl,rfl,rfl,rfl,rfl,rfl,(by first|trivial|(repeat' first|exact trivial|apply And.intro|omega))⟩,trivial⟩ (Nt 0 rfl rfl rfl rfl Ci rfl (Nat.le_of_ble_eq_true rfl) ?_)
        refine H8 it ⟨⟨_,_,_,_,rfl,rfl,rfl,rfl,rfl,rfl,(by first|trivial|(repeat' first|exact trivial|apply And.intro|omega))⟩,trivial⟩ ?_
        refine wk 13 cz ?_
        intro h5 h6
        simp only [setB,List.set_cons_zero,List.set_cons_succ]
        refine Bu 7 (pv.length) 1 0 1 rfl rfl rfl rfl (by first|assumption|omega) (by first|rfl|assumption|(simp [Ag,Bd];done)|(simp [Ag,Bd];omega)) ?_
        simp only [List.eraseIdx_cons_zero,List.eraseIdx_cons_succ,List.take_succ_cons,List.take_zero,List.cons_append,List.nil_append]
        rw [D6 (Fx hr1 htn)]
        refine Br (Ek (Ar (Cc rws pv.length k)) pv.length (Ct (Ad (fM p (Ax m md))) ((iF (p ^ m) (fM p (Ax m md)) (en rws k c).toNat:Nat):Int) (Ar (Cc rws pv.length k) pv.length))) 0 rfl (fun g hg=>by
         rw [hv1,AE0 FF (hsW _ htn)]) ?_
        refine Pj 7 [1,2,3,4,5,6] [0,5,6,7,8,9] (by exact Ux rfl) rfl rfl rfl rfl (key2 (Ad (fM p (Ax m md)) d' (en rws k c)) ch' hd' (Ek cs' pv.length cs9) dm0 dm1)
       ·refine Am [_,_,_,_,_,_,_] rfl ?_
        (apply E7 it mx 10;(· rfl);(· rfl))
        (apply Ac;(· rfl);(· exact Ca 5 rfl rfl Xo rfl))
        (apply A3 1;(· rfl);(· simp))
        (apply Ac;(· rfl);(· exact Ca 4 rfl rfl H3 rfl))
        (apply Ac;(· rfl);(· exact Ca 1 rfl rfl Ci rfl))
        (apply Ac;(· rfl);(· exact Cf fun _=>Be (pv.length) (pv.length) rfl rfl D5 rfl (by omega) (Nat.mul_one _) An))
        (apply Ac;(· rfl);(· exact F4 6 4 (pv.length) rfl rfl rfl Fb rfl (by assumption)))
        dsimp only
        (apply A3 1;(· rfl);(· simp))
        (apply Ac;(· rfl);(· exact Cf fun _=>Be (c) (c) rfl rfl Cb rfl (by omega) (Nat.mul_one _) An))
        (apply Ac;(· rfl);(· exact Hn 0 0 (c) rfl rfl rfl Ci rfl (by assumption)))
        (apply Ac;(· rfl);(· exact Cf fun _=>Aw [5,6,7] rfl (A8 (by omega) (by omega) (by omega) (by omega)) rfl (by rintro _ _ _ ⟨rfl,rfl,rfl⟩;exact An)))
        refine Eu rfl ?_
        simp only [List.map_cons,List.map_nil,List.cons_append,List.nil_append]
        refine Ae it 1 rfl (by simp) ?_
        refine Am [_,_,_,_,_,_,_,_] rfl ?_
        (apply Ga (x0:=none) it mx 0 13 [11] 1;(· rfl);(· rfl);(· rfl);(· decide))
        simp only [List.drop_zero]
        (apply Ac;(· rfl);(· exact Ca 5 rfl rfl Xo rfl))
        (apply Ac;(· rfl);(· exact Ca 4 rfl rfl H3 rfl))
        (apply Ac;(· rfl);(· exact Ca 1 rfl rfl Ci rfl))
        (apply Ac;(· rfl);(· exact Cf fun _=>Be (pv.length) (pv.length) rfl rfl D5 rfl (by omega) (Nat.mul_one _) An))
        (apply Ac;(· rfl);(· exact F4 6 4 (pv.length) rfl rfl rfl Fb rfl (by assumption)))
        dsimp only
        (apply A3 1;(· rfl);(· simp))
        (apply Ac;(· rfl);(· exact Cf fun _=>Be (c) (c) rfl rfl Cb rfl (by omega) (Nat.mul_one _) An))
        (apply Ac;(· rfl);(· exact Hn 0 0 (c) rfl rfl rfl Ci rfl (by assumption)))
        (apply Ac;(· rfl);(· exact Cf fun _=>Aw [5,6,7] rfl (Fi (by omega) (by omega)) rfl (by rintro _ _ _ ⟨rfl,rfl,rfl⟩;exact An)))
        (apply A3 3;(· rfl);(· simp))
        (apply Hk;(· rfl);(· exact zo3);intro b7)
        refine Fl rfl ?_
        (rotate_left;rfl;rotate_right)
        simp only [List.map_cons,List.map_nil,List.cons_append,List.nil_append]
        refine Gq it rfl rfl ⟨⟨_,_,_,_,rfl,rfl,rfl,rfl,rfl,rfl,(by first|trivial|(repeat' first|exact trivial|apply And.intro|omega))⟩,trivial⟩ (Nt 0 rfl rfl rfl rfl Ci rfl (Nat.le_of_ble_eq_true rfl) ?_)
        refine H8 it ⟨⟨_,_,_,_,rfl,rfl,rfl,rfl,rfl,rfl,(by first|trivial|(repeat' first|exact trivial|apply And.intro|omega))⟩,trivial⟩ ?_
        refine Ae it 1 rfl (by simp) ?_
        refine Am [_,_,_,_,_,_,_,_] rfl ?_
        refine Ae it 3 rfl (by simp) ?_
        refine Bw (t:=89) rfl (fun h5=>?_) (fun h5=>by exfalso;omega)
        refine Bt rfl rfl (Bm 0 rfl rfl Ci rfl ?_)
        refine Ae it 2 rfl (by simp) ?_
        refine Am [_,_,_,_,_,_,_] rfl ?_
        refine Kw rfl rfl (fun h6=>?_) (fun h6=>by exfalso;omega)
        refine Am [_,_,_,_,_,_,_] rfl ?_
        refine Ae it 2 rfl (by simp) ?_ --ok
        simp only [setB,List.set_cons_zero,List.set_cons_succ]
        refine Bu 7 (pv.length) 1 0 1 rfl rfl rfl rfl (by first|assumption|omega) (by first|rfl|assumption|(simp [Ag,Bd];done)|(simp [Ag,Bd];omega)) ?_
        simp only [List.eraseIdx_cons_zero,List.eraseIdx_cons_succ,List.take_succ_cons,List.take_zero,List.cons_append,List.nil_append]
        rw [D6 (Fx hr1 htn),show Ek (Ar (Cc rws pv.length k)) pv.length (Ar (Cc rws pv.length k) pv.length)=Ar (Cc rws pv.length k) from D6 rfl]
        have Ee:=fun {br ba bg bv bt:Nat}{hd:Nat→Hd}{cs:Nat→List Value}=>AEt (b:=b) (ng:=ng) (cg:=cg) (ce:=ce) (cl:=cl) (pg:=pg) (pe:=pe) (pl:=pl) (rh:=⟨some bh,caph,ch'⟩) (br:=br) (ba:=ba) (bg:=bg) (bv:=bv) (bt:=bt) (hd:=hd) (cs:=cs) K v0 v1 htn hn hN hsW
        refine Wu 7 [2,4,3,5,0,1,6] rfl rfl ?_
        simp only [List.cons_append,List.nil_append,List.drop_succ_cons,List.drop_zero]
        refine Aa rfl <| ADq rfl rfl (Mz 1 [6,7,8,5,0] rfl rfl (Ee) rfl ?_)
        rintro _ _ _ ⟨ch'1,hd'1,cs'1,rfl,rfl,rfl⟩
        simp only [List.cons_append,List.nil_append]
        simp only [decide_true]
        refine wk 5 cz ?_
        simp only [List.take_succ_cons,List.take_zero,List.cons_append,List.nil_append]
        refine Pj 7 [5,0,2,1,3,6] [1,6,0,8,9,10] (by exact Ux rfl) rfl rfl rfl rfl (key2 (Ad (fM p (Ax m md)) d' (en rws k c)) ch'1 hd'1 cs'1 dm0 dm1)
      by_cases hkt:k=pv.length
      ·refine Br (Ar (Cc rws pv.length k)) 0 rfl (fun g hg=>by
        rw [Fa (by omega) (by omega),hkt]
        split
        ·rename_i e;rw [e]
        ·rfl) ?_
       refine wk 8 cz ?_
       intro h5 h6
       refine Xt 1 [.c (pL 128159),.blk 1,.c (pL 2003),.lp (pL 500),.blk 0,.c [1,1,1,1,1]] rfl ?_
       refine Pj 7 [1,2,3,4,5,6] [0,5,6,8,9,10] (by exact Ux rfl) rfl rfl rfl rfl (key d ch hd (Ek cs k cs1) hd0 hd1)
      ·have Ee:=fun {br ba:Nat}=>AGr (rh:=⟨some bh,caph,ch⟩) (br:=br) (ba:=ba) (bk:=b5) (bt:=b4) (hd:=hd) (show pv.length<n by omega) hkn hn
       have D2:=fun {b ng cg ne ce nl cl:Nat}{pg pe pl:Option Addr}=>Gr (b:=b) (ng:=ng) (cg:=cg) (ne:=ne) (ce:=ce) (nl:=nl) (cl:=cl) (pg:=pg) (pe:=pe) (pl:=pl) K.p2 K.m1 K.q hd0 hd1
       refine Am [_,_,_,_,_,_,_] rfl ?_
       refine Kj rfl rfl (fun h5=>by exfalso;omega) (fun h5=>?_)
       refine Am [_,_,_,_,_,_,_,_] rfl ?_
       refine Aa rfl (Bm 0 rfl rfl Ci rfl ?_)
       refine Aa rfl (Bm 1 rfl rfl Ci rfl ?_)
       refine Ae it 1 rfl (by simp) ?_
       refine Am [_,_,_,_,_,_,_] rfl ?_
       refine Kw rfl rfl (fun h6=>?_) (fun h6=>by exfalso;omega)
       refine Am [_,_,_,_,_,_,_,_] rfl ?_
       refine Ae it 2 rfl (by simp) ?_
       refine Wu 7 [4,3,0,1,6,2,5] rfl rfl ?_
       simp only [List.drop_succ_cons,List.drop_zero,List.cons_append,List.nil_append]
       refine Aa rfl <| ADq rfl rfl (Y9 5 [5] rfl rfl (Ee) rfl ?_)
       rintro _ _ _ ⟨cs'1,rfl,rfl,rfl⟩
       simp only [List.cons_append,List.nil_append]
       try simp only [List.drop_succ_cons,List.drop_zero]
       have htn:pv.length<n:=hpl
       have hht:=hhd pv.length htn
       have hmb:Bd k [pv.length]=false:=by
        rw [Ag,decide_eq_false hkt];rfl
       refine Do 7 (pv.length) 1 (W) rfl rfl (by first|assumption|omega) (by first|rfl|assumption|(simp [Ag,Bd];done)|(simp [Ag,Bd];omega)) (by first|assumption|omega) fun r1 hr3=>?_
       simp only [List.take_succ_cons,List.take_zero,List.cons_append,List.nil_append]
       refine Do 8 (k) 1 (W) rfl rfl (by first|assumption|omega) (by first|rfl|assumption|(simp [Ag,Bd];done)|(simp [Ag,Bd];omega)) (by first|assumption|omega) fun r2 hr4=>?_
       simp only [List.take_succ_cons,List.take_zero,List.cons_append,List.nil_append]
       refine Bu 8 k 1 2 1 rfl rfl rfl rfl hkn hmb ?_
       simp only [List.eraseIdx_cons_zero,List.eraseIdx_cons_succ,List.take_succ_cons,List.take_zero,List.cons_append,List.nil_append]
       refine Bu 7 pv.length 0 1 0 rfl rfl rfl rfl htn rfl ?_
       simp only [List.eraseIdx_cons_zero,List.eraseIdx_cons_succ,List.take_succ_cons,List.take_zero,List.cons_append,List.nil_append]
       have e1:hd pv.length=(r1.bo,W,r1.cap):=Fx (by assumption) htn
       have e2:hd k=(r2.bo,W,r2.cap):=Fx (by assumption) hkn
       rw [show Ek (Ek hd k (r1.bo,W,r1.cap)) pv.length (r2.bo,W,r2.cap)=Ek (Ek hd pv.length (hd k)) k (hd pv.length) from by
        rw [← e1,← e2]
        funext j
        by_cases g1:j=k
        ·subst g1
         rw [Bn,C0 hkt,Bn]
        ·rw [C0 g1]
         by_cases g2:j=pv.length
         ·rw [g2,Bn,Bn]
         ·rw [C0 g2,C0 g2,C0 g1]]
       refine Br (Ar (Cc rws pv.length k)) 0 rfl (fun g hg=>by
        rw [Fa (by omega) (by omega)]
        by_cases g1:g=k
        ·subst g1
         rw [if_pos rfl,C0 hkt,Bn]
        ·rw [if_neg g1]
         by_cases g2:g=pv.length
         ·rw [if_pos g2,g2,Bn]
         ·rw [if_neg g2,C0 g2,C0 g1]) ?_
       have hnl:=ADd (show 0<p by have:=K.p2;omega) m d.toNat
       refine wk 5 (ct @D2 cz) ?_
       refine Xt 1 [.c (pL 128159),.blk 1,.c (pL 2003),.lp (pL 500),.blk 0,.c [1,1,1,1,1]] rfl ?_
       refine Pj 7 [3,5,1,0,6,4] [0,12,7,15,16,17] (by exact Ux rfl) rfl rfl rfl rfl (key ((nP p m d.toNat:Nat):Int) cs'1 (Ek (Ek hd pv.length (hd k)) k (hd pv.length)) (Ek (Ek (Ek cs k cs1) k r1.cs) pv.length r2.cs) (Int.natCast_nonneg _) (Int.ofNat_lt.2 hnl))
    ·obtain rfl:k=n:=by omega
     have eC:N-c=N-(c+1)+1:=by omega
     have eF:Hp rws pv.length c=none:=AAq fun j h1 h2=>hk3 j h1 (by omega)
     rw [eC,J9,Ds,eF] at hE1 hE2
     refine wk 20 cz ?_
     intro h3 h4
     refine Pj 7 [2,3,4,5,6] [1,2,0,4,5,6] (by exact Ux rfl) rfl rfl rfl rfl (ih (c+1,r,d,ch,hd,cs,rws,pv) (by dsimp only;omega) ⟨by dsimp only;omega,hl,hM,hpv,⟨hd0,hd1⟩,hE1,hE2⟩)
   ·have hpe:rws.length≤pv.length:=by omega
    rw [J9,Lj _ _ _ _ hpe,List.append_nil] at hE2
    rw [J9,Lj _ _ _ _ hpe] at hE1
    refine wk 16 cz ?_
    intro h1 h2
    obtain ⟨E1,E2⟩:=EE
    dsimp only at hE1 hE2
    subst hE1
    subst hE2
    refine Dx 5 [0,4] [0,1,2] rfl (.tmp rfl (.tmp rfl .nil)) rfl rfl rfl ⟨r,ch,hd,cs,d,rfl,rfl,rfl⟩
  ·have e0:N-c=0:=by omega
   rw [e0] at hE1 hE2
   rw [J9,Ds,List.append_nil] at hE2
   rw [J9,Ds] at hE1
   refine wk 12 cz ?_
   intro h1
   obtain ⟨E1,E2⟩:=EE
   dsimp only at hE1 hE2
   subst hE1
   subst hE2
   refine Dx 5 [0,4] [0,1,2] rfl (.tmp rfl (.tmp rfl .nil)) rfl rfl rfl ⟨r,ch,hd,cs,d,rfl,rfl,rfl⟩
theorem Lo {b p m n N ng cg ce cl:Nat}{pg pe pl:Option Addr}{rh:Row}{hd:Nat→Hd}{cs:Nat→List Value}{rows:List (List Int)}{md:List Int}(K:Fok p m md) (hn:n≤1000000) (hN:N≤1000000) (hl:rows.length=n) (hM:Cz (p ^ m) N rows) :
  Bs Tryz.prog 174 [.pointer (some ⟨b,0,none⟩),.slice (ad rh.bo) n rh.cap,.int .i64 N,.slice none 0 0] ((rh.bo,22,rh.cs)::Da 3 hd cs n [])
   [I2 b p m (p ^ m) pg ng cg pe (p ^ m-1) ce pl (p ^ m) cl,Ap Ai pe (p ^ m-1) ce (Jg p m md),Ap Ai pl (p ^ m) cl (Jf p m md),A6 Sd rh n (Iv hd n),Ej Ai hd cs (Ar rows) n []]
   (ElQ rh n (J9 p m md N 0 0 rows)) :=
 Ta K hn (Nat.le_refl N) hN hl hM
abbrev CnQ (E:List (List Int)×List Nat):Value→List Fact→List A2→Prop:=fun v Φ β=>∃ (pb pp:Option Addr) (cb cp:Nat),v = .tuple #[.slice pb E.2.length cb,.slice pp E.2.length cp]
 ∧ Φ=[Ap (Aj Ai) pb E.2.length cb (E.1.take E.2.length),Ap Ai pp E.2.length cp (Bc E.2)]∧β=[]
theorem Vl {A M:Int→Int→Int}{N V:Int→Int}:∀ (n c t:Nat) (rows:List (List Int)),t≤rows.length→t+(Ds A M N V n c t rows).2.length≤rows.length
 | 0,_,_,_,h=>h
 | n+1,c,t,rows,h=>by
  rw [Ds]
  cases hf:Hp rows t c with
  | none=>exact Vl n (c+1) t rows h
  | some k =>
   have h1:=(Pr hf)
   have h2:=Vl (A:=A) (M:=M) (N:=N) (V:=V) n (c+1) (t+1) (Ka A M N V t k c rows) (by rw [Hh];omega)
   rw [Hh] at h2
   show t+(_::_).length≤_
   rw [List.length_cons];omega
theorem R3 {b p m n N c ng cg ce cl:Nat}{pg pe pl ps:Option Addr}{rows:List (List Int)}{md:List Int}(K:Fok p m md) (hn:n≤1000000) (hN:N≤1000000) (hl:rows.length=n) (hM:Cz (p ^ m) N rows) :
  Bs Tryz.prog 135 [.pointer (some ⟨b,0,none⟩),.slice ps n c,.int .i64 N] []
   [I2 b p m (p ^ m) pg ng cg pe (p ^ m-1) ce pl (p ^ m) cl,Ap Ai pe (p ^ m-1) ce (Jg p m md),Ap Ai pl (p ^ m) cl (Jf p m md),Ap (Aj Ai) ps n c rows]
   (CnQ (J9 p m md N 0 0 rows)):=by
 refine Ab (F:=Sh) rfl fun C=>?_
 have Ih:=fun {b ng cg ce cl:Nat}{pg pe pl:Option Addr}{rh:Row}{hd:Nat→Hd}{cs:Nat→List Value}=>Lo (b:=b) (ng:=ng) (cg:=cg) (ce:=ce) (cl:=cl) (pg:=pg) (pe:=pe) (pl:=pl) (rh:=rh) (hd:=hd) (cs:=cs) K hn hN hl hM
 have hEl:(J9 p m md N 0 0 rows).1.length=n:=by rw [J9,Sv,hl]
 have hEk:(J9 p m md N 0 0 rows).2.length≤n:=by
  have:=Vl (A:=Ad (fA p m)) (M:=Ad (fM p (Ax m md))) (N:=C3 p m) (V:=Hi p m md) N 0 0 rows (Nat.zero_le _)
  rw [Nat.zero_add,hl] at this;exact this
 have hEM:Cz (p ^ m) N (J9 p m md N 0 0 rows).1:=((Dc K).elim (m:=N) hM).1
 generalize J9 p m md N 0 0 rows=E at *
 refine Am [_,_] rfl ?_
 refine Ae it 2 rfl (by simp) ?_
 refine Am [_,_] rfl ?_
 refine Ae it 1 rfl (by simp) ?_
 refine Aa rfl (Aw [3] rfl (Sc (by omega)) rfl ?_)
 rintro _ _ _ ⟨r1,hd1,cs1,rfl,rfl,rfl⟩
 simp only [List.cons_append,List.nil_append]
 refine Ae it 1 rfl (by simp) ?_
 refine Am [_,_] rfl ?_
 refine Ae it 3 rfl (by simp) ?_ --ok
 simp only [List.append_nil]
 refine Aa rfl (Mz 0 [2,3,4,0,1] rfl rfl (Ih) rfl ?_)
 rintro _ _ _ ⟨r2,ch'1,hd'1,cs'1,d1,rfl,rfl,rfl⟩
 simp only [List.cons_append,List.nil_append]
 refine Ae it 5 rfl (by simp) ?_
 refine Am [_,_] rfl ?_
 refine Ae it 2 rfl (by simp) ?_
 refine Aa rfl (G6 Cb rfl ?_)
 refine Ae it 1 rfl (by simp) ?_
 refine Aa rfl (G6 Cb rfl ?_) --ok
 simp only [List.take_zero,List.nil_append]
 refine G5 2 rfl fun hlen=>?_
 refine Xd 2 1 1 2 rfl rfl rfl rfl (fun i hi=>by rw [hlen i hi rfl,(hEM.row (by omega)).1];show N*8≤_;omega) ?_
 simp only [List.take_succ_cons,List.take_zero]
 rw [show (List.range n).map (Ar E.1)=E.1 from by
  refine List.ext_getElem (by rw [List.length_map,List.length_range,hEl]) fun i h1 h2=>?_
  rw [List.getElem_map,List.getElem_range,Ar,List.getD_eq_getElem?_getD,List.getElem?_eq_getElem h2];rfl]
 refine D4 1 0 rfl rfl (by show n*24≤140737488355328;omega) ?_
 simp only [List.eraseIdx_cons_zero,List.eraseIdx_cons_succ]
 refine D4 0 2 rfl rfl (by show E.2.length*8≤140737488355328;omega) ?_
 simp only [List.eraseIdx_cons_zero,List.eraseIdx_cons_succ]
 refine Bb 1 rfl fun _ _ hcap=>?_
 refine Aa rfl (Zn 1 (E.snd.length) (E.snd.length) rfl rfl rfl rfl D5 (by omega) (by omega) (by omega) (by omega) (by omega) ?_)
 refine wk 2 cz ?_
 refine Of [0,1] rfl rfl rfl ⟨_,_,_,_,rfl,rfl,rfl⟩
def opE (q:Nat):List (Int×List (List Int))→Int
 | []=>0
 | z::l=>if Uv z.1 z.2 q=0 then opE q l else Uv z.1 z.2 q
theorem ACM {q i:Nat}{l:List (Int×List (List Int))}{z:Int×List (List Int)}(hz:l[i]?=some z):opE q (l.drop i)=if Uv z.1 z.2 q=0 then opE q (l.drop (i+1)) else Uv z.1 z.2 q:=by
 have hi:=(List.getElem?_eq_some_iff.1 hz).1
 have e:l.drop i=z::l.drop (i+1):=by
  rw [List.drop_eq_getElem_cons hi]
  congr 1
  exact (List.getElem?_eq_some_iff.1 hz).2
 rw [e,opE]
theorem St (N:Int) (rows:List (List Int)) (q:Nat):0≤Uv N rows q∧Uv N rows q≤3:=by
 rw [Uv];repeat' split
 all_goals omega
theorem Ez {pm ps:Option Addr}{nm cm n c p m:Nat}{md:List Int}{Ms:List (Int×List (List Int))}(K:Fok p m md) (hR:∀ z∈Ms,Bv .i64 z.1) (h0:opE (p ^ m) Ms=0) :
  Bs Tryz.prog 134 [.agg #[.int .i64 p,.int .i64 m,.slice pm nm cm],.slice ps n c] [] [Ap Ai pm nm cm md,Ap AAM ps n c Ms]
   (fun v Φ β=>∃ b pg cg pe ce pl cl,v = .tuple #[.pointer (some ⟨b,0,none⟩),.int .i64 0]∧Φ=gfL p m md b pg cg pe ce pl cl∧β=[]):=by
 refine Ab (F:=Tl) rfl fun C=>?_
 have hq:=K.q
 have D3:=fun {pm:Option Addr}{nm cm:Nat}=>F5 (pm:=pm) (nm:=nm) (cm:=cm) K
 refine Bb 1 rfl fun hn hb _=>?_
 subst hn
 have hb':Ms.length*32≤140737488355328:=hb
 refine wk 16 (ct @D3 cz) ?_
 intro b1 b2 pg1 cg1 pe1 ce1 pl1 cl1 h1
 refine Ah (X:=Nat) [6,18,19] [0,1,2,3,4,5] (fun i=>[(20,.int .i64 (i:Int))]) (fun _=>[(some b1,24,[.int .i64 p,.int .i64 m,.slice pm nm cm])]) (fun _=>[]) (fun i=>i≤Ms.length∧opE (p ^ m) (Ms.drop i)=0) (fun i=>Ms.length-i) 0 [] rfl rfl rfl ⟨Nat.zero_le _,h0⟩ (by repeat (first|exact Fr.sub_nil _|refine Fr.sub_cons rfl ?_)) rfl rfl ?_
 rintro i ⟨hi,h1⟩ ih
 simp only [List.cons_append,List.nil_append] at hi ih ⊢
 by_cases h9:i<Ms.length
 ·obtain ⟨z,at_z⟩:∃ z,Ms[i]?=some z:=⟨_,List.getElem?_eq_getElem h9⟩
  have hz:=hR z (List.mem_of_getElem? at_z)
  rw [ACM at_z] at h1
  have hz0:Uv z.1 z.2 (p ^ m)=0:=Classical.byContradiction fun h=>by rw [if_neg h] at h1;exact h h1
  rw [if_pos hz0] at h1
  refine wk 21 (ct @L0 cz) ?_
  intro h2 b3 o1 hz1 g1 b4 h3
  refine Ky [false,true] [2,3,4,5,6,7] (by exact Ux rfl) rfl rfl (ih (i+1) (by omega) ⟨by omega,h1⟩)
 ·refine wk 7 cz ?_
  intro h2
  refine Of [0,1,2,3] rfl rfl rfl ⟨_,_,_,_,_,_,_,rfl,rfl,rfl⟩
theorem Wa {pm ps:Option Addr}{nm cm n c p m:Nat}{md:List Int}{Ms:List (Int×List (List Int))}{e:Int}(K:Fok p m md) (hR:∀ z∈Ms,Bv .i64 z.1) (h0:opE (p ^ m) Ms=e) (he:e≠0) :
  Bs Tryz.prog 134 [.agg #[.int .i64 p,.int .i64 m,.slice pm nm cm],.slice ps n c] [] [Ap Ai pm nm cm md,Ap AAM ps n c Ms] (Rv (.tuple #[.pointer none,.int .i64 e]) []):=by
 refine Ab (F:=Tl) rfl fun C=>?_
 have hq:=K.q
 have D3:=fun {pm:Option Addr}{nm cm:Nat}=>F5 (pm:=pm) (nm:=nm) (cm:=cm) K
 refine Bb 1 rfl fun hn hb _=>?_
 subst hn
 have hb':Ms.length*32≤140737488355328:=hb
 refine wk 16 (ct @D3 cz) ?_
 intro b1 b2 pg1 cg1 pe1 ce1 pl1 cl1 h1
 refine Ah (X:=Nat) [6,18,19] [0,1,2,3,4,5] (fun i=>[(20,.int .i64 (i:Int))]) (fun _=>[(some b1,24,[.int .i64 p,.int .i64 m,.slice pm nm cm])]) (fun _=>[]) (fun i=>i≤Ms.length∧opE (p ^ m) (Ms.drop i)=e) (fun i=>Ms.length-i) 0 [] rfl rfl rfl ⟨Nat.zero_le _,h0⟩ (by repeat (first|exact Fr.sub_nil _|refine Fr.sub_cons rfl ?_)) rfl rfl ?_
 rintro i ⟨hi,h1⟩ ih
 simp only [List.cons_append,List.nil_append] at hi ih ⊢
 by_cases h9:i<Ms.length
 ·obtain ⟨z,at_z⟩:∃ z,Ms[i]?=some z:=⟨_,List.getElem?_eq_getElem h9⟩
  have hz:=hR z (List.mem_of_getElem? at_z)
  rw [ACM at_z] at h1
  have hr:=St z.1 z.2 (p ^ m)
  by_cases hz0:Uv z.1 z.2 (p ^ m)=0
  ·rw [if_pos hz0] at h1
   refine wk 21 (ct @L0 cz) ?_
   intro h2 b3 o1 hz1 g1 b4 h3
   refine Ky [false,true] [2,3,4,5,6,7] (by exact Ux rfl) rfl rfl (ih (i+1) (by omega) ⟨by omega,h1⟩)
  ·rw [if_neg hz0] at h1
   subst h1
   refine wk 21 (ct @L0 cz) ?_
   intro h2 b3 o1 hz1 g1 b4 h3
   exact ge
 ·exfalso
  rw [List.drop_of_length_le (by omega)] at h1
  exact he h1.symm
abbrev Dm (p m:Nat) (md:List Int) (n:Nat) (rows:List (List Int)):List (List Int)×List Nat:=S7 (Ad (fA p m)) (Ad (fM p (Ax m md))) (C3 p m) (Hi p m md) n rows
theorem Ro {q N:Nat}{rows:List (List Int)}(hN:N≤256) (hl:rows.length≤256) (hM:Cz q N rows):Uv (N:Int) rows q=0:=by
 rw [Uv,if_neg (by omega),if_neg,if_pos fun r hr x hx=>(hM r hr).2 x hx]
 rintro ⟨r,hr,h⟩
 exact h (by rw [(hM r hr).1])
theorem AEc {q:Nat}{N:Int}{rows:List (List Int)}(h:Uv N rows q=0):∃ n:Nat,N=n∧n≤256∧rows.length≤256∧Cz q n rows:=by
 rw [Uv] at h
 by_cases h1:N<0∨256<N∨256<rows.length
 ·rw [if_pos h1] at h;omega
 rw [if_neg h1] at h
 by_cases h2:∃ r∈rows,(r.length:Int)≠N
 ·rw [if_pos h2] at h;omega
 rw [if_neg h2] at h
 by_cases h3:∀ r∈rows,∀ x∈r,0≤x∧x<(q:Int)
 ·refine ⟨N.toNat,by omega,by omega,by omega,fun r hr=>⟨?_,h3 r hr⟩⟩
  have:=Classical.byContradiction fun h=>h2 ⟨r,hr,h⟩
  omega
 ·rw [if_neg h3] at h;omega
theorem Uj {q:Nat}{z:Int×List (List Int)}{e:Int}(h:Uv z.1 z.2 q=e):opE q [z]=e:=by
 rw [opE,opE]
 split
 ·omega
 ·exact h
abbrev CaQ (N:Nat) (E:List (List Int)×List Nat):Value→List Fact→List A2→Prop:=fun v Φ β=>∃ (pb pp:Option Addr) (cb cp:Nat),v = .tuple #[.agg #[.int .i64 N,.slice pb E.2.length cb],.slice pp E.2.length cp,.int .i64 0]
 ∧ Φ=[Ap (Aj Ai) pb E.2.length cb E.1,Ap Ai pp E.2.length cp (Bc E.2)]∧β=[]
section
variable {p m n c nm cm:Nat}{pm ps:Option Addr}{md:List Int}{rows:List (List Int)}
theorem E8 {N:Nat}(K:Fok p m md) (hN:N≤256) (hl:rows.length≤256) (hM:Cz (p ^ m) N rows) :
  Bs Tryz.prog 111 [.agg #[.int .i64 p,.int .i64 m,.slice pm nm cm],.agg #[.int .i64 N,.slice ps n c]] [] [Ap Ai pm nm cm md,Ap (Aj Ai) ps n c rows] (CaQ N (Dm p m md N rows)):=by
 refine Ab (F:=If) rfl fun C=>?_
 refine Bb 1 rfl fun hn hb _=>?_
 subst hn
 have Cn:=fun {pm ps:Option Addr}{nm cm n c:Nat}=>Ez (pm:=pm) (nm:=nm) (cm:=cm) (ps:=ps) (n:=n) (c:=c) (Ms:=[((N:Int),rows)]) K (fun z hz=>by rw [List.mem_singleton.1 hz];simp only [Bv];omega) (Uj (Ro hN hl hM))
 have Gb:=fun {b ng cg ce cl c:Nat}{pg pe pl ps:Option Addr}=>R3 (b:=b) (ng:=ng) (cg:=cg) (ce:=ce) (cl:=cl) (pg:=pg) (pe:=pe) (pl:=pl) (ps:=ps) (c:=c) (n:=rows.length) (rows:=rows) K (by omega) (show N≤1000000 by omega) rfl hM
 refine Am [_,_] rfl ?_
 refine Aa rfl (Cm rfl fun b1=>?_)
 refine Aa rfl (Cm rfl fun b2=>?_)
 refine Aa rfl (Bk Ha fun b3=>?_)
 refine Ae it 2 rfl (by simp) ?_
 refine Am [_,_] rfl ?_
 refine Aa rfl (A5 2 rfl rfl Hx rfl ?_)
 refine Aa rfl (A5 1 rfl rfl Gd rfl ?_)
 refine Aa rfl (Ix AHU AEi rfl rfl rfl rfl (by decide) (by decide) rfl fun b4=>?_)
 refine Cg (E:=AAM) (n:=1) [[Value.int IntKind.i64 ↑N,Value.slice ps rows.length c]] [((↑N:Int),rows)] 0 (fun w A hG=>(Az (M5 (v1:=[Value.int IntKind.i64 ↑N]) (Dh (by first|(simp only [Bv];omega)|(simp [Bv];done)|assumption)) (A1 (hG _ (Af (n:=1) rfl)))) Bf)) rfl rfl rfl rfl (by first|decide|exact Nat.le_of_ble_eq_true rfl) (by first|decide|exact Nat.le_of_ble_eq_true rfl) ?_
 refine Aa rfl (Aw [1,0] rfl (Cn) rfl ?_)
 rintro _ _ _ ⟨b5,pg1,cg1,pe1,ce1,pl1,cl1,rfl,rfl,rfl⟩
 simp only [List.cons_append,List.nil_append]
 refine Ae it 5 rfl (by simp) ?_
 refine Am [_,_,_] rfl ?_
 refine Ae it 2 rfl (by simp) ?_
 refine Am [_,_] rfl ?_
 refine Kw rfl rfl (fun h1=>by exfalso;omega) (fun h1=>?_)
 refine Am [_,_] rfl ?_
 refine Ae it 1 rfl (by simp) ?_
 refine Aa rfl (Aq rfl Hv ?_)
 refine Aa rfl (Bm 1 rfl rfl H3 rfl ?_)
 refine Aa rfl (Aq rfl I3 ?_)
 refine Aa rfl (Bm 1 rfl rfl Ci rfl ?_)
 refine Aa rfl (Aw [0,2,3,6] rfl (Gb) rfl ?_)
 rintro _ _ _ ⟨pb1,pp1,cb1,cp1,rfl,rfl,rfl⟩
 simp only [List.cons_append,List.nil_append]
 simp only [decide_true]
 refine Ae it 5 rfl (by simp) ?_
 refine Am [_,_] rfl ?_
 refine Aa rfl (Aq rfl I3 ?_)
 refine Aa rfl (Bm 1 rfl rfl Ci rfl ?_)
 refine Ae it 1 rfl (by simp) ?_
 refine Aa rfl (Dq (cs:=[Value.int IntKind.i64 ↑N,Value.slice pb1 (J9 p m md N 0 0 rows).snd.length cb1]) U4 Ha rfl rfl ?_)
 refine Ae it 1 rfl (by simp) ?_
 refine Aa rfl (A7 0 rfl rfl rfl Gd rfl rfl (by simp [Value.oneCell']) ?_)
 refine Ae it 2 rfl (by simp) ?_
 refine Am [_] rfl ?_
 refine Bj [0,1] rfl (.agg 0 rfl rfl Gd rfl (.tmp rfl (.tmp rfl .nil))) rfl ⟨_,_,_,_,rfl,rfl,rfl⟩
theorem P7 {N e:Int}(K:Fok p m md) (hN:Bv .i64 N) (h:Uv N rows (p ^ m)=e) (he:e≠0) :
  Bs Tryz.prog 111 [.agg #[.int .i64 p,.int .i64 m,.slice pm nm cm],.agg #[.int .i64 N,.slice ps n c]] [] [Ap Ai pm nm cm md,Ap (Aj Ai) ps n c rows] (Rv (.tuple #[.agg #[.int .i64 0,.slice none 0 0],.slice none 0 0,.int .i64 e]) []):=by
 refine Ab (F:=If) rfl fun C=>?_
 have hr:=St N rows (p ^ m)
 have Cn:=fun {pm ps:Option Addr}{nm cm n c:Nat}=>Wa (pm:=pm) (nm:=nm) (cm:=cm) (ps:=ps) (n:=n) (c:=c) (Ms:=[(N,rows)]) K (fun z hz=>by rw [List.mem_singleton.1 hz];exact hN) (Uj h) he
 refine wk 9 cz ?_
 intro b1 b2 b3 b4
 refine Cg (E:=AAM) (n:=1) [[Value.int IntKind.i64 N,Value.slice ps n c]] [((N:Int),rows)] 0 (fun w A hG=>(Az (M5 (v1:=[Value.int IntKind.i64 N]) (Dh (by first|(simp only [Bv];omega)|(simp [Bv];done)|assumption)) (A1 (hG _ (Af (n:=1) rfl)))) Bf)) rfl rfl rfl rfl (by first|decide|exact Nat.le_of_ble_eq_true rfl) (by first|decide|exact Nat.le_of_ble_eq_true rfl) ?_
 refine wk 12 (ct @Cn cz) ?_
 intro h1
 refine Bj [] rfl (.agg 0 rfl rfl Gd rfl (.tmp rfl (.tmp rfl .nil))) rfl ⟨rfl,rfl,rfl⟩
theorem Kx {N ns cs':Nat}{pt:Option Addr}{set:List Int}(K:Fok p m md) (hN:N≤256) (hl:rows.length≤256) (hM:Cz (p ^ m) N rows) (hs:set.length≤256) (hst:∀ x∈set,0≤x∧x<(N:Int)) :
  Bs Tryz.prog 104 [.agg #[.int .i64 p,.int .i64 m,.slice pm nm cm],.agg #[.int .i64 N,.slice ps n c],.slice pt ns cs'] [] [Ap Ai pm nm cm md,Ap (Aj Ai) ps n c rows,Ap Ai pt ns cs' set]
   (fun v Φ β=>∃ (pb:Option Addr) (cb:Nat),v = .tuple #[.agg #[.int .i64 (set.length:Nat),.slice pb rows.length cb],.int .i64 0]∧Φ=[Ap (Aj Ai) pb rows.length cb (rows.map fun r=>set.map fun j=>Ba r j.toNat)]∧β=[]):=by
 refine Ab (F:=Xl) rfl fun C=>?_
 refine Bb 1 rfl fun hn hb _=>?_
 subst hn
 refine Bb 2 rfl fun hn hb2 _=>?_
 subst hn
 have Cn:=fun {pm ps:Option Addr}{nm cm n c:Nat}=>Ez (pm:=pm) (nm:=nm) (cm:=cm) (ps:=ps) (n:=n) (c:=c) (Ms:=[((N:Int),rows)]) K (fun z hz=>by rw [List.mem_singleton.1 hz];simp only [Bv];omega) (Uj (Ro hN hl hM))
 refine wk 9 cz ?_
 intro b1 b2 b3 b4
 refine Cg (E:=AAM) (n:=1) [[Value.int IntKind.i64 ↑N,Value.slice ps rows.length c]] [((↑N:Int),rows)] 0 (fun w A hG=>(Az (M5 (v1:=[Value.int IntKind.i64 ↑N]) (Dh (by first|(simp only [Bv];omega)|(simp [Bv];done)|assumption)) (A1 (hG _ (Af (n:=1) rfl)))) Bf)) rfl rfl rfl rfl (by first|decide|exact Nat.le_of_ble_eq_true rfl) (by first|decide|exact Nat.le_of_ble_eq_true rfl) ?_
 refine wk 17 (ct @Cn cz) ?_
 intro b5 pg1 cg1 pe1 ce1 pl1 cl1 h1 h2
 refine Ah (X:=Nat) [2,4,6,33,34] [0,1,2,3,4,5,6,7] (fun i=>[(35,.int .i64 (i:Int))]) (fun _=>[(some b3,62,[.int .i64 0,.slice none 0 0]),(some b2,62,[.int .i64 N,.slice ps rows.length c]),(some b1,24,[.int .i64 p,.int .i64 m,.slice pm nm cm])]) (fun _=>[]) (fun i=>i≤set.length) (fun i=>set.length-i) 0 [] rfl rfl rfl (Nat.zero_le _) (by repeat (first|exact Fr.sub_nil _|refine Fr.sub_cons rfl ?_)) rfl rfl ?_
 rintro i hi ih
 simp only [List.cons_append,List.nil_append] at hi ih ⊢
 by_cases h9:i<set.length
 ·obtain ⟨x,at_x⟩:∃ x,set[i]?=some x:=⟨_,List.getElem?_eq_getElem h9⟩
  obtain ⟨x0,x1⟩:=hst x (List.mem_of_getElem? at_x)
  refine wk 13 cz ?_
  intro h3 b6 o1 hz1 _ r1 r2
  refine Bw (t:=41) rfl (fun h4=>by exfalso;omega) (fun h4=>?_)
  refine wk 9 cz ?_
  intro h5
  exact tw (ih (i+1) (by omega) (by omega))
 ·clear ih
  refine Am [_,_,_,_,_] rfl ?_
  refine Ae it 1 rfl (by simp) ?_
  refine Am [_,_,_,_,_] rfl ?_
  refine Kj rfl rfl (fun h3=>by exfalso;omega) (fun h3=>?_)
  refine Am [_,_] rfl ?_
  refine Ae it 1 rfl (by simp) ?_
  refine Aa rfl (G6 Cb rfl ?_)
  refine Aa rfl (Dq (cs:=[Value.int IntKind.i64 ↑set.length,Value.slice none 0 0]) U4 Ha rfl rfl ?_)
  refine Aa rfl (Bk Ha fun b6=>?_)
  refine Aa rfl (A7 0 rfl rfl rfl Gd rfl rfl (by simp [Value.oneCell']) ?_)
  refine Am [_,_,_] rfl ?_
  refine Aa rfl (Aq rfl Hv ?_)
  refine Aa rfl (Bm 2 rfl rfl H3 rfl ?_)
  refine Aa rfl (G6 D5 rfl ?_)
  refine Ae it 1 rfl (by simp) ?_
  refine Am [_,_,_] rfl ?_
  refine Fz (Aj Ai) 22 ?_
  refine Ah (X:=Nat×Row) [2,6,12,53,54] [0,1,2,3,4,5,6,7,8] (fun x=>[(55,.int .i64 (x.1:Int))]) (fun x=>[(x.2.bo,22,x.2.cs),(some b6,62,[.int .i64 (set.length:Nat),.slice (ad x.2.bo) x.1 x.2.cap]),(some b3,62,[.int .i64 0,.slice none 0 0]),(some b2,62,[.int .i64 N,.slice ps rows.length c]),(some b1,24,[.int .i64 p,.int .i64 m,.slice pm nm cm])]) (fun x=>[A6 (Aj Ai) x.2 x.1 ((rows.take x.1).map fun r=>set.map fun j=>Ba r j.toNat)]) (fun x=>x.1≤rows.length) (fun x=>rows.length-x.1) (0,⟨none,0,[]⟩) [0] rfl rfl rfl (Nat.zero_le _) (by repeat (first|exact Fr.sub_nil _|refine Fr.sub_cons rfl ?_)) rfl rfl ?_
  rintro ⟨k,r⟩ hk ih
  simp only [List.cons_append,List.nil_append] at hk ih ⊢
  by_cases h8:k<rows.length
  ·obtain ⟨u,at_u⟩:∃ u,rows[k]?=some u:=⟨_,List.getElem?_eq_getElem h8⟩
   have hu:=hM u (List.mem_of_getElem? at_u)
   have ih':=fun r=>ih (k+1,r) (by dsimp only;omega) (by dsimp only;omega)
   simp only [List.take_add_one,at_u,Option.toList_some,List.map_append,List.map_cons,List.map_nil] at ih'
   clear ih
   have hTl:(set.map fun j=>Ba u j.toNat).length=set.length:=List.length_map _
   have hTa:∀ (i:Nat) (x:Int),set[i]?=some x→(set.map fun j=>Ba u j.toNat)[i]?=some (Ba u x.toNat):=fun i x h=>by rw [List.getElem?_map,h];rfl
   have hTr:∀ z∈(set.map fun j=>Ba u j.toNat),Bv .i64 z:=fun z hz=>by
    obtain ⟨j,_,rfl⟩:=List.mem_map.1 hz
    have:=Bh (by have:=K.p2;exact Nat.pow_pos (by omega)) hu j.toNat
    have:=K.q
    simp only [Bv];omega
   generalize (set.map fun j=>Ba u j.toNat)=T at *
   refine wk 18 cz ?_
   intro h4 b7 o1 hz1 pa1 ca1 b8
   rw [show Ao .i64 (List.replicate set.length 0)=Al .i64 (T.take 0++List.replicate (set.length-0) 0) by simp [Ao,Al]]
   refine Ah (X:=Nat) [2,6,12,14,15,53,54,55,56,57,58,59,60,61,62,63] [0,1,2,3,4,5,6,7,8,9,10,11] (fun i=>[(64,.int .i64 (i:Int))]) (fun i=>[(some b8,3,Al .i64 (T.take i++List.replicate (set.length-i) 0)),(r.bo,22,r.cs),(some b6,62,[.int .i64 (set.length:Nat),.slice (ad r.bo) k r.cap]),(some b3,62,[.int .i64 0,.slice none 0 0]),(some b2,62,[.int .i64 N,.slice ps rows.length c]),(some b1,24,[.int .i64 p,.int .i64 m,.slice pm nm cm])]) (fun _=>[]) (fun i=>i≤set.length) (fun i=>set.length-i) 0 [] rfl rfl rfl (Nat.zero_le _) (by repeat (first|exact Fr.sub_nil _|refine Fr.sub_cons rfl ?_)) rfl rfl ?_
   rintro i hi ih
   simp only [List.cons_append,List.nil_append] at hi ih ⊢
   by_cases h9:i<set.length
   ·obtain ⟨x,at_x⟩:∃ x,set[i]?=some x:=⟨_,List.getElem?_eq_getElem h9⟩
    obtain ⟨x0,x1⟩:=hst x (List.mem_of_getElem? at_x)
    have hT:=hTa i x at_x
    obtain ⟨x,rfl⟩:=Int.eq_ofNat_of_zero_le x0
    rw [Int.toNat_natCast] at hT
    have hul:=hu.1
    have at_y:u[x]?=some (Ba u x):=by
     rw [Ba,List.getD_eq_getElem?_getD,List.getElem?_eq_getElem (by omega)];rfl
    have ih':=ih (i+1) (by omega) (by omega)
    rw [← take_set hT h9] at ih'
    have hln:(T.take i++List.replicate (set.length-i) 0).length=set.length:=by rw [List.length_append,List.length_take,List.length_replicate];omega
    generalize T.take i++List.replicate (set.length-i) 0=L at *
    refine wk 7 cz ?_
    intro h5 b9 o2 hz2
    refine Aa rfl (Av 0 rfl rfl Ci fun ⟨r1,r2⟩=>?_)
    refine wk 4 cz ?_
    intro b10 o3 hz3
    refine Aa rfl (Av 0 rfl rfl Ci fun ⟨r3,r4⟩=>?_)
    refine wk 5 cz ?_
    exact tw (ih')
   ·obtain rfl:i=set.length:=by omega
    rw [Nat.sub_self,List.replicate_zero,List.append_nil,List.take_of_length_le (by omega)]
    clear ih
    refine wk 3 cz ?_
    refine Bl 0 rfl hTl.symm hTr (by omega) ?_
    refine wk 6 cz ?_
    intro h5 b9
    refine C5 1 0 rfl rfl (by show (set.length)*8≤140737488355328;omega) ?_
    refine Aa rfl (F1 (z:=T) 1 0 4 rfl rfl rfl rfl rfl D5 I5 rfl (fun w A hG=>(A1 (hG _ (Af (n:=0) rfl)))) (by omega) _ Nd (by omega) fun r1=>?_)
    refine wk 5 cz ?_
    refine Ky [true,false,true,true,true,true] [0,6,7,8,9,10,11,12,13,14] (by exact Ux rfl) rfl rfl (ih' r1)
  ·obtain rfl:k=rows.length:=by omega
   rw [List.take_length]
   refine D4 0 0 rfl rfl (by show rows.length*24≤140737488355328;omega) ?_
   refine wk 9 cz ?_
   intro h4
   refine Bj [0] rfl (.agg 1 rfl rfl Gd rfl (.tmp rfl .nil)) rfl ⟨_,_,rfl,rfl,rfl⟩
end
open Go Go.Fw
set_option maxRecDepth 100000
set_option linter.unusedVariables false
set_option linter.unusedSimpArgs false
set_option maxHeartbeats 0
def nvI (N:Int→Int) (n:Nat) (R:List (List Int)) (P:List Nat) (c i:Nat):List Int:=(List.range n).map fun e=>if e=c then 1 else if e∈P.take i then N (en R (P.idxOf e) c) else 0
theorem AIK {N:Int→Int}{n c i:Nat}{R:List (List Int)}{P:List Nat}:(nvI N n R P c i).length=n:=by simp [nvI]
theorem AG6 {N:Int→Int}{n c:Nat}{R:List (List Int)}{P:List Nat}:nvI N n R P c 0=(zW n).set c 1:=by
 refine List.ext_getElem (by simp [nvI,zW]) fun j h1 h2=>?_
 rw [List.getElem_set]
 simp only [nvI,List.getElem_map,List.getElem_range]
 by_cases h:j=c
 ·rw [if_pos h,if_pos h.symm]
 ·rw [if_neg h,if_neg fun (e:c=j)=>h e.symm];simp [zW]
theorem AIy {N:Int→Int}{n c:Nat}{R:List (List Int)}{P:List Nat}:nvI N n R P c P.length=Je N n R P c:=by rw [nvI,Je,List.take_length]
theorem AJr {q:Nat}{N:Int→Int}{n c i a:Nat}{R:List (List Int)}{P:List Nat}(h:Red q n R P) (hc:c∉P) (hi:P[i]?=some a):(nvI N n R P c i).set a (N (en R i c))=nvI N n R P c (i+1):=by
 have ha:=List.mem_of_getElem? hi
 refine List.ext_getElem (by simp [nvI]) fun j h1 h2=>?_
 rw [List.getElem_set]
 simp only [nvI,List.getElem_map,List.getElem_range]
 by_cases e:a=j
 ·subst e
  rw [if_pos rfl,if_neg fun (e:a=c)=>hc (e▸ha),if_pos (List.mem_of_getElem? (i:=i) (by rw [List.getElem?_take,if_pos (by omega),hi])),h.idx hi]
 ·rw [if_neg e]
  by_cases hjc:j=c
  ·rw [if_pos hjc,if_pos hjc]
  ·rw [if_neg hjc,if_neg hjc,List.take_add_one,hi]
   by_cases hm:j∈P.take i
   ·rw [if_pos hm,if_pos (List.mem_append_left _ hm)]
   ·rw [if_neg hm,if_neg]
    intro hm2
    rcases List.mem_append.1 hm2 with h3|h3
    ·exact hm h3
    ·rw [Option.toList_some,List.mem_singleton] at h3;exact e h3.symm
def nvK (N:Int→Int) (n:Nat) (E:List (List Int)×List Nat) (k:Nat):List (List Int):=((List.range k).filter fun c=>decide (c∉E.2)).map (Je N n E.1 E.2)
theorem AHD {N:Int→Int}{n k:Nat}{E:List (List Int)×List Nat}:nvK N n E (k+1)=nvK N n E k++if k∈E.2 then [] else [Je N n E.1 E.2 k]:=by
 rw [nvK,nvK,List.range_succ,List.filter_append,List.map_append]
 congr 1
 by_cases h:k∈E.2 <;> simp [h]
theorem AJa {N:Int→Int}{n k:Nat}{E:List (List Int)×List Nat}:(nvK N n E k).length≤k:=by
 rw [nvK,List.length_map];have:=List.length_filter_le (fun c=>decide (c∉E.2)) (List.range k);rwa [List.length_range] at this
abbrev Kt (p m:Nat) (md:List Int) (n:Nat) (rows:List (List Int)):List (List Int):=Xx (Ad (fA p m)) (Ad (fM p (Ax m md))) (C3 p m) (Hi p m md) n rows
abbrev CnR (E:List (List Int)×List Nat):Value→List Fact→List A2→Prop:=fun v Φ β=>∃ (pb pp:Option Addr) (cb cp:Nat),v = .tuple #[.slice pb E.2.length cb,.slice pp E.2.length cp]
 ∧ Φ=[Ap (Aj Ai) pb E.2.length cb E.1,Ap Ai pp E.2.length cp (Bc E.2)]∧β=[]
theorem Yr {b p m n N c ng cg ce cl:Nat}{pg pe pl ps:Option Addr}{rows:List (List Int)}{md:List Int}(K:Fok p m md) (hn:n≤1000000) (hN:N≤1000000) (hl:rows.length=n) (hM:Cz (p ^ m) N rows) :
  Bs Tryz.prog 135 [.pointer (some ⟨b,0,none⟩),.slice ps n c,.int .i64 N] []
   [I2 b p m (p ^ m) pg ng cg pe (p ^ m-1) ce pl (p ^ m) cl,Ap Ai pe (p ^ m-1) ce (Jg p m md),Ap Ai pl (p ^ m) cl (Jf p m md),Ap (Aj Ai) ps n c rows]
   (CnR (Dm p m md N rows)):=R3 K hn hN hl hM
theorem Ij {p m n c nm cm N:Nat}{pm ps:Option Addr}{md:List Int}{rows:List (List Int)}(K:Fok p m md) (hN:N≤256) (hl:rows.length≤256) (hM:Cz (p ^ m) N rows) :
  Bs Tryz.prog 89 [.agg #[.int .i64 p,.int .i64 m,.slice pm nm cm],.agg #[.int .i64 N,.slice ps n c]] [] [Ap Ai pm nm cm md,Ap (Aj Ai) ps n c rows]
   (fun v Φ β=>∃ (pb:Option Addr) (cb:Nat),v = .tuple #[.agg #[.int .i64 N,.slice pb (Kt p m md N rows).length cb],.int .i64 0]∧Φ=[Ap (Aj Ai) pb (Kt p m md N rows).length cb (Kt p m md N rows)]∧β=[]):=by
 refine Ab (F:=Yj) rfl fun C=>?_
 have O:=Dc K
 have hq:=K.q
 refine Bb 1 rfl fun hn hb _=>?_
 subst hn
 have hb':rows.length*24≤140737488355328:=hb
 have Cn:=fun {pm ps:Option Addr}{nm cm n c:Nat}=>Ez (pm:=pm) (nm:=nm) (cm:=cm) (ps:=ps) (n:=n) (c:=c) (Ms:=[((N:Int),rows)]) K (fun z hz=>by rw [List.mem_singleton.1 hz];simp only [Bv];omega) (Uj (Ro hN hl hM))
 have hN6:N≤1000000:=by omega
 have Gb:=fun {b ng cg ce cl c n:Nat}{pg pe pl ps:Option Addr}{rows:List (List Int)}(hn:n≤1000000) (hl:rows.length=n) (hM:Cz (p ^ m) N rows)=>Yr (b:=b) (ng:=ng) (cg:=cg) (ce:=ce) (cl:=cl) (pg:=pg) (pe:=pe) (pl:=pl) (ps:=ps) (c:=c) (n:=n) (rows:=rows) K hn hN6 hl hM
 have D2:=fun {b ng cg ne ce nl cl:Nat}{pg pe pl:Option Addr}{x:Int}=>Gr (b:=b) (ng:=ng) (cg:=cg) (ne:=ne) (ce:=ce) (nl:=nl) (cl:=cl) (pg:=pg) (pe:=pe) (pl:=pl) (x:=x) K.p2 K.m1 hq
 have hred:Red (p ^ m) N (Dm p m md N rows).1 (Dm p m md N rows).2:=(O.cn hM).1
 have hEl:(Dm p m md N rows).1.length=(Dm p m md N rows).2.length:=O.cn_len hM
 have hnm:Cz (p ^ m) N (nvK (C3 p m) N (Dm p m md N rows) N):=O.nv_mat hred
 have hnl:(Dm p m md N (nvK (C3 p m) N (Dm p m md N rows) N)).1.length=(Dm p m md N (nvK (C3 p m) N (Dm p m md N rows) N)).2.length:=O.cn_len hnm
 have hnk:=fun k=>AJa (N:=C3 p m) (n:=N) (k:=k) (E:=Dm p m md N rows)
 have hng:=fun x (h0:0≤x) (h1:x<((p ^ m:Nat):Int))=>(O.ng x h0 h1).1
 rw [show Kt p m md N rows=(Dm p m md N (nvK (C3 p m) N (Dm p m md N rows) N)).1 from rfl,hnl]
 clear hnl
 refine wk 9 cz ?_
 intro b1 b2 b3 b4
 refine Cg (E:=AAM) (n:=1) [[Value.int IntKind.i64 ↑N,Value.slice ps rows.length c]] [((↑N:Int),rows)] 0 (fun w A hG=>(Az (M5 (v1:=[Value.int IntKind.i64 ↑N]) (Dh (by first|(simp only [Bv];omega)|(simp [Bv];done)|assumption)) (A1 (hG _ (Af (n:=1) rfl)))) Bf)) rfl rfl rfl rfl (by first|decide|exact Nat.le_of_ble_eq_true rfl) (by first|decide|exact Nat.le_of_ble_eq_true rfl) ?_
 refine wk 21 (ct @Cn (ct @Gb cz)) ?_
 intro b5 pg1 cg1 pe1 ce1 pl1 cl1 h1 pb1 pp1 cb1 cp1
 generalize hE:Dm p m md N rows=E at *
 refine Fz (Aj Ai) 22 ?_
 refine Ah (X:=Nat×Row) [3,4,5,6,8,9,36] [0,1,2,3,4,5,6,7,8,9] (fun x=>[(37,.int .i64 (x.1:Int)),(10,.slice (ad x.2.bo) (nvK (C3 p m) N E x.1).length x.2.cap)]) (fun x=>[(x.2.bo,22,x.2.cs),(some b3,62,[.int .i64 0,.slice none 0 0]),(some b2,62,[.int .i64 N,.slice ps rows.length c]),(some b1,24,[.int .i64 p,.int .i64 m,.slice pm nm cm])]) (fun x=>[A6 (Aj Ai) x.2 (nvK (C3 p m) N E x.1).length (nvK (C3 p m) N E x.1)]) (fun x=>x.1≤N) (fun x=>N-x.1) (0,⟨none,0,[]⟩) [0] rfl rfl rfl (Nat.zero_le _) (by repeat (first|exact Fr.sub_nil _|refine Fr.sub_cons rfl ?_)) rfl rfl ?_
 rintro ⟨k,r⟩ hk ih
 simp only [List.cons_append,List.nil_append] at hk ih ⊢
 by_cases h8:k<N
 ·have ih':=fun r=>ih (k+1,r) (by dsimp only;omega) (by dsimp only;omega)
  simp only [AHD] at ih'
  have hnk1:=hnk k
  clear ih
  by_cases hm:k∈E.2
  ·have hd:decide ((k:Int)∈Bc E.2)=true:=decide_eq_true (List.mem_map.2 ⟨k,hm,rfl⟩)
   simp only [if_pos hm,List.append_nil] at ih'
   refine wk 14 (ct @Cl cz) ?_
   intro h2
   exact tw (ih' r)
  ·have hd:decide ((k:Int)∈Bc E.2)=false:=decide_eq_false fun h=>by
    obtain ⟨j,hj,e⟩:=List.mem_map.1 h
    exact hm ((Int.ofNat.inj e)▸hj)
   simp only [if_neg hm,List.length_append,List.length_singleton] at ih'
   refine wk 19 (ct @Cl cz) ?_
   intro h2 b6
   refine Aa rfl (Xh 0 1 rfl rfl rfl Ci (by first|rfl|omega) (by first|omega|(simp;omega)) ?_)
   refine wk 5 cz ?_
   have hx0:Ao .i64 ((List.replicate N 0).set k 1)=Al .i64 (nvI (C3 p m) N E.1 E.2 k 0):=by
    rw [AG6]
    simp [Ao,Al,zW,List.map_set]
   simp only [setB]
   rw [hx0]
   refine Ah (X:=Nat) [3,4,5,6,8,9,10,11,12,36,37,38,39,40,41,42,43,44,45,46,47,48,49,50] [0,1,2,3,4,5,6,7,8,9,10] (fun i=>[(51,.int .i64 (i:Int))]) (fun i=>[(some b6,3,Al .i64 (nvI (C3 p m) N E.1 E.2 k i)),(r.bo,22,r.cs),(some b3,62,[.int .i64 0,.slice none 0 0]),(some b2,62,[.int .i64 N,.slice ps rows.length c]),(some b1,24,[.int .i64 p,.int .i64 m,.slice pm nm cm])]) (fun _=>[]) (fun i=>i≤E.2.length) (fun i=>E.2.length-i) 0 [] rfl rfl rfl (Nat.zero_le _) (by repeat (first|exact Fr.sub_nil _|refine Fr.sub_cons rfl ?_)) rfl rfl ?_
   rintro i hi ih
   simp only [List.cons_append,List.nil_append] at hi ih ⊢
   have hple:=hred.piv_le
   by_cases h9:i<E.2.length
   ·obtain ⟨a,ha⟩:∃ a,E.2[i]?=some a:=⟨_,List.getElem?_eq_getElem h9⟩
    have at_a:(Bc E.2)[i]?=some (a:Int):=by rw [Bc,List.getElem?_map,ha];rfl
    obtain ⟨u,at_u⟩:∃ u,E.1[i]?=some u:=⟨_,List.getElem?_eq_getElem (by omega)⟩
    have hu:=hred.mat u (List.mem_of_getElem? at_u)
    have hul:=hu.1
    have hen:Ba u k=en E.1 i k:=by rw [en,Ar,List.getD_eq_getElem?_getD,at_u];rfl
    have at_y:u[k]?=some (en E.1 i k):=by
     rw [← hen,Ba,List.getD_eq_getElem?_getD,List.getElem?_eq_getElem (by omega)];rfl
    obtain ⟨y0,y1⟩:=hu.2 _ (List.mem_of_getElem? at_y)
    have haN:=hred.ech.lt a (List.mem_of_getElem? ha)
    have ih':=ih (i+1) (by omega) (by omega)
    rw [← AJr hred hm ha] at ih'
    have hln:=AIK (N:=C3 p m) (n:=N) (c:=k) (i:=i) (R:=E.1) (P:=E.2)
    generalize nvI (C3 p m) N E.1 E.2 k i=L at *
    refine wk 7 cz ?_
    intro h3 b7 o1 hz1
    refine Aa rfl (Av 0 rfl rfl Ci fun ⟨r1,r2⟩=>?_)
    refine wk 7 cz ?_
    intro b8 o2 hz2 pa1 ca1 b9 o3 hz3
    refine Aa rfl (Av 0 rfl rfl Ci fun ⟨r3,r4⟩=>?_)
    refine wk 6 (ct @D2 cz) ?_
    exact tw (ih')
   ·obtain rfl:i=E.2.length:=by omega
    rw [AIy]
    clear ih
    have hnw:=O.null_wd hred k
    have hnr:∀ z∈Je (C3 p m) N E.1 E.2 k,Bv .i64 z:=fun z hz=>by
     have:=hnw.2 z hz
     simp only [Bv];omega
    have hnl:(Je (C3 p m) N E.1 E.2 k).length=N:=hnw.1
    generalize Je (C3 p m) N E.1 E.2 k=T at *
    refine wk 3 cz ?_
    refine Bl 0 rfl hnl.symm hnr (by omega) ?_
    refine wk 4 cz ?_
    intro h3 b7
    refine C5 1 0 rfl rfl (by show (N)*8≤140737488355328;omega) ?_
    refine Aa rfl (F1 (z:=T) 1 0 2 rfl rfl rfl rfl rfl D5 I5 rfl (fun w A hG=>(A1 (hG _ (Af (n:=0) rfl)))) (by omega) _ Nd (by omega) fun r1=>?_)
    refine wk 4 cz ?_
    refine Ky [true,false,true,true,true] [0,4,5,6,7,8,9,10,11,12,13] (by exact Ux rfl) rfl rfl (ih' r1)
 ·obtain rfl:k=N:=by omega
  have:=hnk k
  refine D4 0 0 rfl rfl (by show (nvK (C3 p m) k E k).length*24≤140737488355328;omega) ?_
  refine Am [_,_,_,_,_] rfl ?_
  refine Ae it 1 rfl (by simp) ?_
  refine Am [_,_,_,_,_] rfl ?_
  refine Kj rfl rfl (fun h2=>by exfalso;omega) (fun h2=>?_)
  refine Am [_,_] rfl ?_
  refine Ae it 2 rfl (by simp) ?_
  refine Aa rfl (Aq rfl I3 ?_)
  refine Aa rfl (Bm 1 rfl rfl Ci rfl ?_)
  refine Aa rfl (Aw [5,7,8,0] rfl (Gb (by omega) (by omega) (by omega)) rfl ?_)
  rintro _ _ _ ⟨pb2,pp2,cb2,cp2,rfl,rfl,rfl⟩
  simp only [List.cons_append,List.nil_append]
  refine Ae it 4 rfl (by simp) ?_
  refine Am [_,_] rfl ?_
  refine Aa rfl (Aq rfl I3 ?_)
  refine Aa rfl (Bm 1 rfl rfl Ci rfl ?_)
  refine Ae it 1 rfl (by simp) ?_
  refine Aa rfl (Dq (cs:=[Value.int IntKind.i64 ↑k,Value.slice pb2 (Dm p m md k (nvK (C3 p m) k E k)).snd.length cb2]) U4 Ha rfl rfl ?_)
  refine Aa rfl (A7 0 rfl rfl rfl Gd rfl rfl (by simp [Value.oneCell']) ?_)
  refine Ae it 1 rfl (by simp) ?_
  refine Am [_] rfl ?_
  refine Bj [0] rfl (.agg 0 rfl rfl Gd rfl (.tmp rfl .nil)) rfl ⟨_,_,rfl,rfl,rfl⟩
theorem C9 {pl pk:Option Addr}{nl cl nk ck:Nat}{l k:List (List Int)}{res:Bool}(hr:decide (l=k)=res):Bs Tryz.prog 150 [.slice pl nl cl,.slice pk nk ck,.func (.func 151) #[] #[]] [] [Ap (Aj Ai) pl nl cl l,Ap (Aj Ai) pk nk ck k] (Rv (.bool res) []):=by
 refine Ab (F:=Fq) rfl fun C=>?_
 subst hr
 refine Bb 0 rfl fun hn hb _=>?_
 refine Bb 1 rfl fun hn2 hb2 _=>?_
 subst hn
 subst hn2
 have hb':l.length*24≤140737488355328:=hb
 have hb2':k.length*24≤140737488355328:=hb2
 by_cases hl:l.length=k.length
 ·refine wk 15 cz ?_
  intro h1
  refine Ah (X:=Nat) [1,2,15,16] [0,1] (fun i=>[(17,.int .i64 (i:Int))]) (fun _=>[]) (fun _=>[]) (fun i=>i≤l.length∧∀ j,j<i→l[j]?=k[j]?) (fun i=>l.length-i) 0 [] rfl rfl rfl ⟨Nat.zero_le _,fun j h=>by omega⟩ (by repeat (first|exact Fr.sub_nil _|refine Fr.sub_cons rfl ?_)) rfl rfl ?_
  rintro i ⟨hi,hno⟩ ih
  simp only [List.cons_append,List.nil_append] at hi ih ⊢
  by_cases h9:i<l.length
  ·obtain ⟨y,at_y⟩:∃ y,l[i]?=some y:=⟨_,List.getElem?_eq_getElem h9⟩
   obtain ⟨z,at_z⟩:∃ z,k[i]?=some z:=⟨_,List.getElem?_eq_getElem (by omega)⟩
   by_cases h8:y=z
   ·have hd:decide (y=z)=true:=decide_eq_true h8
    refine wk 16 cz ?_
    intro h2 b1 o1 hz1 pa1 ca1 b2 o2 hz2 pa2 ca2
    refine Aa rfl <| ADq rfl rfl (Aw [2,0] rfl (Hr (by omega)) rfl ?_)
    rintro _ _ _ ⟨rfl,rfl,rfl⟩
    simp only [List.cons_append,List.nil_append]
    refine wk 6 cz ?_
    exact tw (ih (i+1) (by omega) ⟨by omega,fun j hj=>by
     rcases Nat.lt_succ_iff_lt_or_eq.1 hj with h|rfl
     ·exact hno j h
     ·rw [at_y,at_z,h8]⟩)
   ·have hd:decide (y=z)=false:=decide_eq_false h8
    rw [decide_eq_false (show l≠k from fun e=>by rw [e,at_z] at at_y;exact h8 (Option.some.inj at_y).symm)]
    refine wk 16 cz ?_
    intro h2 b1 o1 hz1 pa1 ca1 b2 o2 hz2 pa2 ca2
    refine Aa rfl <| ADq rfl rfl (Aw [2,0] rfl (Hr (by omega)) rfl ?_)
    rintro _ _ _ ⟨rfl,rfl,rfl⟩
    simp only [List.cons_append,List.nil_append]
    refine wk 6 cz ?_
    exact ge
  ·rw [decide_eq_true (show l=k from List.ext_getElem? fun j=>by
    by_cases h:j<i
    ·exact hno j h
    ·rw [List.getElem?_eq_none (by omega),List.getElem?_eq_none (by omega)])]
   refine wk 7 cz ?_
   intro h2
   exact ge
 ·rw [decide_eq_false (show l≠k from fun e=>hl (by rw [e]))]
  refine wk 13 cz ?_
  intro h1
  exact ge
theorem O0 {pm:Option Addr}{nm cm p m:Nat}{md:List Int}(K:Fok p m md):Bs Tryz.prog 112 [.agg #[.int .i64 p,.int .i64 m,.slice pm nm cm]] [] [Ap Ai pm nm cm md] (Rv (.int .i64 0) []):=by
 refine Ab (F:=Tj) rfl fun C=>?_
 have F2:=fun {pm:Option Addr}{nm cm:Nat}=>Ju (P:=(p:Int)) (M:=(m:Int)) (pm:=pm) (nm:=nm) (cm:=cm) (md:=md) (res:=true) ⟨fun _=>AEU (Y6 K),fun _=>rfl⟩
 have H1:=Ed K.ord
 have hx:=Up ((M7 K.shp K.pr).2 K)
 have Ft:=fun {nm cm:Nat}{pm:Option Addr}=>I4 (nm:=nm) (cm:=cm) (pm:=pm) K.shp rfl hx.1 hx.2.1 hx.2.2.1 hx.2.2.2
 generalize p ^ m=q at *
 refine wk 4 cz ?_
 intro b1
 (apply E7 it mx 13;(· rfl);(· rfl))
 (apply Ac;(· rfl);(· exact Cy 0 rfl rfl Hx rfl))
 (apply Ac;(· rfl);(· exact Cf fun _=>Aw [0] rfl (F2) rfl (by rintro _ _ _ ⟨rfl,rfl,rfl⟩;exact An)))
 (apply A3 2;(· rfl);(· simp))
 (apply Ac;(· rfl);(· exact Cy 0 rfl rfl Hx rfl))
 (apply Ac;(· rfl);(· exact Cf fun _=>Aq rfl P3 An))
 (apply Ac;(· rfl);(· exact Ca 0 rfl rfl Ci rfl))
 (apply Ac;(· rfl);(· exact Cf fun _=>Aq rfl P1 An))
 (apply Ac;(· rfl);(· exact Ca 0 rfl rfl Ci rfl))
 (apply Ac;(· rfl);(· exact Cf fun _=>Aw [] rfl (H1) rfl (by rintro _ _ _ ⟨rfl,rfl,rfl⟩;exact An)))
 (apply I7 (val:=(fun g=>Value.slice (some { block:=(g 0).snd.fst,off:=(g 1).snd.fst }) (q-1) (g 2).snd.fst)) (f:=(fun g=>[Ap Ai (some { block:=(g 0).snd.fst,off:=(g 1).snd.fst }) (q-1) (g 2).snd.fst (Vc q (fM p (Ax m md)) (gnX q (fM p (Ax m md))))]));(· rfl);(· exact Cf fun _=>Aw [0] rfl (Ft) rfl (by rintro _ _ _ ⟨bg0,og1,cag2,rfl,rfl,rfl⟩;exact fun _ _ _ hG=>⟨(fun|0=>(none,bg0,0,[])|1=>(none,og1,0,[])|2=>(none,cag2,0,[])|_=>default),rfl,fun g hg=>E3 (hG _ (List.mem_append_left _ hg))⟩));intro g1;dsimp only [List.map_cons,List.map_nil])
 (apply Ac;(· rfl);(· exact Cf fun _=>Z8 Cb rfl rfl An))
 (apply A3 1;(· rfl);(· simp))
 refine Eu rfl ?_
 simp only [List.map_cons,List.map_nil,List.cons_append,List.nil_append]
 refine wk 5 cz ?_
 exact ge
theorem Vv {pm:Option Addr}{nm cm:Nat}{P M:Int}{md:List Int}(h:¬ Uz P M md):Bs Tryz.prog 112 [.agg #[.int .i64 P,.int .i64 M,.slice pm nm cm]] [] [Ap Ai pm nm cm md] (Rv (.int .i64 1) []):=by
 refine Ab (F:=Tj) rfl fun C=>?_
 by_cases hs:AHd P M md
 ·obtain ⟨p,m,rfl,rfl,K,hp⟩:=ALf hs
  have hno:∀ y,1≤y→y<p ^ m→¬ Md (p ^ m) (fM p (Ax m md)) y:=fun y h1 h2 h3=>h (Y6 ((M7 K hp).1 ⟨y,h1,h2,h3⟩))
  have F2:=fun {pm:Option Addr}{nm cm:Nat}=>Ju (P:=(p:Int)) (M:=(m:Int)) (pm:=pm) (nm:=nm) (cm:=cm) (md:=md) (res:=true) ⟨fun _=>hs,fun _=>rfl⟩
  have ho:Hw (p:Int) (m:Int)=((p ^ m:Nat):Int):=by rw [Hw,if_pos hs.1,Int.toNat_natCast,Int.toNat_natCast]
  have H1:=Ed ho
  have Ft:=fun {nm cm:Nat}{pm:Option Addr}=>Pq (nm:=nm) (cm:=cm) (pm:=pm) K rfl hno
  generalize p ^ m=q at *
  refine wk 4 cz ?_
  intro b1
  (apply E7 it mx 13;(· rfl);(· rfl))
  (apply Ac;(· rfl);(· exact Cy 0 rfl rfl Hx rfl))
  (apply Ac;(· rfl);(· exact Cf fun _=>Aw [0] rfl (F2) rfl (by rintro _ _ _ ⟨rfl,rfl,rfl⟩;exact An)))
  (apply A3 2;(· rfl);(· simp))
  (apply Ac;(· rfl);(· exact Cy 0 rfl rfl Hx rfl))
  (apply Ac;(· rfl);(· exact Cf fun _=>Aq rfl P3 An))
  (apply Ac;(· rfl);(· exact Ca 0 rfl rfl Ci rfl))
  (apply Ac;(· rfl);(· exact Cf fun _=>Aq rfl P1 An))
  (apply Ac;(· rfl);(· exact Ca 0 rfl rfl Ci rfl))
  (apply Ac;(· rfl);(· exact Cf fun _=>Aw [] rfl (H1) rfl (by rintro _ _ _ ⟨rfl,rfl,rfl⟩;exact An)))
  (apply Ac;(· rfl);(· exact Cf fun _=>Aw [0] rfl (Ft) rfl (by rintro _ _ _ ⟨rfl,rfl,rfl⟩;exact An)))
  (apply Ac;(· rfl);(· exact Cf fun _=>ADh Cb rfl rfl An))
  (apply A3 1;(· rfl);(· simp))
  refine Eu rfl ?_
  simp only [List.map_cons,List.map_nil,List.cons_append,List.nil_append]
  refine wk 5 cz ?_
  exact ge
 ·have F2:=fun {pm:Option Addr}{nm cm:Nat}=>Ju (P:=P) (M:=M) (pm:=pm) (nm:=nm) (cm:=cm) (md:=md) (res:=false) ⟨fun e=>Bool.noConfusion e,fun e=>absurd e hs⟩
  refine wk 10 (ct @F2 cz) ?_
  intro b1
  exact ge
theorem Nf {n e:Int}(h:(if n<1∨64<n then 4 else 0)=e):Bs Tryz.prog 113 [.int .i64 n] [] [] (Rv (.int .i64 e) []):=by
 refine Ab (F:=AAE) rfl fun C=>?_
 by_cases h1:n<1
 ·rw [if_pos (.inl h1)] at h
  subst h
  refine wk 13 cz ?_
  intro h2
  exact ge
 ·by_cases h2:64<n
  ·rw [if_pos (.inr h2)] at h
   subst h
   refine wk 13 cz ?_
   intro h3 h4
   exact ge
  ·rw [if_neg (by omega)] at h
   subst h
   refine wk 13 cz ?_
   intro h3 h4
   exact ge
theorem P5 {P M N:Int}{pm ps:Option Addr}{nm cm n c:Nat}:Bs Tryz.prog 90 [.agg #[.int .i64 P,.int .i64 M,.slice pm nm cm,.int .i64 N,.slice ps n c]] [] [] (Rv (.agg #[.int .i64 N,.slice ps n c]) []):=by
 refine Ab (F:=AEM) rfl fun C=>?_
 refine Am [_,_] rfl ?_
 refine Aa rfl (Cm rfl fun b1=>?_)
 refine Aa rfl (Bk Ha fun b2=>?_)
 refine Am [_,_] rfl ?_
 refine Aa rfl (Aq rfl Jj ?_)
 refine Aa rfl (Bm 1 rfl rfl Ci rfl ?_)
 refine Aa rfl (Aq rfl Rt ?_)
 refine Aa rfl (Bm 1 rfl rfl H3 rfl ?_)
 refine Aa rfl (Dq (cs:=[Value.int IntKind.i64 N,Value.slice ps n c]) U4 Ha rfl rfl ?_)
 refine Aa rfl (A7 0 rfl rfl rfl Gd rfl rfl (by simp [Value.oneCell']) ?_)
 refine Am [_] rfl ?_
 refine Bj [] rfl (.agg 0 rfl rfl Gd rfl .nil) rfl ⟨rfl,rfl,rfl⟩
section
variable {p m n c nm cm:Nat}{pm ps:Option Addr}{md:List Int}{rows:List (List Int)}
noncomputable abbrev OpQ (p m:Nat) (md:List Int) (N:Nat) (rows:List (List Int)) (ps:Option Addr) (c:Nat):Value→List Fact→List A2→Prop:=fun v Φ β=>∃ (b:Nat) (pg:Option Addr) (cg:Nat) (pe:Option Addr) (ce:Nat) (pl:Option Addr) (cl:Nat) (pp:Option Addr) (cp:Nat),
 v = .tuple #[.agg #[.pointer (some ⟨b,0,none⟩),.int .i64 N,.slice ps rows.length c,.slice pp (Dm p m md N rows).2.length cp],.int .i64 0]
 ∧ Φ=Ap Ai pp (Dm p m md N rows).2.length cp (Bc (Dm p m md N rows).2)::gfL p m md b pg cg pe ce pl cl∧β=[]
theorem Ko {N:Nat}(K:Fok p m md) (hN:N≤256) (hl:rows.length≤256) (hM:Cz (p ^ m) N rows) (hc:(Dm p m md N rows).1=rows) :
  Bs Tryz.prog 107 [.agg #[.int .i64 p,.int .i64 m,.slice pm nm cm],.agg #[.int .i64 N,.slice ps n c]] [] [Ap Ai pm nm cm md,Ap (Aj Ai) ps n c rows] (OpQ p m md N rows ps c):=by
 refine Ab (F:=P4) rfl fun C=>?_
 refine Bb 1 rfl fun hn hb _=>?_
 subst hn
 have hb':rows.length*24≤140737488355328:=hb
 have D3:=fun {pm:Option Addr}{nm cm:Nat}=>F5 (pm:=pm) (nm:=nm) (cm:=cm) K
 have Bp:=fun {pm ps:Option Addr}{nm cm n c:Nat}=>E8 (pm:=pm) (nm:=nm) (cm:=cm) (ps:=ps) (n:=n) (c:=c) (rows:=rows) K hN hl hM
 have hd:decide ((Dm p m md N rows).1=rows)=true:=decide_eq_true hc
 refine Am [_,_] rfl ?_
 refine Aa rfl (Cm rfl fun b1=>?_)
 refine Aa rfl (Cm rfl fun b2=>?_)
 refine Aa rfl (Bk AJ0 fun b3=>?_)
 refine Ae it 1 rfl (by simp) ?_
 refine Am [_,_] rfl ?_
 refine Aa rfl (A5 2 rfl rfl Hx rfl ?_)
 refine Aa rfl (A5 1 rfl rfl Gd rfl ?_)
 refine Aa rfl (Aw [0,1] rfl (Bp) rfl ?_)
 rintro _ _ _ ⟨pb1,pp1,cb1,cp1,rfl,rfl,rfl⟩
 simp only [List.cons_append,List.nil_append]
 refine Ae it 4 rfl (by simp) ?_
 refine Aa rfl (Bk Ha fun b4=>?_)
 refine Aa rfl (A7 0 rfl rfl rfl Gd rfl rfl (by simp [Value.oneCell']) ?_)
 refine Ae it 2 rfl (by simp) ?_
 refine Am [_,_,_] rfl ?_
 refine Ae it 2 rfl (by simp) ?_
 refine Am [_,_] rfl ?_
 refine Kw rfl rfl (fun h1=>by exfalso;omega) (fun h1=>?_)
 refine Am [_,_,_] rfl ?_
 refine Aa rfl (Aq rfl Hv ?_)
 refine Aa rfl (Bm 0 rfl rfl H3 rfl ?_)
 refine Aa rfl (Aq rfl Hv ?_)
 refine Aa rfl (Bm 2 rfl rfl H3 rfl ?_)
 refine Aa rfl (Aw [0,3] rfl (C9 (by omega)) rfl ?_)
 rintro _ _ _ ⟨rfl,rfl,rfl⟩
 simp only [List.cons_append,List.nil_append]
 simp only [decide_true]
 refine Ae it 1 rfl (by simp) ?_
 refine Am [_,_] rfl ?_
 refine My rfl rfl ?_
 refine Am [_,_] rfl ?_
 refine Aa rfl (A5 3 rfl rfl Hx rfl ?_)
 refine Aa rfl (Aw [2] rfl (D3) rfl ?_)
 rintro _ _ _ ⟨b5,pg1,cg1,pe1,ce1,pl1,cl1,rfl,rfl,rfl⟩
 simp only [List.cons_append,List.nil_append]
 refine Ae it 5 rfl (by simp) ?_
 refine Am [_,_] rfl ?_
 refine Ae it 1 rfl (by simp) ?_
 refine Aa rfl (A5 2 rfl rfl Gd rfl ?_)
 refine Ae it 1 rfl (by simp) ?_
 refine Aa rfl (Dq (cs:=[Value.pointer (some { block:=b5,off:=0 }),Value.int IntKind.i64 ↑N,Value.slice ps rows.length c,Value.slice pp1 (Dm p m md N rows).snd.length cp1]) AMq AJ0 rfl rfl ?_)
 refine Ae it 1 rfl (by simp) ?_
 refine Aa rfl (A7 1 rfl rfl rfl Zr rfl rfl (by simp [Value.oneCell']) ?_)
 refine Ae it 1 rfl (by simp) ?_
 refine Am [_] rfl ?_
 refine Bj [5,0,1,2,3] rfl (.agg 1 rfl rfl Zr rfl (.tmp rfl .nil)) rfl ⟨_,_,_,_,_,_,_,_,_,rfl,rfl,rfl⟩
theorem Wf {N:Nat}(K:Fok p m md) (hN:N≤256) (hl:rows.length≤256) (hM:Cz (p ^ m) N rows) (hc:(Dm p m md N rows).1≠rows) :
  Bs Tryz.prog 107 [.agg #[.int .i64 p,.int .i64 m,.slice pm nm cm],.agg #[.int .i64 N,.slice ps n c]] [] [Ap Ai pm nm cm md,Ap (Aj Ai) ps n c rows] (Rv (.tuple #[.agg #[.pointer none,.int .i64 0,.slice none 0 0,.slice none 0 0],.int .i64 5]) []):=by
 refine Ab (F:=P4) rfl fun C=>?_
 refine Bb 1 rfl fun hn hb _=>?_
 subst hn
 have hb':rows.length*24≤140737488355328:=hb
 have Bp:=fun {pm ps:Option Addr}{nm cm n c:Nat}=>E8 (pm:=pm) (nm:=nm) (cm:=cm) (ps:=ps) (n:=n) (c:=c) (rows:=rows) K hN hl hM
 have hd:decide ((Dm p m md N rows).1=rows)=false:=decide_eq_false hc
 refine wk 31 (ct @Bp (ct @C9 cz)) ?_
 intro b1 b2 b3 pb1 pp1 cb1 cp1 b4 h1
 refine Bj [] rfl (.agg 1 rfl rfl Zr rfl (.tmp rfl .nil)) rfl ⟨rfl,rfl,rfl⟩
theorem Wo {N e:Int}(K:Fok p m md) (hN:Bv .i64 N) (h:Uv N rows (p ^ m)=e) (he:e≠0) :
  Bs Tryz.prog 107 [.agg #[.int .i64 p,.int .i64 m,.slice pm nm cm],.agg #[.int .i64 N,.slice ps n c]] [] [Ap Ai pm nm cm md,Ap (Aj Ai) ps n c rows] (Rv (.tuple #[.agg #[.pointer none,.int .i64 0,.slice none 0 0,.slice none 0 0],.int .i64 e]) []):=by
 refine Ab (F:=P4) rfl fun C=>?_
 have hr:=St N rows (p ^ m)
 have Bp:=fun {pm ps:Option Addr}{nm cm n c:Nat}=>P7 (pm:=pm) (nm:=nm) (cm:=cm) (ps:=ps) (n:=n) (c:=c) (rows:=rows) K hN h he
 refine wk 23 (ct @Bp cz) ?_
 intro b1 b2 b3 b4 h1
 refine Bj [] rfl (.agg 1 rfl rfl Zr rfl (.tmp rfl .nil)) rfl ⟨rfl,rfl,rfl⟩
def spE (p m:Nat) (md:List Int) (N:Int) (rows:List (List Int)):Int:=if Uv N rows (p ^ m)≠0 then Uv N rows (p ^ m) else if (Dm p m md N.toNat rows).1=rows then 0 else 5
theorem AA1 {N e:Int}(K:Fok p m md) (hN:Bv .i64 N) (h:spE p m md N rows=e) :
  Bs Tryz.prog 114 [.agg #[.int .i64 p,.int .i64 m,.slice pm nm cm],.agg #[.int .i64 N,.slice ps n c]] [] [Ap Ai pm nm cm md,Ap (Aj Ai) ps n c rows] (Rv (.int .i64 e) []):=by
 refine Ab (F:=AA5) rfl fun C=>?_
 have hr:=St N rows (p ^ m)
 refine Bb 1 rfl fun hn hb _=>?_
 subst hn
 rw [spE] at h
 by_cases h0:Uv N rows (p ^ m)=0
 ·rw [if_neg (by omega)] at h
  obtain ⟨k,rfl,hk,hl,hM⟩:=AEc h0
  rw [Int.toNat_natCast] at h
  by_cases hc:(Dm p m md k rows).1=rows
  ·rw [if_pos hc] at h
   subst h
   have Eb:=fun {pm ps:Option Addr}{nm cm n c:Nat}=>Ko (pm:=pm) (nm:=nm) (cm:=cm) (ps:=ps) (n:=n) (c:=c) (rows:=rows) K hk hl hM hc
   refine wk 15 (ct @Eb cz) ?_
   intro b1 b2 b3 pg1 cg1 pe1 ce1 pl1 cl1 pp1 cp1 b4
   exact ge
  ·rw [if_neg hc] at h
   subst h
   have Eb:=fun {pm ps:Option Addr}{nm cm n c:Nat}=>Wf (pm:=pm) (nm:=nm) (cm:=cm) (ps:=ps) (n:=n) (c:=c) (rows:=rows) K hk hl hM hc
   refine wk 15 (ct @Eb cz) ?_
   intro b1 b2 b3
   exact ge
 ·rw [if_pos h0] at h
  subst h
  have Eb:=fun {pm ps:Option Addr}{nm cm n c:Nat}=>Wo (pm:=pm) (nm:=nm) (cm:=cm) (ps:=ps) (n:=n) (c:=c) (rows:=rows) K hN rfl h0
  refine wk 15 (ct @Eb cz) ?_
  intro b1 b2 b3
  exact ge
end
noncomputable def Pe (P M:Int) (md:List Int) (N:Int) (rows:List (List Int)):Int :=
 open Classical in if ¬ Uz P M md then 1 else if N<1∨64<N then 4 else spE P.toNat M.toNat md N rows
theorem D0 {P M N e:Int}{pm ps:Option Addr}{nm cm n c:Nat}{md:List Int}{rows:List (List Int)}(hN:Bv .i64 N) (h:Pe P M md N rows=e) :
  Bs Tryz.prog 64 [.agg #[.int .i64 P,.int .i64 M,.slice pm nm cm,.int .i64 N,.slice ps n c]] [] [Ap Ai pm nm cm md,Ap (Aj Ai) ps n c rows] (Rv (.int .i64 e) []):=by
 refine Ab (F:=AB4) rfl fun C=>?_
 rw [Pe] at h
 by_cases hc:Uz P M md
 ·rw [if_neg (fun h=>h hc)] at h
  obtain ⟨p,m,rfl,rfl,K⟩:=ABC hc
  rw [Int.toNat_natCast,Int.toNat_natCast] at h
  have Gy:=fun {pm:Option Addr}{nm cm:Nat}=>O0 (pm:=pm) (nm:=nm) (cm:=cm) K
  by_cases h1:N<1∨64<N
  ·rw [if_pos h1] at h
   subst h
   have H2:=Nf (n:=N) (if_pos h1)
   refine wk 22 (ct @Gy (ct @H2 cz)) ?_
   intro b1 h2 h3
   exact ge
  ·rw [if_neg h1] at h
   have H2:=Nf (n:=N) (if_neg h1)
   have AAW:=fun {pm ps:Option Addr}{nm cm n c:Nat}=>AA1 (pm:=pm) (nm:=nm) (cm:=cm) (ps:=ps) (n:=n) (c:=c) (rows:=rows) K hN h
   refine wk 23 (ct @Gy (ct @H2 (ct @P5 (ct @AAW cz)))) ?_
   intro b1 h2 h3
   exact ge
 ·rw [if_pos hc] at h
  subst h
  have Gy:=fun {pm:Option Addr}{nm cm:Nat}=>Vv (pm:=pm) (nm:=nm) (cm:=cm) hc
  refine wk 13 (ct @Gy cz) ?_
  intro b1 h1
  exact ge
structure Cok (p m:Nat) (md:List Int) (n:Nat) (rows:List (List Int)):Prop where
 K:Fok p m md
 n1:1≤n
 n64:n≤64
 mat:Cz (p ^ m) n rows
 can:(Dm p m md n rows).1=rows
theorem Cok.red {p m n:Nat}{md:List Int}{rows:List (List Int)}(h:Cok p m md n rows):Red (p ^ m) n rows (Dm p m md n rows).2∧rows.length=(Dm p m md n rows).2.length:=by
 have O:=Dc h.K
 have h1:Red (p ^ m) n (Dm p m md n rows).1 (Dm p m md n rows).2:=(O.cn h.mat).1
 have h2:(Dm p m md n rows).1.length=(Dm p m md n rows).2.length:=O.cn_len h.mat
 rw [h.can] at h1 h2
 exact ⟨h1,h2⟩
theorem Cok.len {p m n:Nat}{md:List Int}{rows:List (List Int)}(h:Cok p m md n rows):rows.length≤64:=by
 obtain ⟨h1,h2⟩:=h.red
 have:=h1.piv_le
 have:=h.n64
 omega
theorem AAa {P M N:Int}{md:List Int}{rows:List (List Int)}(h:Pe P M md N rows=0):∃ p m n:Nat,P=p∧M=m∧N=n∧Cok p m md n rows:=by
 rw [Pe] at h
 by_cases hc:Uz P M md
 ·rw [if_neg (fun h=>h hc)] at h
  obtain ⟨p,m,rfl,rfl,K⟩:=ABC hc
  rw [Int.toNat_natCast,Int.toNat_natCast] at h
  by_cases h1:N<1∨64<N
  ·rw [if_pos h1] at h;omega
  ·rw [if_neg h1,spE] at h
   by_cases h0:Uv N rows (p ^ m)=0
   ·rw [if_neg (by omega)] at h
    obtain ⟨k,rfl,hk,hl,hM⟩:=AEc h0
    rw [Int.toNat_natCast] at h
    by_cases hcn:(Dm p m md k rows).1=rows
    ·exact ⟨p,m,k,rfl,rfl,rfl,K,by omega,by omega,hM,hcn⟩
    ·rw [if_neg hcn] at h;omega
   ·rw [if_pos h0] at h;omega
 ·rw [if_pos hc] at h;omega
theorem Cok.ck {p m n:Nat}{md:List Int}{rows:List (List Int)}(h:Cok p m md n rows):Pe p m md n rows=0:=by
 have hl:=h.len
 have h1:=h.n1
 have h2:=h.n64
 rw [Pe,if_neg (fun e=>e (Y6 h.K)),if_neg (by omega),Int.toNat_natCast,Int.toNat_natCast,spE,Ro (by omega) (by omega) h.mat,if_neg (by omega),Int.toNat_natCast,if_pos h.can]
theorem Pt (P M:Int) (md:List Int) (N:Int) (rows:List (List Int)):0≤Pe P M md N rows∧Pe P M md N rows≤5:=by
 rw [Pe]
 split
 ·omega
 ·split
  ·omega
  ·have:=St N rows (P.toNat ^ M.toNat)
   rw [spE]
   repeat' split
   all_goals omega
open Go Go.Fw
set_option maxRecDepth 100000
set_option linter.unusedVariables false
set_option linter.unusedSimpArgs false
set_option maxHeartbeats 0
theorem AAX {b p m n ng cg ce cl nv cv:Nat}{pg pe pl pv:Option Addr}{r:Row}{c:Int}{u v md:List Int}(K:Fok p m md) (c0:0≤c) (c1:c<((p ^ m:Nat):Int)) (hu:Wd (p ^ m) n u) (hv:Wd (p ^ m) n v) (hn:n≤1000000) :
  Bs Tryz.prog 179 [.pointer (some ⟨b,0,none⟩),.slice (ad r.bo) n r.cap,.int .i64 c,.slice pv nv cv] [(r.bo,3,r.cs)] [I2 b p m (p ^ m) pg ng cg pe (p ^ m-1) ce pl (p ^ m) cl,Ap Ai pe (p ^ m-1) ce (Jg p m md),Ap Ai pl (p ^ m) cl (Jf p m md),A6 Ai r n u,Ap Ai pv nv cv v]
   (fun w Φ β=>∃ cs',w = .tuple #[]∧Φ=[A6 Ai ⟨r.bo,r.cap,cs'⟩ n (Ey (Ad (fA p m)) (Ad (fM p (Ax m md))) c v u)]∧β=[(r.bo,3,cs')]):=by
 refine Ab (F:=V9) rfl fun C=>?_
 have FF:=K.fi
 have A8:=fun {b ng cg ce cl:Nat}{pg pe pl:Option Addr}{x y:Int}=>C1 (b:=b) (ng:=ng) (cg:=cg) (ce:=ce) (cl:=cl) (pg:=pg) (pe:=pe) (pl:=pl) (x:=x) (y:=y) K
 have Bq:=fun {b ng cg ne ce nl cl:Nat}{pg pe pl:Option Addr}{x y:Int}=>De (b:=b) (ng:=ng) (cg:=cg) (ne:=ne) (ce:=ce) (nl:=nl) (cl:=cl) (pg:=pg) (pe:=pe) (pl:=pl) (x:=x) (y:=y) K.p2 K.m1 K.q
 have hq:=K.q
 have hax:=FF.axw c0 c1 hv hu
 generalize Ad (fM p (Ax m md))=M at *
 generalize Ad (fA p m)=A0 at *
 generalize Jg p m md=ex at *
 generalize Jf p m md=lg at *
 generalize p ^ m=q at *
 obtain ⟨bo,cap,cs⟩:=r
 dsimp only
 have hul:=hu.1
 have hvl:=hv.1
 have hal:=hax.1
 refine Bb 4 rfl fun hnv hbv _=>?_
 rw [hvl] at hnv
 have hnv:=hnv.symm
 subst hnv
 rcases Nat.eq_zero_or_pos n with hn0|hn0
 ·subst hn0
  obtain rfl:=List.length_eq_zero_iff.1 hul
  obtain rfl:=List.length_eq_zero_iff.1 hvl
  refine wk 5 cz ?_
  refine Ah (X:=Unit) [0,1,2,10,11] [0,1,2,3,4] (fun _=>[(12,.int .i64 0)]) (fun _=>[(bo,3,cs)]) (fun _=>[]) (fun _=>True) (fun _=>0) () [] rfl rfl rfl trivial (by repeat (first|exact Fr.sub_nil _|refine Fr.sub_cons rfl ?_)) rfl rfl ?_
  rintro ⟨⟩-ih
  simp only [List.cons_append,List.nil_append] at ih ⊢
  refine wk 5 cz ?_
  intro h1
  refine Co [3] rfl rfl ⟨_,rfl,rfl,rfl⟩
 refine Dt 3 rfl hn0 fun b9 cap9 cs9 hr=>?_
 obtain ⟨rfl,rfl,rfl⟩:=Row.mk.inj hr
 refine wk 5 cz ?_
 refine Ah (X:=Nat×List Value) [0,1,2,10,11] [0,1,2,3,4] (fun x=>[(12,.int .i64 (x.1:Int))]) (fun x=>[(some b9,3,x.2)])
  (fun x=>[A6 Ai ⟨some b9,cap,x.2⟩ n ((Ey A0 M c v u).take x.1++u.drop x.1)]) (fun x=>x.1≤n) (fun x=>n-x.1) (0,cs) [3] rfl rfl rfl (Nat.zero_le _) (by repeat (first|exact Fr.sub_nil _|refine Fr.sub_cons rfl ?_)) rfl rfl ?_
 rintro ⟨k,cs⟩ hk ih
 simp only [List.cons_append,List.nil_append] at hk ih ⊢
 by_cases hkl:k<n
 ·obtain ⟨x,at_x⟩:∃ x,v[k]?=some x:=⟨_,List.getElem?_eq_getElem (by omega)⟩
  obtain ⟨y,hy⟩:∃ y,u[k]?=some y:=⟨_,List.getElem?_eq_getElem (by omega)⟩
  obtain ⟨x0,x1⟩:=hv.2 x (List.mem_of_getElem? at_x)
  obtain ⟨y0,y1⟩:=hu.2 y (List.mem_of_getElem? hy)
  have hT:(Ey A0 M c v u)[k]?=some (A0 y (M c x)):=by rw [Ey,List.getElem?_zipWith,hy,at_x]
  have hL:=(ABJ hal hul hkl).trans hy
  have hset:=Zz hal hul hkl hT
  have hLl:((Ey A0 M c v u).take k++u.drop k).length=n:=by rw [List.length_append,List.length_take,List.length_drop];omega
  have ih':=fun cs=>ih (k+1,cs) (by dsimp only;omega) (by dsimp only;omega)
  dsimp only at ih'
  rw [← hset] at ih'
  obtain ⟨m0,m1⟩:=FF.ml c x c0 c1 x0 x1
  generalize (Ey A0 M c v u).take k++u.drop k=L at *
  by_cases h0:x=0
  ·have e0:L.set k (A0 y (M c x))=L:=by
    have:A0 y (M c x)=y:=by rw [h0,FF.m0 c0 c1,FF.a0 y y0 y1]
    rw [this]
    obtain ⟨h1,h2⟩:=List.getElem?_eq_some_iff.1 hL
    rw [← h2,List.set_getElem_self]
   rw [e0] at ih'
   refine wk 7 cz ?_
   intro h1 b1 o1 hz1
   refine Aa rfl (Av 0 rfl rfl Ci fun ⟨r1,r2⟩=>?_)
   refine wk 8 cz ?_
   intro h2
   exact tw (ih' cs)
  ·obtain ⟨a0,a1⟩:=FF.al y (M c x) y0 y1 m0 m1
   refine wk 7 cz ?_
   intro h1 b1 o1 hz1
   refine Aa rfl (Av 0 rfl rfl Ci fun ⟨r1,r2⟩=>?_)
   refine wk 7 (ct @A8 (ct @Bq cz)) ?_
   intro h2
   refine Aa rfl (G4 (vs:=[Value.int IntKind.i64 (A0 y (M c x))]) (z:=(A0 y (M c x):Int)) 0 1 (k) rfl rfl rfl rfl rfl Ci (Nat.mul_one _).symm (by omega) (fun w A hG=>(Dh (by first|(simp only [Bv];omega)|(simp [Bv];done)))) fun cs1=>?_)
   refine wk 3 cz ?_
   exact tw (ih' cs1)
 ·obtain rfl:n=k:=by omega
  rw [List.take_of_length_le (by omega),List.drop_of_length_le (by omega),List.append_nil]
  refine wk 5 cz ?_
  intro h1
  refine Co [0] rfl rfl ⟨_,rfl,rfl,rfl⟩
theorem AGh {A M:Int→Int→Int}{x:List Int}{rows:List (List Int)}{i:Nat}{a:Int}{r u:List Int}(hx:x[i]?=some a) (hr:rows[i]?=some r):Ps A M (x.drop i) (rows.drop i) u=Ps A M (x.drop (i+1)) (rows.drop (i+1)) (if a=0 then u else Ey A M a r u):=by
 obtain ⟨h1,rfl⟩:=List.getElem?_eq_some_iff.1 hx
 obtain ⟨h2,rfl⟩:=List.getElem?_eq_some_iff.1 hr
 rw [List.drop_eq_getElem_cons h1,List.drop_eq_getElem_cons h2,Ps]
theorem AHA {A M:Int→Int→Int}{x:List Int}{rows:List (List Int)}{i:Nat}{u:List Int}(h:x.length≤i):Ps A M (x.drop i) (rows.drop i) u=u:=by
 rw [List.drop_of_length_le h,Ps];intros;contradiction
abbrev cbP (p m:Nat) (md:List Int) (n:Nat) (x:List Int) (rows:List (List Int)):List Int:=Yl (Ad (fA p m)) (Ad (fM p (Ax m md))) n x rows
theorem ABT {b p m ng cg ce cl nx cx n c N:Nat}{pg pe pl px ps:Option Addr}{x md:List Int}{rows:List (List Int)}(K:Fok p m md) (hN:N≤1000000) (hM:Cz (p ^ m) N rows) (hx:Wd (p ^ m) rows.length x) :
  Bs Tryz.prog 146 [.pointer (some ⟨b,0,none⟩),.slice px nx cx,.slice ps n c,.int .i64 N] [] [I2 b p m (p ^ m) pg ng cg pe (p ^ m-1) ce pl (p ^ m) cl,Ap Ai pe (p ^ m-1) ce (Jg p m md),Ap Ai pl (p ^ m) cl (Jf p m md),Ap Ai px nx cx x,Ap (Aj Ai) ps n c rows] (RwI N (cbP p m md N x rows)):=by
 refine Ab (F:=ACJ) rfl fun C=>?_
 have O:=Dc K
 have hq:=K.q
 refine Bb 3 rfl fun hn hb _=>?_
 subst hn
 refine Bb 4 rfl fun hn hb2 _=>?_
 subst hn
 have hb':x.length*8≤140737488355328:=hb
 have hb2':rows.length*24≤140737488355328:=hb2
 have Pv:=fun {b ng cg ce cl nv cv b1:Nat}{pg pe pl pv:Option Addr}{cs:List Value}{c:Int}{u v:List Int}=>AAX (b:=b) (n:=N) (ng:=ng) (cg:=cg) (ce:=ce) (cl:=cl) (pg:=pg) (pe:=pe) (pl:=pl) (nv:=nv) (cv:=cv) (pv:=pv) (r:=⟨some b1,N,cs⟩) (c:=c) (u:=u) (v:=v) K
 refine wk 11 cz ?_
 intro b1
 have hz:=O.wz N
 rw [show Ao .i64 (List.replicate N 0)=Al .i64 (zW N) by simp [Ao,Al,zW]]
 refine Bl 0 rfl hz.1.symm (fun y hy=>by have:=hz.2 y hy;simp only [Bv];omega) (by omega) ?_
 refine Ah (X:=Nat×List Value×List Int) [0,2,8,9,14,15] [0,1,2,3,4,5] (fun i=>[(16,.int .i64 (i.1:Int))]) (fun i=>[(some b1,3,i.2.1)]) (fun i=>[A6 Ai ⟨some b1,N,i.2.1⟩ N i.2.2]) (fun i=>i.1≤x.length∧Wd (p ^ m) N i.2.2∧Ps (Ad (fA p m)) (Ad (fM p (Ax m md))) (x.drop i.1) (rows.drop i.1) i.2.2=cbP p m md N x rows) (fun i=>x.length-i.1) (0,Al .i64 (zW N),zW N) [0] rfl rfl rfl ⟨Nat.zero_le _,hz,rfl⟩ (by repeat (first|exact Fr.sub_nil _|refine Fr.sub_cons rfl ?_)) rfl rfl ?_
 rintro ⟨i,cs,u⟩ ⟨hi,hu,he⟩ ih
 simp only [List.cons_append,List.nil_append] at hi hu he ih ⊢
 by_cases h9:i<x.length
 ·have hxl:=hx.1
  obtain ⟨a,at_a⟩:∃ a,x[i]?=some a:=⟨_,List.getElem?_eq_getElem h9⟩
  obtain ⟨v,at_v⟩:∃ v,rows[i]?=some v:=⟨_,List.getElem?_eq_getElem (by omega)⟩
  obtain ⟨a0,a1⟩:=hx.2 a (List.mem_of_getElem? at_a)
  have hv:=hM v (List.mem_of_getElem? at_v)
  rw [AGh at_a at_v] at he
  by_cases ha:a=0
  ·rw [if_pos ha] at he
   refine wk 7 cz ?_
   intro h1 b2 o1 hz1
   refine Aa rfl (Av 0 rfl rfl Ci fun ⟨r1,r2⟩=>?_)
   refine wk 8 cz ?_
   intro h2
   exact tw (ih (i+1,cs,u) (by dsimp only;omega) ⟨by dsimp only;omega,hu,he⟩)
  ·rw [if_neg ha] at he
   refine wk 7 cz ?_
   intro h1 b2 o1 hz1
   refine Aa rfl (Av 0 rfl rfl Ci fun ⟨r1,r2⟩=>?_)
   refine wk 13 (ct @Pv cz) ?_
   intro h2 b3 o2 hz2 pa1 ca1 cs'1
   exact tw (ih (i+1,cs'1,Ey (Ad (fA p m)) (Ad (fM p (Ax m md))) a v u) (by dsimp only;omega) ⟨by dsimp only;omega,O.fi.axw a0 a1 hv hu,he⟩)
 ·rw [AHA (by omega)] at he
  subst he
  refine wk 7 cz ?_
  intro h1
  refine Dx 1 [0] [0] rfl (.tmp rfl .nil) rfl rfl rfl ⟨⟨some b1,N,cs⟩,rfl,rfl,rfl⟩
theorem AKB {q:Nat}{z y:Int×List (List Int)}(h:Uv z.1 z.2 q=0) (h2:Uv y.1 y.2 q=0):opE q [z,y]=0:=by
 rw [opE,if_pos h];exact Uj h2
theorem X6 {p m n c n2 c2 nm cm k N:Nat}{pm ps p2:Option Addr}{md:List Int}{a rows:List (List Int)}(K:Fok p m md) (hN:N≤256) (hl:rows.length≤256) (hM:Cz (p ^ m) N rows) (hal:a.length≤256) (hk:rows.length=k) (ha:Cz (p ^ m) k a) :
  Bs Tryz.prog 110 [.agg #[.int .i64 p,.int .i64 m,.slice pm nm cm],.agg #[.int .i64 k,.slice p2 n2 c2],.agg #[.int .i64 N,.slice ps n c]] [] [Ap Ai pm nm cm md,Ap (Aj Ai) p2 n2 c2 a,Ap (Aj Ai) ps n c rows]
   (fun v Φ β=>∃ (pb:Option Addr) (cb:Nat),v = .tuple #[.agg #[.int .i64 N,.slice pb a.length cb],.int .i64 0]∧Φ=[Ap (Aj Ai) pb a.length cb (a.map fun x=>cbP p m md N x rows)]∧β=[]):=by
 refine Ab (F:=ACl) rfl fun C=>?_
 have O:=Dc K
 have hq:=K.q
 subst hk
 refine Bb 1 rfl fun hn hb _=>?_
 subst hn
 refine Bb 2 rfl fun hn hb2 _=>?_
 subst hn
 have hb':a.length*24≤140737488355328:=hb
 have hb2':rows.length*24≤140737488355328:=hb2
 have Cn:=fun {pm ps:Option Addr}{nm cm n c:Nat}=>Ez (pm:=pm) (nm:=nm) (cm:=cm) (ps:=ps) (n:=n) (c:=c) (Ms:=[((rows.length:Int),a),((N:Int),rows)]) K (fun z hz=>by
  rcases List.mem_cons.1 hz with rfl|hz
  ·simp only [Bv];omega
  ·rw [List.mem_singleton.1 hz];simp only [Bv];omega) (AKB (Ro hl hal ha) (Ro hN hl hM))
 refine Am [_,_] rfl ?_
 refine Aa rfl (Cm rfl fun b1=>?_)
 refine Aa rfl (Cm rfl fun b2=>?_)
 refine Aa rfl (Cm rfl fun b3=>?_)
 refine Aa rfl (Bk Ha fun b4=>?_)
 refine Ae it 1 rfl (by simp) ?_
 refine Am [_,_] rfl ?_
 refine Aa rfl (A5 3 rfl rfl Hx rfl ?_)
 refine Aa rfl (A5 2 rfl rfl Gd rfl ?_)
 refine Aa rfl (A5 1 rfl rfl Gd rfl ?_)
 refine Aa rfl (Ix AHU AEi rfl rfl rfl rfl (by decide) (by decide) rfl fun b5=>?_)
 refine Cg (E:=AAM) (n:=2) [[Value.int IntKind.i64 ↑rows.length,Value.slice p2 a.length c2],[Value.int IntKind.i64 ↑N,Value.slice ps rows.length c]] [((↑rows.length:Int),a),((↑N:Int),rows)] 0 (fun w A hG=>(Az (M5 (v1:=[Value.int IntKind.i64 ↑rows.length]) (Dh (by first|(simp only [Bv];omega)|(simp [Bv];done)|assumption)) (A1 (hG _ (Af (n:=1) rfl)))) (Az (M5 (v1:=[Value.int IntKind.i64 ↑N]) (Dh (by first|(simp only [Bv];omega)|(simp [Bv];done)|assumption)) (A1 (hG _ (Af (n:=2) rfl)))) Bf))) rfl rfl rfl rfl (by first|decide|exact Nat.le_of_ble_eq_true rfl) (by first|decide|exact Nat.le_of_ble_eq_true rfl) ?_
 refine Aa rfl (Aw [1,0] rfl (Cn) rfl ?_)
 rintro _ _ _ ⟨b6,pg1,cg1,pe1,ce1,pl1,cl1,rfl,rfl,rfl⟩
 simp only [List.cons_append,List.nil_append]
 refine Ae it 5 rfl (by simp) ?_
 refine Am [_,_,_] rfl ?_
 refine Ae it 2 rfl (by simp) ?_
 refine Am [_,_] rfl ?_
 refine Kw rfl rfl (fun h1=>by exfalso;omega) (fun h1=>?_)
 refine Am [_,_,_] rfl ?_
 refine Aa rfl (Aq rfl I3 ?_)
 refine Aa rfl (Bm 2 rfl rfl Ci rfl ?_)
 refine Aa rfl (Aq rfl Hv ?_)
 refine Aa rfl (Bm 1 rfl rfl H3 rfl ?_)
 refine Aa rfl (G6 D5 rfl ?_)
 refine Ae it 1 rfl (by simp) ?_
 refine Am [_,_] rfl ?_
 refine Kw rfl rfl (fun h2=>by exfalso;omega) (fun h2=>?_)
 refine Am [_,_] rfl ?_
 refine Aa rfl (Aq rfl I3 ?_)
 refine Aa rfl (Bm 1 rfl rfl Ci rfl ?_)
 refine Aa rfl (Dq (cs:=[Value.int IntKind.i64 ↑N,Value.slice none 0 0]) U4 Ha rfl rfl ?_)
 refine Aa rfl (Bk Ha fun b7=>?_)
 refine Aa rfl (A7 0 rfl rfl rfl Gd rfl rfl (by simp [Value.oneCell']) ?_)
 refine Am [_,_,_] rfl ?_
 refine Aa rfl (Aq rfl Hv ?_)
 refine Aa rfl (Bm 3 rfl rfl H3 rfl ?_)
 refine Aa rfl (G6 D5 rfl ?_)
 refine Ae it 1 rfl (by simp) ?_
 refine Am [_,_,_] rfl ?_
 refine Fz (Aj Ai) 22 ?_
 refine Ah (X:=Nat×Row) [5,6,7,8,10,36,37] [0,1,2,3,4,5,6,7,8] (fun x=>[(38,.int .i64 (x.1:Int))]) (fun x=>[(x.2.bo,22,x.2.cs),(some b7,62,[.int .i64 N,.slice (ad x.2.bo) x.1 x.2.cap]),(some b4,62,[.int .i64 0,.slice none 0 0]),(some b3,62,[.int .i64 N,.slice ps rows.length c]),(some b2,62,[.int .i64 (rows.length:Nat),.slice p2 a.length c2]),(some b1,24,[.int .i64 p,.int .i64 m,.slice pm nm cm])]) (fun x=>[A6 (Aj Ai) x.2 x.1 ((a.take x.1).map fun x=>cbP p m md N x rows)]) (fun x=>x.1≤a.length) (fun x=>a.length-x.1) (0,⟨none,0,[]⟩) [0] rfl rfl rfl (Nat.zero_le _) (by repeat (first|exact Fr.sub_nil _|refine Fr.sub_cons rfl ?_)) rfl rfl ?_
 rintro ⟨k,r⟩ hk ih
 simp only [List.cons_append,List.nil_append] at hk ih ⊢
 by_cases h8:k<a.length
 ·obtain ⟨u,at_u⟩:∃ u,a[k]?=some u:=⟨_,List.getElem?_eq_getElem h8⟩
  have hu:=ha u (List.mem_of_getElem? at_u)
  have ih':=fun r=>ih (k+1,r) (by dsimp only;omega) (by dsimp only;omega)
  simp only [List.take_add_one,at_u,Option.toList_some,List.map_append,List.map_cons,List.map_nil] at ih'
  clear ih
  have hN6:N≤1000000:=by omega
  have ACk:=fun {b ng cg ce cl nx cx c:Nat}{pg pe pl px ps:Option Addr}=>ABT (b:=b) (ng:=ng) (cg:=cg) (ce:=ce) (cl:=cl) (pg:=pg) (pe:=pe) (pl:=pl) (nx:=nx) (cx:=cx) (px:=px) (ps:=ps) (n:=rows.length) (c:=c) (x:=u) (rows:=rows) K hN6 hM hu |>.pubR (by show N*8≤140737488355328;omega)
  refine wk 9 cz ?_
  intro h3 b8 o1 hz1 pa1 ca1
  (apply E7 it mx 10;(· rfl);(· rfl))
  (apply Ac;(· rfl);(· exact Cf fun _=>Aq rfl Hv An))
  (apply Ac;(· rfl);(· exact Ca 1 rfl rfl H3 rfl))
  (apply A3 2;(· rfl);(· simp))
  (apply Ac;(· rfl);(· exact Cf fun _=>Aq rfl Hv An))
  (apply Ac;(· rfl);(· exact Ca 3 rfl rfl H3 rfl))
  (apply Ac;(· rfl);(· exact Cf fun _=>Aq rfl I3 An))
  (apply Ac;(· rfl);(· exact Ca 3 rfl rfl Ci rfl))
  (apply Ii;(· rfl);(· exact Cf fun _=>Aw [4,6,7,0,11] rfl (ACk) rfl (by rintro _ _ _ ⟨pa2,ca2,rfl,rfl,rfl⟩;exact (Mg 0 rfl)));intro pa2 ca2)
  (apply Ii;(· rfl);(· exact Cf fun _=>Ix D5 I5 rfl rfl rfl rfl (by decide) (by decide) rfl fun b9=>ABP (E:=(Aj (Ai))) [[Value.slice pa2 N ca2]] [cbP p m md N u rows] (fun w A hG=>(Az (A1 (hG _ (Af (n:=0) rfl))) Bf)) rfl rfl rfl (by first|decide|exact Nat.le_of_ble_eq_true rfl));intro pa3 ca3)
  refine Eu rfl ?_
  simp only [List.map_cons,List.map_nil,List.cons_append,List.nil_append]
  refine Aa rfl (Uk 0 4 0 rfl rfl rfl rfl rfl D5 I5 rfl (by omega) _ Nd (by omega) fun r1=>?_)
  refine wk 5 cz ?_
  exact tw (ih' r1)
 ·obtain rfl:k=a.length:=by omega
  rw [List.take_length]
  refine D4 0 0 rfl rfl (by show a.length*24≤140737488355328;omega) ?_
  refine wk 9 cz ?_
  intro h3
  refine Bj [0] rfl (.agg 1 rfl rfl Gd rfl (.tmp rfl .nil)) rfl ⟨_,_,rfl,rfl,rfl⟩
def trL (N:Nat) (rows:List (List Int)):List (List Int):=(List.range N).map (Fu rows)
theorem Qm {p m n c nm cm N:Nat}{pm ps:Option Addr}{md:List Int}{rows:List (List Int)}(K:Fok p m md) (hN:N≤256) (hl:rows.length≤256) (hM:Cz (p ^ m) N rows) :
  Bs Tryz.prog 109 [.agg #[.int .i64 p,.int .i64 m,.slice pm nm cm],.agg #[.int .i64 N,.slice ps n c]] [] [Ap Ai pm nm cm md,Ap (Aj Ai) ps n c rows]
   (fun v Φ β=>∃ (pb:Option Addr) (cb:Nat),v = .tuple #[.agg #[.int .i64 (rows.length:Nat),.slice pb N cb],.int .i64 0]∧Φ=[Ap (Aj Ai) pb N cb (trL N rows)]∧β=[]):=by
 refine Ab (F:=Ua) rfl fun C=>?_
 have O:=Dc K
 have hq:=K.q
 refine Bb 1 rfl fun hn hb _=>?_
 subst hn
 have hb':rows.length*24≤140737488355328:=hb
 have Cn:=fun {pm ps:Option Addr}{nm cm n c:Nat}=>Ez (pm:=pm) (nm:=nm) (cm:=cm) (ps:=ps) (n:=n) (c:=c) (Ms:=[((N:Int),rows)]) K (fun z hz=>by rw [List.mem_singleton.1 hz];simp only [Bv];omega) (Uj (Ro hN hl hM))
 refine wk 9 cz ?_
 intro b1 b2 b3 b4
 refine Cg (E:=AAM) (n:=1) [[Value.int IntKind.i64 ↑N,Value.slice ps rows.length c]] [((↑N:Int),rows)] 0 (fun w A hG=>(Az (M5 (v1:=[Value.int IntKind.i64 ↑N]) (Dh (by first|(simp only [Bv];omega)|(simp [Bv];done)|assumption)) (A1 (hG _ (Af (n:=1) rfl)))) Bf)) rfl rfl rfl rfl (by first|decide|exact Nat.le_of_ble_eq_true rfl) (by first|decide|exact Nat.le_of_ble_eq_true rfl) ?_
 refine wk 7 (ct @Cn cz) ?_
 intro b5 pg1 cg1 pe1 ce1 pl1 cl1 h1
 (apply E7 it mx 8;(· rfl);(· rfl))
 (apply Ac;(· rfl);(· exact Cf fun _=>Aq rfl Hv An))
 (apply Ac;(· rfl);(· exact Ca 1 rfl rfl H3 rfl))
 (apply Ac;(· rfl);(· exact Cf fun _=>G6 D5 rfl An))
 (apply Ac;(· rfl);(· exact Cf fun _=>Aq rfl I3 An))
 (apply Ac;(· rfl);(· exact Ca 1 rfl rfl Ci rfl))
 (apply AAg (N) _;(· rfl);(· rfl);(· rfl);(· exact D5);(· exact I5);(· rfl);(· rfl);(· exact Nd);(· rfl);(· omega);(· omega);intro b6)
 (apply Gz [25,28] (fun vs=>Value.agg ((V5 ([(0,1),(1,1)]) ([Value.int IntKind.i64 0,Value.slice none 0 0]) [(0,Ce (vs.getD 0 undef)),(1,Ce (vs.getD 1 undef))]).getD []).toArray) (v:=Value.agg #[Value.int IntKind.i64 ↑rows.length,Value.slice (some { block:=b6,off:=0 }) N N]);(· rfl);(· rfl);(· rfl);(· rfl);(· exact Cf fun _=>Dq (cs:=[Value.int IntKind.i64 ↑rows.length,Value.slice (some { block:=b6,off:=0 }) N N]) U4 Ha rfl rfl An))
 (apply Hk;(· rfl);(· exact Ha);intro b7)
 refine Eu rfl ?_
 simp only [List.map_cons,List.map_nil,List.cons_append,List.nil_append]
 refine wk 7 cz ?_
 simp only [setB]
 refine AHP 1 rfl (by omega) fun csA=>?_
 refine AAs Ai 3 0 ?_
 simp only [setB,List.cons_append,List.nil_append]
 refine Br (Ar (trL N rows)) 0 rfl (fun g hg=>absurd hg (Nat.not_lt_zero g)) ?_
 simp only [List.eraseIdx_cons_zero,List.cons_append,List.nil_append]
 have htl:(trL N rows).length=N:=by simp [trL]
 have hta:∀ j,j<N→Ar (trL N rows) j=Fu rows j:=fun j hj=>by
  rw [Ar,trL,List.getD_eq_getElem?_getD,List.getElem?_map,List.getElem?_range hj];rfl
 refine Ah (X:=Nat×List Value×(Nat→Hd)×(Nat→List Value)) [3,4,5,8,32] [0,1,2,3,4,5,6,7,8,9] (fun x=>[(33,.int .i64 (x.1:Int))])
  (fun x=>(some b7,62,[.int .i64 (rows.length:Nat),.slice (some ⟨b6,0,none⟩) N N])::(some b6,22,x.2.1)::(some b3,62,[.int .i64 0,.slice none 0 0])::(some b2,62,[.int .i64 N,.slice ps rows.length c])::(some b1,24,[.int .i64 p,.int .i64 m,.slice pm nm cm])::Da 3 x.2.2.1 x.2.2.2 x.1 [])
  (fun x=>[A6 Sd ⟨some b6,N,x.2.1⟩ N (Iv x.2.2.1 N),Ej Ai x.2.2.1 x.2.2.2 (Ar (trL N rows)) x.1 []])
  (fun x=>x.1≤N) (fun x=>N-x.1) (0,csA,fun _=>(none,0,0),fun _=>[]) [2,0] rfl rfl rfl (Nat.zero_le _) (by repeat (first|exact Fr.sub_nil _|refine Fr.sub_cons rfl ?_)) rfl rfl ?_
 rintro ⟨k,hc,hd,cs⟩ hk ih
 simp only [List.cons_append,List.nil_append] at hk ih ⊢
 by_cases hkl:k<N
 ·refine wk 7 cz ?_
  intro h2
  (apply E7 it mx 7;(· rfl);(· rfl))
  (apply Ac;(· rfl);(· exact Cf fun _=>Aq rfl Hv An))
  (apply Ac;(· rfl);(· exact Ca 0 rfl rfl H3 rfl))
  (apply A3 1;(· rfl);(· simp))
  (apply Ac;(· rfl);(· exact Cf fun _=>Aq rfl Hv An))
  (apply Ac;(· rfl);(· exact Ca 3 rfl rfl H3 rfl))
  (apply Ac;(· rfl);(· exact Cf fun _=>G6 D5 rfl An))
  (apply AAg (rows.length) _;(· rfl);(· rfl);(· rfl);(· exact Cb);(· exact Er);(· rfl);(· rfl);(· exact Hf);(· rfl);(· omega);(· omega);intro b8)
  refine Eu rfl ?_
  simp only [List.map_cons,List.map_nil,List.cons_append,List.nil_append]
  refine wk 1 cz ?_
  refine Aa rfl (G4 (vs:=[Value.slice (some { block:=b8,off:=0 }) rows.length rows.length]) (z:=(some b8,rows.length,rows.length)) 2 0 (k) rfl rfl rfl rfl rfl Fb (Nat.mul_one _).symm (by omega) (fun w A hG=>(Tv (some _) _ _)) fun cs1=>?_)
  refine wk 6 cz ?_
  simp only [setB]
  rw [K7]
  have hz:(Iv (Ek hd k (some b8,rows.length,rows.length)) N)[k]?=some (some b8,rows.length,rows.length):=by
   rw [Iv,List.getElem?_map,List.getElem?_range hkl,Option.map_some,Bn]
  have hTl:(Fu rows k).length=rows.length:=List.length_map _
  have hTa:∀ (i:Nat) (x:List Int),rows[i]?=some x→(Fu rows k)[i]?=some (Ba x k):=fun i x h=>by rw [Fu,List.getElem?_map,h];rfl
  have hTr:∀ z∈Fu rows k,Bv .i64 z:=fun z hz=>by
   have:=(Jl (by have:=O.q2;omega) hM k).2 z hz
   simp only [Bv];omega
  rw [ADG,show List.replicate rows.length (0:Int)=(Fu rows k).take 0++List.replicate (rows.length-0) 0 by simp]
  refine Ah (X:=Nat) [3,4,5,8,9,32,33,34,35,36,37,38,39,40,41,42,43,44,45,46] [0,1,2,3,4,5,6,7,8,9,10,11,12] (fun i=>[(47,.int .i64 (i:Int))]) (fun i=>(some b8,3,Al .i64 ((Fu rows k).take i++List.replicate (rows.length-i) 0))::(some b7,62,[.int .i64 (rows.length:Nat),.slice (some ⟨b6,0,none⟩) N N])::(some b6,22,cs1)::(some b3,62,[.int .i64 0,.slice none 0 0])::(some b2,62,[.int .i64 N,.slice ps rows.length c])::(some b1,24,[.int .i64 p,.int .i64 m,.slice pm nm cm])::Da 3 hd cs k []) (fun _=>[]) (fun i=>i≤rows.length) (fun i=>rows.length-i) 0 [] rfl rfl rfl (Nat.zero_le _) (by repeat (first|exact Fr.sub_nil _|refine Fr.sub_cons rfl ?_)) rfl rfl ?_
  rintro i hi ihi
  simp only [List.cons_append,List.nil_append] at hi ihi ⊢
  by_cases h9:i<rows.length
  ·obtain ⟨x,at_x⟩:∃ x,rows[i]?=some x:=⟨_,List.getElem?_eq_getElem h9⟩
   have hx:=hM x (List.mem_of_getElem? at_x)
   have hT:=hTa i x at_x
   have hxl:=hx.1
   have at_y:x[k]?=some (Ba x k):=by
    rw [Ba,List.getD_eq_getElem?_getD,List.getElem?_eq_getElem (by omega)];rfl
   have ih':=ihi (i+1) (by omega) (by omega)
   rw [← take_set hT h9] at ih'
   have hln:((Fu rows k).take i++List.replicate (rows.length-i) 0).length=rows.length:=by rw [List.length_append,List.length_take,List.length_replicate];omega
   generalize (Fu rows k).take i++List.replicate (rows.length-i) 0=L at *
   refine wk 16 cz ?_
   intro h3 b9 o1 hz1 pa1 ca1 b10 o2
   exact tw (ih')
  ·obtain rfl:i=rows.length:=by omega
   rw [Nat.sub_self,List.replicate_zero,List.append_nil,List.take_of_length_le (by omega)]
   clear ihi
   refine wk 3 cz ?_
   refine Bl 0 rfl hTl.symm hTr (by omega) ?_
   refine AEJ 5 0 0 3 rfl rfl rfl rfl ?_
   simp only [List.eraseIdx_cons_zero,List.eraseIdx_cons_succ,List.take_succ_cons,List.take_zero,List.cons_append,List.nil_append]
   refine Br (Ar (trL N rows)) 0 rfl (fun g hg=>by
    by_cases e:g=k
    ·subst e
     rw [Bn,hta g hkl]
    ·rw [C0 e]) ?_
   refine wk 4 cz ?_
   intro h3
   exact tw (ih (k+1,cs1,Ek hd k (some b8,rows.length,rows.length),Ek cs k (Al .i64 (Fu rows k))) (by dsimp only;omega) (by dsimp only;omega))
 ·obtain rfl:N=k:=by omega
  refine wk 3 cz ?_
  refine G5 1 rfl fun hlen=>?_
  refine Xd 5 1 0 1 rfl rfl rfl rfl (fun i hi=>by rw [hlen i hi rfl,hta i hi,List.length_map];show rows.length*8≤_;omega) ?_
  simp only [List.take_succ_cons,List.take_zero]
  rw [show (List.range N).map (Ar (trL N rows))=trL N rows from by
   refine List.ext_getElem (by rw [List.length_map,List.length_range,htl]) fun i h1 h2=>?_
   rw [List.getElem_map,List.getElem_range,Ar,List.getD_eq_getElem?_getD,List.getElem?_eq_getElem h2];rfl]
  refine D4 1 0 rfl rfl (by show N*24≤140737488355328;omega) ?_
  simp only [List.eraseIdx_cons_zero,List.eraseIdx_cons_succ]
  refine wk 6 cz ?_
  intro h2
  refine Bj [0] rfl (.agg 1 rfl rfl Gd rfl (.tmp rfl .nil)) rfl ⟨_,_,rfl,rfl,rfl⟩
theorem Lv {n:Nat}{ls:List (List Int)}{x:Int}:x∈Cj n ls↔(0≤x∧x<n)∧∀ l∈ls,x∉l:=by
 rw [Cj,List.mem_map]
 constructor
 ·rintro ⟨i,hi,rfl⟩
  obtain ⟨h1,h2⟩:=List.mem_filter.1 hi
  refine ⟨⟨by omega,by have:=List.mem_range.1 h1;omega⟩,fun l hl hx=>?_⟩
  rw [Th,List.any_eq_true.2 ⟨l,hl,decide_eq_true hx⟩] at h2
  cases h2
 ·rintro ⟨⟨h0,h1⟩,h2⟩
  refine ⟨x.toNat,List.mem_filter.2 ⟨List.mem_range.2 (by omega),?_⟩,by omega⟩
  rw [Th]
  cases h:ls.any fun l=>decide (((x.toNat:Nat):Int)∈l) with
  | false=>rfl
  | true =>
   obtain ⟨l,hl,hx⟩:=List.any_eq_true.1 h
   rw [Int.toNat_of_nonneg h0] at hx
   exact absurd (of_decide_eq_true hx) (h2 l hl)
theorem ACR (n:Nat) (ls:List (List Int)):(Cj n ls).length≤n:=by
 rw [Cj,List.length_map];have:=List.length_filter_le (Th ls) (List.range n);rwa [List.length_range] at this
theorem Yz (n:Nat) (ls:List (List Int)):Uc n (Cj n ls):=by
 refine ⟨fun x hx=>(Lv.1 hx).1,?_⟩
 rw [Cj,List.pairwise_map]
 refine List.Pairwise.sublist List.filter_sublist ?_
 refine List.pairwise_lt_range.imp fun h=>?_
 omega
theorem AJC {rows:List (List Int)}{O:List Int}:trL O.length (rows.map fun r=>O.map fun j=>Ba r j.toNat)=O.map fun j=>Fu rows j.toNat:=by
 refine List.ext_getElem (by simp [trL]) fun i h1 h2=>?_
 have hi:i<O.length:=by simpa using h2
 simp only [trL,List.getElem_map,List.getElem_range,Fu,List.map_map]
 refine List.map_congr_left fun r _=>?_
 show Ba (O.map fun j=>Ba r j.toNat) i=Ba r O[i].toNat
 rw [Ba,List.getD_eq_getElem?_getD,List.getElem?_map,List.getElem?_eq_getElem hi];rfl
abbrev wiP (p m:Nat) (md:List Int) (n:Nat) (gen:List (List Int)) (hs:List Int):List (List Int):=wiL (Ad (fA p m)) (Ad (fM p (Ax m md))) (C3 p m) (Hi p m md) n gen (hs.map fun j=>Fu gen j.toNat)
theorem V1 {p m n:Nat}{md:List Int}{rows:List (List Int)}(K:Fok p m md) (hM:Cz (p ^ m) n rows):(Dm p m md n rows).1.length=(Dm p m md n rows).2.length∧(Dm p m md n rows).2.length≤n:=by
 have O:=Dc K
 have h1:Red (p ^ m) n (Dm p m md n rows).1 (Dm p m md n rows).2:=(O.cn hM).1
 exact ⟨O.cn_len hM,h1.piv_le⟩
theorem AIz {p m n:Nat}{md:List Int}{rows:List (List Int)}(K:Fok p m md) (hM:Cz (p ^ m) n rows):(Kt p m md n rows).length≤n:=by
 have O:=Dc K
 have h1:Cz (p ^ m) n (nvL (C3 p m) n (Dm p m md n rows)):=O.nv_mat (O.cn hM).1
 obtain ⟨h2,h3⟩:=V1 K h1
 show (Dm p m md n (nvL (C3 p m) n (Dm p m md n rows))).1.length≤n
 omega
theorem Si {p m n c nm cm N ns cs':Nat}{pm ps pt:Option Addr}{md set:List Int}{rows:List (List Int)}(CC:Cok p m md N rows) (hst:Uc N set) :
  Bs Tryz.prog 61 [.agg #[.int .i64 p,.int .i64 m,.slice pm nm cm],.agg #[.int .i64 N,.slice ps n c],.slice pt ns cs'] [] [Ap Ai pm nm cm md,Ap (Aj Ai) ps n c rows,Ap Ai pt ns cs' set]
   (fun v Φ β=>∃ (pb:Option Addr) (cb:Nat),v = .tuple #[.agg #[.int .i64 N,.slice pb (wiP p m md N rows (Cj N [set])).length cb],.int .i64 0]∧Φ=[Ap (Aj Ai) pb (wiP p m md N rows (Cj N [set])).length cb (wiP p m md N rows (Cj N [set]))]∧β=[]):=by
 refine Ab (F:=V7) rfl fun C=>?_
 have K:=CC.K
 have O:=Dc K
 have hq:=K.q
 have hN:N≤256:=by have:=CC.n64;omega
 have hl:rows.length≤256:=by have:=CC.len;omega
 have hM:=CC.mat
 refine Bb 1 rfl fun hn hb _=>?_
 subst hn
 refine Bb 2 rfl fun hn hb2 _=>?_
 subst hn
 have hb':rows.length*24≤140737488355328:=hb
 have hb2':set.length*8≤140737488355328:=hb2
 have Eb:=fun {pm ps:Option Addr}{nm cm n c:Nat}=>Ko (pm:=pm) (nm:=nm) (cm:=cm) (ps:=ps) (n:=n) (c:=c) (rows:=rows) K hN hl hM CC.can
 refine wk 22 (ct @Eb cz) ?_
 intro b1 b2 b3 b4 pg1 cg1 pe1 ce1 pl1 cl1 pp1 cp1 b5 h1
 refine Ah (X:=Nat) [2,3,4,6,30,31] [0,1,2,3,4,5,6,7] (fun i=>[(32,.int .i64 (i:Int))]) (fun _=>_) (fun _=>[]) (fun i=>i≤set.length) (fun i=>set.length-i) 0 [] rfl rfl rfl (Nat.zero_le _) (by repeat (first|exact Fr.sub_nil _|refine Fr.sub_cons rfl ?_)) rfl rfl ?_
 rintro i hi ih
 simp only [List.cons_append,List.nil_append] at hi ih ⊢
 by_cases h9:i<set.length
 ·obtain ⟨x,at_x⟩:∃ x,set[i]?=some x:=⟨_,List.getElem?_eq_getElem h9⟩
  obtain ⟨⟨x0,x1⟩,x2⟩:=ABz.1 hst i h9 x at_x
  rcases Nat.eq_zero_or_pos i with hi0|hi0
  ·subst hi0
   refine wk 21 cz ?_
   intro h2 b6 o1 hz1 _ r1 r2 h3
   refine Bw (t:=45) rfl (fun h4=>by exfalso;omega) (fun h4=>?_)
   refine wk 6 cz ?_
   exact tw (ih 1 (by omega) (by omega))
  ·obtain ⟨k,rfl⟩:∃ k,i=k+1:=⟨i-1,by omega⟩
   obtain ⟨y,at_y⟩:∃ y,set[k]?=some y:=⟨_,List.getElem?_eq_getElem (by omega)⟩
   have hxy:=x2 y (by omega) at_y
   refine Am [_,_,_,_,_] rfl ?_
   refine Ae it 1 rfl (by simp) ?_
   refine Am [_,_,_,_,_] rfl ?_
   refine Kj rfl rfl (fun h2=>?_) (fun h2=>by exfalso;omega)
   refine Am [_,_,_,_,_,_,_] rfl ?_
   refine Ae it 1 rfl (by simp) ?_
   refine Aa rfl (Io 7 (k+1) rfl rfl rfl Cb rfl (by omega) fun z1 hz1 b6 o1=>?_)
   obtain rfl:_=z1:=Option.some.inj (at_x.symm.trans hz1)
   refine Aa rfl (Av 0 rfl rfl Ci fun ⟨r1,r2⟩=>?_)
   refine Ae it 2 rfl (by simp) ?_
   refine Am [_,_,_,_,_,_,_] rfl ?_
   refine Ae it 3 rfl (by simp) ?_
   refine Bw (t:=39) rfl (fun h3=>by exfalso;omega) (fun h3=>?_)
   refine Ae it 1 rfl (by simp) ?_
   refine Bt rfl rfl (Aq rfl I3 ?_)
   refine Bt rfl rfl (Bm 2 rfl rfl Ci rfl ?_)
   refine Ae it 3 rfl (by simp) ?_
   refine Bw (t:=45) rfl (fun h4=>by exfalso;omega) (fun h4=>?_)
   refine Ae it 3 rfl (by simp) ?_
   refine Bw (t:=48) rfl (fun h5=>?_) (fun h5=>by exfalso;omega)
   refine Ae it 4 rfl ⟨⟨by omega,by omega⟩,trivial,trivial,trivial,trivial⟩ ?_
   refine Bt rfl rfl (Io 8 ((k+1)-1) rfl rfl rfl Cb (by omega) (by omega) fun z1 hz2 b7 o2=>?_)
   obtain rfl:_=z1:=Option.some.inj (at_y.symm.trans hz2)
   refine Bt rfl rfl (Av 0 rfl rfl Ci fun ⟨r3,r4⟩=>?_)
   refine Ae it 3 rfl (by simp) ?_
   refine Am [_,_,_,_,_,_] rfl ?_
   refine Kj rfl rfl (fun h6=>by exfalso;omega) (fun h6=>?_)
   refine Am [_,_,_,_] rfl ?_
   refine Ae it 2 rfl ⟨trivial,⟨by omega,by omega⟩,trivial⟩ ?_
   refine Xt 1 [.lp (pL 116),.blk 0,.c [1,1,1]] rfl ?_
   exact tw (ih (k+2) (by omega) (by omega))
 ·clear ih
  have hle:=fun k=>ACR k [set]
  have hos:=ABx
  refine wk 11 cz ?_
  intro h2
  refine Fz Ai 3 ?_
  refine Ah (X:=Nat×Row) [2,3,4,6,61] [0,1,2,3,4,5,6,7,8] (fun x=>[(62,.int .i64 (x.1:Int)),(12,.slice (ad x.2.bo) (Cj x.1 [set]).length x.2.cap)]) (fun x=>(x.2.bo,3,x.2.cs)::_) (fun x=>[A6 Ai x.2 (Cj x.1 [set]).length (Cj x.1 [set])]) (fun x=>x.1≤N) (fun x=>N-x.1) (0,⟨none,0,[]⟩) [0] rfl rfl rfl (Nat.zero_le _) (by repeat (first|exact Fr.sub_nil _|refine Fr.sub_cons rfl ?_)) rfl rfl ?_
  rintro ⟨k,r⟩ hk ih
  simp only [List.cons_append,List.nil_append] at hk ih ⊢
  by_cases h9:k<N
  ·have hk1:=hle k
   have ih':=fun r=>ih (k+1,r)
   simp only [hos] at ih'
   have hB:Th [set] k=!decide ((k:Int)∈set):=by simp [Th]
   by_cases hm:(k:Int)∈set
   ·have hd:decide ((k:Int)∈set)=true:=decide_eq_true hm
    rw [hB,hd,Bool.not_true,if_neg (by simp),List.append_nil] at ih'
    refine wk 15 (ct @Cl cz) ?_
    intro h3
    exact tw (ih' r (by omega) (by omega))
   ·have hd:decide ((k:Int)∈set)=false:=decide_eq_false hm
    rw [hB,hd,Bool.not_false,if_pos rfl] at ih'
    simp only [List.length_append,List.length_singleton] at ih'
    refine wk 15 (ct @Cl cz) ?_
    intro h3 b6
    refine Aa rfl (F1 (z:=(↑k:Int)) 1 0 0 rfl rfl rfl rfl rfl Cb Er rfl (fun w A hG=>(Dh (by first|(simp only [Bv];omega)|(simp [Bv];done)))) (by omega) _ Hf (by omega) fun r1=>?_)
    refine wk 4 cz ?_
    refine Ky [true,false,true,true,true,true] [0,2,3,4,5,6,7,8,9,10] (by exact Ux rfl) rfl rfl (ih' r1 (by omega) (by omega))
  ·obtain rfl:k=N:=by omega
   clear ih
   have hk1:=hle k
   have hot:∀ x∈Cj k [set],0≤x∧x<(k:Int):=fun x hx=>(Lv.1 hx).1
   generalize Cj k [set]=T at *
   refine D4 0 0 rfl rfl (by show T.length*8≤140737488355328;omega) ?_
   have Jk:=fun {pm ps pt:Option Addr}{nm cm n c ns cs':Nat}=>Kx (pm:=pm) (nm:=nm) (cm:=cm) (ps:=ps) (n:=n) (c:=c) (pt:=pt) (ns:=ns) (cs':=cs') (rows:=rows) (set:=T) K hN hl hM (by omega) hot
   have hq0:0<p ^ m:=by have:=O.q2;omega
   have hM1:Cz (p ^ m) T.length (rows.map fun r=>T.map fun j=>Ba r j.toNat):=fun r hr=>by
    obtain ⟨u,hu,rfl⟩:=List.mem_map.1 hr
    refine ⟨List.length_map _,fun x hx=>?_⟩
    obtain ⟨j,_,rfl⟩:=List.mem_map.1 hx
    exact Bh hq0 (hM u hu) _
   have Lm:=fun {pm ps:Option Addr}{nm cm n c:Nat}=>Qm (pm:=pm) (nm:=nm) (cm:=cm) (ps:=ps) (n:=n) (c:=c) (rows:=rows.map fun r=>T.map fun j=>Ba r j.toNat) (N:=T.length) K (by omega) (by rw [List.length_map];exact hl) hM1
   simp only [AJC,List.length_map] at Lm
   have hM2:Cz (p ^ m) rows.length (T.map fun j=>Fu rows j.toNat):=fun r hr=>by
    obtain ⟨j,_,rfl⟩:=List.mem_map.1 hr
    exact Jl hq0 hM _
   have Ep:=fun {pm ps:Option Addr}{nm cm n c:Nat}=>Ij (pm:=pm) (nm:=nm) (cm:=cm) (ps:=ps) (n:=n) (c:=c) (rows:=T.map fun j=>Fu rows j.toNat) (N:=rows.length) K hl (by rw [List.length_map];omega) hM2
   have hM3:Cz (p ^ m) rows.length (Kt p m md rows.length (T.map fun j=>Fu rows j.toNat)):=(O.nu hM2).1
   have hl3:(Kt p m md rows.length (T.map fun j=>Fu rows j.toNat)).length≤256:=by
    have:=AIz K hM2
    omega
   have hW:woL (Ad (fA p m)) (Ad (fM p (Ax m md))) (C3 p m) (Hi p m md) k rows (T.map fun j=>Fu rows j.toNat)=(Kt p m md rows.length (T.map fun j=>Fu rows j.toNat)).map fun x=>cbP p m md k x rows:=rfl
   have hM4:=O.wo_mat (n:=k) hM hM2
   have hlen4:=(V1 K hM4).1
   rw [show wiP p m md k rows T=(Dm p m md k (woL (Ad (fA p m)) (Ad (fM p (Ax m md))) (C3 p m) (Hi p m md) k rows (T.map fun j=>Fu rows j.toNat))).1 from rfl,hlen4]
   have hM4':Cz (p ^ m) k (woL (Ad (fA p m)) (Ad (fM p (Ax m md))) (C3 p m) (Hi p m md) k rows (T.map fun j=>Fu rows j.toNat)):=hM4
   have hl4:(woL (Ad (fA p m)) (Ad (fM p (Ax m md))) (C3 p m) (Hi p m md) k rows (T.map fun j=>Fu rows j.toNat)).length≤256:=by rw [hW,List.length_map];exact hl3
   have Bp:=fun {pm ps:Option Addr}{nm cm n c:Nat}=>E8 (pm:=pm) (nm:=nm) (cm:=cm) (ps:=ps) (n:=n) (c:=c) K hN hl4 hM4'
   have ACa:=fun {pm ps p2:Option Addr}{nm cm n c n2 c2:Nat}=>X6 (pm:=pm) (nm:=nm) (cm:=cm) (ps:=ps) (n:=n) (c:=c) (p2:=p2) (n2:=n2) (c2:=c2) (N:=k) K hN hl hM hl3 rfl hM3
   rw [hW] at *
   have hMl:((Kt p m md rows.length (T.map fun j=>Fu rows j.toNat)).map fun x=>cbP p m md k x rows).length=(Kt p m md rows.length (T.map fun j=>Fu rows j.toNat)).length:=List.length_map _
   clear hW hlen4 hM4 hM4' hl4 hMl
   generalize Kt p m md rows.length (T.map fun j=>Fu rows j.toNat)=U at *
   generalize (T.map fun j=>Fu rows j.toNat)=H at *
   refine wk 68 (ct @Jk (ct @Lm (ct @Ep (ct @ACa (ct @Bp cz))))) ?_
   intro h3 pb1 cb1 b6 h4 pb2 cb2 pb3 cb3 b7 h5 pb4 cb4 b8 h6 pb5 pp2 cb5 cp2 b9
   refine Bj [0] rfl (.agg 5 rfl rfl Gd rfl (.tmp rfl .nil)) rfl ⟨_,_,rfl,rfl,rfl⟩
theorem Vr {α:Type} [Inhabited α] {l:List α}{i:Nat}{x:α}(h:l[i]?=some x):l.getD i default=x:=by rw [List.getD_eq_getElem?_getD,h];rfl
theorem Mv {p m nm cm n c:Nat}{pm ps:Option Addr}{md l:List Int}(K:Fok p m md):Bs Tryz.prog 101 [.agg #[.int .i64 p,.int .i64 m,.slice pm nm cm],.slice ps n c] [] [Ap Ai ps n c l] (Rv (.int .i64 (V2 l (p ^ m))) []):=by
 refine Ab (F:=Mq) rfl fun C=>?_
 refine Bb 0 rfl fun hn hb _=>?_
 subst hn
 have hb':l.length*8≤140737488355328:=hb
 have ho:=K.ord
 refine wk 6 cz ?_
 intro b1
 refine Ah (X:=Nat) [1,2] [0] (fun i=>[(5,.int .i64 (i:Int))]) (fun _=>_) (fun _=>[]) (fun i=>i≤l.length∧∀ x∈l.take i,0≤x∧x<((p ^ m:Nat):Int)) (fun i=>l.length-i) 0 [] rfl rfl rfl ⟨Nat.zero_le _,fun x h=>by simp at h⟩ (by repeat (first|exact Fr.sub_nil _|refine Fr.sub_cons rfl ?_)) rfl rfl ?_
 rintro i ⟨hi,hno⟩ ih
 simp only [List.cons_append,List.nil_append] at hi ih ⊢
 by_cases h9:i<l.length
 ·obtain ⟨y,hy⟩:∃ y,l[i]?=some y:=⟨_,List.getElem?_eq_getElem h9⟩
  have ey:=Vr hy
  by_cases h8:0≤y∧y<((p ^ m:Nat):Int)
  ·have hd:decide (0≤l.getD i default∧l.getD i default<Hw (p:Int) (m:Int))=true:=by rw [ey,ho];exact decide_eq_true h8
   refine wk 13 (ct @Fp cz) ?_
   intro h1 b2 o1
   exact tw (ih (i+1) (by omega) ⟨by omega,fun x hx=>by
    rw [List.take_add_one,hy] at hx
    rcases List.mem_append.1 hx with hx|hx
    ·exact hno x hx
    ·rw [Option.toList_some,List.mem_singleton] at hx
     rw [hx];exact h8⟩)
  ·have hd:decide (0≤l.getD i default∧l.getD i default<Hw (p:Int) (m:Int))=false:=by rw [ey,ho];exact decide_eq_false h8
   rw [V2,if_neg fun h=>h8 (h y (List.mem_of_getElem? hy))]
   refine wk 13 (ct @Fp cz) ?_
   intro h1 b2 o1
   exact ge
 ·rw [V2,if_pos fun x hx=>hno x (by rwa [List.take_of_length_le (by omega)])]
  refine wk 9 cz ?_
  intro h1
  exact ge
theorem AHF {α:Type}{P:α→Prop}{l:List α}{i:Nat}{r:α}(hr:l[i]?=some r) (h:∀ x∈l.take i,P x) (hp:P r):∀ x∈l.take (i+1),P x:=fun x hx=>by
 rw [List.take_add_one,hr] at hx
 rcases List.mem_append.1 hx with hx|hx
 ·exact h x hx
 ·rw [Option.toList_some,List.mem_singleton] at hx
  rw [hx];exact hp
open Classical in
noncomputable def mkE (P M:Int) (md:List Int) (N:Int) (rows:List (List Int)):Int:=if ¬ Uz P M md then 1 else Uv N rows (P.toNat ^ M.toNat)
theorem N3 {P M N e:Int}{nm cm n c:Nat}{pm ps:Option Addr}{md:List Int}{rows:List (List Int)}(hN:Bv .i64 N) (he:mkE P M md N rows=e) :
  Bs Tryz.prog 133 [.agg #[.int .i64 P,.int .i64 M,.slice pm nm cm],.agg #[.int .i64 N,.slice ps n c]] [] [Ap Ai pm nm cm md,Ap (Aj Ai) ps n c rows] (Rv (.int .i64 e) []):=by
 refine Ab (F:=N8) rfl fun C=>?_
 refine Bb 1 rfl fun hn hb _=>?_
 subst hn
 have hb':rows.length*24≤140737488355328:=hb
 obtain ⟨N0,N1⟩:=hN
 rw [mkE] at he
 by_cases hc:Uz P M md
 ·rw [if_neg (fun h=>h hc)] at he
  have A9:=fun {pm:Option Addr}{nm cm:Nat}=>El (P:=P) (M:=M) (md:=md) (pm:=pm) (nm:=nm) (cm:=cm) (if_pos hc).symm
  obtain ⟨p,m,rfl,rfl,K⟩:=ABC hc
  rw [Int.toNat_natCast,Int.toNat_natCast] at he
  have hq:=K.q
  have Hq:=fun {nm cm n c:Nat}{pm ps:Option Addr}{l:List Int}=>Mv (nm:=nm) (cm:=cm) (pm:=pm) (ps:=ps) (n:=n) (c:=c) (l:=l) K
  subst he
  by_cases h1:N<0∨256<N∨256<rows.length
  ·rw [Uv,if_pos h1]
   by_cases a1:N<0
   ·refine wk 24 (ct @A9 cz) ?_
    intro b1 b2 h2 h3
    exact ge
   ·by_cases a2:256<N
    ·refine wk 30 (ct @A9 cz) ?_
     intro b1 b2 h2 h3 h4
     exact ge
    ·have a3:256<rows.length:=by omega
     refine wk 33 (ct @A9 cz) ?_
     intro b1 b2 h2 h3 h4 h5
     exact ge
  ·rw [Uv,if_neg h1]
   have a1:¬ N<0:=by omega
   have a2:¬ 256<N:=by omega
   have a3:¬ 256<rows.length:=by omega
   refine wk 33 (ct @A9 cz) ?_
   intro b1 b2 h2 h3 h4 h5
   refine Ah (X:=Nat) [2,3,5] [0,1] (fun i=>[(6,.int .i64 (i:Int))]) (fun _=>_) (fun _=>[]) (fun i=>i≤rows.length∧∀ r∈rows.take i,(r.length:Int)=N) (fun i=>rows.length-i) 0 [] rfl rfl rfl ⟨Nat.zero_le _,fun x h=>by simp at h⟩ (by repeat (first|exact Fr.sub_nil _|refine Fr.sub_cons rfl ?_)) rfl rfl ?_
   rintro i ⟨hi,hno⟩ ih
   simp only [List.cons_append,List.nil_append] at hi ih ⊢
   by_cases h9:i<rows.length
   ·obtain ⟨r,hr⟩:∃ r,rows[i]?=some r:=⟨_,List.getElem?_eq_getElem h9⟩
    have er:=Vr hr
    by_cases h8:(r.length:Int)=N
    ·have h7:((rows.getD i default).length:Int)=N:=by rw [er];exact h8
     refine wk 15 cz ?_
     intro h6 b3 o1 pa1 ca1 h10
     exact tw (ih (i+1) (by omega) ⟨by omega,AHF hr hno h8⟩)
    ·have h7:((rows.getD i default).length:Int)≠N:=by rw [er];exact h8
     rw [if_pos ⟨r,List.mem_of_getElem? hr,h8⟩]
     refine wk 15 cz ?_
     intro h6 b3 o1 pa1 ca1 h10
     exact ge
   ·have hlen:∀ r∈rows,(r.length:Int)=N:=fun r hr=>hno r (by rwa [List.take_of_length_le (by omega)])
    rw [if_neg fun ⟨r,hr,h⟩=>h (hlen r hr)]
    clear ih hno hi
    refine wk 11 cz ?_
    intro h6
    refine Ah (X:=Nat) [2,3] [0,1] (fun i=>[(7,.int .i64 (i:Int)),(5,.int .i64 0)]) (fun _=>_) (fun _=>[]) (fun i=>i≤rows.length∧∀ r∈rows.take i,∀ x∈r,0≤x∧x<((p ^ m:Nat):Int)) (fun i=>rows.length-i) 0 [] rfl rfl rfl ⟨Nat.zero_le _,fun x h=>by simp at h⟩ (by repeat (first|exact Fr.sub_nil _|refine Fr.sub_cons rfl ?_)) rfl rfl ?_
    rintro i ⟨hi,hno⟩ ih
    simp only [List.cons_append,List.nil_append] at hi ih ⊢
    by_cases h9:i<rows.length
    ·obtain ⟨r,hr⟩:∃ r,rows[i]?=some r:=⟨_,List.getElem?_eq_getElem h9⟩
     have er:=Vr hr
     by_cases h8:∀ x∈r,0≤x∧x<((p ^ m:Nat):Int)
     ·have he:V2 (rows.getD i default) (p ^ m)=0:=by rw [er,V2,if_pos h8]
      refine wk 18 (ct @Hq cz) ?_
      intro h7 b3 o1 pa1 ca1 h10
      exact tw (ih (i+1) (by omega) ⟨by omega,AHF hr hno h8⟩)
     ·have he:V2 (rows.getD i default) (p ^ m)=2:=by rw [er,V2,if_neg h8]
      rw [if_neg fun h=>h8 (h r (List.mem_of_getElem? hr)),← he]
      refine wk 18 (ct @Hq cz) ?_
      intro h7 b3 o1 pa1 ca1 h10
      exact ge
    ·rw [if_pos fun r hr=>hno r (by rwa [List.take_of_length_le (by omega)])]
     refine wk 11 cz ?_
     intro h7
     exact ge
 ·rw [if_pos hc] at he
  subst he
  have A9:=fun {pm:Option Addr}{nm cm:Nat}=>El (P:=P) (M:=M) (md:=md) (pm:=pm) (nm:=nm) (cm:=cm) (if_neg hc).symm
  refine wk 15 (ct @A9 cz) ?_
  intro b1 b2 h1
  exact ge
theorem Hg {pl pk:Option Addr}{nl cl nk ck:Nat}{l k:List Int}{res:Bool}(hr:decide (l=k)=res):Bs Tryz.prog 103 [.slice pl nl cl,.slice pk nk ck] [] [Ap Ai pl nl cl l,Ap Ai pk nk ck k] (Rv (.bool res) []):=by
 refine Ab (F:=Ls) rfl fun C=>?_
 subst hr
 refine Bb 0 rfl fun hn hb _=>?_
 refine Bb 1 rfl fun hn2 hb2 _=>?_
 subst hn
 subst hn2
 have hb':l.length*8≤140737488355328:=hb
 have hb2':k.length*8≤140737488355328:=hb2
 by_cases hl:l.length=k.length
 ·refine wk 13 cz ?_
  intro h1
  refine Ah (X:=Nat) [0,1] [0,1] (fun i=>[(5,.int .i64 (i:Int))]) (fun _=>[]) (fun _=>[]) (fun i=>i≤l.length∧∀ j,j<i→l[j]?=k[j]?) (fun i=>l.length-i) 0 [] rfl rfl rfl ⟨Nat.zero_le _,fun j h=>by omega⟩ (by repeat (first|exact Fr.sub_nil _|refine Fr.sub_cons rfl ?_)) rfl rfl ?_
  rintro i ⟨hi,hno⟩ ih
  simp only [List.cons_append,List.nil_append] at hi ih ⊢
  by_cases h9:i<l.length
  ·obtain ⟨y,hy⟩:∃ y,l[i]?=some y:=⟨_,List.getElem?_eq_getElem h9⟩
   obtain ⟨z,hz⟩:∃ z,k[i]?=some z:=⟨_,List.getElem?_eq_getElem (by omega)⟩
   have ey:=Vr hy
   have ez:=Vr hz
   by_cases h8:y=z
   ·subst h8
    refine wk 13 cz ?_
    intro h2 b1 o1 b2 o2 h3
    exact tw (ih (i+1) (by omega) ⟨by omega,fun j hj=>by
     rcases Nat.lt_succ_iff_lt_or_eq.1 hj with h|rfl
     ·exact hno j h
     ·rw [hy,hz]⟩)
   ·rw [decide_eq_false (show l≠k from fun e=>by rw [e,hz] at hy;exact h8 (Option.some.inj hy).symm)]
    refine wk 13 cz ?_
    intro h2 b1 o1 b2 o2 h3
    exact ge
  ·rw [decide_eq_true (show l=k from List.ext_getElem? fun j=>by
    by_cases h:j<i
    ·exact hno j h
    ·rw [List.getElem?_eq_none (by omega),List.getElem?_eq_none (by omega)])]
   refine wk 9 cz ?_
   intro h2
   exact ge
 ·rw [decide_eq_false (show l≠k from fun e=>hl (by rw [e]))]
  refine wk 13 cz ?_
  intro h1
  exact ge
theorem Du {pl pk:Option Addr}{nl cl nk ck:Nat}{l k:List (List Int)}{res:Bool}(hr:decide (l=k)=res):Bs Tryz.prog 53 [.slice pl nl cl,.slice pk nk ck] [] [Ap (Aj Ai) pl nl cl l,Ap (Aj Ai) pk nk ck k] (Rv (.bool res) []):=by
 refine Ab (F:=Lt) rfl fun C=>?_
 subst hr
 refine Bb 0 rfl fun hn hb _=>?_
 refine Bb 1 rfl fun hn2 hb2 _=>?_
 subst hn
 subst hn2
 have hb':l.length*24≤140737488355328:=hb
 have hb2':k.length*24≤140737488355328:=hb2
 by_cases hl:l.length=k.length
 ·refine wk 13 cz ?_
  intro h1
  refine Ah (X:=Nat) [0,1] [0,1] (fun i=>[(5,.int .i64 (i:Int))]) (fun _=>[]) (fun _=>[]) (fun i=>i≤l.length∧∀ j,j<i→l[j]?=k[j]?) (fun i=>l.length-i) 0 [] rfl rfl rfl ⟨Nat.zero_le _,fun j h=>by omega⟩ (by repeat (first|exact Fr.sub_nil _|refine Fr.sub_cons rfl ?_)) rfl rfl ?_
  rintro i ⟨hi,hno⟩ ih
  simp only [List.cons_append,List.nil_append] at hi ih ⊢
  by_cases h9:i<l.length
  ·obtain ⟨y,hy⟩:∃ y,l[i]?=some y:=⟨_,List.getElem?_eq_getElem h9⟩
   obtain ⟨z,hz⟩:∃ z,k[i]?=some z:=⟨_,List.getElem?_eq_getElem (by omega)⟩
   have ey:=Vr hy
   have ez:=Vr hz
   by_cases h8:y=z
   ·have hd:decide (l.getD i default=k.getD i default)=true:=by rw [ey,ez];exact decide_eq_true h8
    refine wk 13 (ct @Hg cz) ?_
    intro h2 b1 o1 pa1 ca1 b2 o2 pa2 ca2
    exact tw (ih (i+1) (by omega) ⟨by omega,fun j hj=>by
     rcases Nat.lt_succ_iff_lt_or_eq.1 hj with h|rfl
     ·exact hno j h
     ·rw [hy,hz,h8]⟩)
   ·have hd:decide (l.getD i default=k.getD i default)=false:=by rw [ey,ez];exact decide_eq_false h8
    rw [decide_eq_false (show l≠k from fun e=>by rw [e,hz] at hy;exact h8 (Option.some.inj hy).symm)]
    refine wk 13 (ct @Hg cz) ?_
    intro h2 b1 o1 pa1 ca1 b2 o2 pa2 ca2
    exact ge
  ·rw [decide_eq_true (show l=k from List.ext_getElem? fun j=>by
    by_cases h:j<i
    ·exact hno j h
    ·rw [List.getElem?_eq_none (by omega),List.getElem?_eq_none (by omega)])]
   refine wk 9 cz ?_
   intro h2
   exact ge
 ·rw [decide_eq_false (show l≠k from fun e=>hl (by rw [e]))]
  refine wk 13 cz ?_
  intro h1
  exact ge
theorem Pw {ps:Option Addr}{n c:Nat}{rows:List (List Int)}(hL:∀ r∈rows,r.length≤1000000):Bs Tryz.prog 84 [.slice ps n c] [] [Ap (Aj Ai) ps n c rows]
  (fun v Φ β=>∃ r:Row,v = .slice (ad r.bo) rows.length r.cap∧Φ=[A6 (Aj Ai) r rows.length rows]∧β=[(r.bo,22,r.cs)]):=by
 refine Ab (F:=Pk) rfl fun C=>?_
 refine Bb 0 rfl fun hn hb _=>?_
 subst hn
 have hb':rows.length*24≤140737488355328:=hb
 refine wk 7 cz ?_
 refine Fz (Aj Ai) 22 ?_
 refine Ah (X:=Nat×Row) [0,2] [0,1] (fun x=>[(4,.int .i64 (x.1:Int)),(3,.slice (ad x.2.bo) x.1 x.2.cap)]) (fun x=>[(x.2.bo,22,x.2.cs)]) (fun x=>[A6 (Aj Ai) x.2 x.1 (rows.take x.1)]) (fun x=>x.1≤rows.length) (fun x=>rows.length-x.1) (0,⟨none,0,[]⟩) [0] rfl rfl rfl (Nat.zero_le _) (by repeat (first|exact Fr.sub_nil _|refine Fr.sub_cons rfl ?_)) rfl rfl ?_
 rintro ⟨k,r⟩ hk ih
 simp only [List.cons_append,List.nil_append] at hk ih ⊢
 by_cases h9:k<rows.length
 ·obtain ⟨u,at_u⟩:∃ u,rows[k]?=some u:=⟨_,List.getElem?_eq_getElem h9⟩
  have hul:=hL u (List.mem_of_getElem? at_u)
  have ih':=fun r=>ih (k+1,r) (by dsimp only;omega) (by dsimp only;omega)
  simp only [List.take_add_one,at_u,Option.toList_some] at ih'
  clear ih
  refine wk 12 cz ?_
  intro h1 b1 b2 o1 hz1 pa1 ca1
  (apply L4 (E:=Dv IntKind.i64 8) (n:=0) (cs:=[]) [] [] 0 (fun w A hG=>Bf);(· rfl);(· rfl);(· rfl);(· rfl);(· decide))
  refine Aa rfl (Uk 0 0 1 rfl rfl rfl rfl rfl Cb Er rfl (by omega) _ Hf (by omega) fun r1=>?_)
  refine wk 1 cz ?_
  intro b3
  refine D4 1 0 rfl rfl (by show (0+u.length)*8≤140737488355328;omega) ?_
  refine Aa rfl (F1 (z:=[]++u) 1 0 5 rfl rfl rfl rfl rfl D5 I5 rfl (fun w A hG=>(A1 (hG _ (Af (n:=0) rfl)))) (by omega) _ Nd (by omega) fun r2=>?_)
  refine wk 4 cz ?_
  simp only [List.nil_append]
  refine Ky [true,false] [0,7,8] (by exact Ux rfl) rfl rfl (ih' r2)
 ·obtain rfl:k=rows.length:=by omega
  rw [List.take_length]
  refine wk 9 cz ?_
  intro h1
  refine Dx 1 [0] [0] rfl (.tmp rfl .nil) rfl rfl rfl ⟨r,rfl,rfl,rfl⟩
theorem AId {p m:Nat}{md:List Int}(K:Fok p m md):FO (p ^ m) (Ad (fA p m)) (Ad (fM p (Ax m md))) (C3 p m) (Hi p m md):=Dc K
theorem Ov {p m nm cm:Nat}{a:Int}{pm pu:Option Addr}{nu cu:Nat}{u md:List Int}(K:Fok p m md) (a0:0≤a) (a1:a<((p ^ m:Nat):Int)) (hu:∀ x∈u,0≤x∧x<((p ^ m:Nat):Int)) :
  Bs Tryz.prog 180 [.agg #[.int .i64 p,.int .i64 m,.slice pm nm cm],.int .i64 a,.slice pu nu cu] [] [Ap Ai pm nm cm md,Ap Ai pu nu cu u] (RwI nu (Ct (Ad (fM p (Ax m md))) a u)):=by
 refine Ab (F:=Oi) rfl fun C=>?_
 refine Bb 1 rfl fun hn hb _=>?_
 subst hn
 have hb':u.length*8≤140737488355328:=hb
 have Cp:=fun {nm cm:Nat}{pm:Option Addr}{x y:Int}=>G0 (nm:=nm) (cm:=cm) (pm:=pm) (x:=x) (y:=y) K
 have hml:=fun x (h:x∈u)=>K.fi.ml a x a0 a1 (hu x h).1 (hu x h).2
 have hq:=K.q
 generalize Ad (fM p (Ax m md))=M at *
 generalize p ^ m=q at *
 refine wk 11 cz ?_
 intro b1 b2
 rw [show Ao .i64 (List.replicate u.length 0)=Al .i64 ((Ct M a u).take 0++List.replicate (u.length-0) 0) by simp [Ao,Al]]
 refine Ah (X:=Nat) [1,2,3,6,7] [0,1] (fun i=>[(8,.int .i64 (i:Int))]) (fun i=>(some b2,3,Al .i64 ((Ct M a u).take i++List.replicate (u.length-i) 0))::_) (fun _=>[]) (fun i=>i≤u.length) (fun i=>u.length-i) 0 [] rfl rfl rfl (Nat.zero_le _) (by repeat (first|exact Fr.sub_nil _|refine Fr.sub_cons rfl ?_)) rfl rfl ?_
 rintro i hi ih
 simp only [List.cons_append,List.nil_append] at hi ih ⊢
 by_cases h9:i<u.length
 ·obtain ⟨x,at_x⟩:∃ x,u[i]?=some x:=⟨_,List.getElem?_eq_getElem h9⟩
  have ex:u.getD i default=x:=by rw [List.getD_eq_getElem?_getD,at_x];rfl
  have hx:=hu x (List.mem_of_getElem? at_x)
  have hm:=hml x (List.mem_of_getElem? at_x)
  obtain ⟨hx0,hx1⟩:=hx
  have ih':=ih (i+1) (by omega) (by omega)
  have eT:(Ct M a u)[i]?=some (M a (u.getD i default)):=by rw [Ct,List.getElem?_map,at_x,ex];rfl
  rw [← take_set eT h9] at ih'
  have hln:((Ct M a u).take i++List.replicate (u.length-i) 0).length=u.length:=by simp [Ct];omega
  generalize (Ct M a u).take i++List.replicate (u.length-i) 0=L at *
  rw [← ex] at hm
  refine wk 13 (ct @Cp cz) ?_
  intro h1 b3 o1
  exact tw (ih')
 ·obtain rfl:i=u.length:=by omega
  rw [Nat.sub_self,List.replicate_zero,List.append_nil,List.take_of_length_le (by simp [Ct])]
  refine wk 9 cz ?_
  intro h1
  have hall:∀ z∈Ct M a u,Bv .i64 z:=fun z hz=>by
   obtain ⟨y,hy,rfl⟩:=List.mem_map.1 hz
   have:=hml y hy
   simp only [Bv];omega
  have hln:(Ct M a u).length=u.length:=by simp [Ct]
  generalize Ct M a u=L at *
  refine Bl 0 rfl hln.symm hall (by omega) ?_
  refine Dx 2 [0] [0] rfl (.tmp rfl .nil) rfl rfl rfl ⟨⟨some b2,u.length,Al .i64 L⟩,rfl,rfl,rfl⟩
theorem Oj {p m nm cm n:Nat}{a:Int}{pm pu pv:Option Addr}{nu cu nv cv:Nat}{u v md:List Int}(K:Fok p m md) (a0:0≤a) (a1:a<((p ^ m:Nat):Int)) (hu:Wd (p ^ m) n u) (hv:Wd (p ^ m) n v) :
  Bs Tryz.prog 182 [.agg #[.int .i64 p,.int .i64 m,.slice pm nm cm],.slice pv nv cv,.int .i64 a,.slice pu nu cu] [] [Ap Ai pm nm cm md,Ap Ai pv nv cv v,Ap Ai pu nu cu u] (RwI n (Ey (Ad (fA p m)) (Ad (fM p (Ax m md))) a u v)):=by
 refine Ab (F:=Oq) rfl fun C=>?_
 refine Bb 1 rfl fun hn hb _=>?_
 refine Bb 2 rfl fun hn2 hb2 _=>?_
 have hul:=hu.1
 have hvl:=hv.1
 have hb':v.length*8≤140737488355328:=hn▸hb
 rw [hvl] at hn hb'
 rw [hul] at hn2
 subst hn
 subst hn2
 have FF:=K.fi
 have Cp:=fun {nm cm:Nat}{pm:Option Addr}{x y:Int}=>G0 (nm:=nm) (cm:=cm) (pm:=pm) (x:=x) (y:=y) K
 have Qu:=fun {nm cm:Nat}{pm:Option Addr}{x y:Int}=>Qy (nm:=nm) (cm:=cm) (pm:=pm) (x:=x) (y:=y) K
 have hT:=FF.axw a0 a1 hu hv
 have hq:=K.q
 generalize Ad (fM p (Ax m md))=M at *
 generalize Ad (fA p m)=A0 at *
 generalize p ^ m=q at *
 have hTa:∀ (i:Nat) (x y:Int),u[i]?=some x→v[i]?=some y→(Ey A0 M a u v)[i]?=some (A0 y (M a x)):=fun i x y h1 h2=>by rw [Ey,List.getElem?_zipWith,h1,h2]
 generalize Ey A0 M a u v=T at *
 have hTl:=hT.1
 refine wk 11 cz ?_
 intro b1 b2
 rw [show Ao .i64 (List.replicate nu 0)=Al .i64 (T.take 0++List.replicate (nu-0) 0) by simp [Ao,Al]]
 refine Ah (X:=Nat) [1,2,3,4,8,9] [0,1,2] (fun i=>[(10,.int .i64 (i:Int))]) (fun i=>(some b2,3,Al .i64 (T.take i++List.replicate (nu-i) 0))::_) (fun _=>[]) (fun i=>i≤nu) (fun i=>nu-i) 0 [] rfl rfl rfl (Nat.zero_le _) (by repeat (first|exact Fr.sub_nil _|refine Fr.sub_cons rfl ?_)) rfl rfl ?_
 rintro i hi ih
 simp only [List.cons_append,List.nil_append] at hi ih ⊢
 by_cases h9:i<nu
 ·obtain ⟨x,at_x⟩:∃ x,u[i]?=some x:=⟨_,List.getElem?_eq_getElem (by omega)⟩
  obtain ⟨y,at_y⟩:∃ y,v[i]?=some y:=⟨_,List.getElem?_eq_getElem (by omega)⟩
  have ex:u.getD i default=x:=by rw [List.getD_eq_getElem?_getD,at_x];rfl
  have ey:v.getD i default=y:=by rw [List.getD_eq_getElem?_getD,at_y];rfl
  obtain ⟨x0,x1⟩:=hu.2 x (List.mem_of_getElem? at_x)
  obtain ⟨y0,y1⟩:=hv.2 y (List.mem_of_getElem? at_y)
  obtain ⟨m0,m1⟩:=FF.ml a x a0 a1 x0 x1
  have eT:=hTa i x y at_x at_y
  obtain ⟨t0,t1⟩:=hT.2 _ (List.mem_of_getElem? eT)
  have ih':=ih (i+1) (by omega) (by omega)
  have hln:(T.take i++List.replicate (nu-i) 0).length=nu:=by rw [List.length_append,List.length_take,List.length_replicate];omega
  by_cases h0:x=0
  ·rw [h0,FF.m0 a0 a1,FF.a0 y y0 y1] at eT
   rw [← take_set eT h9] at ih'
   generalize T.take i++List.replicate (nu-i) 0=L at *
   refine wk 9 cz ?_
   intro h1 b3 o1 hz1
   refine Aa rfl (Av 0 rfl rfl Ci fun ⟨r1,r2⟩=>?_)
   refine wk 5 cz ?_
   intro b4 o2 hz2
   refine Aa rfl (Av 0 rfl rfl Ci fun ⟨r3,r4⟩=>?_)
   refine wk 6 cz ?_
   intro h2
   exact tw (ih')
  ·rw [← ex,← ey] at eT t0 t1
   rw [← ex] at m0 m1
   rw [← take_set eT h9,← List.set_set (i:=i) (a:=y)] at ih'
   generalize T.take i++List.replicate (nu-i) 0=L at *
   refine wk 9 cz ?_
   intro h1 b3 o1 hz1
   refine Aa rfl (Av 0 rfl rfl Ci fun ⟨r1,r2⟩=>?_)
   refine wk 5 cz ?_
   intro b4 o2 hz2
   refine Aa rfl (Av 0 rfl rfl Ci fun ⟨r3,r4⟩=>?_)
   refine wk 5 (ct @Cp (ct @Qu cz)) ?_
   intro h2 b5 o3 b6 o4
   refine Aa rfl (Xs 0 rfl rfl rfl Ci (by first|omega|(simp;omega)) ?_)
   refine wk 3 cz ?_
   exact tw (ih')
 ·obtain rfl:i=nu:=by omega
  rw [Nat.sub_self,List.replicate_zero,List.append_nil,List.take_of_length_le (by omega)]
  refine wk 9 cz ?_
  intro h1
  refine Bl 0 rfl hTl.symm (fun z hz=>by have:=hT.2 z hz;simp only [Bv];omega) (by omega) ?_
  refine Dx 2 [0] [0] rfl (.tmp rfl .nil) rfl rfl rfl ⟨⟨some b2,_,Al .i64 T⟩,rfl,rfl,rfl⟩
abbrev ElO (n:Nat) (E:List (List Int)×List Nat):Value→List Fact→List A2→Prop:=fun v Φ β=>∃ (r:Row) (pp:Option Addr) (cp:Nat),v = .tuple #[.slice (ad r.bo) n r.cap,.slice pp E.2.length cp]
 ∧ Φ=[A6 (Aj Ai) r n E.1,Ap Ai pp E.2.length cp (Bc E.2)]∧β=[(r.bo,22,r.cs)]
theorem K2 {p m n N W nm cm c:Nat}{pm ps:Option Addr}{rows:List (List Int)}{md:List Int}(K:Fok p m md) (hn:n≤1000000) (hNW:N≤W) (hW:W≤1000000) (hl:rows.length=n) (hM:Cz (p ^ m) W rows) :
  Bs Tryz.prog 149 [.agg #[.int .i64 p,.int .i64 m,.slice pm nm cm],.slice ps n c,.int .i64 N] [] [Ap Ai pm nm cm md,Ap (Aj Ai) ps n c rows] (ElO n (J9 p m md N 0 0 rows)):=by
 refine Ab (F:=G3) rfl fun C=>?_
 have O:=Dc K
 have hq:=K.q
 have q2:=O.q2
 subst hl
 generalize hEE:J9 p m md N 0 0 rows=EE
 have I6:=fun {ps:Option Addr}{n c:Nat}=>Pw (ps:=ps) (n:=n) (c:=c) (rows:=rows) fun r hr=>by rw [(hM r hr).1];exact hW
 have hb0:rows.length*24≤140737488355328:=by omega
 rcases Nat.eq_zero_or_pos rows.length with hn0|hn0
 ·have hr0:=List.length_eq_zero_iff.1 hn0
  subst hr0
  rw [J9,Lj _ _ _ _ (Nat.zero_le _)] at hEE
  subst hEE
  refine wk 14 (ct @I6 cz) ?_
  intro b1 r1
  refine Fz Ai 3 ?_
  refine Ah (X:=Unit) [2,3,6,7,8] [0,1,2,3] (fun _=>[(11,.int .i64 0),(10,.int .i64 0),(9,.slice none 0 0)]) (fun _=>_) (fun _=>[]) (fun _=>True) (fun _=>0) () [] rfl rfl rfl trivial (by repeat (first|exact Fr.sub_nil _|refine Fr.sub_cons rfl ?_)) rfl rfl ?_
  rintro ⟨⟩-ih
  simp only [List.cons_append,List.nil_append] at ih ⊢
  refine D4 0 0 rfl rfl (by show 0*8≤140737488355328;omega) ?_
  rcases Nat.eq_zero_or_pos N with hN0|hN0
  ·subst hN0
   refine wk 7 cz ?_
   refine Dx 2 [0] [2,0] rfl (.tmp rfl (.tmp rfl .nil)) rfl rfl rfl ⟨r1,_,_,rfl,rfl,rfl⟩
  ·refine wk 14 cz ?_
   intro h1 h2
   refine Dx 2 [0] [2,0] rfl (.tmp rfl (.tmp rfl .nil)) rfl rfl rfl ⟨r1,_,_,rfl,rfl,rfl⟩
 refine wk 14 (ct @I6 cz) ?_
 intro b1 r1
 refine Dt 0 rfl hn0 fun bh caph csh hr=>?_
 subst hr
 dsimp only
 refine Fz Ai 3 ?_
 refine Ah (X:=Nat×List Value×Row×List (List Int)×List Nat) [2,3,6,7,8] [2] (fun x=>[(11,.int .i64 (x.1:Int)),(10,.int .i64 (x.2.2.2.2.length:Int)),(9,.slice (ad x.2.2.1.bo) x.2.2.2.2.length x.2.2.1.cap)])
  (fun x=>(x.2.2.1.bo,3,x.2.2.1.cs)::(some bh,22,x.2.1)::_)
  (fun x=>[A6 Ai x.2.2.1 x.2.2.2.2.length (Bc x.2.2.2.2),A6 (Aj Ai) ⟨some bh,caph,x.2.1⟩ rows.length x.2.2.2.1])
  (fun x=>x.1≤N∧x.2.2.2.1.length=rows.length∧Cz (p ^ m) W x.2.2.2.1∧x.2.2.2.2.length≤rows.length∧(J9 p m md (N-x.1) x.1 x.2.2.2.2.length x.2.2.2.1).1=EE.1∧x.2.2.2.2++(J9 p m md (N-x.1) x.1 x.2.2.2.2.length x.2.2.2.1).2=EE.2) (fun x=>N-x.1)
  (0,csh,⟨none,0,[]⟩,rows,[]) [0,1] rfl rfl rfl ⟨Nat.zero_le _,rfl,hM,Nat.zero_le _,congrArg Prod.fst hEE,congrArg Prod.snd hEE⟩ (by repeat (first|exact Fr.sub_nil _|refine Fr.sub_cons rfl ?_)) rfl rfl ?_
 clear hEE
 generalize hnn:rows.length=n at *
 rintro ⟨c,ch,rp,L,pv⟩ ⟨hcN,hL,hLM,hpv,hE1,hE2⟩ ih
 simp only [List.cons_append,List.nil_append] at hcN hL hLM hpv hE1 hE2 ih ⊢
 by_cases hcl:c<N
 ·by_cases hpl:pv.length<n
  ·have hrl:∀ k,k<n→(Ar L k).length=W:=fun k hk=>(hLM.row (by omega)).1
   have hra:∀ k,k<n→L[k]?=some (Ar L k):=fun k hk=>by rw [Ar,List.getD_eq_getElem?_getD,List.getElem?_eq_getElem (by omega)];rfl
   have hre:∀ k,k<n→(Ar L k)[c]?=some (en L k c):=fun k hk=>by
    rw [en,Ba,List.getD_eq_getElem?_getD,List.getElem?_eq_getElem (by rw [hrl k hk];omega)];rfl
   have hen:∀ k,k<n→0≤en L k c∧en L k c<((p ^ m:Nat):Int):=fun k hk=>Bh (by omega) (hLM.row (by omega)) c
   refine wk 14 cz ?_
   intro h1 h2
   refine Ah (X:=Nat) [2,3,6,7,8,9,10,11,16,17,18,19,20,21,22,23,24,27] [0,1,2] (fun k=>[(12,.int .i64 (k:Int))]) (fun _=>_) (fun _=>[]) (fun k=>pv.length≤k∧k≤n∧∀ j,pv.length≤j→j<k→en L j c=0) (fun k=>n-k) pv.length [] rfl rfl rfl ⟨Nat.le_refl _,hpv,fun j h1 h2=>by omega⟩ (by repeat (first|exact Fr.sub_nil _|refine Fr.sub_cons rfl ?_)) rfl rfl ?_
   rintro k ⟨hk1,hk2,hk3⟩ ihk
   simp only [List.cons_append,List.nil_append] at hk1 hk2 hk3 ihk ⊢
   by_cases hkn:k<n
   ·have at_u:=hra k hkn
    have at_z:=hre k hkn
    have hru:=hrl k hkn
    by_cases hz0:en L k c=0
    ·rw [hz0] at at_z
     refine wk 8 cz ?_
     intro h3
     refine Bt rfl rfl (Kb 1 1 (k) rfl rfl rfl Fb rfl (by omega) fun z1 hz1 pa1 ca1=>?_)
     obtain rfl:_=z1:=Option.some.inj (at_u.symm.trans hz1)
     refine wk 2 cz ?_
     intro b2 o1 hz2
     refine Bt rfl rfl (Av 0 rfl rfl Ci fun ⟨r1,r2⟩=>?_)
     refine wk 6 cz ?_
     intro h4
     exact tw (ihk (k+1) (by omega) ⟨by omega,by omega,fun j h1 h2=>by
      rcases Nat.lt_succ_iff_lt_or_eq.1 h2 with h|rfl
      ·exact hk3 j h1 h
      ·exact hz0⟩)
    ·clear ihk
     have hrt:=hra pv.length hpl
     obtain ⟨e0,e1⟩:=hen k hkn
     obtain ⟨⟨v0,v1⟩,hiv⟩:=O.iv _ e0 e1 hz0
     have hSl:(Cc L pv.length k).length=n:=by rw [Cc,List.length_set,List.length_set,hL]
     have hSW:∀ i,i<n→Wd (p ^ m) W (Ar (Cc L pv.length k) i):=fun i hi=>Mc hLM (by omega) (by omega) (by omega)
     have hSra:∀ i,i<n→(Cc L pv.length k)[i]?=some (Ar (Cc L pv.length k) i):=fun i hi=>by rw [Ar,List.getD_eq_getElem?_getD,List.getElem?_eq_getElem (by omega)];rfl
     have hSt:Ar (Cc L pv.length k) pv.length=Ar L k:=by
      rw [Fa (by omega) (by omega)]
      split
      ·rename_i e;rw [← e]
      ·rw [if_pos rfl]
     have at_v:=hSra pv.length hpl
     rw [hSt,Cc] at at_v
     have hrk:=hrl k hkn
     have ek:(Ar L k).getD c default=en L k c:=Vr at_z
     have key:∀ ch':List Value,J G3 C [It.c (pL 128159),It.blk 1,It.c (pL 2003),It.lp (pL 500),It.blk 0,It.c [1,1,1,1,1]]
       [(2,.int .i64 N),(3,.pointer (some ⟨b1,0,none⟩)),(6,.slice none 0 0),(7,.slice none 0 0),(8,.slice (ad (some bh)) n caph),(9,.slice (ad rp.bo) pv.length rp.cap),(10,.int .i64 (pv.length:Int)),(11,.int .i64 (c:Int))]
       [(rp.bo,3,rp.cs),(some bh,22,ch'),(some b1,24,[.int .i64 p,.int .i64 m,.slice pm nm cm])]
       [A6 Ai rp pv.length (Bc pv),A6 (Aj Ai) ⟨some bh,caph,ch'⟩ n ((Cc L pv.length k).set pv.length (Ct (Ad (fM p (Ax m md))) (Hi p m md (en L k c)) (Ar L k))),Ap Ai pm nm cm md] (Fm C (ElO n EE)):=by
      intro ch'
      clear at_v at_u at_z hrt hrk ek
      have hprW:Wd (p ^ m) W (Ct (Ad (fM p (Ax m md))) (Hi p m md (en L k c)) (Ar L k)):=O.scl_wd v0 v1 (hLM.row (by omega))
      have hpiv:Ka (Ad (fA p m)) (Ad (fM p (Ax m md))) (C3 p m) (Hi p m md) pv.length k c L=(List.range n).map fun i=>if i=pv.length then Ct (Ad (fM p (Ax m md))) (Hi p m md (en L k c)) (Ar L k) else Ey (Ad (fA p m)) (Ad (fM p (Ax m md))) (C3 p m (en (Cc L pv.length k) i c)) (Ct (Ad (fM p (Ax m md))) (Hi p m md (en L k c)) (Ar L k)) (Ar (Cc L pv.length k) i):=by rw [Ka,hL]
      have hpM:=O.piv_wd hLM (show pv.length<L.length by omega) (show k<L.length by omega) hz0
      have hf:Hp L pv.length c=some k:=Zj hk1 (by omega) hz0 fun j h1 h2=>hk3 j h1 h2
      rw [J9,show N-c=(N-(c+1))+1 by omega,Ds,hf] at hE1 hE2
      have hE1':(J9 p m md (N-(c+1)) (c+1) (pv.length+1) (Ka (Ad (fA p m)) (Ad (fM p (Ax m md))) (C3 p m) (Hi p m md) pv.length k c L)).1=EE.1:=hE1
      have hE2':pv++c::(J9 p m md (N-(c+1)) (c+1) (pv.length+1) (Ka (Ad (fA p m)) (Ad (fM p (Ax m md))) (C3 p m) (Hi p m md) pv.length k c L)).2=EE.2:=hE2
      have hpM':Cz (p ^ m) W (Ka (Ad (fA p m)) (Ad (fM p (Ax m md))) (C3 p m) (Hi p m md) pv.length k c L):=hpM
      have hplen:(Ka (Ad (fA p m)) (Ad (fM p (Ax m md))) (C3 p m) (Hi p m md) pv.length k c L).length=n:=by rw [Hh,hL]
      clear hE1 hE2 hpM
      generalize Ka (Ad (fA p m)) (Ad (fM p (Ax m md))) (C3 p m) (Hi p m md) pv.length k c L=PV at *
      generalize Ct (Ad (fM p (Ax m md))) (Hi p m md (en L k c)) (Ar L k)=pr at *
      have hSen:∀ i,i<n→0≤en (Cc L pv.length k) i c∧en (Cc L pv.length k) i c<((p ^ m:Nat):Int):=fun i hi=>Bh (by omega) (hSW i hi) c
      have hSre:∀ i,i<n→(Ar (Cc L pv.length k) i)[c]?=some (en (Cc L pv.length k) i c):=fun i hi=>by
       rw [en,Ba,List.getD_eq_getElem?_getD,List.getElem?_eq_getElem (by rw [(hSW i hi).1];omega)];rfl
      clear hSt hre hen hra hrl hf hz0 e0 e1 hiv v0 v1 hk3 hLM
      generalize Cc L pv.length k=S at *
      let CL:Nat→List (List Int):=fun i=>(List.range n).map fun j=>if j=pv.length then pr else if j<i then Ey (Ad (fA p m)) (Ad (fM p (Ax m md))) (C3 p m (en S j c)) pr (Ar S j) else Ar S j
      have hCl:∀ i,(CL i).length=n:=fun i=>by simp [CL]
      have hCa:∀ i j,j<n→(CL i)[j]?=some (if j=pv.length then pr else if j<i then Ey (Ad (fA p m)) (Ad (fM p (Ax m md))) (C3 p m (en S j c)) pr (Ar S j) else Ar S j):=fun i j hj=>by
       show ((List.range n).map _)[j]?=_
       rw [List.getElem?_map,List.getElem?_range hj];rfl
      have hC0:S.set pv.length pr=CL 0:=by
       refine List.ext_getElem? fun j=>?_
       by_cases hj:j<n
       ·rw [hCa 0 j hj,List.getElem?_set]
        by_cases e:pv.length=j
        ·rw [if_pos e,if_pos (by omega),if_pos e.symm]
        ·rw [if_neg e,if_neg (fun h=>e h.symm),if_neg (by omega),hSra j hj]
       ·rw [List.getElem?_eq_none (by rw [List.length_set];omega),List.getElem?_eq_none (by rw [hCl];omega)]
      have hCn:CL n=PV:=by
       rw [hpiv]
       refine List.map_congr_left fun j hj=>?_
       have:=List.mem_range.1 hj
       by_cases e:j=pv.length
       ·rw [if_pos e,if_pos e]
       ·rw [if_neg e,if_neg e,if_pos this]
      have hCt:∀ i,(CL i)[pv.length]?=some pr:=fun i=>by rw [hCa i _ hpl,if_pos rfl]
      have hCi:∀ i,i<n→i≠pv.length→(CL i)[i]?=some (Ar S i):=fun i hi e=>by rw [hCa i i hi,if_neg e,if_neg (Nat.lt_irrefl i)]
      have hCsame:∀ i,i<n→(i=pv.length∨en S i c=0)→CL (i+1)=CL i:=fun i hi h=>by
       refine List.map_congr_left fun j hj=>?_
       have hjn:=List.mem_range.1 hj
       by_cases e:j=pv.length
       ·rw [if_pos e,if_pos e]
       ·rw [if_neg e,if_neg e]
        by_cases e2:j<i
        ·rw [if_pos e2,if_pos (by omega)]
        ·rw [if_neg e2]
         by_cases e3:j=i
         ·subst e3
          rcases h with h|h
          ·exact absurd h e
          ·have n0:C3 p m 0=0:=O.n0
           rw [if_pos (by omega),h,n0,AEE O.fi hprW (hSW j hjn)]
         ·rw [if_neg (by omega)]
      have hCset:∀ i,i<n→i≠pv.length→CL (i+1)=(CL i).set i (Ey (Ad (fA p m)) (Ad (fM p (Ax m md))) (C3 p m (en S i c)) pr (Ar S i)):=fun i hi e=>by
       refine List.ext_getElem? fun j=>?_
       by_cases hj:j<n
       ·rw [hCa _ j hj,List.getElem?_set]
        by_cases e2:i=j
        ·subst e2
         rw [if_neg e,if_pos (Nat.lt_succ_self i),if_pos rfl,if_pos (by rw [hCl];exact hi)]
        ·rw [if_neg e2,hCa i j hj]
         by_cases e3:j=pv.length
         ·rw [if_pos e3,if_pos e3]
         ·rw [if_neg e3,if_neg e3]
          by_cases e4:j<i
          ·rw [if_pos e4,if_pos (by omega)]
          ·rw [if_neg e4,if_neg (by omega)]
       ·rw [List.getElem?_eq_none (by rw [hCl];omega),List.getElem?_eq_none (by rw [List.length_set,hCl];omega)]
      clear_value CL
      rw [hC0]
      refine wk 3 cz ?_
      refine Ah (X:=Nat×List Value) [2,3,6,7,8,9,10,11] [0,1,2] (fun x=>[(13,.int .i64 (x.1:Int))]) (fun x=>(rp.bo,3,rp.cs)::(some bh,22,x.2)::_) (fun x=>[A6 (Aj Ai) ⟨some bh,caph,x.2⟩ n (CL x.1)]) (fun x=>x.1≤n) (fun x=>n-x.1) (0,ch') [1] rfl rfl rfl (Nat.zero_le _) (by repeat (first|exact Fr.sub_nil _|refine Fr.sub_cons rfl ?_)) rfl rfl ?_
      rintro ⟨i,ch2⟩ hi ihi
      simp only [List.cons_append,List.nil_append] at hi ihi ⊢
      by_cases hin:i<n
      ·by_cases hit:i=pv.length
       ·have ih':=fun ch=>ihi (i+1,ch) (by dsimp only;omega) (by dsimp only;omega)
        simp only [hCsame i hin (.inl hit)] at ih'
        refine wk 18 cz ?_
        intro h3 h4
        exact tw (ih' ch2)
       ·have at_w:=hCi i hin hit
        have at_x:=hSre i hin
        have hwl:=(hSW i hin).1
        by_cases hx0:en S i c=0
        ·have ih':=fun ch=>ihi (i+1,ch) (by dsimp only;omega) (by dsimp only;omega)
         simp only [hCsame i hin (.inr hx0)] at ih'
         refine wk 14 cz ?_
         intro h3 h4
         refine Bt rfl rfl (Kb 1 0 (i) rfl rfl rfl Fb rfl (by omega) fun z1 hz1 pa1 ca1=>?_)
         obtain rfl:_=z1:=Option.some.inj (at_w.symm.trans hz1)
         refine wk 2 cz ?_
         intro b2 o1 hz2
         refine Bt rfl rfl (Av 0 rfl rfl Ci fun ⟨r1,r2⟩=>?_)
         refine wk 6 cz ?_
         intro h5
         exact tw (ih' ch2)
        ·have ih':=fun ch=>ihi (i+1,ch) (by dsimp only;omega) (by dsimp only;omega)
         simp only [hCset i hin hit] at ih'
         have at_p:=hCt i
         have ex:(Ar S i).getD c default=en S i c:=Vr at_x
         obtain ⟨x0,x1⟩:=hSen i hin
         obtain ⟨⟨g0,g1⟩,-⟩:=O.ng _ x0 x1
         have hneg:0≤((nP p m ((Ar S i).getD c default).toNat:Nat):Int)∧((nP p m ((Ar S i).getD c default).toNat:Nat):Int)<((p ^ m:Nat):Int):=by rw [ex];exact ⟨g0,g1⟩
         have Qo:=fun {nm cm:Nat}{pm:Option Addr}{x:Int}=>Q5 (nm:=nm) (cm:=cm) (pm:=pm) (x:=x) K
         have Oy:=fun {nm cm nu cu nv cv:Nat}{pm pu pv:Option Addr}{a:Int}(a0:0≤a) (a1:a<((p ^ m:Nat):Int))=>(Oj (nm:=nm) (cm:=cm) (pm:=pm) (pu:=pu) (nu:=nu) (cu:=cu) (pv:=pv) (nv:=nv) (cv:=cv) (a:=a) K a0 a1 hprW (hSW i hin)).pubR (by show W*8≤140737488355328;omega)
         refine wk 14 cz ?_
         intro h3 h4
         refine Bt rfl rfl (Kb 1 0 (i) rfl rfl rfl Fb rfl (by omega) fun z1 hz1 pa1 ca1=>?_)
         obtain rfl:_=z1:=Option.some.inj (at_w.symm.trans hz1)
         refine wk 2 cz ?_
         intro b2 o1 hz2
         refine Bt rfl rfl (Av 0 rfl rfl Ci fun ⟨r1,r2⟩=>?_)
         refine wk 5 (ct @Qo (ct @Oy cz)) ?_
         intro h5 pa2 ca2 pa3 ca3 b3 o2 pa4 ca4 pa5 ca5
         refine Aa rfl (G4 (vs:=[Value.slice pa5 W ca5]) (z:=Ey (Ad (fA p m)) (Ad (fM p (Ax m md))) (↑(nP p m ((Ar S i).getD c default).toNat)) pr (Ar S i)) 1 7 (i) rfl rfl rfl rfl rfl Fb (Nat.mul_one _).symm (by omega) (fun w A hG=>(A1 (hG _ (Af (n:=0) rfl)))) fun cs1=>?_)
         refine wk 3 cz ?_
         rw [ex]
         exact tw (ih' cs1)
      ·obtain rfl:i=n:=by omega
       rw [hCn]
       clear ihi hC0 hCn hCt hCi hCsame hCset hCa hCl
       refine wk 9 cz ?_
       intro h3 b2
       refine Aa rfl (F1 (z:=(↑c:Int)) 1 0 1 rfl rfl rfl rfl rfl Cb Er rfl (fun w A hG=>(Dh (by first|(simp only [Bv];omega)|(simp [Bv];done)))) (by omega) _ Hf (by omega) fun r1=>?_)
       refine wk 6 cz ?_
       have ih':=fun ch rp=>ih (c+1,ch,rp,PV,pv++[c]) (by dsimp only;omega) ⟨by dsimp only;omega,hplen,hpM',by rw [List.length_append,List.length_singleton];omega,by rw [List.length_append,List.length_singleton];exact hE1',by rw [List.length_append,List.length_singleton,List.append_assoc];exact hE2'⟩
       have et:Bc (pv++[c])=Bc pv++[(c:Int)]:=by simp [Bc]
       simp only [et,List.length_append,List.length_singleton] at ih'
       refine Ky [true,false,true,true] [0,1,4] (by exact Ux rfl) rfl rfl (ih' ch2 r1)
     by_cases h1:en L k c=1
     ·have hV:Hi p m md (en L k c)=1:=by
       rw [h1] at hiv v0 v1 ⊢
       have v0':0≤Hi p m md 1:=v0
       have v1':Hi p m md 1<((p ^ m:Nat):Int):=v1
       have h2:Ad (fM p (Ax m md)) 1 (Hi p m md 1)=1:=hiv
       rw [O.fi.mc 1 _ (by omega) (by omega) v0' v1',O.fi.m1 _ v0' v1'] at h2
       exact h2
      have hs1:(Cc L pv.length k).set pv.length (Ct (Ad (fM p (Ax m md))) (Hi p m md (en L k c)) (Ar L k))=(L.set pv.length (Ar L k)).set k (Ar L pv.length):=by
       rw [hV,AE0 O.fi (hLM.row (by omega))]
       obtain ⟨h2,h3⟩:=List.getElem?_eq_some_iff.1 at_v
       refine List.ext_getElem? fun j=>?_
       rw [List.getElem?_set]
       by_cases e:pv.length=j
       ·subst e
        rw [if_pos rfl,if_pos (by rw [hSl];exact hpl),at_v]
       ·rw [if_neg e];rfl
      rw [hs1] at key
      refine wk 8 cz ?_
      intro h3
      refine Bt rfl rfl (Kb 1 1 (k) rfl rfl rfl Fb rfl (by omega) fun z1 hz1 pa1 ca1=>?_)
      obtain rfl:_=z1:=Option.some.inj (at_u.symm.trans hz1)
      refine wk 2 cz ?_
      intro b2 o1 hz2
      refine Bt rfl rfl (Av 0 rfl rfl Ci fun ⟨r1,r2⟩=>?_)
      refine wk 10 cz ?_
      intro h4 h5
      (apply Ga (x0:=none) it mx 0 13 [2,3] 1;(· rfl);(· rfl);(· rfl);(· decide))
      simp only [List.drop_zero]
      (apply A3 6;(· rfl);(· simp))
      (apply Ac;(· rfl);(· exact Cf fun _=>Be (k) (k) rfl rfl D5 rfl (by omega) (Nat.mul_one _) An))
      (apply Ii;(· rfl);(· exact Sf 1 3 (k) rfl rfl rfl Fb rfl (by assumption));intro pa2 ca2)
      (apply A3 2;(· rfl);(· simp))
      (apply Ac;(· rfl);(· exact Cf fun _=>Be (pv.length) (pv.length) rfl rfl D5 rfl (by omega) (Nat.mul_one _) An))
      (apply Ii;(· rfl);(· exact Sf 1 3 (pv.length) rfl rfl rfl Fb rfl (by assumption));intro pa3 ca3)
      (apply Ac;(· rfl);(· exact Cf fun _=>Be (pv.length) (pv.length) rfl rfl D5 rfl (by omega) (Nat.mul_one _) An))
      refine Fl rfl ?_
      (rotate_left;rfl;rotate_right)
      simp only [List.map_cons,List.map_nil,List.cons_append,List.nil_append]
      refine Gq it rfl rfl ⟨⟨_,_,_,_,rfl,rfl,rfl,rfl,rfl,rfl,(by first|trivial|(repeat' first|exact trivial|apply And.intro|omega))⟩,⟨⟨_,_,_,_,rfl,rfl,rfl,rfl,rfl,rfl,(by first|trivial|(repeat' first|exact trivial|apply And.intro|omega))⟩,trivial⟩⟩ (G4 (vs:=[Value.slice pa2 (Ar L k).length ca2]) (z:=Ar L k) 1 5 (pv.length) rfl rfl rfl rfl rfl Fb (Nat.mul_one _).symm (by omega) (fun w A hG=>(A1 (hG _ (Af (n:=1) rfl)))) fun cs1=>?_)
      refine H8 it ⟨⟨_,_,_,_,rfl,rfl,rfl,rfl,rfl,rfl,(by first|trivial|(repeat' first|exact trivial|apply And.intro|omega))⟩,⟨⟨_,_,_,_,rfl,rfl,rfl,rfl,rfl,rfl,(by first|trivial|(repeat' first|exact trivial|apply And.intro|omega))⟩,trivial⟩⟩ ?_
      refine wk 1 cz ?_
      refine Aa rfl (G4 (vs:=[Value.slice pa3 (Ar L pv.length).length ca3]) (z:=Ar L pv.length) 1 0 (k) rfl rfl rfl rfl rfl Fb (Nat.mul_one _).symm (by omega) (fun w A hG=>(A1 (hG _ (Af (n:=1) rfl)))) fun cs2=>?_)
      refine wk 3 cz ?_
      refine Aa rfl (Kb 1 0 (pv.length) rfl rfl rfl Fb rfl (by omega) fun z1 hz3 pa4 ca4=>?_)
      obtain rfl:_=z1:=Option.some.inj (at_v.symm.trans hz3)
      refine wk 2 cz ?_
      intro b3 o2 hz4
      refine Aa rfl (Av 0 rfl rfl Ci fun ⟨r3,r4⟩=>?_)
      refine wk 3 cz ?_
      intro h6
      refine Xt 1 [.c (pL 128159),.blk 1,.c (pL 2003),.lp (pL 500),.blk 0,.c [1,1,1,1,1]] rfl ?_
      exact tw (key cs2)
     ·have Q2:=fun {nm cm:Nat}{pm:Option Addr}{x:Int}=>Qz (nm:=nm) (cm:=cm) (pm:=pm) (x:=x) K
      have N9:=fun {nm cm cu:Nat}{pm pu:Option Addr}{a:Int}(a0:0≤a) (a1:a<((p ^ m:Nat):Int))=>(Ov (nm:=nm) (cm:=cm) (pm:=pm) (pu:=pu) (nu:=(Ar L k).length) (cu:=cu) (a:=a) (u:=Ar L k) K a0 a1 (hLM.row (by omega)).2).pubR (by show (Ar L k).length*8≤140737488355328;omega)
      have hiv2:0≤((iF (p ^ m) (fM p (Ax m md)) ((Ar L k).getD c default).toNat:Nat):Int)∧((iF (p ^ m) (fM p (Ax m md)) ((Ar L k).getD c default).toNat:Nat):Int)<((p ^ m:Nat):Int):=by rw [ek];exact ⟨v0,v1⟩
      rw [show (Cc L pv.length k).set pv.length (Ct (Ad (fM p (Ax m md))) (Hi p m md (en L k c)) (Ar L k))=((L.set pv.length (Ar L k)).set k (Ar L pv.length)).set pv.length (Ct (Ad (fM p (Ax m md))) ((iF (p ^ m) (fM p (Ax m md)) (en L k c).toNat:Nat):Int) (Ar L k)) from rfl] at key
      refine wk 8 cz ?_
      intro h3
      refine Bt rfl rfl (Kb 1 1 (k) rfl rfl rfl Fb rfl (by omega) fun z1 hz1 pa1 ca1=>?_)
      obtain rfl:_=z1:=Option.some.inj (at_u.symm.trans hz1)
      refine wk 2 cz ?_
      intro b2 o1 hz2
      refine Bt rfl rfl (Av 0 rfl rfl Ci fun ⟨r1,r2⟩=>?_)
      refine wk 10 cz ?_
      intro h4 h5
      (apply Ga (x0:=none) it mx 0 13 [2,3] 1;(· rfl);(· rfl);(· rfl);(· decide))
      simp only [List.drop_zero]
      (apply A3 6;(· rfl);(· simp))
      (apply Ac;(· rfl);(· exact Cf fun _=>Be (k) (k) rfl rfl D5 rfl (by omega) (Nat.mul_one _) An))
      (apply Ii;(· rfl);(· exact Sf 1 3 (k) rfl rfl rfl Fb rfl (by assumption));intro pa2 ca2)
      (apply A3 2;(· rfl);(· simp))
      (apply Ac;(· rfl);(· exact Cf fun _=>Be (pv.length) (pv.length) rfl rfl D5 rfl (by omega) (Nat.mul_one _) An))
      (apply Ii;(· rfl);(· exact Sf 1 3 (pv.length) rfl rfl rfl Fb rfl (by assumption));intro pa3 ca3)
      (apply Ac;(· rfl);(· exact Cf fun _=>Be (pv.length) (pv.length) rfl rfl D5 rfl (by omega) (Nat.mul_one _) An))
      refine Fl rfl ?_
      (rotate_left;rfl;rotate_right)
      simp only [List.map_cons,List.map_nil,List.cons_append,List.nil_append]
      refine Gq it rfl rfl ⟨⟨_,_,_,_,rfl,rfl,rfl,rfl,rfl,rfl,(by first|trivial|(repeat' first|exact trivial|apply And.intro|omega))⟩,⟨⟨_,_,_,_,rfl,rfl,rfl,rfl,rfl,rfl,(by first|trivial|(repeat' first|exact trivial|apply And.intro|omega))⟩,trivial⟩⟩ (G4 (vs:=[Value.slice pa2 (Ar L k).length ca2]) (z:=Ar L k) 1 5 (pv.length) rfl rfl rfl rfl rfl Fb (Nat.mul_one _).symm (by omega) (fun w A hG=>(A1 (hG _ (Af (n:=1) rfl)))) fun cs1=>?_)
      refine H8 it ⟨⟨_,_,_,_,rfl,rfl,rfl,rfl,rfl,rfl,(by first|trivial|(repeat' first|exact trivial|apply And.intro|omega))⟩,⟨⟨_,_,_,_,rfl,rfl,rfl,rfl,rfl,rfl,(by first|trivial|(repeat' first|exact trivial|apply And.intro|omega))⟩,trivial⟩⟩ ?_
      refine wk 1 cz ?_
      refine Aa rfl (G4 (vs:=[Value.slice pa3 (Ar L pv.length).length ca3]) (z:=Ar L pv.length) 1 0 (k) rfl rfl rfl rfl rfl Fb (Nat.mul_one _).symm (by omega) (fun w A hG=>(A1 (hG _ (Af (n:=1) rfl)))) fun cs2=>?_)
      refine wk 3 cz ?_
      refine Aa rfl (Kb 1 0 (pv.length) rfl rfl rfl Fb rfl (by omega) fun z1 hz3 pa4 ca4=>?_)
      obtain rfl:_=z1:=Option.some.inj (at_v.symm.trans hz3)
      refine wk 2 cz ?_
      intro b3 o2 hz4
      refine Aa rfl (Av 0 rfl rfl Ci fun ⟨r3,r4⟩=>?_)
      refine wk 5 (ct @Q2 (ct @N9 cz)) ?_
      intro h6 pa5 ca5 b4 o3 pa6 ca6 pa7 ca7
      refine Aa rfl (G4 (vs:=[Value.slice pa7 (Ar L k).length ca7]) (z:=Ct (Ad (fM p (Ax m md))) (↑(iF (p ^ m) (fM p (Ax m md)) ((Ar L k).getD c default).toNat)) (Ar L k)) 1 6 (pv.length) rfl rfl rfl rfl rfl Fb (Nat.mul_one _).symm (by omega) (fun w A hG=>(A1 (hG _ (Af (n:=0) rfl)))) fun cs3=>?_)
      refine Xt 1 [.c (pL 128159),.blk 1,.c (pL 2003),.lp (pL 500),.blk 0,.c [1,1,1,1,1]] rfl ?_
      rw [ek]
      exact tw (key cs3)
   ·clear ihk
    obtain rfl:n=k:=by omega
    have hf:Hp L pv.length c=none:=AAq fun j h1 h2=>hk3 j h1 (by omega)
    rw [J9,show N-c=(N-(c+1))+1 by omega,Ds,hf] at hE1 hE2
    refine wk 18 cz ?_
    intro h3 h4
    exact tw (ih (c+1,ch,rp,L,pv) (by dsimp only;omega) ⟨by dsimp only;omega,hL,hLM,hpv,hE1,hE2⟩)
  ·rw [J9,Lj _ _ _ _ (by omega)] at hE1 hE2
   rw [List.append_nil] at hE2
   obtain ⟨E1,E2⟩:=EE
   obtain rfl:L=E1:=hE1
   obtain rfl:pv=E2:=hE2
   clear ih
   refine D4 0 0 rfl rfl (by show pv.length*8≤140737488355328;omega) ?_
   refine wk 14 cz ?_
   intro h1 h2
   refine Dx 2 [0] [2,0] rfl (.tmp rfl (.tmp rfl .nil)) rfl rfl rfl ⟨⟨some bh,caph,ch⟩,_,_,rfl,rfl,rfl⟩
 ·obtain rfl:c=N:=by omega
  rw [Nat.sub_self,J9,Ds] at hE1 hE2
  rw [List.append_nil] at hE2
  obtain ⟨E1,E2⟩:=EE
  obtain rfl:L=E1:=hE1
  obtain rfl:pv=E2:=hE2
  clear ih
  refine D4 0 0 rfl rfl (by show pv.length*8≤140737488355328;omega) ?_
  refine wk 12 cz ?_
  intro h1
  refine Dx 2 [0] [2,0] rfl (.tmp rfl (.tmp rfl .nil)) rfl rfl rfl ⟨⟨some bh,caph,ch⟩,_,_,rfl,rfl,rfl⟩
abbrev CnO (E:List (List Int)×List Nat):Value→List Fact→List A2→Prop:=fun v Φ β=>∃ (r:Row) (pp:Option Addr) (cp:Nat),v = .tuple #[.slice (ad r.bo) E.2.length r.cap,.slice pp E.2.length cp]
 ∧ Φ=[A6 (Aj Ai) r E.2.length E.1,Ap Ai pp E.2.length cp (Bc E.2)]∧β=[(r.bo,22,r.cs)]
theorem O1 {p m n N nm cm c:Nat}{pm ps:Option Addr}{rows:List (List Int)}{md:List Int}(K:Fok p m md) (hn:n≤1000000) (hN:N≤1000000) (hl:rows.length=n) (hM:Cz (p ^ m) N rows) :
  Bs Tryz.prog 105 [.agg #[.int .i64 p,.int .i64 m,.slice pm nm cm],.slice ps n c,.int .i64 N] [] [Ap Ai pm nm cm md,Ap (Aj Ai) ps n c rows] (CnO (Dm p m md N rows)):=by
 refine Ab (F:=N5) rfl fun C=>?_
 have K4:=fun {nm cm c:Nat}{pm ps:Option Addr}=>K2 (nm:=nm) (cm:=cm) (pm:=pm) (ps:=ps) (c:=c) K hn (Nat.le_refl N) hN hl hM
 have hEk:(J9 p m md N 0 0 rows).2.length≤n:=by
  have:=Vl (A:=Ad (fA p m)) (M:=Ad (fM p (Ax m md))) (N:=C3 p m) (V:=Hi p m md) N 0 0 rows (Nat.zero_le _)
  rw [Nat.zero_add,hl] at this;exact this
 show J _ _ _ _ _ _ (Fm C (CnO ((J9 p m md N 0 0 rows).1.take (J9 p m md N 0 0 rows).2.length,(J9 p m md N 0 0 rows).2)))
 generalize J9 p m md N 0 0 rows=E at *
 refine Bb 1 rfl fun hlx _ _=>?_
 refine Am [_,_] rfl ?_
 refine Aa rfl (Cm rfl fun b1=>?_)
 refine Ae it 2 rfl (by simp) ?_
 refine Am [_,_] rfl ?_
 refine Aa rfl (A5 0 rfl rfl Hx rfl ?_)
 refine Ae it 2 rfl (by simp) ?_
 refine Aa rfl (Aw [0,1] rfl (K4) rfl ?_)
 rintro _ _ _ ⟨r1,pp1,cp1,rfl,rfl,rfl⟩
 simp only [List.cons_append,List.nil_append]
 refine Ae it 5 rfl (by simp) ?_
 refine Am [_,_] rfl ?_
 refine Ae it 2 rfl (by simp) ?_
 refine Aa rfl (G6 Cb rfl ?_) --ok
 refine AHy 0 rfl fun hEn=>?_
 refine Aa rfl (AAY E.2.length 0 rfl rfl rfl D5 rfl (by omega) ?_)
 refine wk 2 cz ?_
 refine Dx 2 [0] [0,2] rfl (.tmp rfl (.tmp rfl .nil)) rfl rfl rfl ⟨r1,_,_,rfl,rfl,rfl⟩
theorem Od {p m n N nm cm c:Nat}{pm ps:Option Addr}{rows:List (List Int)}{md:List Int}(K:Fok p m md) (hn:n≤1000000) (hN:N≤1000000) (hl:rows.length=n) (hM:Cz (p ^ m) N rows) :
  Bs Tryz.prog 105 [.agg #[.int .i64 p,.int .i64 m,.slice pm nm cm],.slice ps n c,.int .i64 N] [] [Ap Ai pm nm cm md,Ap (Aj Ai) ps n c rows] (CnR (Dm p m md N rows)) :=
 (O1 K hn hN hl hM).pubT (by
  have hk:=(V1 K hM).2
  show _*24≤140737488355328;omega)
open Classical in
noncomputable def sfE (P M:Int) (md:List Int) (N:Int) (rows:List (List Int)):Int:=if ¬ Uz P M md then 1 else spE P.toNat M.toNat md N rows
theorem N4 {P M N e:Int}{nm cm n c:Nat}{pm ps:Option Addr}{md:List Int}{rows:List (List Int)}(hN:Bv .i64 N) (he:sfE P M md N rows=e) :
  Bs Tryz.prog 88 [.agg #[.int .i64 P,.int .i64 M,.slice pm nm cm],.agg #[.int .i64 N,.slice ps n c]] [] [Ap Ai pm nm cm md,Ap (Aj Ai) ps n c rows] (Rv (.int .i64 e) []):=by
 refine Ab (F:=O3) rfl fun C=>?_
 refine Bb 1 rfl fun hn hb _=>?_
 subst hn
 have hb':rows.length*24≤140737488355328:=hb
 have Bz:=fun {nm cm n c:Nat}{pm ps:Option Addr}=>N3 (P:=P) (M:=M) (N:=N) (md:=md) (rows:=rows) (nm:=nm) (cm:=cm) (n:=n) (c:=c) (pm:=pm) (ps:=ps) hN rfl
 rw [sfE] at he
 by_cases hc:Uz P M md
 ·rw [if_neg (fun h=>h hc)] at he
  have hk:mkE P M md N rows=Uv N rows (P.toNat ^ M.toNat):=by rw [mkE,if_neg (fun h=>h hc)]
  rw [hk] at Bz
  obtain ⟨p,m,rfl,rfl,K⟩:=ABC hc
  rw [Int.toNat_natCast,Int.toNat_natCast] at he Bz
  have hr:=St N rows (p ^ m)
  rw [spE] at he
  by_cases h0:Uv N rows (p ^ m)=0
  ·rw [if_neg (by omega)] at he
   rw [h0] at Bz
   obtain ⟨k,rfl,hk,hl,hM⟩:=AEc h0
   rw [Int.toNat_natCast] at he
   have Iq:=fun {nm cm c:Nat}{pm ps:Option Addr}=>Od (nm:=nm) (cm:=cm) (pm:=pm) (ps:=ps) (c:=c) (n:=rows.length) K (by omega) (show k≤1000000 by omega) rfl hM
   by_cases hcn:(Dm p m md k rows).1=rows
   ·rw [if_pos hcn] at he
    subst he
    have hd:decide ((Dm p m md k rows).1=rows)=true:=decide_eq_true hcn
    refine wk 32 (ct @Bz (ct @Iq (ct @Du cz))) ?_
    intro b1 b2 h1 pb1 pp1 cb1 cp1
    exact ge
   ·rw [if_neg hcn] at he
    subst he
    have hd:decide ((Dm p m md k rows).1=rows)=false:=decide_eq_false hcn
    refine wk 32 (ct @Bz (ct @Iq (ct @Du cz))) ?_
    intro b1 b2 h1 pb1 pp1 cb1 cp1
    exact ge
  ·rw [if_pos h0] at he
   subst he
   refine wk 16 (ct @Bz cz) ?_
   intro b1 b2 h1
   exact ge
 ·rw [if_pos hc] at he
  subst he
  have hk:mkE P M md N rows=1:=by rw [mkE,if_pos hc]
  rw [hk] at Bz
  refine wk 16 (ct @Bz cz) ?_
  intro b1 b2 h1
  exact ge
theorem O6 {P M N e:Int}{pm ps:Option Addr}{nm cm n c:Nat}{md:List Int}{rows:List (List Int)}(hN:Bv .i64 N) (h:Pe P M md N rows=e) :
  Bs Tryz.prog 38 [.agg #[.int .i64 P,.int .i64 M,.slice pm nm cm,.int .i64 N,.slice ps n c]] [] [Ap Ai pm nm cm md,Ap (Aj Ai) ps n c rows] (Rv (.int .i64 e) []):=by
 refine Ab (F:=O8) rfl fun C=>?_
 rw [Pe] at h
 by_cases hc:Uz P M md
 ·rw [if_neg (fun h=>h hc)] at h
  have A9:=fun {pm:Option Addr}{nm cm:Nat}=>El (P:=P) (M:=M) (md:=md) (pm:=pm) (nm:=nm) (cm:=cm) (if_pos hc).symm
  have hs:sfE P M md N rows=spE P.toNat M.toNat md N rows:=by rw [sfE,if_neg (fun h=>h hc)]
  by_cases h1:N<1
  ·rw [if_pos (.inl h1)] at h
   subst h
   refine wk 24 (ct @A9 cz) ?_
   intro b1 h2 h3
   exact ge
  ·by_cases h2:64<N
   ·rw [if_pos (.inr h2)] at h
    subst h
    refine wk 26 (ct @A9 cz) ?_
    intro b1 h3 h4 h5
    exact ge
   ·rw [if_neg (by omega),← hs] at h
    have Ow:=fun {nm cm n c:Nat}{pm ps:Option Addr}=>N4 (nm:=nm) (cm:=cm) (n:=n) (c:=c) (pm:=pm) (ps:=ps) hN h
    refine wk 34 (ct @A9 (ct @Ow cz)) ?_
    intro b1 h3 h4 h5
    exact ge
 ·rw [if_pos hc] at h
  subst h
  have A9:=fun {pm:Option Addr}{nm cm:Nat}=>El (P:=P) (M:=M) (md:=md) (pm:=pm) (nm:=nm) (cm:=cm) (if_neg hc).symm
  refine wk 15 (ct @A9 cz) ?_
  intro b1 h1
  exact ge
section
variable {q:Nat}{A M:Int→Int→Int}{N V:Int→Int}(O:FO q A M N V)
include O
theorem FO.rp_dot {n:Nat}{x:List Int}(hx:Wd q n x):∀ {P:List Nat}{R:List (List Int)}{out:List Int},Cz q n R→Nn A M R x→Wd q n out→Dr A M x (rpF A M N P R out)=Dr A M x out
 | [],_,_,_,_,_=>rfl
 | _::_,[],_,_,_,_=>rfl
 | p::ps,r::rs,out,hM,hs,ho=>by
  have hq:=O.q2
  obtain ⟨v0,v1⟩:=Bh (by omega) ho p
  obtain ⟨⟨n0,n1⟩,_⟩:=O.ng _ v0 v1
  have hr:=hM r (.head _)
  obtain ⟨d0,d1⟩:=O.fi.dlt hx ho
  rw [rpF,FO.rp_dot hx (P:=ps) (R:=rs) (fun s h=>hM s (.tail _ h)) (fun s h=>hs s (.tail _ h)) (O.fi.axw n0 n1 hr ho),O.fi.daxp n0 n1 hx hr ho,hs r (.head _),O.fi.m0 n0 n1,O.fi.a0 _ d0 d1]
theorem FO.rests_mat {n:Nat}{R B:List (List Int)}{P:List Nat}(hM:Cz q n R) (hB:Cz q n B):Cz q n (B.map (rpF A M N P R)):=fun r hr=>by
 obtain ⟨s,hs,rfl⟩:=List.mem_map.1 hr
 exact O.rp_wd hM (hB s hs)
omit O in
theorem K9 {n:Nat}{R B:List (List Int)}(hM:Cz q n R) (hB:Cz q n B):Cz q n (R++B):=fun r hr=>(List.mem_append.1 hr).elim (hM r) (hB r)
theorem FO.sum_rests {n:Nat}{R B:List (List Int)}{P:List Nat}(hM:Cz q n R) (hB:Cz q n B):S7 A M N V n ((S7 A M N V n (B.map (rpF A M N P R))).1++R)=S7 A M N V n (R++B):=by
 have hR:=O.rests_mat (P:=P) hM hB
 refine O.cn_congr (K9 (O.cn hR).1.mat hM) (K9 hM hB) fun x hx=>?_
 rw [Sn,Sn,(O.cn hR).2 x hx]
 constructor
 ·rintro ⟨h1,h2⟩
  refine ⟨h2,fun r hr=>?_⟩
  rw [← O.rp_dot hx (P:=P) hM h2 (hB r hr)]
  exact h1 _ (List.mem_map.2 ⟨r,hr,rfl⟩)
 ·rintro ⟨h1,h2⟩
  refine ⟨fun r hr=>?_,h1⟩
  obtain ⟨s,hs,rfl⟩:=List.mem_map.1 hr
  rw [O.rp_dot hx (P:=P) hM h1 (hB s hs)]
  exact h2 s hs
theorem FO.nu_cn {n:Nat}{R:List (List Int)}(hM:Cz q n R):Xx A M N V n (S7 A M N V n R).1=Xx A M N V n R:=O.nu_congr (O.cn hM).1.mat hM (O.cn hM).2
theorem FO.nu_nu {n:Nat}{R:List (List Int)}(hM:Cz q n R):Xx A M N V n (Xx A M N V n R)=(S7 A M N V n R).1:=by
 have h1:=(O.nu hM).1
 have h2:=(O.nu h1).1
 have h3:=O.cn_cmb h2 hM fun u=>by
  rw [O.cmb_nu h1]
  exact ⟨fun ⟨hw,hs⟩=>(O.nu_sol hM hw).1 hs,fun hc=>⟨O.cmb_mat hM hc,(O.nu_sol hM (O.cmb_mat hM hc)).2 hc⟩⟩
 rw [← h3]
 exact (congrArg Prod.fst (O.cn_cn (O.nv_mat (O.cn h1).1))).symm
theorem FO.cn_nu {n:Nat}{R:List (List Int)}(hM:Cz q n R):S7 A M N V n (Xx A M N V n R)=S7 A M N V n (nvL N n (S7 A M N V n R)):=O.cn_cn (O.nv_mat (O.cn hM).1)
end
theorem AE1 {α:Type} [DecidableEq α]:∀ {l l':List α},l.Nodup→(∀ x∈l,x∈l')→l'.length≤l.length→∀ x∈l',x∈l
 | [],l',_,_,h=>fun x hx=>by
  have:l'=[]:=List.eq_nil_of_length_eq_zero (by simpa using h)
  rw [this] at hx;cases hx
 | a::l,l',hn,hs,h=>fun x hx=>by
  obtain ⟨h1,h2⟩:=List.nodup_cons.1 hn
  have ha:=hs a (.head _)
  by_cases e:x=a
  ·rw [e];exact .head _
  ·have hl:(l'.erase a).length=l'.length-1:=List.length_erase_of_mem ha
   have:=AE1 (l:=l) (l':=l'.erase a) h2 (fun y hy=>(List.mem_erase_of_ne (fun (e:y=a)=>h1 (e▸hy))).2 (hs y (.tail _ hy))) (by rw [hl];simp only [List.length_cons] at h;omega) x ((List.mem_erase_of_ne e).2 hx)
   exact .tail _ this
structure PmOk (n:Nat) (l:List Int):Prop where
 len:l.length=n
 nd:l.Nodup
 rng:∀ x∈l,0≤x∧x<(n:Int)
theorem PmOk.mem {n:Nat}{l:List Int}(h:PmOk n l) {j:Nat}(hj:j<n):(j:Int)∈l:=by
 refine AE1 (l':=C8 n fun _=>true) h.nd (fun x hx=>?_) ?_ _ (Oa.2 ⟨j,hj,rfl,rfl⟩)
 ·obtain ⟨x0,x1⟩:=h.rng x hx
  exact Oa.2 ⟨x.toNat,by omega,rfl,by omega⟩
 ·rw [h.len,C8,List.length_map];have:=List.length_filter_le (fun _=>true) (List.range n);rwa [List.length_range] at this
def AH0 (n:Nat) (l:List Int):List Int:=(List.range n).map fun j:Nat=>((l.idxOf (j:Int):Nat):Int)
abbrev mvI (n:Nat) (v l:List Int):List Int:=Pd v (AH0 n l)
set_option maxRecDepth 100000
set_option linter.unusedVariables false
set_option linter.unusedSimpArgs false
section
variable {q:Nat}{A M:Int→Int→Int}{N V:Int→Int}(O:FO q A M N V)
include O
theorem FO.nu_can {n:Nat}{R:List (List Int)}(hM:Cz q n R):(S7 A M N V n (Xx A M N V n R)).1=Xx A M N V n R:=by
 rw [O.cn_nu hM];rfl
theorem FO.nu_pu {n:Nat}{R:List (List Int)}(hM:Cz q n R) {p:Nat→Bool}{hs:List Nat}(hp:∀ j,j<n→(p j=false↔j∈hs)) (hh:∀ j∈hs,j<n) :
  Xx A M N V (C8 n p).length (S7 A M N V (C8 n p).length (R.map fun r=>Pd r (C8 n p))).1=(S7 A M N V (C8 n p).length ((wiL A M N V n (Xx A M N V n R) (hs.map (Fu (Xx A M N V n R)))).map fun r=>Pd r (C8 n p))).1:=by
 have hq:=O.q2
 have hD:=(O.nu hM).1
 have hX:=O.pk_mat hM (C8 n p)
 have hh2:Cz q (Xx A M N V n R).length (hs.map (Fu (Xx A M N V n R))):=fun r hr=>by
  obtain ⟨j,_,rfl⟩:=List.mem_map.1 hr
  exact Jl (by omega) hD j
 have hW:Cz q n (wiL A M N V n (Xx A M N V n R) (hs.map (Fu (Xx A M N V n R)))):=(O.wi hD hh2).1
 rw [O.nu_cn hX,← O.nu_can hX]
 refine congrArg Prod.fst (O.cn_cmb (O.nu hX).1 (O.pk_mat hW _) fun v=>?_)
 rw [O.cmb_nu hX]
 refine (O.du_pu hM hW (fun u=>?_)).symm
 rw [O.wi_cmb hD,O.cmb_nu hM]
 refine and_congr_right fun _=>⟨fun h j hj e=>h j ((hp j hj).1 e),fun h j hj=>h j (hh j hj) ((hp j (hh j hj)).2 hj)⟩
theorem FO.nu_sh {n:Nat}{R:List (List Int)}(hM:Cz q n R) (hc:(S7 A M N V n R).1=R) {p:Nat→Bool}{hs:List Nat}(hp:∀ j,j<n→(p j=false↔j∈hs)) (hh:∀ j∈hs,j<n) :
  Xx A M N V (C8 n p).length (S7 A M N V (C8 n p).length ((wiL A M N V n R (hs.map (Fu R))).map fun r=>Pd r (C8 n p))).1=(S7 A M N V (C8 n p).length ((Xx A M N V n R).map fun r=>Pd r (C8 n p))).1:=by
 have hD:=(O.nu hM).1
 have h1:=O.nu_pu hD hp hh
 rw [O.nu_nu hM,hc] at h1
 have hX:=O.pk_mat hD (C8 n p)
 rw [← h1,O.nu_nu (O.cn hX).1.mat,O.cn_cn hX]
omit O in
theorem PmOk.perm {n:Nat}{l:List Int}(h:PmOk n l):l.Perm ((List.range n).map fun i:Nat=>(i:Int)):=by
 refine (List.perm_ext_iff_of_nodup h.nd ?_).2 fun x=>?_
 ·rw [List.nodup_iff_pairwise_ne,List.pairwise_map]
  exact (List.nodup_iff_pairwise_ne.1 List.nodup_range).imp fun hne e=>hne (by omega)
 ·constructor
  ·intro hx
   have:=h.rng x hx
   exact List.mem_map.2 ⟨x.toNat,List.mem_range.2 (by omega),by omega⟩
  ·intro hx
   obtain ⟨i,hi,rfl⟩:=List.mem_map.1 hx
   exact h.mem (List.mem_range.1 hi)
end
open Go Go.Fw
set_option maxRecDepth 100000
set_option linter.unusedVariables false
set_option linter.unusedSimpArgs false
set_option maxHeartbeats 0
def sw (L:List Int) (i j:Nat):List Int:=(L.set i (Ba L j)).set j (Ba L i)
theorem gt0 {L:List Int}{i:Nat}(h:i<L.length):L[i]?=some (Ba L i):=by rw [Ba,List.getD_eq_getElem?_getD,List.getElem?_eq_getElem h];rfl
theorem AFJ {L:List Int}{i:Nat}(h:i<L.length):Ba L i=L[i]:=Option.some.inj ((gt0 h).symm.trans (List.getElem?_eq_getElem h))
theorem Xv {L:List Int}{i j a:Nat}(hi:i<L.length) (hj:j<L.length):Ba (sw L i j) a=if a=j then Ba L i else if a=i then Ba L j else Ba L a:=by
 rw [sw,Ba,List.getD_eq_getElem?_getD,List.getElem?_set,List.length_set,List.getElem?_set]
 by_cases h1:j=a
 ·rw [if_pos h1,if_pos hj,if_pos h1.symm];rfl
 ·rw [if_neg h1,if_neg (show ¬ a=j from fun e=>h1 e.symm)]
  by_cases h2:i=a
  ·rw [if_pos h2,if_pos hi,if_pos h2.symm];rfl
  ·rw [if_neg h2,if_neg (show ¬ a=i from fun e=>h2 e.symm),Ba,List.getD_eq_getElem?_getD]
theorem AJx {L:List Int}{i j:Nat}(hi:i<L.length) (hj:j<L.length):(sw L i j).Perm L:=by
 rw [sw,AFJ hi,AFJ hj]
 exact List.set_set_perm hi hj
structure Seg (a b:Nat) (L L':List Int):Prop where
 perm:L'.Perm L
 out:∀ i,i<a∨b≤i→Ba L' i=Ba L i
 inn:∀ i,a≤i→i<b→∃ j,a≤j∧j<b∧Ba L' i=Ba L j
theorem Seg.refl {a b:Nat}{L:List Int}:Seg a b L L:=⟨.refl _,fun _ _=>rfl,fun i h1 h2=>⟨i,h1,h2,rfl⟩⟩
theorem Seg.len {a b:Nat}{L L':List Int}(h:Seg a b L L'):L'.length=L.length:=h.perm.length_eq
theorem Seg.trans {a b:Nat}{L L' M:List Int}(h:Seg a b L L') (g:Seg a b L' M):Seg a b L M :=
 ⟨g.perm.trans h.perm,fun i hi=>(g.out i hi).trans (h.out i hi),fun i h1 h2=>by
  obtain ⟨j,j1,j2,e⟩:=g.inn i h1 h2
  obtain ⟨k,k1,k2,e'⟩:=h.inn j j1 j2
  exact ⟨k,k1,k2,e.trans e'⟩⟩
theorem Seg.wide {a b a' b':Nat}{L L':List Int}(h:Seg a b L L') (ha:a'≤a) (hb:b≤b'):Seg a' b' L L' :=
 ⟨h.perm,fun i hi=>h.out i (by omega),fun i h1 h2=>by
  by_cases hi:a≤i∧i<b
  ·obtain ⟨j,j1,j2,e⟩:=h.inn i hi.1 hi.2
   exact ⟨j,by omega,by omega,e⟩
  ·exact ⟨i,h1,h2,h.out i (by omega)⟩⟩
theorem AAm {L:List Int}{a b i j:Nat}(hb:b≤L.length) (i1:a≤i) (i2:i<b) (j1:a≤j) (j2:j<b):Seg a b L (sw L i j) :=
 ⟨AJx (by omega) (by omega),fun k hk=>by rw [Xv (by omega) (by omega),if_neg (by omega),if_neg (by omega)],fun k h1 h2=>by
  rw [Xv (by omega) (by omega)]
  split
  ·exact ⟨i,i1,i2,rfl⟩
  ·split
   ·exact ⟨j,j1,j2,rfl⟩
   ·exact ⟨k,h1,h2,rfl⟩⟩
theorem Seg.inR {a b:Nat}{L L':List Int}(h:Seg a b L L') (hr:∀ x∈L,Bv .i64 x):∀ x∈L',Bv .i64 x:=fun x hx=>hr x (h.perm.mem_iff.1 hx)
theorem AGL {L:List Int}(hr:∀ x∈L,Bv .i64 x) {i:Nat}(h:i<L.length):Bv .i64 (Ba L i):=hr _ (List.mem_of_getElem? (gt0 h))
theorem Seg.all {a b:Nat}{L L':List Int}(h:Seg a b L L') {P:Int→Prop}(hp:∀ i,a≤i→i<b→P (Ba L i)):∀ i,a≤i→i<b→P (Ba L' i):=fun i h1 h2=>by
 obtain ⟨j,j1,j2,e⟩:=h.inn i h1 h2
 rw [e];exact hp j j1 j2
def Kk (L:List Int) (a b:Nat):Prop:=∀ i j,a≤i→i<j→j<b→Ba L i≤Ba L j
theorem Kk.short {L:List Int}{a b:Nat}(h:b≤a+1):Kk L a b:=fun i j h1 h2 h3=>by omega
def AEp (L:List Int) (a b:Nat):Prop:=a=0∨∀ i,a≤i→i<b→Ba L (a-1)≤Ba L i
theorem AEp.seg {a b:Nat}{L L':List Int}(h:Seg a b L L') (hl:AEp L a b):AEp L' a b:=by
 rcases hl with h0|hl
 ·exact .inl h0
 ·by_cases h0:a=0
  ·exact .inl h0
  ·refine .inr ?_
   rw [h.out (a-1) (by omega)]
   exact h.all (P:=fun x=>Ba L (a-1)≤x) hl
theorem AEp.sub {L:List Int}{a b b':Nat}(hl:AEp L a b) (hb:b'≤b):AEp L a b':=hl.imp id fun h i h1 h2=>h i h1 (by omega)
def AHN (L:List Int) (a i j:Nat):Prop:=∀ u v,a≤u→u<v→v≤i→v≠j→Ba L u≤Ba L v
theorem AHn {L:List Int}{a i j:Nat}(h:AHN L a i j) (h0:a<j) (hj:i<L.length) (hji:j≤i) (hx:Ba L j<Ba L (j-1)):AHN (sw L j (j-1)) a i (j-1):=fun u v hu huv hv hn=>by
 rw [Xv (by omega) (by omega),Xv (by omega) (by omega),if_neg hn]
 have g:=h
 by_cases hbj:v=j
 ·rw [if_pos hbj]
  by_cases ha:u=j-1
  ·rw [if_pos ha];omega
  ·rw [if_neg ha,if_neg (by omega)];exact h u (j-1) hu (by omega) (by omega) (by omega)
 ·rw [if_neg hbj]
  by_cases ha:u=j-1
  ·rw [if_pos ha];exact h j v (by omega) (by omega) hv hbj
  ·rw [if_neg ha]
   by_cases ha2:u=j
   ·rw [if_pos ha2];exact h (j-1) v (by omega) (by omega) hv hbj
   ·rw [if_neg ha2];exact h u v hu huv hv hbj
theorem ACO {L:List Int}{a i j:Nat}(h:AHN L a i j) (hja:a≤j) (hx:j=a∨¬ Ba L j<Ba L (j-1)):Kk L a (i+1):=fun u v hu huv hv=>by
 by_cases hbj:v=j
 ·subst hbj
  rcases hx with hx|hx
  ·omega
  ·by_cases ha:u=v-1
   ·subst ha;omega
   ·have:=h u (v-1) hu (by omega) (by omega) (by omega);omega
 ·exact h u v hu huv (by omega) hbj
theorem AFS {L:List Int}{a i:Nat}(h:Kk L a i):AHN L a i i:=fun u v hu huv hv hn=>h u v hu huv (by omega)
theorem ALp {L:List Int}{a m b:Nat}{x:Int}(h1:∀ i,a≤i→i<m→Ba L i=x) (h2:∀ i,m≤i→i<b→x≤Ba L i) (h3:Kk L m b):Kk L a b:=fun i j hi hij hj=>by
 by_cases c:i<m
 ·rw [h1 i hi c]
  by_cases c2:j<m
  ·rw [h1 j (by omega) c2];exact Int.le_refl x
  ·exact h2 j (by omega) hj
 ·exact h3 i j (by omega) hij hj
theorem Kk.out {a b c d:Nat}{L L':List Int}(h:Seg a b L L') (hs:Kk L c d) (hd:d≤a∨b≤c):Kk L' c d:=fun i j hi hij hj=>by
 rw [h.out i (by omega),h.out j (by omega)];exact hs i j hi hij hj
abbrev Y0 (P M N:Int) (md:List Int) (rows:List (List Int)) (e:Int):Value→List Fact→List A2→Prop:=fun v Φ β=>∃ (pb pc:Option Addr) (nb cb nc cc:Nat),v = .tuple #[.agg #[.int .i64 P,.int .i64 M,.slice pb nb cb,.int .i64 N,.slice pc nc cc],.int .i64 e]∧Φ=[Ap Ai pb nb cb md,Ap (Aj Ai) pc nc cc rows]∧β=[]
section
variable {p m n c nm cm N:Nat}{pm ps:Option Addr}{md:List Int}{rows:List (List Int)}
theorem Fok.md8 {p m:Nat}{md:List Int}(K:Fok p m md):md.length≤8:=by
 by_cases h:m=1
 ·rw [K.one h];exact Nat.zero_le _
 ·rw [K.len h];exact K.m8
theorem AD5 {P M:Int}(h8:md.length≤1000):Bs Tryz.prog 136 [.agg #[.int .i64 P,.int .i64 M,.slice pm nm cm]] [] [Ap Ai pm nm cm md] (fun v Φ β=>∃ (pb:Option Addr) (nb cb:Nat),v = .agg #[.int .i64 P,.int .i64 M,.slice pb nb cb]∧Φ=[Ap Ai pb nb cb md]∧β=[]):=by
 refine Ab (F:=AEq) rfl fun C=>?_
 refine Bb 0 rfl fun hn _ _=>?_
 subst hn
 have Fe:=fun {ps:Option Addr}{n cs:Nat}{l:List Int}(h:n*8≤140737488355328)=>(D7 (ps:=ps) (n:=n) (cs:=cs) (l:=l)).pubR h
 refine wk 13 (ct @Fe cz) ?_
 intro b1 b2 pa1 ca1
 refine Bj [0] rfl (.agg 0 rfl rfl Hx rfl .nil) rfl ⟨_,_,_,rfl,rfl,rfl⟩
theorem K8 {N:Int}(h8:md.length≤1000) {P M:Int}:Bs Tryz.prog 91 [.agg #[.int .i64 P,.int .i64 M,.slice pm nm cm],.agg #[.int .i64 N,.slice ps n c],.int .i64 0] [] [Ap Ai pm nm cm md,Ap (Aj Ai) ps n c rows] (Y0 P M N md rows 0):=by
 refine Ab (F:=AGl) rfl fun C=>?_
 refine Bb 1 rfl fun hn _ _=>?_
 subst hn
 have ADX:=fun {pm:Option Addr}{nm cm:Nat}=>AD5 (P:=P) (M:=M) (pm:=pm) (nm:=nm) (cm:=cm) (md:=md) h8
 refine wk 10 cz ?_
 intro b1 b2 b3 h1
 (apply E7 it mx 6;(· rfl);(· rfl))
 (apply Ac;(· rfl);(· exact Cy 2 rfl rfl Hx rfl))
 (apply I7 (val:=(fun g=>Value.agg #[Value.int IntKind.i64 P,Value.int IntKind.i64 M,Value.slice (g 0).fst (g 1).snd.fst (g 2).snd.fst])) (f:=(fun g=>[Ap Ai (g 0).fst (g 1).snd.fst (g 2).snd.fst md]));(· rfl);(· exact Cf fun _=>Aw [0] rfl (ADX) rfl (by rintro _ _ _ ⟨pbg0,nbg1,cbg2,rfl,rfl,rfl⟩;exact fun _ _ _ hG=>⟨(fun|0=>(pbg0,0,0,[])|1=>(none,nbg1,0,[])|2=>(none,cbg2,0,[])|_=>default),rfl,fun g hg=>E3 (hG _ (List.mem_append_left _ hg))⟩));intro g1;dsimp only [List.map_cons,List.map_nil])
 (apply Ac;(· rfl);(· exact Cf fun _=>Aq rfl I3 An))
 (apply Ac;(· rfl);(· exact Ca 1 rfl rfl Ci rfl))
 (apply Ac;(· rfl);(· exact Cf fun _=>Aq rfl Hv An))
 (apply Ac;(· rfl);(· exact Ca 1 rfl rfl H3 rfl))
 refine Eu rfl ?_
 simp only [List.map_cons,List.map_nil,List.cons_append,List.nil_append]
 refine Aa rfl (Dq (cs:=[Value.int IntKind.i64 P,Value.int IntKind.i64 M,Value.slice (g1 0).fst (g1 1).snd.fst (g1 2).snd.fst,Value.int IntKind.i64 N,Value.slice ps rows.length c]) AK8 Ni rfl rfl ?_)
 refine Aa rfl (A7 0 rfl rfl rfl Cs rfl rfl (by simp [Value.oneCell']) ?_)
 refine Ae it 1 rfl (by simp) ?_
 refine Am [_] rfl ?_ --ok
 refine Bj [0,2] rfl (.agg 0 rfl rfl Cs rfl (.tmp rfl .nil)) rfl ⟨_,_,_,_,_,_,rfl,rfl,rfl⟩
theorem Ik (K:Fok p m md) (h1:1≤N) (hN:N≤64) (hl:rows.length≤256) (hM:Cz (p ^ m) N rows) :
  Bs Tryz.prog 66 [.agg #[.int .i64 p,.int .i64 m,.slice pm nm cm],.agg #[.int .i64 N,.slice ps n c]] [] [Ap Ai pm nm cm md,Ap (Aj Ai) ps n c rows] (Y0 p m N md (Dm p m md N rows).1 0):=by
 refine Ab (F:=ADY) rfl fun C=>?_
 have h8:=K.md8
 have Bp:=fun {pm ps:Option Addr}{nm cm n c:Nat}=>E8 (pm:=pm) (ps:=ps) (nm:=nm) (cm:=cm) (n:=n) (c:=c) (rows:=rows) K (show N≤256 by omega) hl hM
 have H2:=Nf (n:=(N:Int)) (if_neg (by omega))
 have Jp:=fun {pm ps:Option Addr}{nm cm n c:Nat}{rows:List (List Int)}=>K8 (P:=p) (M:=m) (N:=N) (pm:=pm) (ps:=ps) (nm:=nm) (cm:=cm) (n:=n) (c:=c) (md:=md) (rows:=rows) (by omega)
 generalize Dm p m md N rows=E at *
 refine wk 31 (ct @Bp (ct @H2 (ct @Jp cz))) ?_
 intro b1 b2 b3 pb1 pp1 cb1 cp1 b4 h2 pb2 pc1 nb1 cb2 nc1 cc1
 refine Bj [0,1] rfl (.agg 1 rfl rfl Cs rfl (.tmp rfl .nil)) rfl ⟨_,_,_,_,_,_,rfl,rfl,rfl⟩
theorem Iw (CC:Cok p m md N rows):Bs Tryz.prog 40 [.agg #[.int .i64 p,.int .i64 m,.slice pm nm cm,.int .i64 N,.slice ps n c]] [] [Ap Ai pm nm cm md,Ap (Aj Ai) ps n c rows] (Y0 p m N md (Kt p m md N rows) 0):=by
 refine Ab (F:=AC8) rfl fun C=>?_
 have K:=CC.K
 have h8:=K.md8
 have hN:=CC.n64
 have hl:=CC.len
 have Au:=fun {pm ps:Option Addr}{nm cm n c:Nat}=>D0 (P:=p) (M:=m) (pm:=pm) (ps:=ps) (nm:=nm) (cm:=cm) (n:=n) (c:=c) (md:=md) (rows:=rows) (N:=N) (by simp only [Bv];omega) CC.ck
 have Ic:=fun {P M N:Int}{pm ps:Option Addr}{nm cm n c:Nat}=>P5 (P:=P) (M:=M) (N:=N) (pm:=pm) (ps:=ps) (nm:=nm) (cm:=cm) (n:=n) (c:=c)
 have Ep:=fun {pm ps:Option Addr}{nm cm n c:Nat}=>Ij (pm:=pm) (ps:=ps) (nm:=nm) (cm:=cm) (n:=n) (c:=c) (rows:=rows) K (show N≤256 by omega) (by omega) CC.mat
 have Jp:=fun {pm ps:Option Addr}{nm cm n c:Nat}{rows:List (List Int)}=>K8 (P:=p) (M:=m) (N:=N) (pm:=pm) (ps:=ps) (nm:=nm) (cm:=cm) (n:=n) (c:=c) (md:=md) (rows:=rows) (by omega)
 generalize Kt p m md N rows=R at *
 refine wk 13 (ct @Au cz) ?_
 intro b1 b2 h1
 (apply Ga (x0:=none) it mx 0 9 [7] 1;(· rfl);(· rfl);(· rfl);(· decide))
 simp only [List.drop_zero]
 (apply Ac;(· rfl);(· exact Cf fun _=>Aq rfl Ud An))
 (apply Ac;(· rfl);(· exact Ji 1 rfl rfl Hx rfl rfl))
 (apply Ac;(· rfl);(· exact Cy 1 rfl rfl Cs rfl))
 (apply Ac;(· rfl);(· exact Cf fun _=>Aw [] rfl (Ic) rfl (by rintro _ _ _ ⟨rfl,rfl,rfl⟩;exact An)))
 (apply I7 (val:=(fun g=>Value.tuple #[Value.agg #[Value.int IntKind.i64 ↑N,Value.slice (g 0).fst R.length (g 1).snd.fst],Value.int IntKind.i64 0])) (f:=(fun g=>[Ap (Aj Ai) (g 0).fst R.length (g 1).snd.fst R]));(· rfl);(· exact Cf fun _=>Aw [0,1] rfl (Ep) rfl (by rintro _ _ _ ⟨pbg0,cbg1,rfl,rfl,rfl⟩;exact fun _ _ _ hG=>⟨(fun|0=>(pbg0,0,0,[])|1=>(none,cbg1,0,[])|_=>default),rfl,fun g hg=>E3 (hG _ (List.mem_append_left _ hg))⟩));intro g1;dsimp only [List.map_cons,List.map_nil])
 (apply Gz [18] (fun vs=>vs.getD 0 undef) (v:=Value.tuple #[Value.agg #[Value.int IntKind.i64 ↑N,Value.slice (g1 0).fst R.length (g1 1).snd.fst],Value.int IntKind.i64 0]);(· rfl);(· rfl);(· rfl);(· rfl);(· exact Cf fun _=>Jz it rfl (by trivial) An))
 (apply Gz [13] (fun vs=>match vs.getD 0 undef with | .tuple a=>a.getD 0 undef|_=>undef) (v:=Value.agg #[Value.int IntKind.i64 ↑N,Value.slice (g1 0).fst R.length (g1 1).snd.fst]);(· rfl);(· rfl);(· rfl);(· rfl);(· exact Cf fun _=>Jz it rfl (by trivial) An))
 (apply Ac;(· rfl);(· exact Cf fun _=>Jz it rfl (by trivial) An))
 (apply Hk;(· rfl);(· exact Ha);intro b3)
 refine Fl rfl ?_
 (rotate_left;rfl;rotate_right)
 simp only [List.map_cons,List.map_nil,List.cons_append,List.nil_append]
 refine Gq it rfl rfl ⟨⟨_,_,_,_,rfl,rfl,rfl,rfl,rfl,rfl,(by first|trivial|(repeat' first|exact trivial|apply And.intro|omega))⟩,trivial⟩ (A7 0 rfl rfl rfl Gd rfl rfl (by simp [Value.oneCell']) ?_)
 refine H8 it ⟨⟨_,_,_,_,rfl,rfl,rfl,rfl,rfl,rfl,(by first|trivial|(repeat' first|exact trivial|apply And.intro|omega))⟩,trivial⟩ ?_
 refine wk 11 (ct @Jp cz) ?_
 intro pb1 pc1 nb1 cb1 nc1 cc1
 refine Bj [0,1] rfl (.agg 1 rfl rfl Cs rfl (.tmp rfl .nil)) rfl ⟨_,_,_,_,_,_,rfl,rfl,rfl⟩
end
open Go Go.Fw
set_option maxRecDepth 100000
set_option linter.unusedVariables false
set_option linter.unusedSimpArgs false
set_option maxHeartbeats 0
abbrev CnC (E:List (List Int)×List Nat):Value→List Fact→List A2→Prop:=fun v Φ β=>∃ (pb pp:Option Addr) (cp:Nat),v = .tuple #[.slice pb E.2.length E.2.length,.slice pp E.2.length cp]
 ∧ Φ=[Ap (Aj Ai) pb E.2.length E.2.length E.1,Ap Ai pp E.2.length cp (Bc E.2)]∧β=[]
abbrev CaC (N:Nat) (E:List (List Int)×List Nat):Value→List Fact→List A2→Prop:=fun v Φ β=>∃ (pb pp:Option Addr) (cp:Nat),v = .tuple #[.agg #[.int .i64 N,.slice pb E.2.length E.2.length],.slice pp E.2.length cp,.int .i64 0]
 ∧ Φ=[Ap (Aj Ai) pb E.2.length E.2.length E.1,Ap Ai pp E.2.length cp (Bc E.2)]∧β=[]
theorem Ya {b p m n N c ng cg ce cl:Nat}{pg pe pl ps:Option Addr}{rows:List (List Int)}{md:List Int}(K:Fok p m md) (hn:n≤1000000) (hN:N≤1000000) (hl:rows.length=n) (hM:Cz (p ^ m) N rows) :
  Bs Tryz.prog 135 [.pointer (some ⟨b,0,none⟩),.slice ps n c,.int .i64 N] []
   [I2 b p m (p ^ m) pg ng cg pe (p ^ m-1) ce pl (p ^ m) cl,Ap Ai pe (p ^ m-1) ce (Jg p m md),Ap Ai pl (p ^ m) cl (Jf p m md),Ap (Aj Ai) ps n c rows]
   (CnC (Dm p m md N rows)):=by
 refine Ab (F:=Sh) rfl fun C=>?_
 have Ih:=fun {b ng cg ce cl:Nat}{pg pe pl:Option Addr}{rh:Row}{hd:Nat→Hd}{cs:Nat→List Value}=>Lo (b:=b) (ng:=ng) (cg:=cg) (ce:=ce) (cl:=cl) (pg:=pg) (pe:=pe) (pl:=pl) (rh:=rh) (hd:=hd) (cs:=cs) K hn hN hl hM
 have hEl:(J9 p m md N 0 0 rows).1.length=n:=by rw [J9,Sv,hl]
 have hEk:(J9 p m md N 0 0 rows).2.length≤n:=by
  have:=Vl (A:=Ad (fA p m)) (M:=Ad (fM p (Ax m md))) (N:=C3 p m) (V:=Hi p m md) N 0 0 rows (Nat.zero_le _)
  rw [Nat.zero_add,hl] at this;exact this
 have hEM:Cz (p ^ m) N (J9 p m md N 0 0 rows).1:=((Dc K).elim (m:=N) hM).1
 show J _ _ _ _ _ _ (Fm C (CnC ((J9 p m md N 0 0 rows).1.take (J9 p m md N 0 0 rows).2.length,(J9 p m md N 0 0 rows).2)))
 generalize J9 p m md N 0 0 rows=E at *
 refine Am [_,_] rfl ?_
 refine Ae it 2 rfl (by simp) ?_
 refine Am [_,_] rfl ?_
 refine Ae it 1 rfl (by simp) ?_
 refine Aa rfl (Aw [3] rfl (Sc (by omega)) rfl ?_)
 rintro _ _ _ ⟨r1,hd1,cs1,rfl,rfl,rfl⟩
 simp only [List.cons_append,List.nil_append]
 refine Ae it 1 rfl (by simp) ?_
 refine Am [_,_] rfl ?_
 refine Ae it 3 rfl (by simp) ?_ --ok
 simp only [List.append_nil]
 refine Aa rfl (Mz 0 [2,3,4,0,1] rfl rfl (Ih) rfl ?_)
 rintro _ _ _ ⟨r2,ch'1,hd'1,cs'1,d1,rfl,rfl,rfl⟩
 simp only [List.cons_append,List.nil_append]
 refine Ae it 5 rfl (by simp) ?_
 refine Am [_,_] rfl ?_
 refine Ae it 2 rfl (by simp) ?_
 refine Aa rfl (G6 Cb rfl ?_)
 refine Ae it 1 rfl (by simp) ?_
 refine Aa rfl (G6 Cb rfl ?_) --ok
 simp only [List.take_zero,List.nil_append]
 refine G5 2 rfl fun hlen=>?_
 refine Xd 2 1 1 2 rfl rfl rfl rfl (fun i hi=>by rw [hlen i hi rfl,(hEM.row (by omega)).1];show N*8≤_;omega) ?_
 simp only [List.take_succ_cons,List.take_zero]
 rw [show (List.range n).map (Ar E.1)=E.1 from by
  refine List.ext_getElem (by rw [List.length_map,List.length_range,hEl]) fun i h1 h2=>?_
  rw [List.getElem_map,List.getElem_range,Ar,List.getD_eq_getElem?_getD,List.getElem?_eq_getElem h2];rfl]
 refine D4 1 0 rfl rfl (by show n*24≤140737488355328;omega) ?_
 simp only [List.eraseIdx_cons_zero,List.eraseIdx_cons_succ]
 refine D4 0 2 rfl rfl (by show E.2.length*8≤140737488355328;omega) ?_
 simp only [List.eraseIdx_cons_zero,List.eraseIdx_cons_succ]
 refine Bb 1 rfl fun _ _ hcap=>?_
 refine Aa rfl (Zn 1 (E.snd.length) (E.snd.length) rfl rfl rfl rfl D5 (by omega) (by omega) (by omega) (by omega) (by omega) ?_)
 refine wk 2 cz ?_
 refine Of [0,1] rfl rfl rfl ⟨_,_,_,rfl,rfl,rfl⟩
section
variable {p m n c nm cm:Nat}{pm ps:Option Addr}{md:List Int}{rows:List (List Int)}
theorem Te {N:Nat}(K:Fok p m md) (hN:N≤256) (hl:rows.length≤256) (hM:Cz (p ^ m) N rows) :
  Bs Tryz.prog 111 [.agg #[.int .i64 p,.int .i64 m,.slice pm nm cm],.agg #[.int .i64 N,.slice ps n c]] [] [Ap Ai pm nm cm md,Ap (Aj Ai) ps n c rows] (CaC N (Dm p m md N rows)):=by
 refine Ab (F:=If) rfl fun C=>?_
 refine Bb 1 rfl fun hn hb _=>?_
 subst hn
 have Cn:=fun {pm ps:Option Addr}{nm cm n c:Nat}=>Ez (pm:=pm) (nm:=nm) (cm:=cm) (ps:=ps) (n:=n) (c:=c) (Ms:=[((N:Int),rows)]) K (fun z hz=>by rw [List.mem_singleton.1 hz];simp only [Bv];omega) (Uj (Ro hN hl hM))
 have Gb:=fun {b ng cg ce cl c:Nat}{pg pe pl ps:Option Addr}=>Ya (b:=b) (ng:=ng) (cg:=cg) (ce:=ce) (cl:=cl) (pg:=pg) (pe:=pe) (pl:=pl) (ps:=ps) (c:=c) (n:=rows.length) (rows:=rows) K (by omega) (show N≤1000000 by omega) rfl hM
 refine Am [_,_] rfl ?_
 refine Aa rfl (Cm rfl fun b1=>?_)
 refine Aa rfl (Cm rfl fun b2=>?_)
 refine Aa rfl (Bk Ha fun b3=>?_)
 refine Ae it 2 rfl (by simp) ?_
 refine Am [_,_] rfl ?_
 refine Aa rfl (A5 2 rfl rfl Hx rfl ?_)
 refine Aa rfl (A5 1 rfl rfl Gd rfl ?_)
 refine Aa rfl (Ix AHU AEi rfl rfl rfl rfl (by decide) (by decide) rfl fun b4=>?_)
 refine Cg (E:=AAM) (n:=1) [[Value.int IntKind.i64 ↑N,Value.slice ps rows.length c]] [((↑N:Int),rows)] 0 (fun w A hG=>(Az (M5 (v1:=[Value.int IntKind.i64 ↑N]) (Dh (by first|(simp only [Bv];omega)|(simp [Bv];done)|assumption)) (A1 (hG _ (Af (n:=1) rfl)))) Bf)) rfl rfl rfl rfl (by first|decide|exact Nat.le_of_ble_eq_true rfl) (by first|decide|exact Nat.le_of_ble_eq_true rfl) ?_
 refine Aa rfl (Aw [1,0] rfl (Cn) rfl ?_)
 rintro _ _ _ ⟨b5,pg1,cg1,pe1,ce1,pl1,cl1,rfl,rfl,rfl⟩
 simp only [List.cons_append,List.nil_append]
 refine Ae it 5 rfl (by simp) ?_
 refine Am [_,_,_] rfl ?_
 refine Ae it 2 rfl (by simp) ?_
 refine Am [_,_] rfl ?_
 refine Kw rfl rfl (fun h1=>by exfalso;omega) (fun h1=>?_)
 refine Am [_,_] rfl ?_
 refine Ae it 1 rfl (by simp) ?_
 refine Aa rfl (Aq rfl Hv ?_)
 refine Aa rfl (Bm 1 rfl rfl H3 rfl ?_)
 refine Aa rfl (Aq rfl I3 ?_)
 refine Aa rfl (Bm 1 rfl rfl Ci rfl ?_)
 refine Aa rfl (Aw [0,2,3,6] rfl (Gb) rfl ?_)
 rintro _ _ _ ⟨pb1,pp1,cp1,rfl,rfl,rfl⟩
 simp only [List.cons_append,List.nil_append]
 simp only [decide_true]
 refine Ae it 5 rfl (by simp) ?_
 refine Am [_,_] rfl ?_
 refine Aa rfl (Aq rfl I3 ?_)
 refine Aa rfl (Bm 1 rfl rfl Ci rfl ?_)
 refine Ae it 1 rfl (by simp) ?_
 refine Aa rfl (Dq (cs:=[Value.int IntKind.i64 ↑N,Value.slice pb1 (Dm p m md N rows).snd.length (Dm p m md N rows).snd.length]) U4 Ha rfl rfl ?_)
 refine Ae it 1 rfl (by simp) ?_
 refine Aa rfl (A7 0 rfl rfl rfl Gd rfl rfl (by simp [Value.oneCell']) ?_)
 refine Ae it 2 rfl (by simp) ?_
 refine Am [_] rfl ?_
 refine Bj [0,1] rfl (.agg 0 rfl rfl Gd rfl (.tmp rfl (.tmp rfl .nil))) rfl ⟨_,_,_,rfl,rfl,rfl⟩
end
theorem ABH {P M P2 M2:Int}{pm p2:Option Addr}{nm cm n2 c2:Nat}{md md2:List Int}{res:Bool}(hr:decide (P=P2∧M=M2∧md=md2)=res):Bs Tryz.prog 158 [.agg #[.int .i64 P,.int .i64 M,.slice pm nm cm],.agg #[.int .i64 P2,.int .i64 M2,.slice p2 n2 c2]] [] [Ap Ai pm nm cm md,Ap Ai p2 n2 c2 md2] (Rv (.bool res) []):=by
 refine Ab (F:=ACi) rfl fun C=>?_
 refine Bb 0 rfl fun hn hb _=>?_
 subst hn
 refine Bb 1 rfl fun hn hb2 _=>?_
 subst hn
 have hb':md.length*8≤140737488355328:=hb
 have hb2':md2.length*8≤140737488355328:=hb2
 by_cases h1:P=P2∧M=M2∧md.length=md2.length
 ·obtain ⟨rfl,rfl,hl⟩:=h1
  simp only [true_and] at hr
  refine wk 35 cz ?_
  intro b1 b2 h1 h2 h3
  refine Ah (X:=Nat) [3,29,30] [0,1] (fun i=>[(31,.int .i64 (i:Int))]) (fun _=>_) (fun _=>[]) (fun i=>i≤md.length∧∀ j,j<i→md[j]?=md2[j]?) (fun i=>md.length-i) 0 [] rfl rfl rfl ⟨Nat.zero_le _,fun j hj=>by omega⟩ (by repeat (first|exact Fr.sub_nil _|refine Fr.sub_cons rfl ?_)) rfl rfl ?_
  rintro i ⟨hi,hj⟩ ih
  simp only [List.cons_append,List.nil_append] at ih ⊢
  by_cases h9:i<md.length
  ·obtain ⟨x,at_x⟩:∃ x,md[i]?=some x:=⟨_,List.getElem?_eq_getElem h9⟩
   obtain ⟨y,at_y⟩:∃ y,md2[i]?=some y:=⟨_,List.getElem?_eq_getElem (by omega)⟩
   by_cases hxy:x=y
   ·have ih':=ih (i+1) (by omega) ⟨by omega,fun j h=>by
     by_cases e:j=i
     ·rw [e,at_x,at_y,hxy]
     ·exact hj j (by omega)⟩
    clear ih
    refine wk 7 cz ?_
    intro h4 b3 o1 hz1
    refine Aa rfl (Av 0 rfl rfl Ci fun ⟨r1,r2⟩=>?_)
    refine wk 6 cz ?_
    intro b4 o2 hz2
    refine Aa rfl (Av 0 rfl rfl Ci fun ⟨r3,r4⟩=>?_)
    refine wk 6 cz ?_
    intro h5
    exact tw (ih')
   ·have e:res=false:=by
     rw [← hr]
     refine decide_eq_false fun e=>hxy ?_
     rw [e,at_y] at at_x
     exact (Option.some.inj at_x).symm
    subst e
    clear ih
    refine wk 7 cz ?_
    intro h4 b3 o1 hz1
    refine Aa rfl (Av 0 rfl rfl Ci fun ⟨r1,r2⟩=>?_)
    refine wk 6 cz ?_
    intro b4 o2 hz2
    refine Aa rfl (Av 0 rfl rfl Ci fun ⟨r3,r4⟩=>?_)
    refine wk 6 cz ?_
    intro h5
    exact ge
  ·have e:res=true:=by
    rw [← hr]
    refine decide_eq_true (List.ext_getElem? fun j=>?_)
    by_cases h:j<md.length
    ·exact hj j (by omega)
    ·rw [List.getElem?_eq_none (by omega),List.getElem?_eq_none (by omega)]
   subst e
   clear ih
   refine wk 7 cz ?_
   intro h4
   exact ge
 ·have e:res=false:=by
   rw [← hr]
   exact decide_eq_false fun ⟨a,b,d⟩=>h1 ⟨a,b,by rw [d]⟩
  subst e
  by_cases hP:P=P2
  ·by_cases hM:M=M2
   ·have hl:md.length≠md2.length:=fun e=>h1 ⟨hP,hM,e⟩
    refine wk 32 cz ?_
    intro b1 b2 h2 h3 h4
    exact ge
   ·refine wk 26 cz ?_
    intro b1 b2 h2 h3
    exact ge
  ·refine wk 18 cz ?_
   intro b1 b2 h2
   exact ge
open Go Go.Fw
set_option maxRecDepth 100000
set_option linter.unusedVariables false
set_option linter.unusedSimpArgs false
set_option maxHeartbeats 0
section
variable {p m:Nat}{md:List Int}
theorem Qj {b ng cg ne ce nl cl:Nat}{pg pe pl:Option Addr}{x y:Int}(K:Fok p m md) (x0:0≤x) (x1:x<((p ^ m:Nat):Int)) (y0:0≤y) (y1:y<((p ^ m:Nat):Int)) :
  Bs Tryz.prog 207 [.pointer (some ⟨b,0,none⟩),.int .i64 x,.int .i64 y] [] [I2 b p m (p ^ m) pg ng cg pe ne ce pl nl cl] (Rv (.int .i64 (Ad (fA p m) x (C3 p m y))) []):=by
 refine Ab (F:=Yc) rfl fun C=>?_
 have hq:=K.q
 have h2:=K.p2
 have h1:=K.m1
 obtain ⟨⟨n0,n1⟩,_⟩:=(AId K).ng y y0 y1
 refine wk 99 (ct @Gr (ct @De cz)) ?_
 exact ge
end
end Go.Proofs.YtpienolhkccpnaaGreat
