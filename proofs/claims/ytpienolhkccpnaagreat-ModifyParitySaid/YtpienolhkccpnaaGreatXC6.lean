/-
Sets of positions. Reduced rows of a matrix, as handed back. New refuses what is no field. The field and the matrices of a call are checked. Canonical matrices. The kernel of a matrix. Functions of slices that are handed a function; sets of positions. The program's tests of spaces and codes. The document's tests of entries, shapes and sets; its copies. A multiple of a row is added to an own row; combinations of rows. Products and transposes of matrices. The words of a space that vanish outside some positions; the least witness. The least witness, and the program's answer whether helpers suffice. Multiples and sums of rows in the document. Elimination in the document. Canonical rows, null spaces, combinations and columns in the document. The document's tests of spaces and codes, of sets and pairs. Lists put in order by pivots and heaps. Spans: of duals, of images, of words that vanish at some places. Codes without some positions: the dual of what is left. Sums and intersections of spaces, as the program makes them; moved entries. Duals of punctured, shortened and permuted codes. Extended codes: what is left without the last position, and where it is 0. Codes: made of rows, their duals. Sums, products and digits in a field, behind a pointer. Canonical rows without room; two fields that are the same. The document's fields: sums of products; rows of elements. Whether helpers suffice: what the program answers. Columns and ranks in the document, what is enough, and the least witness. What is enough by ranks and by witnesses; the walk of RepairSuffices. Words of messages in the document; the walk of RepairDetermines. Differences in a field; the program's test of a word. The rows of a space are taken off a word, in the program. A part split by a pivot: what holds meanwhile. A part split into what is no greater than an entry and what is. The parts of a list that is put in order by pivots.
-/
import Derived.Test.YtpienolhkccpnaaGreatXC5
set_option linter.unusedVariables false
set_option linter.unusedSimpArgs false
namespace Go.Proofs.YtpienolhkccpnaaGreat
open Go Go.Fw
set_option maxRecDepth 100000
set_option linter.unusedVariables false
set_option linter.unusedSimpArgs false
set_option maxHeartbeats 0
def Yk (n:Int) (l:List Int):Prop:=(∀ x∈l,0≤x∧x<n)∧l.Pairwise (·<·)
instance (n:Int) (l:List Int):Decidable (Yk n l):=inferInstanceAs (Decidable (_∧_))
def stA (n:Int) (l:List Int) (i:Nat):Prop:=∀ x,l[i]?=some x→(0≤x∧x<n)∧∀ y,0<i→l[i-1]?=some y→y<x
theorem ABN {n:Int}{l:List Int}:Yk n l↔∀ i,i<l.length→stA n l i:=by
 constructor
 ·rintro ⟨h1,h2⟩ i hi x hx
  refine ⟨h1 x (List.mem_of_getElem? hx),fun y h0 hy=>?_⟩
  obtain ⟨a1,a2⟩:=List.getElem?_eq_some_iff.1 hx
  obtain ⟨b1,b2⟩:=List.getElem?_eq_some_iff.1 hy
  have:=List.pairwise_iff_getElem.1 h2 (i-1) i b1 a1 (by omega)
  omega
 ·intro h
  refine ⟨fun x hx=>?_,List.pairwise_iff_getElem.2 fun i j hi hj hij=>?_⟩
  ·obtain ⟨i,hi⟩:=List.getElem?_of_mem hx
   exact (h i (List.getElem?_eq_some_iff.1 hi).1 x hi).1
  ·have key:∀ d,i+d+1<l.length→∀ x y,l[i]?=some x→l[i+d+1]?=some y→x<y:=by
    intro d
    induction d with
    | zero =>
     intro hd x y hx hy
     exact (h _ hd y hy).2 x (by omega) (by rw [show i+0+1-1=i by omega];exact hx)
    | succ d ih =>
     intro hd x y hx hy
     obtain ⟨z,hz⟩:∃ z,l[i+d+1]?=some z:=⟨_,List.getElem?_eq_getElem (by omega)⟩
     have h1:=ih (by omega) x z hx hz
     have h2:=(h _ hd y hy).2 z (by omega) (by rw [show i+(d+1)+1-1=i+d+1 by omega];exact hz)
     omega
   exact key (j-i-1) (by omega) _ _ (List.getElem?_eq_getElem hi) (by rw [show i+(j-i-1)+1=j by omega];exact List.getElem?_eq_getElem hj)
theorem ALa {n:Int}{l:List Int}{i:Nat}(hi:i<l.length) (h:¬ stA n l i):¬ Yk n l:=fun hp=>h (ABN.1 hp i hi)
def Rd (ls:List (List Int)) (i:Nat):Bool:=!ls.any fun l=>decide ((i:Int)∈l)
def Co (n:Nat) (ls:List (List Int)):List Int:=((List.range n).filter (Rd ls)).map fun i:Nat=>(i:Int)
theorem ABc (n:Nat) (ls:List (List Int)):Co (n+1) ls=Co n ls++if Rd ls n then [(n:Int)] else []:=by
 rw [Co,Co,List.range_succ,List.filter_append,List.map_append]
 congr 1
 cases h:Rd ls n <;> simp [h]
abbrev CnQ (E:List (List Int)×List Nat):Value→List Fact→List A4→Prop:=fun v Φ β=>∃ (pb pp:Option Addr) (cb cp:Nat),v = .tuple #[.slice pb E.2.length cb,.slice pp E.2.length cp]
 ∧ Φ=[Ap (Aj Ai) pb E.2.length cb (E.1.take E.2.length),Ap Ai pp E.2.length cp (Bb E.2)]∧β=[]
theorem V9 {A M:Int→Int→Int}{N V:Int→Int}:∀ (n c t:Nat) (rows:List (List Int)),t≤rows.length→t+(Dr A M N V n c t rows).2.length≤rows.length
 | 0,_,_,_,h=>h
 | n+1,c,t,rows,h=>by
  rw [Dr]
  cases hf:Hr rows t c with
  | none=>exact V9 n (c+1) t rows h
  | some k =>
   have h1:=(Pw hf)
   have h2:=V9 (A:=A) (M:=M) (N:=N) (V:=V) n (c+1) (t+1) (J1 A M N V t k c rows) (by rw [Hc];omega)
   rw [Hc] at h2
   show t+(_::_).length≤_
   rw [List.length_cons];omega
theorem Sq {b p m n N c ng cg ce cl:Nat}{pg pe pl ps:Option Addr}{rows:List (List Int)}{md:List Int}(K:Fok p m md) (hn:n≤1000000) (hN:N≤1000000) (hl:rows.length=n) (hM:Cw (p ^ m) N rows) :
  Bt Tryz.prog 135 [.pointer (some ⟨b,0,none⟩),.slice ps n c,.int .i64 N] []
   [Jc b p m (p ^ m) pg ng cg pe (p ^ m-1) ce pl (p ^ m) cl,Ap Ai pe (p ^ m-1) ce (Jh p m md),Ap Ai pl (p ^ m) cl (Jk p m md),Ap (Aj Ai) ps n c rows]
   (CnQ (J9 p m md N 0 0 rows)):=by
 refine Ab (F:=R0) rfl fun C=>?_
 have Ig:=fun {b ng cg ce cl:Nat}{pg pe pl:Option Addr}{rh:Row}{hd:Nat→Hd}{cs:Nat→List Value}=>Lp (b:=b) (ng:=ng) (cg:=cg) (ce:=ce) (cl:=cl) (pg:=pg) (pe:=pe) (pl:=pl) (rh:=rh) (hd:=hd) (cs:=cs) K hn hN hl hM
 have hEl:(J9 p m md N 0 0 rows).1.length=n:=by rw [J9,Sw,hl]
 have hEk:(J9 p m md N 0 0 rows).2.length≤n:=by
  have:=V9 (A:=Ad (fA p m)) (M:=Ad (fM p (Ax m md))) (N:=Cz p m) (V:=Hn p m md) N 0 0 rows (Nat.zero_le _)
  rw [Nat.zero_add,hl] at this;exact this
 have hEM:Cw (p ^ m) N (J9 p m md N 0 0 rows).1:=((C1 K).elim (m:=N) hM).1
 generalize J9 p m md N 0 0 rows=E at *
 refine Am [_,_] rfl ?_
 refine Ae it 2 rfl (by simp) ?_
 refine Am [_,_] rfl ?_
 refine Ae it 1 rfl (by simp) ?_
 refine Aa rfl (Aw [3] rfl (R6 (by omega)) rfl ?_)
 rintro _ _ _ ⟨r1,hd1,cs1,rfl,rfl,rfl⟩
 simp only [List.cons_append,List.nil_append]
 refine Ae it 1 rfl (by simp) ?_
 refine Am [_,_] rfl ?_
 refine Ae it 3 rfl (by simp) ?_ --ok
 simp only [List.append_nil]
 refine Aa rfl (Na 0 [2,3,4,0,1] rfl rfl (Ig) rfl ?_)
 rintro _ _ _ ⟨r2,ch'1,hd'1,cs'1,d1,rfl,rfl,rfl⟩
 simp only [List.cons_append,List.nil_append]
 refine Ae it 5 rfl (by simp) ?_
 refine Am [_,_] rfl ?_
 refine Ae it 2 rfl (by simp) ?_
 refine Aa rfl (Hf Ce rfl ?_)
 refine Ae it 1 rfl (by simp) ?_
 refine Aa rfl (Hf Ce rfl ?_) --ok
 simp only [List.take_zero,List.nil_append]
 refine G3 2 rfl fun hlen=>?_
 refine Wz 2 1 1 2 rfl rfl rfl rfl (fun i hi=>by rw [hlen i hi rfl,(hEM.row (by omega)).1];show N*8≤_;omega) ?_
 simp only [List.take_succ_cons,List.take_zero]
 rw [show (List.range n).map (Ar E.1)=E.1 from by
  refine List.ext_getElem (by rw [List.length_map,List.length_range,hEl]) fun i h1 h2=>?_
  rw [List.getElem_map,List.getElem_range,Ar,List.getD_eq_getElem?_getD,List.getElem?_eq_getElem h2];rfl]
 refine D2 1 0 rfl rfl (by show n*24≤140737488355328;omega) ?_
 simp only [List.eraseIdx_cons_zero,List.eraseIdx_cons_succ]
 refine D2 0 2 rfl rfl (by show E.2.length*8≤140737488355328;omega) ?_
 simp only [List.eraseIdx_cons_zero,List.eraseIdx_cons_succ]
 refine Ba 1 rfl fun _ _ hcap=>?_
 refine Aa rfl (Z1 1 (E.snd.length) (E.snd.length) rfl rfl rfl rfl D5 (by omega) (by omega) (by omega) (by omega) (by omega) ?_)
 refine wk 2 cz ?_
 refine Ov [0,1] rfl rfl rfl ⟨_,_,_,_,rfl,rfl,rfl⟩
def opE (q:Nat):List (Int×List (List Int))→Int
 | []=>0
 | z::l=>if Uw z.1 z.2 q=0 then opE q l else Uw z.1 z.2 q
theorem ACP {q i:Nat}{l:List (Int×List (List Int))}{z:Int×List (List Int)}(hz:l[i]?=some z):opE q (l.drop i)=if Uw z.1 z.2 q=0 then opE q (l.drop (i+1)) else Uw z.1 z.2 q:=by
 have hi:=(List.getElem?_eq_some_iff.1 hz).1
 have e:l.drop i=z::l.drop (i+1):=by
  rw [List.drop_eq_getElem_cons hi]
  congr 1
  exact (List.getElem?_eq_some_iff.1 hz).2
 rw [e,opE]
theorem S1 (N:Int) (rows:List (List Int)) (q:Nat):0≤Uw N rows q∧Uw N rows q≤3:=by
 rw [Uw];repeat' split
 all_goals omega
theorem Ew {pm ps:Option Addr}{nm cm n c p m:Nat}{md:List Int}{Ms:List (Int×List (List Int))}(K:Fok p m md) (hR:∀ z∈Ms,Bv .i64 z.1) (h0:opE (p ^ m) Ms=0) :
  Bt Tryz.prog 134 [.agg #[.int .i64 p,.int .i64 m,.slice pm nm cm],.slice ps n c] [] [Ap Ai pm nm cm md,Ap AA4 ps n c Ms]
   (fun v Φ β=>∃ b pg cg pe ce pl cl,v = .tuple #[.pointer (some ⟨b,0,none⟩),.int .i64 0]∧Φ=gfL p m md b pg cg pe ce pl cl∧β=[]):=by
 refine Ab (F:=Tw) rfl fun C=>?_
 have hq:=K.q
 have D0:=fun {pm:Option Addr}{nm cm:Nat}=>Fx (pm:=pm) (nm:=nm) (cm:=cm) K
 refine Ba 1 rfl fun hn hb _=>?_
 subst hn
 have hb':Ms.length*32≤140737488355328:=hb
 refine wk 16 (ct @D0 cz) ?_
 intro b1 b2 pg1 cg1 pe1 ce1 pl1 cl1 h1
 refine Ah (X:=Nat) [6,18,19] [0,1,2,3,4,5] (fun i=>[(20,.int .i64 (i:Int))]) (fun _=>[(some b1,24,[.int .i64 p,.int .i64 m,.slice pm nm cm])]) (fun _=>[]) (fun i=>i≤Ms.length∧opE (p ^ m) (Ms.drop i)=0) (fun i=>Ms.length-i) 0 [] rfl rfl rfl ⟨Nat.zero_le _,h0⟩ (by repeat (first|exact Fr.sub_nil _|refine Fr.sub_cons rfl ?_)) rfl rfl ?_
 rintro i ⟨hi,h1⟩ ih
 simp only [List.cons_append,List.nil_append] at hi ih ⊢
 by_cases h9:i<Ms.length
 ·obtain ⟨z,at_z⟩:∃ z,Ms[i]?=some z:=⟨_,List.getElem?_eq_getElem h9⟩
  have hz:=hR z (List.mem_of_getElem? at_z)
  rw [ACP at_z] at h1
  have hz0:Uw z.1 z.2 (p ^ m)=0:=Classical.byContradiction fun h=>by rw [if_neg h] at h1;exact h h1
  rw [if_pos hz0] at h1
  refine wk 21 (ct @Lv cz) ?_
  intro h2 b3 o1 hz1 g1 b4 h3
  refine Kx [false,true] [2,3,4,5,6,7] (by exact Uy rfl) rfl rfl (ih (i+1) (by omega) ⟨by omega,h1⟩)
 ·refine wk 7 cz ?_
  intro h2
  refine Ov [0,1,2,3] rfl rfl rfl ⟨_,_,_,_,_,_,_,rfl,rfl,rfl⟩
theorem U3 {pm ps:Option Addr}{nm cm n c p m:Nat}{md:List Int}{Ms:List (Int×List (List Int))}{e:Int}(K:Fok p m md) (hR:∀ z∈Ms,Bv .i64 z.1) (h0:opE (p ^ m) Ms=e) (he:e≠0) :
  Bt Tryz.prog 134 [.agg #[.int .i64 p,.int .i64 m,.slice pm nm cm],.slice ps n c] [] [Ap Ai pm nm cm md,Ap AA4 ps n c Ms] (Rv (.tuple #[.pointer none,.int .i64 e]) []):=by
 refine Ab (F:=Tw) rfl fun C=>?_
 have hq:=K.q
 have D0:=fun {pm:Option Addr}{nm cm:Nat}=>Fx (pm:=pm) (nm:=nm) (cm:=cm) K
 refine Ba 1 rfl fun hn hb _=>?_
 subst hn
 have hb':Ms.length*32≤140737488355328:=hb
 refine wk 16 (ct @D0 cz) ?_
 intro b1 b2 pg1 cg1 pe1 ce1 pl1 cl1 h1
 refine Ah (X:=Nat) [6,18,19] [0,1,2,3,4,5] (fun i=>[(20,.int .i64 (i:Int))]) (fun _=>[(some b1,24,[.int .i64 p,.int .i64 m,.slice pm nm cm])]) (fun _=>[]) (fun i=>i≤Ms.length∧opE (p ^ m) (Ms.drop i)=e) (fun i=>Ms.length-i) 0 [] rfl rfl rfl ⟨Nat.zero_le _,h0⟩ (by repeat (first|exact Fr.sub_nil _|refine Fr.sub_cons rfl ?_)) rfl rfl ?_
 rintro i ⟨hi,h1⟩ ih
 simp only [List.cons_append,List.nil_append] at hi ih ⊢
 by_cases h9:i<Ms.length
 ·obtain ⟨z,at_z⟩:∃ z,Ms[i]?=some z:=⟨_,List.getElem?_eq_getElem h9⟩
  have hz:=hR z (List.mem_of_getElem? at_z)
  rw [ACP at_z] at h1
  have hr:=S1 z.1 z.2 (p ^ m)
  by_cases hz0:Uw z.1 z.2 (p ^ m)=0
  ·rw [if_pos hz0] at h1
   refine wk 21 (ct @Lv cz) ?_
   intro h2 b3 o1 hz1 g1 b4 h3
   refine Kx [false,true] [2,3,4,5,6,7] (by exact Uy rfl) rfl rfl (ih (i+1) (by omega) ⟨by omega,h1⟩)
  ·rw [if_neg hz0] at h1
   subst h1
   refine wk 21 (ct @Lv cz) ?_
   intro h2 b3 o1 hz1 g1 b4 h3
   exact ge
 ·exfalso
  rw [List.drop_of_length_le (by omega)] at h1
  exact he h1.symm
abbrev Dh (p m:Nat) (md:List Int) (n:Nat) (rows:List (List Int)):List (List Int)×List Nat:=Qd (Ad (fA p m)) (Ad (fM p (Ax m md))) (Cz p m) (Hn p m md) n rows
theorem Sa {q N:Nat}{rows:List (List Int)}(hN:N≤256) (hl:rows.length≤256) (hM:Cw q N rows):Uw (N:Int) rows q=0:=by
 rw [Uw,if_neg (by omega),if_neg,if_pos fun r hr x hx=>(hM r hr).2 x hx]
 rintro ⟨r,hr,h⟩
 exact h (by rw [(hM r hr).1])
theorem AEF {q:Nat}{N:Int}{rows:List (List Int)}(h:Uw N rows q=0):∃ n:Nat,N=n∧n≤256∧rows.length≤256∧Cw q n rows:=by
 rw [Uw] at h
 by_cases h1:N<0∨256<N∨256<rows.length
 ·rw [if_pos h1] at h;omega
 rw [if_neg h1] at h
 by_cases h2:∃ r∈rows,(r.length:Int)≠N
 ·rw [if_pos h2] at h;omega
 rw [if_neg h2] at h
 by_cases h3:∀ r∈rows,∀ x∈r,0≤x∧x<(q:Int)
 ·refine ⟨N.toNat,by omega,by omega,by omega,fun r hr=>⟨?_,h3 r hr⟩⟩
  have:=Classical.byContradiction fun h=>h2 ⟨r,hr,h⟩
  omega
 ·rw [if_neg h3] at h;omega
theorem Ui {q:Nat}{z:Int×List (List Int)}{e:Int}(h:Uw z.1 z.2 q=e):opE q [z]=e:=by
 rw [opE,opE]
 split
 ·omega
 ·exact h
abbrev CaQ (N:Nat) (E:List (List Int)×List Nat):Value→List Fact→List A4→Prop:=fun v Φ β=>∃ (pb pp:Option Addr) (cb cp:Nat),v = .tuple #[.agg #[.int .i64 N,.slice pb E.2.length cb],.slice pp E.2.length cp,.int .i64 0]
 ∧ Φ=[Ap (Aj Ai) pb E.2.length cb E.1,Ap Ai pp E.2.length cp (Bb E.2)]∧β=[]
section
variable {p m n c nm cm:Nat}{pm ps:Option Addr}{md:List Int}{rows:List (List Int)}
theorem E4 {N:Nat}(K:Fok p m md) (hN:N≤256) (hl:rows.length≤256) (hM:Cw (p ^ m) N rows) :
  Bt Tryz.prog 111 [.agg #[.int .i64 p,.int .i64 m,.slice pm nm cm],.agg #[.int .i64 N,.slice ps n c]] [] [Ap Ai pm nm cm md,Ap (Aj Ai) ps n c rows] (CaQ N (Dh p m md N rows)):=by
 refine Ab (F:=Ij) rfl fun C=>?_
 refine Ba 1 rfl fun hn hb _=>?_
 subst hn
 have Cl:=fun {pm ps:Option Addr}{nm cm n c:Nat}=>Ew (pm:=pm) (nm:=nm) (cm:=cm) (ps:=ps) (n:=n) (c:=c) (Ms:=[((N:Int),rows)]) K (fun z hz=>by rw [List.mem_singleton.1 hz];simp only [Bv];omega) (Ui (Sa hN hl hM))
 have F2:=fun {b ng cg ce cl c:Nat}{pg pe pl ps:Option Addr}=>Sq (b:=b) (ng:=ng) (cg:=cg) (ce:=ce) (cl:=cl) (pg:=pg) (pe:=pe) (pl:=pl) (ps:=ps) (c:=c) (n:=rows.length) (rows:=rows) K (by omega) (show N≤1000000 by omega) rfl hM
 refine Am [_,_] rfl ?_
 refine Aa rfl (Cv rfl fun b1=>?_)
 refine Aa rfl (Cv rfl fun b2=>?_)
 refine Aa rfl (Bl G9 fun b3=>?_)
 refine Ae it 2 rfl (by simp) ?_
 refine Am [_,_] rfl ?_
 refine Aa rfl (A1 2 rfl rfl Hy rfl ?_)
 refine Aa rfl (A1 1 rfl rfl F6 rfl ?_)
 refine Aa rfl (Iu AHG AEq rfl rfl rfl rfl (by decide) (by decide) rfl fun b4=>?_)
 refine Cb (E:=AA4) (n:=1) [[Value.int IntKind.i64 ↑N,Value.slice ps rows.length c]] [((↑N:Int),rows)] 0 (fun w A hG=>(Az (M9 (v1:=[Value.int IntKind.i64 ↑N]) (Dq (by first|(simp only [Bv];omega)|(simp [Bv];done)|assumption)) (A2 (hG _ (Af (n:=1) rfl)))) Bd)) rfl rfl rfl rfl (by first|decide|exact Nat.le_of_ble_eq_true rfl) (by first|decide|exact Nat.le_of_ble_eq_true rfl) ?_
 refine Aa rfl (Aw [1,0] rfl (Cl) rfl ?_)
 rintro _ _ _ ⟨b5,pg1,cg1,pe1,ce1,pl1,cl1,rfl,rfl,rfl⟩
 simp only [List.cons_append,List.nil_append]
 refine Ae it 5 rfl (by simp) ?_
 refine Am [_,_,_] rfl ?_
 refine Ae it 2 rfl (by simp) ?_
 refine Am [_,_] rfl ?_
 refine Nd rfl rfl (fun h1=>by exfalso;omega) (fun h1=>?_)
 refine Am [_,_] rfl ?_
 refine Ae it 1 rfl (by simp) ?_
 refine Aa rfl (Aq rfl Hw ?_)
 refine Aa rfl (Bm 1 rfl rfl H7 rfl ?_)
 refine Aa rfl (Aq rfl I4 ?_)
 refine Aa rfl (Bm 1 rfl rfl Ci rfl ?_)
 refine Aa rfl (Aw [0,2,3,6] rfl (F2) rfl ?_)
 rintro _ _ _ ⟨pb1,pp1,cb1,cp1,rfl,rfl,rfl⟩
 simp only [List.cons_append,List.nil_append]
 simp only [decide_true]
 refine Ae it 5 rfl (by simp) ?_
 refine Am [_,_] rfl ?_
 refine Aa rfl (Aq rfl I4 ?_)
 refine Aa rfl (Bm 1 rfl rfl Ci rfl ?_)
 refine Ae it 1 rfl (by simp) ?_
 refine Aa rfl (Dn (cs:=[Value.int IntKind.i64 ↑N,Value.slice pb1 (J9 p m md N 0 0 rows).snd.length cb1]) Uz G9 rfl rfl ?_)
 refine Ae it 1 rfl (by simp) ?_
 refine Aa rfl (A8 0 rfl rfl rfl F6 rfl rfl (by simp [Value.oneCell']) ?_)
 refine Ae it 2 rfl (by simp) ?_
 refine Am [_] rfl ?_
 refine Bj [0,1] rfl (.agg 0 rfl rfl F6 rfl (.tmp rfl (.tmp rfl .nil))) rfl ⟨_,_,_,_,rfl,rfl,rfl⟩
theorem Pq {N e:Int}(K:Fok p m md) (hN:Bv .i64 N) (h:Uw N rows (p ^ m)=e) (he:e≠0) :
  Bt Tryz.prog 111 [.agg #[.int .i64 p,.int .i64 m,.slice pm nm cm],.agg #[.int .i64 N,.slice ps n c]] [] [Ap Ai pm nm cm md,Ap (Aj Ai) ps n c rows] (Rv (.tuple #[.agg #[.int .i64 0,.slice none 0 0],.slice none 0 0,.int .i64 e]) []):=by
 refine Ab (F:=Ij) rfl fun C=>?_
 have hr:=S1 N rows (p ^ m)
 have Cl:=fun {pm ps:Option Addr}{nm cm n c:Nat}=>U3 (pm:=pm) (nm:=nm) (cm:=cm) (ps:=ps) (n:=n) (c:=c) (Ms:=[(N,rows)]) K (fun z hz=>by rw [List.mem_singleton.1 hz];exact hN) (Ui h) he
 refine wk 9 cz ?_
 intro b1 b2 b3 b4
 refine Cb (E:=AA4) (n:=1) [[Value.int IntKind.i64 N,Value.slice ps n c]] [((N:Int),rows)] 0 (fun w A hG=>(Az (M9 (v1:=[Value.int IntKind.i64 N]) (Dq (by first|(simp only [Bv];omega)|(simp [Bv];done)|assumption)) (A2 (hG _ (Af (n:=1) rfl)))) Bd)) rfl rfl rfl rfl (by first|decide|exact Nat.le_of_ble_eq_true rfl) (by first|decide|exact Nat.le_of_ble_eq_true rfl) ?_
 refine wk 12 (ct @Cl cz) ?_
 intro h1
 refine Bj [] rfl (.agg 0 rfl rfl F6 rfl (.tmp rfl (.tmp rfl .nil))) rfl ⟨rfl,rfl,rfl⟩
theorem Ky {N ns cs':Nat}{pt:Option Addr}{set:List Int}(K:Fok p m md) (hN:N≤256) (hl:rows.length≤256) (hM:Cw (p ^ m) N rows) (hs:set.length≤256) (hst:∀ x∈set,0≤x∧x<(N:Int)) :
  Bt Tryz.prog 104 [.agg #[.int .i64 p,.int .i64 m,.slice pm nm cm],.agg #[.int .i64 N,.slice ps n c],.slice pt ns cs'] [] [Ap Ai pm nm cm md,Ap (Aj Ai) ps n c rows,Ap Ai pt ns cs' set]
   (fun v Φ β=>∃ (pb:Option Addr) (cb:Nat),v = .tuple #[.agg #[.int .i64 (set.length:Nat),.slice pb rows.length cb],.int .i64 0]∧Φ=[Ap (Aj Ai) pb rows.length cb (rows.map fun r=>set.map fun j=>Bf r j.toNat)]∧β=[]):=by
 refine Ab (F:=Xa) rfl fun C=>?_
 refine Ba 1 rfl fun hn hb _=>?_
 subst hn
 refine Ba 2 rfl fun hn hb2 _=>?_
 subst hn
 have Cl:=fun {pm ps:Option Addr}{nm cm n c:Nat}=>Ew (pm:=pm) (nm:=nm) (cm:=cm) (ps:=ps) (n:=n) (c:=c) (Ms:=[((N:Int),rows)]) K (fun z hz=>by rw [List.mem_singleton.1 hz];simp only [Bv];omega) (Ui (Sa hN hl hM))
 refine wk 9 cz ?_
 intro b1 b2 b3 b4
 refine Cb (E:=AA4) (n:=1) [[Value.int IntKind.i64 ↑N,Value.slice ps rows.length c]] [((↑N:Int),rows)] 0 (fun w A hG=>(Az (M9 (v1:=[Value.int IntKind.i64 ↑N]) (Dq (by first|(simp only [Bv];omega)|(simp [Bv];done)|assumption)) (A2 (hG _ (Af (n:=1) rfl)))) Bd)) rfl rfl rfl rfl (by first|decide|exact Nat.le_of_ble_eq_true rfl) (by first|decide|exact Nat.le_of_ble_eq_true rfl) ?_
 refine wk 17 (ct @Cl cz) ?_
 intro b5 pg1 cg1 pe1 ce1 pl1 cl1 h1 h2
 refine Ah (X:=Nat) [2,4,6,33,34] [0,1,2,3,4,5,6,7] (fun i=>[(35,.int .i64 (i:Int))]) (fun _=>[(some b3,62,[.int .i64 0,.slice none 0 0]),(some b2,62,[.int .i64 N,.slice ps rows.length c]),(some b1,24,[.int .i64 p,.int .i64 m,.slice pm nm cm])]) (fun _=>[]) (fun i=>i≤set.length) (fun i=>set.length-i) 0 [] rfl rfl rfl (Nat.zero_le _) (by repeat (first|exact Fr.sub_nil _|refine Fr.sub_cons rfl ?_)) rfl rfl ?_
 rintro i hi ih
 simp only [List.cons_append,List.nil_append] at hi ih ⊢
 by_cases h9:i<set.length
 ·obtain ⟨x,at_x⟩:∃ x,set[i]?=some x:=⟨_,List.getElem?_eq_getElem h9⟩
  obtain ⟨x0,x1⟩:=hst x (List.mem_of_getElem? at_x)
  refine wk 13 cz ?_
  intro h3 b6 o1 hz1 _ r1 r2
  refine By (t:=41) rfl (fun h4=>by exfalso;omega) (fun h4=>?_)
  refine wk 9 cz ?_
  intro h5
  exact tw (ih (i+1) (by omega) (by omega))
 ·clear ih
  refine Am [_,_,_,_,_] rfl ?_
  refine Ae it 1 rfl (by simp) ?_
  refine Am [_,_,_,_,_] rfl ?_
  refine Lc rfl rfl (fun h3=>by exfalso;omega) (fun h3=>?_)
  refine Am [_,_] rfl ?_
  refine Ae it 1 rfl (by simp) ?_
  refine Aa rfl (Hf Ce rfl ?_)
  refine Aa rfl (Dn (cs:=[Value.int IntKind.i64 ↑set.length,Value.slice none 0 0]) Uz G9 rfl rfl ?_)
  refine Aa rfl (Bl G9 fun b6=>?_)
  refine Aa rfl (A8 0 rfl rfl rfl F6 rfl rfl (by simp [Value.oneCell']) ?_)
  refine Am [_,_,_] rfl ?_
  refine Aa rfl (Aq rfl Hw ?_)
  refine Aa rfl (Bm 2 rfl rfl H7 rfl ?_)
  refine Aa rfl (Hf D5 rfl ?_)
  refine Ae it 1 rfl (by simp) ?_
  refine Am [_,_,_] rfl ?_
  refine F3 (Aj Ai) 22 ?_
  refine Ah (X:=Nat×Row) [2,6,12,53,54] [0,1,2,3,4,5,6,7,8] (fun x=>[(55,.int .i64 (x.1:Int))]) (fun x=>[(x.2.bo,22,x.2.cs),(some b6,62,[.int .i64 (set.length:Nat),.slice (ad x.2.bo) x.1 x.2.cap]),(some b3,62,[.int .i64 0,.slice none 0 0]),(some b2,62,[.int .i64 N,.slice ps rows.length c]),(some b1,24,[.int .i64 p,.int .i64 m,.slice pm nm cm])]) (fun x=>[A7 (Aj Ai) x.2 x.1 ((rows.take x.1).map fun r=>set.map fun j=>Bf r j.toNat)]) (fun x=>x.1≤rows.length) (fun x=>rows.length-x.1) (0,⟨none,0,[]⟩) [0] rfl rfl rfl (Nat.zero_le _) (by repeat (first|exact Fr.sub_nil _|refine Fr.sub_cons rfl ?_)) rfl rfl ?_
  rintro ⟨k,r⟩ hk ih
  simp only [List.cons_append,List.nil_append] at hk ih ⊢
  by_cases h8:k<rows.length
  ·obtain ⟨u,at_u⟩:∃ u,rows[k]?=some u:=⟨_,List.getElem?_eq_getElem h8⟩
   have hu:=hM u (List.mem_of_getElem? at_u)
   have ih':=fun r=>ih (k+1,r) (by dsimp only;omega) (by dsimp only;omega)
   simp only [List.take_add_one,at_u,Option.toList_some,List.map_append,List.map_cons,List.map_nil] at ih'
   clear ih
   have hTl:(set.map fun j=>Bf u j.toNat).length=set.length:=List.length_map _
   have hTa:∀ (i:Nat) (x:Int),set[i]?=some x→(set.map fun j=>Bf u j.toNat)[i]?=some (Bf u x.toNat):=fun i x h=>by rw [List.getElem?_map,h];rfl
   have hTr:∀ z∈(set.map fun j=>Bf u j.toNat),Bv .i64 z:=fun z hz=>by
    obtain ⟨j,_,rfl⟩:=List.mem_map.1 hz
    have:=Bh (by have:=K.p2;exact Nat.pow_pos (by omega)) hu j.toNat
    have:=K.q
    simp only [Bv];omega
   generalize (set.map fun j=>Bf u j.toNat)=T at *
   refine wk 18 cz ?_
   intro h4 b7 o1 hz1 pa1 ca1 b8
   rw [show Ao .i64 (List.replicate set.length 0)=Al .i64 (T.take 0++List.replicate (set.length-0) 0) by simp [Ao,Al]]
   refine Ah (X:=Nat) [2,6,12,14,15,53,54,55,56,57,58,59,60,61,62,63] [0,1,2,3,4,5,6,7,8,9,10,11] (fun i=>[(64,.int .i64 (i:Int))]) (fun i=>[(some b8,3,Al .i64 (T.take i++List.replicate (set.length-i) 0)),(r.bo,22,r.cs),(some b6,62,[.int .i64 (set.length:Nat),.slice (ad r.bo) k r.cap]),(some b3,62,[.int .i64 0,.slice none 0 0]),(some b2,62,[.int .i64 N,.slice ps rows.length c]),(some b1,24,[.int .i64 p,.int .i64 m,.slice pm nm cm])]) (fun _=>[]) (fun i=>i≤set.length) (fun i=>set.length-i) 0 [] rfl rfl rfl (Nat.zero_le _) (by repeat (first|exact Fr.sub_nil _|refine Fr.sub_cons rfl ?_)) rfl rfl ?_
   rintro i hi ih
   simp only [List.cons_append,List.nil_append] at hi ih ⊢
   by_cases h9:i<set.length
   ·obtain ⟨x,at_x⟩:∃ x,set[i]?=some x:=⟨_,List.getElem?_eq_getElem h9⟩
    obtain ⟨x0,x1⟩:=hst x (List.mem_of_getElem? at_x)
    have hT:=hTa i x at_x
    obtain ⟨x,rfl⟩:=Int.eq_ofNat_of_zero_le x0
    rw [Int.toNat_natCast] at hT
    have hul:=hu.1
    have at_y:u[x]?=some (Bf u x):=by
     rw [Bf,List.getD_eq_getElem?_getD,List.getElem?_eq_getElem (by omega)];rfl
    have ih':=ih (i+1) (by omega) (by omega)
    rw [← take_set hT h9] at ih'
    have hln:(T.take i++List.replicate (set.length-i) 0).length=set.length:=by rw [List.length_append,List.length_take,List.length_replicate];omega
    generalize T.take i++List.replicate (set.length-i) 0=L at *
    refine wk 7 cz ?_
    intro h5 b9 o2 hz2
    refine Aa rfl (Av 0 rfl rfl Ci fun ⟨r1,r2⟩=>?_)
    refine wk 4 cz ?_
    intro b10 o3 hz3
    refine Aa rfl (Av 0 rfl rfl Ci fun ⟨r3,r4⟩=>?_)
    refine wk 5 cz ?_
    exact tw (ih')
   ·obtain rfl:i=set.length:=by omega
    rw [Nat.sub_self,List.replicate_zero,List.append_nil,List.take_of_length_le (by omega)]
    clear ih
    refine wk 3 cz ?_
    refine Bk 0 rfl hTl.symm hTr (by omega) ?_
    refine wk 6 cz ?_
    intro h5 b9
    refine C4 1 0 rfl rfl (by show (set.length)*8≤140737488355328;omega) ?_
    refine Aa rfl (Ga (z:=T) 1 0 4 rfl rfl rfl rfl rfl D5 I6 rfl (fun w A hG=>(A2 (hG _ (Af (n:=0) rfl)))) (by omega) _ M7 (by omega) fun r1=>?_)
    refine wk 5 cz ?_
    refine Kx [true,false,true,true,true,true] [0,6,7,8,9,10,11,12,13,14] (by exact Uy rfl) rfl rfl (ih' r1)
  ·obtain rfl:k=rows.length:=by omega
   rw [List.take_length]
   refine D2 0 0 rfl rfl (by show rows.length*24≤140737488355328;omega) ?_
   refine wk 9 cz ?_
   intro h4
   refine Bj [0] rfl (.agg 1 rfl rfl F6 rfl (.tmp rfl .nil)) rfl ⟨_,_,rfl,rfl,rfl⟩
end
open Go Go.Fw
set_option maxRecDepth 100000
set_option linter.unusedVariables false
set_option linter.unusedSimpArgs false
set_option maxHeartbeats 0
def nvI (N:Int→Int) (n:Nat) (R:List (List Int)) (P:List Nat) (c i:Nat):List Int:=(List.range n).map fun e=>if e=c then 1 else if e∈P.take i then N (en R (P.idxOf e) c) else 0
theorem AID {N:Int→Int}{n c i:Nat}{R:List (List Int)}{P:List Nat}:(nvI N n R P c i).length=n:=by simp [nvI]
theorem AH5 {N:Int→Int}{n c:Nat}{R:List (List Int)}{P:List Nat}:nvI N n R P c 0=(zW n).set c 1:=by
 refine List.ext_getElem (by simp [nvI,zW]) fun j h1 h2=>?_
 rw [List.getElem_set]
 simp only [nvI,List.getElem_map,List.getElem_range]
 by_cases h:j=c
 ·rw [if_pos h,if_pos h.symm]
 ·rw [if_neg h,if_neg fun (e:c=j)=>h e.symm];simp [zW]
theorem AIr {N:Int→Int}{n c:Nat}{R:List (List Int)}{P:List Nat}:nvI N n R P c P.length=Jf N n R P c:=by rw [nvI,Jf,List.take_length]
theorem AJs {q:Nat}{N:Int→Int}{n c i a:Nat}{R:List (List Int)}{P:List Nat}(h:Red q n R P) (hc:c∉P) (hi:P[i]?=some a):(nvI N n R P c i).set a (N (en R i c))=nvI N n R P c (i+1):=by
 have ha:=List.mem_of_getElem? hi
 refine List.ext_getElem (by simp [nvI]) fun j h1 h2=>?_
 rw [List.getElem_set]
 simp only [nvI,List.getElem_map,List.getElem_range]
 by_cases e:a=j
 ·subst e
  rw [if_pos rfl,if_neg fun (e:a=c)=>hc (e▸ha),if_pos (List.mem_of_getElem? (i:=i) (by rw [List.getElem?_take,if_pos (by omega),hi])),h.idx hi]
 ·rw [if_neg e]
  by_cases hjc:j=c
  ·rw [if_pos hjc,if_pos hjc]
  ·rw [if_neg hjc,if_neg hjc,List.take_add_one,hi]
   by_cases hm:j∈P.take i
   ·rw [if_pos hm,if_pos (List.mem_append_left _ hm)]
   ·rw [if_neg hm,if_neg]
    intro hm2
    rcases List.mem_append.1 hm2 with h3|h3
    ·exact hm h3
    ·rw [Option.toList_some,List.mem_singleton] at h3;exact e h3.symm
def nvK (N:Int→Int) (n:Nat) (E:List (List Int)×List Nat) (k:Nat):List (List Int):=((List.range k).filter fun c=>decide (c∉E.2)).map (Jf N n E.1 E.2)
theorem AHk {N:Int→Int}{n k:Nat}{E:List (List Int)×List Nat}:nvK N n E (k+1)=nvK N n E k++if k∈E.2 then [] else [Jf N n E.1 E.2 k]:=by
 rw [nvK,nvK,List.range_succ,List.filter_append,List.map_append]
 congr 1
 by_cases h:k∈E.2 <;> simp [h]
theorem AIO {N:Int→Int}{n k:Nat}{E:List (List Int)×List Nat}:(nvK N n E k).length≤k:=by
 rw [nvK,List.length_map];have:=List.length_filter_le (fun c=>decide (c∉E.2)) (List.range k);rwa [List.length_range] at this
abbrev Li (p m:Nat) (md:List Int) (n:Nat) (rows:List (List Int)):List (List Int):=nuL (Ad (fA p m)) (Ad (fM p (Ax m md))) (Cz p m) (Hn p m md) n rows
abbrev CnR (E:List (List Int)×List Nat):Value→List Fact→List A4→Prop:=fun v Φ β=>∃ (pb pp:Option Addr) (cb cp:Nat),v = .tuple #[.slice pb E.2.length cb,.slice pp E.2.length cp]
 ∧ Φ=[Ap (Aj Ai) pb E.2.length cb E.1,Ap Ai pp E.2.length cp (Bb E.2)]∧β=[]
theorem X3 {b p m n N c ng cg ce cl:Nat}{pg pe pl ps:Option Addr}{rows:List (List Int)}{md:List Int}(K:Fok p m md) (hn:n≤1000000) (hN:N≤1000000) (hl:rows.length=n) (hM:Cw (p ^ m) N rows) :
  Bt Tryz.prog 135 [.pointer (some ⟨b,0,none⟩),.slice ps n c,.int .i64 N] []
   [Jc b p m (p ^ m) pg ng cg pe (p ^ m-1) ce pl (p ^ m) cl,Ap Ai pe (p ^ m-1) ce (Jh p m md),Ap Ai pl (p ^ m) cl (Jk p m md),Ap (Aj Ai) ps n c rows]
   (CnR (Dh p m md N rows)):=Sq K hn hN hl hM
theorem Ii {p m n c nm cm N:Nat}{pm ps:Option Addr}{md:List Int}{rows:List (List Int)}(K:Fok p m md) (hN:N≤256) (hl:rows.length≤256) (hM:Cw (p ^ m) N rows) :
  Bt Tryz.prog 89 [.agg #[.int .i64 p,.int .i64 m,.slice pm nm cm],.agg #[.int .i64 N,.slice ps n c]] [] [Ap Ai pm nm cm md,Ap (Aj Ai) ps n c rows]
   (fun v Φ β=>∃ (pb:Option Addr) (cb:Nat),v = .tuple #[.agg #[.int .i64 N,.slice pb (Li p m md N rows).length cb],.int .i64 0]∧Φ=[Ap (Aj Ai) pb (Li p m md N rows).length cb (Li p m md N rows)]∧β=[]):=by
 refine Ab (F:=Yb) rfl fun C=>?_
 have O:=C1 K
 have hq:=K.q
 refine Ba 1 rfl fun hn hb _=>?_
 subst hn
 have hb':rows.length*24≤140737488355328:=hb
 have Cl:=fun {pm ps:Option Addr}{nm cm n c:Nat}=>Ew (pm:=pm) (nm:=nm) (cm:=cm) (ps:=ps) (n:=n) (c:=c) (Ms:=[((N:Int),rows)]) K (fun z hz=>by rw [List.mem_singleton.1 hz];simp only [Bv];omega) (Ui (Sa hN hl hM))
 have hN6:N≤1000000:=by omega
 have F2:=fun {b ng cg ce cl c n:Nat}{pg pe pl ps:Option Addr}{rows:List (List Int)}(hn:n≤1000000) (hl:rows.length=n) (hM:Cw (p ^ m) N rows)=>X3 (b:=b) (ng:=ng) (cg:=cg) (ce:=ce) (cl:=cl) (pg:=pg) (pe:=pe) (pl:=pl) (ps:=ps) (c:=c) (n:=n) (rows:=rows) K hn hN6 hl hM
 have D1:=fun {b ng cg ne ce nl cl:Nat}{pg pe pl:Option Addr}{x:Int}=>Gt (b:=b) (ng:=ng) (cg:=cg) (ne:=ne) (ce:=ce) (nl:=nl) (cl:=cl) (pg:=pg) (pe:=pe) (pl:=pl) (x:=x) K.p2 K.m1 hq
 have hred:Red (p ^ m) N (Dh p m md N rows).1 (Dh p m md N rows).2:=(O.cn hM).1
 have hEl:(Dh p m md N rows).1.length=(Dh p m md N rows).2.length:=O.cn_len hM
 have hnm:Cw (p ^ m) N (nvK (Cz p m) N (Dh p m md N rows) N):=O.nv_mat hred
 have hnl:(Dh p m md N (nvK (Cz p m) N (Dh p m md N rows) N)).1.length=(Dh p m md N (nvK (Cz p m) N (Dh p m md N rows) N)).2.length:=O.cn_len hnm
 have hnk:=fun k=>AIO (N:=Cz p m) (n:=N) (k:=k) (E:=Dh p m md N rows)
 have hng:=fun x (h0:0≤x) (h1:x<((p ^ m:Nat):Int))=>(O.ng x h0 h1).1
 rw [show Li p m md N rows=(Dh p m md N (nvK (Cz p m) N (Dh p m md N rows) N)).1 from rfl,hnl]
 clear hnl
 refine wk 9 cz ?_
 intro b1 b2 b3 b4
 refine Cb (E:=AA4) (n:=1) [[Value.int IntKind.i64 ↑N,Value.slice ps rows.length c]] [((↑N:Int),rows)] 0 (fun w A hG=>(Az (M9 (v1:=[Value.int IntKind.i64 ↑N]) (Dq (by first|(simp only [Bv];omega)|(simp [Bv];done)|assumption)) (A2 (hG _ (Af (n:=1) rfl)))) Bd)) rfl rfl rfl rfl (by first|decide|exact Nat.le_of_ble_eq_true rfl) (by first|decide|exact Nat.le_of_ble_eq_true rfl) ?_
 refine wk 21 (ct @Cl (ct @F2 cz)) ?_
 intro b5 pg1 cg1 pe1 ce1 pl1 cl1 h1 pb1 pp1 cb1 cp1
 generalize hE:Dh p m md N rows=E at *
 refine F3 (Aj Ai) 22 ?_
 refine Ah (X:=Nat×Row) [3,4,5,6,8,9,36] [0,1,2,3,4,5,6,7,8,9] (fun x=>[(37,.int .i64 (x.1:Int)),(10,.slice (ad x.2.bo) (nvK (Cz p m) N E x.1).length x.2.cap)]) (fun x=>[(x.2.bo,22,x.2.cs),(some b3,62,[.int .i64 0,.slice none 0 0]),(some b2,62,[.int .i64 N,.slice ps rows.length c]),(some b1,24,[.int .i64 p,.int .i64 m,.slice pm nm cm])]) (fun x=>[A7 (Aj Ai) x.2 (nvK (Cz p m) N E x.1).length (nvK (Cz p m) N E x.1)]) (fun x=>x.1≤N) (fun x=>N-x.1) (0,⟨none,0,[]⟩) [0] rfl rfl rfl (Nat.zero_le _) (by repeat (first|exact Fr.sub_nil _|refine Fr.sub_cons rfl ?_)) rfl rfl ?_
 rintro ⟨k,r⟩ hk ih
 simp only [List.cons_append,List.nil_append] at hk ih ⊢
 by_cases h8:k<N
 ·have ih':=fun r=>ih (k+1,r) (by dsimp only;omega) (by dsimp only;omega)
  simp only [AHk] at ih'
  have hnk1:=hnk k
  clear ih
  by_cases hm:k∈E.2
  ·have hd:decide ((k:Int)∈Bb E.2)=true:=decide_eq_true (List.mem_map.2 ⟨k,hm,rfl⟩)
   simp only [if_pos hm,List.append_nil] at ih'
   refine wk 14 (ct @Ck cz) ?_
   intro h2
   exact tw (ih' r)
  ·have hd:decide ((k:Int)∈Bb E.2)=false:=decide_eq_false fun h=>by
    obtain ⟨j,hj,e⟩:=List.mem_map.1 h
    exact hm ((Int.ofNat.inj e)▸hj)
   simp only [if_neg hm,List.length_append,List.length_singleton] at ih'
   refine wk 19 (ct @Ck cz) ?_
   intro h2 b6
   refine Aa rfl (Wt 0 1 rfl rfl rfl Ci (by first|rfl|omega) (by first|omega|(simp;omega)) ?_)
   refine wk 5 cz ?_
   have hx0:Ao .i64 ((List.replicate N 0).set k 1)=Al .i64 (nvI (Cz p m) N E.1 E.2 k 0):=by
    rw [AH5]
    simp [Ao,Al,zW,List.map_set]
   simp only [setB]
   rw [hx0]
   refine Ah (X:=Nat) [3,4,5,6,8,9,10,11,12,36,37,38,39,40,41,42,43,44,45,46,47,48,49,50] [0,1,2,3,4,5,6,7,8,9,10] (fun i=>[(51,.int .i64 (i:Int))]) (fun i=>[(some b6,3,Al .i64 (nvI (Cz p m) N E.1 E.2 k i)),(r.bo,22,r.cs),(some b3,62,[.int .i64 0,.slice none 0 0]),(some b2,62,[.int .i64 N,.slice ps rows.length c]),(some b1,24,[.int .i64 p,.int .i64 m,.slice pm nm cm])]) (fun _=>[]) (fun i=>i≤E.2.length) (fun i=>E.2.length-i) 0 [] rfl rfl rfl (Nat.zero_le _) (by repeat (first|exact Fr.sub_nil _|refine Fr.sub_cons rfl ?_)) rfl rfl ?_
   rintro i hi ih
   simp only [List.cons_append,List.nil_append] at hi ih ⊢
   have hple:=hred.piv_le
   by_cases h9:i<E.2.length
   ·obtain ⟨a,ha⟩:∃ a,E.2[i]?=some a:=⟨_,List.getElem?_eq_getElem h9⟩
    have at_a:(Bb E.2)[i]?=some (a:Int):=by rw [Bb,List.getElem?_map,ha];rfl
    obtain ⟨u,at_u⟩:∃ u,E.1[i]?=some u:=⟨_,List.getElem?_eq_getElem (by omega)⟩
    have hu:=hred.mat u (List.mem_of_getElem? at_u)
    have hul:=hu.1
    have hen:Bf u k=en E.1 i k:=by rw [en,Ar,List.getD_eq_getElem?_getD,at_u];rfl
    have at_y:u[k]?=some (en E.1 i k):=by
     rw [← hen,Bf,List.getD_eq_getElem?_getD,List.getElem?_eq_getElem (by omega)];rfl
    obtain ⟨y0,y1⟩:=hu.2 _ (List.mem_of_getElem? at_y)
    have haN:=hred.ech.lt a (List.mem_of_getElem? ha)
    have ih':=ih (i+1) (by omega) (by omega)
    rw [← AJs hred hm ha] at ih'
    have hln:=AID (N:=Cz p m) (n:=N) (c:=k) (i:=i) (R:=E.1) (P:=E.2)
    generalize nvI (Cz p m) N E.1 E.2 k i=L at *
    refine wk 7 cz ?_
    intro h3 b7 o1 hz1
    refine Aa rfl (Av 0 rfl rfl Ci fun ⟨r1,r2⟩=>?_)
    refine wk 7 cz ?_
    intro b8 o2 hz2 pa1 ca1 b9 o3 hz3
    refine Aa rfl (Av 0 rfl rfl Ci fun ⟨r3,r4⟩=>?_)
    refine wk 6 (ct @D1 cz) ?_
    exact tw (ih')
   ·obtain rfl:i=E.2.length:=by omega
    rw [AIr]
    clear ih
    have hnw:=O.null_wd hred k
    have hnr:∀ z∈Jf (Cz p m) N E.1 E.2 k,Bv .i64 z:=fun z hz=>by
     have:=hnw.2 z hz
     simp only [Bv];omega
    have hnl:(Jf (Cz p m) N E.1 E.2 k).length=N:=hnw.1
    generalize Jf (Cz p m) N E.1 E.2 k=T at *
    refine wk 3 cz ?_
    refine Bk 0 rfl hnl.symm hnr (by omega) ?_
    refine wk 4 cz ?_
    intro h3 b7
    refine C4 1 0 rfl rfl (by show (N)*8≤140737488355328;omega) ?_
    refine Aa rfl (Ga (z:=T) 1 0 2 rfl rfl rfl rfl rfl D5 I6 rfl (fun w A hG=>(A2 (hG _ (Af (n:=0) rfl)))) (by omega) _ M7 (by omega) fun r1=>?_)
    refine wk 4 cz ?_
    refine Kx [true,false,true,true,true] [0,4,5,6,7,8,9,10,11,12,13] (by exact Uy rfl) rfl rfl (ih' r1)
 ·obtain rfl:k=N:=by omega
  have:=hnk k
  refine D2 0 0 rfl rfl (by show (nvK (Cz p m) k E k).length*24≤140737488355328;omega) ?_
  refine Am [_,_,_,_,_] rfl ?_
  refine Ae it 1 rfl (by simp) ?_
  refine Am [_,_,_,_,_] rfl ?_
  refine Lc rfl rfl (fun h2=>by exfalso;omega) (fun h2=>?_)
  refine Am [_,_] rfl ?_
  refine Ae it 2 rfl (by simp) ?_
  refine Aa rfl (Aq rfl I4 ?_)
  refine Aa rfl (Bm 1 rfl rfl Ci rfl ?_)
  refine Aa rfl (Aw [5,7,8,0] rfl (F2 (by omega) (by omega) (by omega)) rfl ?_)
  rintro _ _ _ ⟨pb2,pp2,cb2,cp2,rfl,rfl,rfl⟩
  simp only [List.cons_append,List.nil_append]
  refine Ae it 4 rfl (by simp) ?_
  refine Am [_,_] rfl ?_
  refine Aa rfl (Aq rfl I4 ?_)
  refine Aa rfl (Bm 1 rfl rfl Ci rfl ?_)
  refine Ae it 1 rfl (by simp) ?_
  refine Aa rfl (Dn (cs:=[Value.int IntKind.i64 ↑k,Value.slice pb2 (Dh p m md k (nvK (Cz p m) k E k)).snd.length cb2]) Uz G9 rfl rfl ?_)
  refine Aa rfl (A8 0 rfl rfl rfl F6 rfl rfl (by simp [Value.oneCell']) ?_)
  refine Ae it 1 rfl (by simp) ?_
  refine Am [_] rfl ?_
  refine Bj [0] rfl (.agg 0 rfl rfl F6 rfl (.tmp rfl .nil)) rfl ⟨_,_,rfl,rfl,rfl⟩
theorem C7 {pl pk:Option Addr}{nl cl nk ck:Nat}{l k:List (List Int)}{res:Bool}(hr:decide (l=k)=res):Bt Tryz.prog 150 [.slice pl nl cl,.slice pk nk ck,.func (.func 151) #[] #[]] [] [Ap (Aj Ai) pl nl cl l,Ap (Aj Ai) pk nk ck k] (Rv (.bool res) []):=by
 refine Ab (F:=Fm) rfl fun C=>?_
 subst hr
 refine Ba 0 rfl fun hn hb _=>?_
 refine Ba 1 rfl fun hn2 hb2 _=>?_
 subst hn
 subst hn2
 have hb':l.length*24≤140737488355328:=hb
 have hb2':k.length*24≤140737488355328:=hb2
 by_cases hl:l.length=k.length
 ·refine wk 15 cz ?_
  intro h1
  refine Ah (X:=Nat) [1,2,15,16] [0,1] (fun i=>[(17,.int .i64 (i:Int))]) (fun _=>[]) (fun _=>[]) (fun i=>i≤l.length∧∀ j,j<i→l[j]?=k[j]?) (fun i=>l.length-i) 0 [] rfl rfl rfl ⟨Nat.zero_le _,fun j h=>by omega⟩ (by repeat (first|exact Fr.sub_nil _|refine Fr.sub_cons rfl ?_)) rfl rfl ?_
  rintro i ⟨hi,hno⟩ ih
  simp only [List.cons_append,List.nil_append] at hi ih ⊢
  by_cases h9:i<l.length
  ·obtain ⟨y,at_y⟩:∃ y,l[i]?=some y:=⟨_,List.getElem?_eq_getElem h9⟩
   obtain ⟨z,at_z⟩:∃ z,k[i]?=some z:=⟨_,List.getElem?_eq_getElem (by omega)⟩
   by_cases h8:y=z
   ·have hd:decide (y=z)=true:=decide_eq_true h8
    refine wk 16 cz ?_
    intro h2 b1 o1 hz1 pa1 ca1 b2 o2 hz2 pa2 ca2
    refine Aa rfl <| ADe rfl rfl (Aw [2,0] rfl (Ht (by omega)) rfl ?_)
    rintro _ _ _ ⟨rfl,rfl,rfl⟩
    simp only [List.cons_append,List.nil_append]
    refine wk 6 cz ?_
    exact tw (ih (i+1) (by omega) ⟨by omega,fun j hj=>by
     rcases Nat.lt_succ_iff_lt_or_eq.1 hj with h|rfl
     ·exact hno j h
     ·rw [at_y,at_z,h8]⟩)
   ·have hd:decide (y=z)=false:=decide_eq_false h8
    rw [decide_eq_false (show l≠k from fun e=>by rw [e,at_z] at at_y;exact h8 (Option.some.inj at_y).symm)]
    refine wk 16 cz ?_
    intro h2 b1 o1 hz1 pa1 ca1 b2 o2 hz2 pa2 ca2
    refine Aa rfl <| ADe rfl rfl (Aw [2,0] rfl (Ht (by omega)) rfl ?_)
    rintro _ _ _ ⟨rfl,rfl,rfl⟩
    simp only [List.cons_append,List.nil_append]
    refine wk 6 cz ?_
    exact ge
  ·rw [decide_eq_true (show l=k from List.ext_getElem? fun j=>by
    by_cases h:j<i
    ·exact hno j h
    ·rw [List.getElem?_eq_none (by omega),List.getElem?_eq_none (by omega)])]
   refine wk 7 cz ?_
   intro h2
   exact ge
 ·rw [decide_eq_false (show l≠k from fun e=>hl (by rw [e]))]
  refine wk 13 cz ?_
  intro h1
  exact ge
theorem O9 {pm:Option Addr}{nm cm p m:Nat}{md:List Int}(K:Fok p m md):Bt Tryz.prog 112 [.agg #[.int .i64 p,.int .i64 m,.slice pm nm cm]] [] [Ap Ai pm nm cm md] (Rv (.int .i64 0) []):=by
 refine Ab (F:=Tr) rfl fun C=>?_
 have Fs:=fun {pm:Option Addr}{nm cm:Nat}=>Jy (P:=(p:Int)) (M:=(m:Int)) (pm:=pm) (nm:=nm) (cm:=cm) (md:=md) (res:=true) ⟨fun _=>AEY (Yr K),fun _=>rfl⟩
 have Hz:=Ea K.ord
 have hx:=Uf ((My K.shp K.pr).2 K)
 have Fl:=fun {nm cm:Nat}{pm:Option Addr}=>I8 (nm:=nm) (cm:=cm) (pm:=pm) K.shp rfl hx.1 hx.2.1 hx.2.2.1 hx.2.2.2
 generalize p ^ m=q at *
 refine wk 4 cz ?_
 intro b1
 (apply E5 it mx 13;(· rfl);(· rfl))
 (apply Ac;(· rfl);(· exact Cy 0 rfl rfl Hy rfl))
 (apply Ac;(· rfl);(· exact Cg fun _=>Aw [0] rfl (Fs) rfl (by rintro _ _ _ ⟨rfl,rfl,rfl⟩;exact An)))
 (apply A3 2;(· rfl);(· simp))
 (apply Ac;(· rfl);(· exact Cy 0 rfl rfl Hy rfl))
 (apply Ac;(· rfl);(· exact Cg fun _=>Aq rfl Pn An))
 (apply Ac;(· rfl);(· exact Ca 0 rfl rfl Ci rfl))
 (apply Ac;(· rfl);(· exact Cg fun _=>Aq rfl P9 An))
 (apply Ac;(· rfl);(· exact Ca 0 rfl rfl Ci rfl))
 (apply Ac;(· rfl);(· exact Cg fun _=>Aw [] rfl (Hz) rfl (by rintro _ _ _ ⟨rfl,rfl,rfl⟩;exact An)))
 (apply Iz (val:=(fun g=>Value.slice (some { block:=(g 0).snd.fst,off:=(g 1).snd.fst }) (q-1) (g 2).snd.fst)) (f:=(fun g=>[Ap Ai (some { block:=(g 0).snd.fst,off:=(g 1).snd.fst }) (q-1) (g 2).snd.fst (Vt q (fM p (Ax m md)) (gnX q (fM p (Ax m md))))]));(· rfl);(· exact Cg fun _=>Aw [0] rfl (Fl) rfl (by rintro _ _ _ ⟨bg0,og1,cag2,rfl,rfl,rfl⟩;exact fun _ _ _ hG=>⟨(fun|0=>(none,bg0,0,[])|1=>(none,og1,0,[])|2=>(none,cag2,0,[])|_=>default),rfl,fun g hg=>Ey (hG _ (List.mem_append_left _ hg))⟩));intro g1;dsimp only [List.map_cons,List.map_nil])
 (apply Ac;(· rfl);(· exact Cg fun _=>AAm Ce rfl rfl An))
 (apply A3 1;(· rfl);(· simp))
 refine Et rfl ?_
 simp only [List.map_cons,List.map_nil,List.cons_append,List.nil_append]
 refine wk 5 cz ?_
 exact ge
theorem We {pm:Option Addr}{nm cm:Nat}{P M:Int}{md:List Int}(h:¬ Wg P M md):Bt Tryz.prog 112 [.agg #[.int .i64 P,.int .i64 M,.slice pm nm cm]] [] [Ap Ai pm nm cm md] (Rv (.int .i64 1) []):=by
 refine Ab (F:=Tr) rfl fun C=>?_
 by_cases hs:AHR P M md
 ·obtain ⟨p,m,rfl,rfl,K,hp⟩:=AKI hs
  have hno:∀ y,1≤y→y<p ^ m→¬ Ma (p ^ m) (fM p (Ax m md)) y:=fun y h1 h2 h3=>h (Yr ((My K hp).1 ⟨y,h1,h2,h3⟩))
  have Fs:=fun {pm:Option Addr}{nm cm:Nat}=>Jy (P:=(p:Int)) (M:=(m:Int)) (pm:=pm) (nm:=nm) (cm:=cm) (md:=md) (res:=true) ⟨fun _=>hs,fun _=>rfl⟩
  have ho:Hv (p:Int) (m:Int)=((p ^ m:Nat):Int):=by rw [Hv,if_pos hs.1,Int.toNat_natCast,Int.toNat_natCast]
  have Hz:=Ea ho
  have Fl:=fun {nm cm:Nat}{pm:Option Addr}=>P0 (nm:=nm) (cm:=cm) (pm:=pm) K rfl hno
  generalize p ^ m=q at *
  refine wk 4 cz ?_
  intro b1
  (apply E5 it mx 13;(· rfl);(· rfl))
  (apply Ac;(· rfl);(· exact Cy 0 rfl rfl Hy rfl))
  (apply Ac;(· rfl);(· exact Cg fun _=>Aw [0] rfl (Fs) rfl (by rintro _ _ _ ⟨rfl,rfl,rfl⟩;exact An)))
  (apply A3 2;(· rfl);(· simp))
  (apply Ac;(· rfl);(· exact Cy 0 rfl rfl Hy rfl))
  (apply Ac;(· rfl);(· exact Cg fun _=>Aq rfl Pn An))
  (apply Ac;(· rfl);(· exact Ca 0 rfl rfl Ci rfl))
  (apply Ac;(· rfl);(· exact Cg fun _=>Aq rfl P9 An))
  (apply Ac;(· rfl);(· exact Ca 0 rfl rfl Ci rfl))
  (apply Ac;(· rfl);(· exact Cg fun _=>Aw [] rfl (Hz) rfl (by rintro _ _ _ ⟨rfl,rfl,rfl⟩;exact An)))
  (apply Ac;(· rfl);(· exact Cg fun _=>Aw [0] rfl (Fl) rfl (by rintro _ _ _ ⟨rfl,rfl,rfl⟩;exact An)))
  (apply Ac;(· rfl);(· exact Cg fun _=>ADd Ce rfl rfl An))
  (apply A3 1;(· rfl);(· simp))
  refine Et rfl ?_
  simp only [List.map_cons,List.map_nil,List.cons_append,List.nil_append]
  refine wk 5 cz ?_
  exact ge
 ·have Fs:=fun {pm:Option Addr}{nm cm:Nat}=>Jy (P:=P) (M:=M) (pm:=pm) (nm:=nm) (cm:=cm) (md:=md) (res:=false) ⟨fun e=>Bool.noConfusion e,fun e=>absurd e hs⟩
  refine wk 10 (ct @Fs cz) ?_
  intro b1
  exact ge
theorem Nt {n e:Int}(h:(if n<1∨64<n then 4 else 0)=e):Bt Tryz.prog 113 [.int .i64 n] [] [] (Rv (.int .i64 e) []):=by
 refine Ab (F:=AAO) rfl fun C=>?_
 by_cases h1:n<1
 ·rw [if_pos (.inl h1)] at h
  subst h
  refine wk 13 cz ?_
  intro h2
  exact ge
 ·by_cases h2:64<n
  ·rw [if_pos (.inr h2)] at h
   subst h
   refine wk 13 cz ?_
   intro h3 h4
   exact ge
  ·rw [if_neg (by omega)] at h
   subst h
   refine wk 13 cz ?_
   intro h3 h4
   exact ge
theorem Qa {P M N:Int}{pm ps:Option Addr}{nm cm n c:Nat}:Bt Tryz.prog 90 [.agg #[.int .i64 P,.int .i64 M,.slice pm nm cm,.int .i64 N,.slice ps n c]] [] [] (Rv (.agg #[.int .i64 N,.slice ps n c]) []):=by
 refine Ab (F:=AD0) rfl fun C=>?_
 refine Am [_,_] rfl ?_
 refine Aa rfl (Cv rfl fun b1=>?_)
 refine Aa rfl (Bl G9 fun b2=>?_)
 refine Am [_,_] rfl ?_
 refine Aa rfl (Aq rfl Kt ?_)
 refine Aa rfl (Bm 1 rfl rfl Ci rfl ?_)
 refine Aa rfl (Aq rfl R9 ?_)
 refine Aa rfl (Bm 1 rfl rfl H7 rfl ?_)
 refine Aa rfl (Dn (cs:=[Value.int IntKind.i64 N,Value.slice ps n c]) Uz G9 rfl rfl ?_)
 refine Aa rfl (A8 0 rfl rfl rfl F6 rfl rfl (by simp [Value.oneCell']) ?_)
 refine Am [_] rfl ?_
 refine Bj [] rfl (.agg 0 rfl rfl F6 rfl .nil) rfl ⟨rfl,rfl,rfl⟩
section
variable {p m n c nm cm:Nat}{pm ps:Option Addr}{md:List Int}{rows:List (List Int)}
noncomputable abbrev OpQ (p m:Nat) (md:List Int) (N:Nat) (rows:List (List Int)) (ps:Option Addr) (c:Nat):Value→List Fact→List A4→Prop:=fun v Φ β=>∃ (b:Nat) (pg:Option Addr) (cg:Nat) (pe:Option Addr) (ce:Nat) (pl:Option Addr) (cl:Nat) (pp:Option Addr) (cp:Nat),
 v = .tuple #[.agg #[.pointer (some ⟨b,0,none⟩),.int .i64 N,.slice ps rows.length c,.slice pp (Dh p m md N rows).2.length cp],.int .i64 0]
 ∧ Φ=Ap Ai pp (Dh p m md N rows).2.length cp (Bb (Dh p m md N rows).2)::gfL p m md b pg cg pe ce pl cl∧β=[]
theorem Kj {N:Nat}(K:Fok p m md) (hN:N≤256) (hl:rows.length≤256) (hM:Cw (p ^ m) N rows) (hc:(Dh p m md N rows).1=rows) :
  Bt Tryz.prog 107 [.agg #[.int .i64 p,.int .i64 m,.slice pm nm cm],.agg #[.int .i64 N,.slice ps n c]] [] [Ap Ai pm nm cm md,Ap (Aj Ai) ps n c rows] (OpQ p m md N rows ps c):=by
 refine Ab (F:=Pi) rfl fun C=>?_
 refine Ba 1 rfl fun hn hb _=>?_
 subst hn
 have hb':rows.length*24≤140737488355328:=hb
 have D0:=fun {pm:Option Addr}{nm cm:Nat}=>Fx (pm:=pm) (nm:=nm) (cm:=cm) K
 have Br:=fun {pm ps:Option Addr}{nm cm n c:Nat}=>E4 (pm:=pm) (nm:=nm) (cm:=cm) (ps:=ps) (n:=n) (c:=c) (rows:=rows) K hN hl hM
 have hd:decide ((Dh p m md N rows).1=rows)=true:=decide_eq_true hc
 refine Am [_,_] rfl ?_
 refine Aa rfl (Cv rfl fun b1=>?_)
 refine Aa rfl (Cv rfl fun b2=>?_)
 refine Aa rfl (Bl AJR fun b3=>?_)
 refine Ae it 1 rfl (by simp) ?_
 refine Am [_,_] rfl ?_
 refine Aa rfl (A1 2 rfl rfl Hy rfl ?_)
 refine Aa rfl (A1 1 rfl rfl F6 rfl ?_)
 refine Aa rfl (Aw [0,1] rfl (Br) rfl ?_)
 rintro _ _ _ ⟨pb1,pp1,cb1,cp1,rfl,rfl,rfl⟩
 simp only [List.cons_append,List.nil_append]
 refine Ae it 4 rfl (by simp) ?_
 refine Aa rfl (Bl G9 fun b4=>?_)
 refine Aa rfl (A8 0 rfl rfl rfl F6 rfl rfl (by simp [Value.oneCell']) ?_)
 refine Ae it 2 rfl (by simp) ?_
 refine Am [_,_,_] rfl ?_
 refine Ae it 2 rfl (by simp) ?_
 refine Am [_,_] rfl ?_
 refine Nd rfl rfl (fun h1=>by exfalso;omega) (fun h1=>?_)
 refine Am [_,_,_] rfl ?_
 refine Aa rfl (Aq rfl Hw ?_)
 refine Aa rfl (Bm 0 rfl rfl H7 rfl ?_)
 refine Aa rfl (Aq rfl Hw ?_)
 refine Aa rfl (Bm 2 rfl rfl H7 rfl ?_)
 refine Aa rfl (Aw [0,3] rfl (C7 (by omega)) rfl ?_)
 rintro _ _ _ ⟨rfl,rfl,rfl⟩
 simp only [List.cons_append,List.nil_append]
 simp only [decide_true]
 refine Ae it 1 rfl (by simp) ?_
 refine Am [_,_] rfl ?_
 refine K4 rfl rfl ?_
 refine Am [_,_] rfl ?_
 refine Aa rfl (A1 3 rfl rfl Hy rfl ?_)
 refine Aa rfl (Aw [2] rfl (D0) rfl ?_)
 rintro _ _ _ ⟨b5,pg1,cg1,pe1,ce1,pl1,cl1,rfl,rfl,rfl⟩
 simp only [List.cons_append,List.nil_append]
 refine Ae it 5 rfl (by simp) ?_
 refine Am [_,_] rfl ?_
 refine Ae it 1 rfl (by simp) ?_
 refine Aa rfl (A1 2 rfl rfl F6 rfl ?_)
 refine Ae it 1 rfl (by simp) ?_
 refine Aa rfl (Dn (cs:=[Value.pointer (some { block:=b5,off:=0 }),Value.int IntKind.i64 ↑N,Value.slice ps rows.length c,Value.slice pp1 (Dh p m md N rows).snd.length cp1]) ALP AJR rfl rfl ?_)
 refine Ae it 1 rfl (by simp) ?_
 refine Aa rfl (A8 1 rfl rfl rfl Zd rfl rfl (by simp [Value.oneCell']) ?_)
 refine Ae it 1 rfl (by simp) ?_
 refine Am [_] rfl ?_
 refine Bj [5,0,1,2,3] rfl (.agg 1 rfl rfl Zd rfl (.tmp rfl .nil)) rfl ⟨_,_,_,_,_,_,_,_,_,rfl,rfl,rfl⟩
theorem Vk {N:Nat}(K:Fok p m md) (hN:N≤256) (hl:rows.length≤256) (hM:Cw (p ^ m) N rows) (hc:(Dh p m md N rows).1≠rows) :
  Bt Tryz.prog 107 [.agg #[.int .i64 p,.int .i64 m,.slice pm nm cm],.agg #[.int .i64 N,.slice ps n c]] [] [Ap Ai pm nm cm md,Ap (Aj Ai) ps n c rows] (Rv (.tuple #[.agg #[.pointer none,.int .i64 0,.slice none 0 0,.slice none 0 0],.int .i64 5]) []):=by
 refine Ab (F:=Pi) rfl fun C=>?_
 refine Ba 1 rfl fun hn hb _=>?_
 subst hn
 have hb':rows.length*24≤140737488355328:=hb
 have Br:=fun {pm ps:Option Addr}{nm cm n c:Nat}=>E4 (pm:=pm) (nm:=nm) (cm:=cm) (ps:=ps) (n:=n) (c:=c) (rows:=rows) K hN hl hM
 have hd:decide ((Dh p m md N rows).1=rows)=false:=decide_eq_false hc
 refine wk 31 (ct @Br (ct @C7 cz)) ?_
 intro b1 b2 b3 pb1 pp1 cb1 cp1 b4 h1
 refine Bj [] rfl (.agg 1 rfl rfl Zd rfl (.tmp rfl .nil)) rfl ⟨rfl,rfl,rfl⟩
theorem Wo {N e:Int}(K:Fok p m md) (hN:Bv .i64 N) (h:Uw N rows (p ^ m)=e) (he:e≠0) :
  Bt Tryz.prog 107 [.agg #[.int .i64 p,.int .i64 m,.slice pm nm cm],.agg #[.int .i64 N,.slice ps n c]] [] [Ap Ai pm nm cm md,Ap (Aj Ai) ps n c rows] (Rv (.tuple #[.agg #[.pointer none,.int .i64 0,.slice none 0 0,.slice none 0 0],.int .i64 e]) []):=by
 refine Ab (F:=Pi) rfl fun C=>?_
 have hr:=S1 N rows (p ^ m)
 have Br:=fun {pm ps:Option Addr}{nm cm n c:Nat}=>Pq (pm:=pm) (nm:=nm) (cm:=cm) (ps:=ps) (n:=n) (c:=c) (rows:=rows) K hN h he
 refine wk 23 (ct @Br cz) ?_
 intro b1 b2 b3 b4 h1
 refine Bj [] rfl (.agg 1 rfl rfl Zd rfl (.tmp rfl .nil)) rfl ⟨rfl,rfl,rfl⟩
def spE (p m:Nat) (md:List Int) (N:Int) (rows:List (List Int)):Int:=if Uw N rows (p ^ m)≠0 then Uw N rows (p ^ m) else if (Dh p m md N.toNat rows).1=rows then 0 else 5
theorem AAE {N e:Int}(K:Fok p m md) (hN:Bv .i64 N) (h:spE p m md N rows=e) :
  Bt Tryz.prog 114 [.agg #[.int .i64 p,.int .i64 m,.slice pm nm cm],.agg #[.int .i64 N,.slice ps n c]] [] [Ap Ai pm nm cm md,Ap (Aj Ai) ps n c rows] (Rv (.int .i64 e) []):=by
 refine Ab (F:=AAR) rfl fun C=>?_
 have hr:=S1 N rows (p ^ m)
 refine Ba 1 rfl fun hn hb _=>?_
 subst hn
 rw [spE] at h
 by_cases h0:Uw N rows (p ^ m)=0
 ·rw [if_neg (by omega)] at h
  obtain ⟨k,rfl,hk,hl,hM⟩:=AEF h0
  rw [Int.toNat_natCast] at h
  by_cases hc:(Dh p m md k rows).1=rows
  ·rw [if_pos hc] at h
   subst h
   have D9:=fun {pm ps:Option Addr}{nm cm n c:Nat}=>Kj (pm:=pm) (nm:=nm) (cm:=cm) (ps:=ps) (n:=n) (c:=c) (rows:=rows) K hk hl hM hc
   refine wk 15 (ct @D9 cz) ?_
   intro b1 b2 b3 pg1 cg1 pe1 ce1 pl1 cl1 pp1 cp1 b4
   exact ge
  ·rw [if_neg hc] at h
   subst h
   have D9:=fun {pm ps:Option Addr}{nm cm n c:Nat}=>Vk (pm:=pm) (nm:=nm) (cm:=cm) (ps:=ps) (n:=n) (c:=c) (rows:=rows) K hk hl hM hc
   refine wk 15 (ct @D9 cz) ?_
   intro b1 b2 b3
   exact ge
 ·rw [if_pos h0] at h
  subst h
  have D9:=fun {pm ps:Option Addr}{nm cm n c:Nat}=>Wo (pm:=pm) (nm:=nm) (cm:=cm) (ps:=ps) (n:=n) (c:=c) (rows:=rows) K hN rfl h0
  refine wk 15 (ct @D9 cz) ?_
  intro b1 b2 b3
  exact ge
end
noncomputable def Pg (P M:Int) (md:List Int) (N:Int) (rows:List (List Int)):Int :=
 open Classical in if ¬ Wg P M md then 1 else if N<1∨64<N then 4 else spE P.toNat M.toNat md N rows
theorem Ds {P M N e:Int}{pm ps:Option Addr}{nm cm n c:Nat}{md:List Int}{rows:List (List Int)}(hN:Bv .i64 N) (h:Pg P M md N rows=e) :
  Bt Tryz.prog 64 [.agg #[.int .i64 P,.int .i64 M,.slice pm nm cm,.int .i64 N,.slice ps n c]] [] [Ap Ai pm nm cm md,Ap (Aj Ai) ps n c rows] (Rv (.int .i64 e) []):=by
 refine Ab (F:=ABy) rfl fun C=>?_
 rw [Pg] at h
 by_cases hc:Wg P M md
 ·rw [if_neg (fun h=>h hc)] at h
  obtain ⟨p,m,rfl,rfl,K⟩:=ACz hc
  rw [Int.toNat_natCast,Int.toNat_natCast] at h
  have Gv:=fun {pm:Option Addr}{nm cm:Nat}=>O9 (pm:=pm) (nm:=nm) (cm:=cm) K
  by_cases h1:N<1∨64<N
  ·rw [if_pos h1] at h
   subst h
   have H4:=Nt (n:=N) (if_pos h1)
   refine wk 22 (ct @Gv (ct @H4 cz)) ?_
   intro b1 h2 h3
   exact ge
  ·rw [if_neg h1] at h
   have H4:=Nt (n:=N) (if_neg h1)
   have AAA:=fun {pm ps:Option Addr}{nm cm n c:Nat}=>AAE (pm:=pm) (nm:=nm) (cm:=cm) (ps:=ps) (n:=n) (c:=c) (rows:=rows) K hN h
   refine wk 23 (ct @Gv (ct @H4 (ct @Qa (ct @AAA cz)))) ?_
   intro b1 h2 h3
   exact ge
 ·rw [if_pos hc] at h
  subst h
  have Gv:=fun {pm:Option Addr}{nm cm:Nat}=>We (pm:=pm) (nm:=nm) (cm:=cm) hc
  refine wk 13 (ct @Gv cz) ?_
  intro b1 h1
  exact ge
structure Cok (p m:Nat) (md:List Int) (n:Nat) (rows:List (List Int)):Prop where
 K:Fok p m md
 n1:1≤n
 n64:n≤64
 mat:Cw (p ^ m) n rows
 can:(Dh p m md n rows).1=rows
theorem Cok.red {p m n:Nat}{md:List Int}{rows:List (List Int)}(h:Cok p m md n rows):Red (p ^ m) n rows (Dh p m md n rows).2∧rows.length=(Dh p m md n rows).2.length:=by
 have O:=C1 h.K
 have h1:Red (p ^ m) n (Dh p m md n rows).1 (Dh p m md n rows).2:=(O.cn h.mat).1
 have h2:(Dh p m md n rows).1.length=(Dh p m md n rows).2.length:=O.cn_len h.mat
 rw [h.can] at h1 h2
 exact ⟨h1,h2⟩
theorem Cok.len {p m n:Nat}{md:List Int}{rows:List (List Int)}(h:Cok p m md n rows):rows.length≤64:=by
 obtain ⟨h1,h2⟩:=h.red
 have:=h1.piv_le
 have:=h.n64
 omega
theorem Z4 {P M N:Int}{md:List Int}{rows:List (List Int)}(h:Pg P M md N rows=0):∃ p m n:Nat,P=p∧M=m∧N=n∧Cok p m md n rows:=by
 rw [Pg] at h
 by_cases hc:Wg P M md
 ·rw [if_neg (fun h=>h hc)] at h
  obtain ⟨p,m,rfl,rfl,K⟩:=ACz hc
  rw [Int.toNat_natCast,Int.toNat_natCast] at h
  by_cases h1:N<1∨64<N
  ·rw [if_pos h1] at h;omega
  ·rw [if_neg h1,spE] at h
   by_cases h0:Uw N rows (p ^ m)=0
   ·rw [if_neg (by omega)] at h
    obtain ⟨k,rfl,hk,hl,hM⟩:=AEF h0
    rw [Int.toNat_natCast] at h
    by_cases hcn:(Dh p m md k rows).1=rows
    ·exact ⟨p,m,k,rfl,rfl,rfl,K,by omega,by omega,hM,hcn⟩
    ·rw [if_neg hcn] at h;omega
   ·rw [if_pos h0] at h;omega
 ·rw [if_pos hc] at h;omega
theorem Cok.ck {p m n:Nat}{md:List Int}{rows:List (List Int)}(h:Cok p m md n rows):Pg p m md n rows=0:=by
 have hl:=h.len
 have h1:=h.n1
 have h2:=h.n64
 rw [Pg,if_neg (fun e=>e (Yr h.K)),if_neg (by omega),Int.toNat_natCast,Int.toNat_natCast,spE,Sa (by omega) (by omega) h.mat,if_neg (by omega),Int.toNat_natCast,if_pos h.can]
theorem Pv (P M:Int) (md:List Int) (N:Int) (rows:List (List Int)):0≤Pg P M md N rows∧Pg P M md N rows≤5:=by
 rw [Pg]
 split
 ·omega
 ·split
  ·omega
  ·have:=S1 N rows (P.toNat ^ M.toNat)
   rw [spE]
   repeat' split
   all_goals omega
open Go Go.Fw
set_option maxRecDepth 100000
set_option linter.unusedVariables false
set_option linter.unusedSimpArgs false
set_option maxHeartbeats 0
theorem Wi {α:Type} [Inhabited α] {l:List α}{i:Nat}{x:α}(h:l[i]?=some x):l.getD i default=x:=by rw [List.getD_eq_getElem?_getD,h];rfl
theorem Mt {p m nm cm n c:Nat}{pm ps:Option Addr}{md l:List Int}(K:Fok p m md):Bt Tryz.prog 101 [.agg #[.int .i64 p,.int .i64 m,.slice pm nm cm],.slice ps n c] [] [Ap Ai ps n c l] (Rv (.int .i64 (Vf l (p ^ m))) []):=by
 refine Ab (F:=Mv) rfl fun C=>?_
 refine Ba 0 rfl fun hn hb _=>?_
 subst hn
 have hb':l.length*8≤140737488355328:=hb
 have ho:=K.ord
 refine wk 6 cz ?_
 intro b1
 refine Ah (X:=Nat) [1,2] [0] (fun i=>[(5,.int .i64 (i:Int))]) (fun _=>_) (fun _=>[]) (fun i=>i≤l.length∧∀ x∈l.take i,0≤x∧x<((p ^ m:Nat):Int)) (fun i=>l.length-i) 0 [] rfl rfl rfl ⟨Nat.zero_le _,fun x h=>by simp at h⟩ (by repeat (first|exact Fr.sub_nil _|refine Fr.sub_cons rfl ?_)) rfl rfl ?_
 rintro i ⟨hi,hno⟩ ih
 simp only [List.cons_append,List.nil_append] at hi ih ⊢
 by_cases h9:i<l.length
 ·obtain ⟨y,hy⟩:∃ y,l[i]?=some y:=⟨_,List.getElem?_eq_getElem h9⟩
  have ey:=Wi hy
  by_cases h8:0≤y∧y<((p ^ m:Nat):Int)
  ·have hd:decide (0≤l.getD i default∧l.getD i default<Hv (p:Int) (m:Int))=true:=by rw [ey,ho];exact decide_eq_true h8
   refine wk 13 (ct @Fk cz) ?_
   intro h1 b2 o1
   exact tw (ih (i+1) (by omega) ⟨by omega,fun x hx=>by
    rw [List.take_add_one,hy] at hx
    rcases List.mem_append.1 hx with hx|hx
    ·exact hno x hx
    ·rw [Option.toList_some,List.mem_singleton] at hx
     rw [hx];exact h8⟩)
  ·have hd:decide (0≤l.getD i default∧l.getD i default<Hv (p:Int) (m:Int))=false:=by rw [ey,ho];exact decide_eq_false h8
   rw [Vf,if_neg fun h=>h8 (h y (List.mem_of_getElem? hy))]
   refine wk 13 (ct @Fk cz) ?_
   intro h1 b2 o1
   exact ge
 ·rw [Vf,if_pos fun x hx=>hno x (by rwa [List.take_of_length_le (by omega)])]
  refine wk 9 cz ?_
  intro h1
  exact ge
theorem AHv {α:Type}{P:α→Prop}{l:List α}{i:Nat}{r:α}(hr:l[i]?=some r) (h:∀ x∈l.take i,P x) (hp:P r):∀ x∈l.take (i+1),P x:=fun x hx=>by
 rw [List.take_add_one,hr] at hx
 rcases List.mem_append.1 hx with hx|hx
 ·exact h x hx
 ·rw [Option.toList_some,List.mem_singleton] at hx
  rw [hx];exact hp
open Classical in
noncomputable def mkE (P M:Int) (md:List Int) (N:Int) (rows:List (List Int)):Int:=if ¬ Wg P M md then 1 else Uw N rows (P.toNat ^ M.toNat)
theorem Ob {P M N e:Int}{nm cm n c:Nat}{pm ps:Option Addr}{md:List Int}{rows:List (List Int)}(hN:Bv .i64 N) (he:mkE P M md N rows=e) :
  Bt Tryz.prog 133 [.agg #[.int .i64 P,.int .i64 M,.slice pm nm cm],.agg #[.int .i64 N,.slice ps n c]] [] [Ap Ai pm nm cm md,Ap (Aj Ai) ps n c rows] (Rv (.int .i64 e) []):=by
 refine Ab (F:=On) rfl fun C=>?_
 refine Ba 1 rfl fun hn hb _=>?_
 subst hn
 have hb':rows.length*24≤140737488355328:=hb
 obtain ⟨N0,N1⟩:=hN
 rw [mkE] at he
 by_cases hc:Wg P M md
 ·rw [if_neg (fun h=>h hc)] at he
  have A9:=fun {pm:Option Addr}{nm cm:Nat}=>Ej (P:=P) (M:=M) (md:=md) (pm:=pm) (nm:=nm) (cm:=cm) (if_pos hc).symm
  obtain ⟨p,m,rfl,rfl,K⟩:=ACz hc
  rw [Int.toNat_natCast,Int.toNat_natCast] at he
  have hq:=K.q
  have Hp:=fun {nm cm n c:Nat}{pm ps:Option Addr}{l:List Int}=>Mt (nm:=nm) (cm:=cm) (pm:=pm) (ps:=ps) (n:=n) (c:=c) (l:=l) K
  subst he
  by_cases h1:N<0∨256<N∨256<rows.length
  ·rw [Uw,if_pos h1]
   by_cases a1:N<0
   ·refine wk 24 (ct @A9 cz) ?_
    intro b1 b2 h2 h3
    exact ge
   ·by_cases a2:256<N
    ·refine wk 30 (ct @A9 cz) ?_
     intro b1 b2 h2 h3 h4
     exact ge
    ·have a3:256<rows.length:=by omega
     refine wk 33 (ct @A9 cz) ?_
     intro b1 b2 h2 h3 h4 h5
     exact ge
  ·rw [Uw,if_neg h1]
   have a1:¬ N<0:=by omega
   have a2:¬ 256<N:=by omega
   have a3:¬ 256<rows.length:=by omega
   refine wk 33 (ct @A9 cz) ?_
   intro b1 b2 h2 h3 h4 h5
   refine Ah (X:=Nat) [2,3,5] [0,1] (fun i=>[(6,.int .i64 (i:Int))]) (fun _=>_) (fun _=>[]) (fun i=>i≤rows.length∧∀ r∈rows.take i,(r.length:Int)=N) (fun i=>rows.length-i) 0 [] rfl rfl rfl ⟨Nat.zero_le _,fun x h=>by simp at h⟩ (by repeat (first|exact Fr.sub_nil _|refine Fr.sub_cons rfl ?_)) rfl rfl ?_
   rintro i ⟨hi,hno⟩ ih
   simp only [List.cons_append,List.nil_append] at hi ih ⊢
   by_cases h9:i<rows.length
   ·obtain ⟨r,hr⟩:∃ r,rows[i]?=some r:=⟨_,List.getElem?_eq_getElem h9⟩
    have er:=Wi hr
    by_cases h8:(r.length:Int)=N
    ·have h7:((rows.getD i default).length:Int)=N:=by rw [er];exact h8
     refine wk 15 cz ?_
     intro h6 b3 o1 pa1 ca1 h10
     exact tw (ih (i+1) (by omega) ⟨by omega,AHv hr hno h8⟩)
    ·have h7:((rows.getD i default).length:Int)≠N:=by rw [er];exact h8
     rw [if_pos ⟨r,List.mem_of_getElem? hr,h8⟩]
     refine wk 15 cz ?_
     intro h6 b3 o1 pa1 ca1 h10
     exact ge
   ·have hlen:∀ r∈rows,(r.length:Int)=N:=fun r hr=>hno r (by rwa [List.take_of_length_le (by omega)])
    rw [if_neg fun ⟨r,hr,h⟩=>h (hlen r hr)]
    clear ih hno hi
    refine wk 11 cz ?_
    intro h6
    refine Ah (X:=Nat) [2,3] [0,1] (fun i=>[(7,.int .i64 (i:Int)),(5,.int .i64 0)]) (fun _=>_) (fun _=>[]) (fun i=>i≤rows.length∧∀ r∈rows.take i,∀ x∈r,0≤x∧x<((p ^ m:Nat):Int)) (fun i=>rows.length-i) 0 [] rfl rfl rfl ⟨Nat.zero_le _,fun x h=>by simp at h⟩ (by repeat (first|exact Fr.sub_nil _|refine Fr.sub_cons rfl ?_)) rfl rfl ?_
    rintro i ⟨hi,hno⟩ ih
    simp only [List.cons_append,List.nil_append] at hi ih ⊢
    by_cases h9:i<rows.length
    ·obtain ⟨r,hr⟩:∃ r,rows[i]?=some r:=⟨_,List.getElem?_eq_getElem h9⟩
     have er:=Wi hr
     by_cases h8:∀ x∈r,0≤x∧x<((p ^ m:Nat):Int)
     ·have he:Vf (rows.getD i default) (p ^ m)=0:=by rw [er,Vf,if_pos h8]
      refine wk 18 (ct @Hp cz) ?_
      intro h7 b3 o1 pa1 ca1 h10
      exact tw (ih (i+1) (by omega) ⟨by omega,AHv hr hno h8⟩)
     ·have he:Vf (rows.getD i default) (p ^ m)=2:=by rw [er,Vf,if_neg h8]
      rw [if_neg fun h=>h8 (h r (List.mem_of_getElem? hr)),← he]
      refine wk 18 (ct @Hp cz) ?_
      intro h7 b3 o1 pa1 ca1 h10
      exact ge
    ·rw [if_pos fun r hr=>hno r (by rwa [List.take_of_length_le (by omega)])]
     refine wk 11 cz ?_
     intro h7
     exact ge
 ·rw [if_pos hc] at he
  subst he
  have A9:=fun {pm:Option Addr}{nm cm:Nat}=>Ej (P:=P) (M:=M) (md:=md) (pm:=pm) (nm:=nm) (cm:=cm) (if_neg hc).symm
  refine wk 15 (ct @A9 cz) ?_
  intro b1 b2 h1
  exact ge
theorem Ha {pl pk:Option Addr}{nl cl nk ck:Nat}{l k:List Int}{res:Bool}(hr:decide (l=k)=res):Bt Tryz.prog 103 [.slice pl nl cl,.slice pk nk ck] [] [Ap Ai pl nl cl l,Ap Ai pk nk ck k] (Rv (.bool res) []):=by
 refine Ab (F:=Mb) rfl fun C=>?_
 subst hr
 refine Ba 0 rfl fun hn hb _=>?_
 refine Ba 1 rfl fun hn2 hb2 _=>?_
 subst hn
 subst hn2
 have hb':l.length*8≤140737488355328:=hb
 have hb2':k.length*8≤140737488355328:=hb2
 by_cases hl:l.length=k.length
 ·refine wk 13 cz ?_
  intro h1
  refine Ah (X:=Nat) [0,1] [0,1] (fun i=>[(5,.int .i64 (i:Int))]) (fun _=>[]) (fun _=>[]) (fun i=>i≤l.length∧∀ j,j<i→l[j]?=k[j]?) (fun i=>l.length-i) 0 [] rfl rfl rfl ⟨Nat.zero_le _,fun j h=>by omega⟩ (by repeat (first|exact Fr.sub_nil _|refine Fr.sub_cons rfl ?_)) rfl rfl ?_
  rintro i ⟨hi,hno⟩ ih
  simp only [List.cons_append,List.nil_append] at hi ih ⊢
  by_cases h9:i<l.length
  ·obtain ⟨y,hy⟩:∃ y,l[i]?=some y:=⟨_,List.getElem?_eq_getElem h9⟩
   obtain ⟨z,hz⟩:∃ z,k[i]?=some z:=⟨_,List.getElem?_eq_getElem (by omega)⟩
   have ey:=Wi hy
   have ez:=Wi hz
   by_cases h8:y=z
   ·subst h8
    refine wk 13 cz ?_
    intro h2 b1 o1 b2 o2 h3
    exact tw (ih (i+1) (by omega) ⟨by omega,fun j hj=>by
     rcases Nat.lt_succ_iff_lt_or_eq.1 hj with h|rfl
     ·exact hno j h
     ·rw [hy,hz]⟩)
   ·rw [decide_eq_false (show l≠k from fun e=>by rw [e,hz] at hy;exact h8 (Option.some.inj hy).symm)]
    refine wk 13 cz ?_
    intro h2 b1 o1 b2 o2 h3
    exact ge
  ·rw [decide_eq_true (show l=k from List.ext_getElem? fun j=>by
    by_cases h:j<i
    ·exact hno j h
    ·rw [List.getElem?_eq_none (by omega),List.getElem?_eq_none (by omega)])]
   refine wk 9 cz ?_
   intro h2
   exact ge
 ·rw [decide_eq_false (show l≠k from fun e=>hl (by rw [e]))]
  refine wk 13 cz ?_
  intro h1
  exact ge
theorem Dv {pl pk:Option Addr}{nl cl nk ck:Nat}{l k:List (List Int)}{res:Bool}(hr:decide (l=k)=res):Bt Tryz.prog 53 [.slice pl nl cl,.slice pk nk ck] [] [Ap (Aj Ai) pl nl cl l,Ap (Aj Ai) pk nk ck k] (Rv (.bool res) []):=by
 refine Ab (F:=Mh) rfl fun C=>?_
 subst hr
 refine Ba 0 rfl fun hn hb _=>?_
 refine Ba 1 rfl fun hn2 hb2 _=>?_
 subst hn
 subst hn2
 have hb':l.length*24≤140737488355328:=hb
 have hb2':k.length*24≤140737488355328:=hb2
 by_cases hl:l.length=k.length
 ·refine wk 13 cz ?_
  intro h1
  refine Ah (X:=Nat) [0,1] [0,1] (fun i=>[(5,.int .i64 (i:Int))]) (fun _=>[]) (fun _=>[]) (fun i=>i≤l.length∧∀ j,j<i→l[j]?=k[j]?) (fun i=>l.length-i) 0 [] rfl rfl rfl ⟨Nat.zero_le _,fun j h=>by omega⟩ (by repeat (first|exact Fr.sub_nil _|refine Fr.sub_cons rfl ?_)) rfl rfl ?_
  rintro i ⟨hi,hno⟩ ih
  simp only [List.cons_append,List.nil_append] at hi ih ⊢
  by_cases h9:i<l.length
  ·obtain ⟨y,hy⟩:∃ y,l[i]?=some y:=⟨_,List.getElem?_eq_getElem h9⟩
   obtain ⟨z,hz⟩:∃ z,k[i]?=some z:=⟨_,List.getElem?_eq_getElem (by omega)⟩
   have ey:=Wi hy
   have ez:=Wi hz
   by_cases h8:y=z
   ·have hd:decide (l.getD i default=k.getD i default)=true:=by rw [ey,ez];exact decide_eq_true h8
    refine wk 13 (ct @Ha cz) ?_
    intro h2 b1 o1 pa1 ca1 b2 o2 pa2 ca2
    exact tw (ih (i+1) (by omega) ⟨by omega,fun j hj=>by
     rcases Nat.lt_succ_iff_lt_or_eq.1 hj with h|rfl
     ·exact hno j h
     ·rw [hy,hz,h8]⟩)
   ·have hd:decide (l.getD i default=k.getD i default)=false:=by rw [ey,ez];exact decide_eq_false h8
    rw [decide_eq_false (show l≠k from fun e=>by rw [e,hz] at hy;exact h8 (Option.some.inj hy).symm)]
    refine wk 13 (ct @Ha cz) ?_
    intro h2 b1 o1 pa1 ca1 b2 o2 pa2 ca2
    exact ge
  ·rw [decide_eq_true (show l=k from List.ext_getElem? fun j=>by
    by_cases h:j<i
    ·exact hno j h
    ·rw [List.getElem?_eq_none (by omega),List.getElem?_eq_none (by omega)])]
   refine wk 9 cz ?_
   intro h2
   exact ge
 ·rw [decide_eq_false (show l≠k from fun e=>hl (by rw [e]))]
  refine wk 13 cz ?_
  intro h1
  exact ge
theorem Ps {ps:Option Addr}{n c:Nat}{rows:List (List Int)}(hL:∀ r∈rows,r.length≤1000000):Bt Tryz.prog 84 [.slice ps n c] [] [Ap (Aj Ai) ps n c rows]
  (fun v Φ β=>∃ r:Row,v = .slice (ad r.bo) rows.length r.cap∧Φ=[A7 (Aj Ai) r rows.length rows]∧β=[(r.bo,22,r.cs)]):=by
 refine Ab (F:=Pp) rfl fun C=>?_
 refine Ba 0 rfl fun hn hb _=>?_
 subst hn
 have hb':rows.length*24≤140737488355328:=hb
 refine wk 7 cz ?_
 refine F3 (Aj Ai) 22 ?_
 refine Ah (X:=Nat×Row) [0,2] [0,1] (fun x=>[(4,.int .i64 (x.1:Int)),(3,.slice (ad x.2.bo) x.1 x.2.cap)]) (fun x=>[(x.2.bo,22,x.2.cs)]) (fun x=>[A7 (Aj Ai) x.2 x.1 (rows.take x.1)]) (fun x=>x.1≤rows.length) (fun x=>rows.length-x.1) (0,⟨none,0,[]⟩) [0] rfl rfl rfl (Nat.zero_le _) (by repeat (first|exact Fr.sub_nil _|refine Fr.sub_cons rfl ?_)) rfl rfl ?_
 rintro ⟨k,r⟩ hk ih
 simp only [List.cons_append,List.nil_append] at hk ih ⊢
 by_cases h9:k<rows.length
 ·obtain ⟨u,at_u⟩:∃ u,rows[k]?=some u:=⟨_,List.getElem?_eq_getElem h9⟩
  have hul:=hL u (List.mem_of_getElem? at_u)
  have ih':=fun r=>ih (k+1,r) (by dsimp only;omega) (by dsimp only;omega)
  simp only [List.take_add_one,at_u,Option.toList_some] at ih'
  clear ih
  refine wk 12 cz ?_
  intro h1 b1 b2 o1 hz1 pa1 ca1
  (apply Ly (E:=Dy IntKind.i64 8) (n:=0) (cs:=[]) [] [] 0 (fun w A hG=>Bd);(· rfl);(· rfl);(· rfl);(· rfl);(· decide))
  refine Aa rfl (Uv 0 0 1 rfl rfl rfl rfl rfl Ce Ep rfl (by omega) _ Hu (by omega) fun r1=>?_)
  refine wk 1 cz ?_
  intro b3
  refine D2 1 0 rfl rfl (by show (0+u.length)*8≤140737488355328;omega) ?_
  refine Aa rfl (Ga (z:=[]++u) 1 0 5 rfl rfl rfl rfl rfl D5 I6 rfl (fun w A hG=>(A2 (hG _ (Af (n:=0) rfl)))) (by omega) _ M7 (by omega) fun r2=>?_)
  refine wk 4 cz ?_
  simp only [List.nil_append]
  refine Kx [true,false] [0,7,8] (by exact Uy rfl) rfl rfl (ih' r2)
 ·obtain rfl:k=rows.length:=by omega
  rw [List.take_length]
  refine wk 9 cz ?_
  intro h1
  refine D4 1 [0] [0] rfl (.tmp rfl .nil) rfl rfl rfl ⟨r,rfl,rfl,rfl⟩
theorem AAX {b p m n ng cg ce cl nv cv:Nat}{pg pe pl pv:Option Addr}{r:Row}{c:Int}{u v md:List Int}(K:Fok p m md) (c0:0≤c) (c1:c<((p ^ m:Nat):Int)) (hu:Wd (p ^ m) n u) (hv:Wd (p ^ m) n v) (hn:n≤1000000) :
  Bt Tryz.prog 179 [.pointer (some ⟨b,0,none⟩),.slice (ad r.bo) n r.cap,.int .i64 c,.slice pv nv cv] [(r.bo,3,r.cs)] [Jc b p m (p ^ m) pg ng cg pe (p ^ m-1) ce pl (p ^ m) cl,Ap Ai pe (p ^ m-1) ce (Jh p m md),Ap Ai pl (p ^ m) cl (Jk p m md),A7 Ai r n u,Ap Ai pv nv cv v]
   (fun w Φ β=>∃ cs',w = .tuple #[]∧Φ=[A7 Ai ⟨r.bo,r.cap,cs'⟩ n (Eo (Ad (fA p m)) (Ad (fM p (Ax m md))) c v u)]∧β=[(r.bo,3,cs')]):=by
 refine Ab (F:=Vj) rfl fun C=>?_
 have FF:=K.fi
 have A6:=fun {b ng cg ce cl:Nat}{pg pe pl:Option Addr}{x y:Int}=>C3 (b:=b) (ng:=ng) (cg:=cg) (ce:=ce) (cl:=cl) (pg:=pg) (pe:=pe) (pl:=pl) (x:=x) (y:=y) K
 have Bq:=fun {b ng cg ne ce nl cl:Nat}{pg pe pl:Option Addr}{x y:Int}=>Dc (b:=b) (ng:=ng) (cg:=cg) (ne:=ne) (ce:=ce) (nl:=nl) (cl:=cl) (pg:=pg) (pe:=pe) (pl:=pl) (x:=x) (y:=y) K.p2 K.m1 K.q
 have hq:=K.q
 have hax:=FF.axw c0 c1 hv hu
 generalize Ad (fM p (Ax m md))=M at *
 generalize Ad (fA p m)=A0 at *
 generalize Jh p m md=ex at *
 generalize Jk p m md=lg at *
 generalize p ^ m=q at *
 obtain ⟨bo,cap,cs⟩:=r
 dsimp only
 have hul:=hu.1
 have hvl:=hv.1
 have hal:=hax.1
 refine Ba 4 rfl fun hnv hbv _=>?_
 rw [hvl] at hnv
 have hnv:=hnv.symm
 subst hnv
 rcases Nat.eq_zero_or_pos n with hn0|hn0
 ·subst hn0
  obtain rfl:=List.length_eq_zero_iff.1 hul
  obtain rfl:=List.length_eq_zero_iff.1 hvl
  refine wk 5 cz ?_
  refine Ah (X:=Unit) [0,1,2,10,11] [0,1,2,3,4] (fun _=>[(12,.int .i64 0)]) (fun _=>[(bo,3,cs)]) (fun _=>[]) (fun _=>True) (fun _=>0) () [] rfl rfl rfl trivial (by repeat (first|exact Fr.sub_nil _|refine Fr.sub_cons rfl ?_)) rfl rfl ?_
  rintro ⟨⟩-ih
  simp only [List.cons_append,List.nil_append] at ih ⊢
  refine wk 5 cz ?_
  intro h1
  refine Cm [3] rfl rfl ⟨_,rfl,rfl,rfl⟩
 refine Dt 3 rfl hn0 fun b9 cap9 cs9 hr=>?_
 obtain ⟨rfl,rfl,rfl⟩:=Row.mk.inj hr
 refine wk 5 cz ?_
 refine Ah (X:=Nat×List Value) [0,1,2,10,11] [0,1,2,3,4] (fun x=>[(12,.int .i64 (x.1:Int))]) (fun x=>[(some b9,3,x.2)])
  (fun x=>[A7 Ai ⟨some b9,cap,x.2⟩ n ((Eo A0 M c v u).take x.1++u.drop x.1)]) (fun x=>x.1≤n) (fun x=>n-x.1) (0,cs) [3] rfl rfl rfl (Nat.zero_le _) (by repeat (first|exact Fr.sub_nil _|refine Fr.sub_cons rfl ?_)) rfl rfl ?_
 rintro ⟨k,cs⟩ hk ih
 simp only [List.cons_append,List.nil_append] at hk ih ⊢
 by_cases hkl:k<n
 ·obtain ⟨x,at_x⟩:∃ x,v[k]?=some x:=⟨_,List.getElem?_eq_getElem (by omega)⟩
  obtain ⟨y,hy⟩:∃ y,u[k]?=some y:=⟨_,List.getElem?_eq_getElem (by omega)⟩
  obtain ⟨x0,x1⟩:=hv.2 x (List.mem_of_getElem? at_x)
  obtain ⟨y0,y1⟩:=hu.2 y (List.mem_of_getElem? hy)
  have hT:(Eo A0 M c v u)[k]?=some (A0 y (M c x)):=by rw [Eo,List.getElem?_zipWith,hy,at_x]
  have hL:=(ACq hal hul hkl).trans hy
  have hset:=Za hal hul hkl hT
  have hLl:((Eo A0 M c v u).take k++u.drop k).length=n:=by rw [List.length_append,List.length_take,List.length_drop];omega
  have ih':=fun cs=>ih (k+1,cs) (by dsimp only;omega) (by dsimp only;omega)
  dsimp only at ih'
  rw [← hset] at ih'
  obtain ⟨m0,m1⟩:=FF.ml c x c0 c1 x0 x1
  generalize (Eo A0 M c v u).take k++u.drop k=L at *
  by_cases h0:x=0
  ·have e0:L.set k (A0 y (M c x))=L:=by
    have:A0 y (M c x)=y:=by rw [h0,FF.m0 c0 c1,FF.a0 y y0 y1]
    rw [this]
    obtain ⟨h1,h2⟩:=List.getElem?_eq_some_iff.1 hL
    rw [← h2,List.set_getElem_self]
   rw [e0] at ih'
   refine wk 7 cz ?_
   intro h1 b1 o1 hz1
   refine Aa rfl (Av 0 rfl rfl Ci fun ⟨r1,r2⟩=>?_)
   refine wk 8 cz ?_
   intro h2
   exact tw (ih' cs)
  ·obtain ⟨a0,a1⟩:=FF.al y (M c x) y0 y1 m0 m1
   refine wk 7 cz ?_
   intro h1 b1 o1 hz1
   refine Aa rfl (Av 0 rfl rfl Ci fun ⟨r1,r2⟩=>?_)
   refine wk 7 (ct @A6 (ct @Bq cz)) ?_
   intro h2
   refine Aa rfl (G7 (vs:=[Value.int IntKind.i64 (A0 y (M c x))]) (z:=(A0 y (M c x):Int)) 0 1 (k) rfl rfl rfl rfl rfl Ci (Nat.mul_one _).symm (by omega) (fun w A hG=>(Dq (by first|(simp only [Bv];omega)|(simp [Bv];done)))) fun cs1=>?_)
   refine wk 3 cz ?_
   exact tw (ih' cs1)
 ·obtain rfl:n=k:=by omega
  rw [List.take_of_length_le (by omega),List.drop_of_length_le (by omega),List.append_nil]
  refine wk 5 cz ?_
  intro h1
  refine Cm [0] rfl rfl ⟨_,rfl,rfl,rfl⟩
theorem AF1 {A M:Int→Int→Int}{x:List Int}{rows:List (List Int)}{i:Nat}{a:Int}{r u:List Int}(hx:x[i]?=some a) (hr:rows[i]?=some r):P4 A M (x.drop i) (rows.drop i) u=P4 A M (x.drop (i+1)) (rows.drop (i+1)) (if a=0 then u else Eo A M a r u):=by
 obtain ⟨h1,rfl⟩:=List.getElem?_eq_some_iff.1 hx
 obtain ⟨h2,rfl⟩:=List.getElem?_eq_some_iff.1 hr
 rw [List.drop_eq_getElem_cons h1,List.drop_eq_getElem_cons h2,P4]
theorem AH8 {A M:Int→Int→Int}{x:List Int}{rows:List (List Int)}{i:Nat}{u:List Int}(h:x.length≤i):P4 A M (x.drop i) (rows.drop i) u=u:=by
 rw [List.drop_of_length_le h,P4];intros;contradiction
abbrev cbP (p m:Nat) (md:List Int) (n:Nat) (x:List Int) (rows:List (List Int)):List Int:=Yo (Ad (fA p m)) (Ad (fM p (Ax m md))) n x rows
theorem ACr {b p m ng cg ce cl nx cx n c N:Nat}{pg pe pl px ps:Option Addr}{x md:List Int}{rows:List (List Int)}(K:Fok p m md) (hN:N≤1000000) (hM:Cw (p ^ m) N rows) (hx:Wd (p ^ m) rows.length x) :
  Bt Tryz.prog 146 [.pointer (some ⟨b,0,none⟩),.slice px nx cx,.slice ps n c,.int .i64 N] [] [Jc b p m (p ^ m) pg ng cg pe (p ^ m-1) ce pl (p ^ m) cl,Ap Ai pe (p ^ m-1) ce (Jh p m md),Ap Ai pl (p ^ m) cl (Jk p m md),Ap Ai px nx cx x,Ap (Aj Ai) ps n c rows] (RwI N (cbP p m md N x rows)):=by
 refine Ab (F:=ACE) rfl fun C=>?_
 have O:=C1 K
 have hq:=K.q
 refine Ba 3 rfl fun hn hb _=>?_
 subst hn
 refine Ba 4 rfl fun hn hb2 _=>?_
 subst hn
 have hb':x.length*8≤140737488355328:=hb
 have hb2':rows.length*24≤140737488355328:=hb2
 have Pr:=fun {b ng cg ce cl nv cv b1:Nat}{pg pe pl pv:Option Addr}{cs:List Value}{c:Int}{u v:List Int}=>AAX (b:=b) (n:=N) (ng:=ng) (cg:=cg) (ce:=ce) (cl:=cl) (pg:=pg) (pe:=pe) (pl:=pl) (nv:=nv) (cv:=cv) (pv:=pv) (r:=⟨some b1,N,cs⟩) (c:=c) (u:=u) (v:=v) K
 refine wk 11 cz ?_
 intro b1
 have hz:=O.wz N
 rw [show Ao .i64 (List.replicate N 0)=Al .i64 (zW N) by simp [Ao,Al,zW]]
 refine Bk 0 rfl hz.1.symm (fun y hy=>by have:=hz.2 y hy;simp only [Bv];omega) (by omega) ?_
 refine Ah (X:=Nat×List Value×List Int) [0,2,8,9,14,15] [0,1,2,3,4,5] (fun i=>[(16,.int .i64 (i.1:Int))]) (fun i=>[(some b1,3,i.2.1)]) (fun i=>[A7 Ai ⟨some b1,N,i.2.1⟩ N i.2.2]) (fun i=>i.1≤x.length∧Wd (p ^ m) N i.2.2∧P4 (Ad (fA p m)) (Ad (fM p (Ax m md))) (x.drop i.1) (rows.drop i.1) i.2.2=cbP p m md N x rows) (fun i=>x.length-i.1) (0,Al .i64 (zW N),zW N) [0] rfl rfl rfl ⟨Nat.zero_le _,hz,rfl⟩ (by repeat (first|exact Fr.sub_nil _|refine Fr.sub_cons rfl ?_)) rfl rfl ?_
 rintro ⟨i,cs,u⟩ ⟨hi,hu,he⟩ ih
 simp only [List.cons_append,List.nil_append] at hi hu he ih ⊢
 by_cases h9:i<x.length
 ·have hxl:=hx.1
  obtain ⟨a,at_a⟩:∃ a,x[i]?=some a:=⟨_,List.getElem?_eq_getElem h9⟩
  obtain ⟨v,at_v⟩:∃ v,rows[i]?=some v:=⟨_,List.getElem?_eq_getElem (by omega)⟩
  obtain ⟨a0,a1⟩:=hx.2 a (List.mem_of_getElem? at_a)
  have hv:=hM v (List.mem_of_getElem? at_v)
  rw [AF1 at_a at_v] at he
  by_cases ha:a=0
  ·rw [if_pos ha] at he
   refine wk 7 cz ?_
   intro h1 b2 o1 hz1
   refine Aa rfl (Av 0 rfl rfl Ci fun ⟨r1,r2⟩=>?_)
   refine wk 8 cz ?_
   intro h2
   exact tw (ih (i+1,cs,u) (by dsimp only;omega) ⟨by dsimp only;omega,hu,he⟩)
  ·rw [if_neg ha] at he
   refine wk 7 cz ?_
   intro h1 b2 o1 hz1
   refine Aa rfl (Av 0 rfl rfl Ci fun ⟨r1,r2⟩=>?_)
   refine wk 13 (ct @Pr cz) ?_
   intro h2 b3 o2 hz2 pa1 ca1 cs'1
   exact tw (ih (i+1,cs'1,Eo (Ad (fA p m)) (Ad (fM p (Ax m md))) a v u) (by dsimp only;omega) ⟨by dsimp only;omega,O.fi.axw a0 a1 hv hu,he⟩)
 ·rw [AH8 (by omega)] at he
  subst he
  refine wk 7 cz ?_
  intro h1
  refine D4 1 [0] [0] rfl (.tmp rfl .nil) rfl rfl rfl ⟨⟨some b1,N,cs⟩,rfl,rfl,rfl⟩
theorem AKM {q:Nat}{z y:Int×List (List Int)}(h:Uw z.1 z.2 q=0) (h2:Uw y.1 y.2 q=0):opE q [z,y]=0:=by
 rw [opE,if_pos h];exact Ui h2
theorem X1 {p m n c n2 c2 nm cm k N:Nat}{pm ps p2:Option Addr}{md:List Int}{a rows:List (List Int)}(K:Fok p m md) (hN:N≤256) (hl:rows.length≤256) (hM:Cw (p ^ m) N rows) (hal:a.length≤256) (hk:rows.length=k) (ha:Cw (p ^ m) k a) :
  Bt Tryz.prog 110 [.agg #[.int .i64 p,.int .i64 m,.slice pm nm cm],.agg #[.int .i64 k,.slice p2 n2 c2],.agg #[.int .i64 N,.slice ps n c]] [] [Ap Ai pm nm cm md,Ap (Aj Ai) p2 n2 c2 a,Ap (Aj Ai) ps n c rows]
   (fun v Φ β=>∃ (pb:Option Addr) (cb:Nat),v = .tuple #[.agg #[.int .i64 N,.slice pb a.length cb],.int .i64 0]∧Φ=[Ap (Aj Ai) pb a.length cb (a.map fun x=>cbP p m md N x rows)]∧β=[]):=by
 refine Ab (F:=ABW) rfl fun C=>?_
 have O:=C1 K
 have hq:=K.q
 subst hk
 refine Ba 1 rfl fun hn hb _=>?_
 subst hn
 refine Ba 2 rfl fun hn hb2 _=>?_
 subst hn
 have hb':a.length*24≤140737488355328:=hb
 have hb2':rows.length*24≤140737488355328:=hb2
 have Cl:=fun {pm ps:Option Addr}{nm cm n c:Nat}=>Ew (pm:=pm) (nm:=nm) (cm:=cm) (ps:=ps) (n:=n) (c:=c) (Ms:=[((rows.length:Int),a),((N:Int),rows)]) K (fun z hz=>by
  rcases List.mem_cons.1 hz with rfl|hz
  ·simp only [Bv];omega
  ·rw [List.mem_singleton.1 hz];simp only [Bv];omega) (AKM (Sa hl hal ha) (Sa hN hl hM))
 refine Am [_,_] rfl ?_
 refine Aa rfl (Cv rfl fun b1=>?_)
 refine Aa rfl (Cv rfl fun b2=>?_)
 refine Aa rfl (Cv rfl fun b3=>?_)
 refine Aa rfl (Bl G9 fun b4=>?_)
 refine Ae it 1 rfl (by simp) ?_
 refine Am [_,_] rfl ?_
 refine Aa rfl (A1 3 rfl rfl Hy rfl ?_)
 refine Aa rfl (A1 2 rfl rfl F6 rfl ?_)
 refine Aa rfl (A1 1 rfl rfl F6 rfl ?_)
 refine Aa rfl (Iu AHG AEq rfl rfl rfl rfl (by decide) (by decide) rfl fun b5=>?_)
 refine Cb (E:=AA4) (n:=2) [[Value.int IntKind.i64 ↑rows.length,Value.slice p2 a.length c2],[Value.int IntKind.i64 ↑N,Value.slice ps rows.length c]] [((↑rows.length:Int),a),((↑N:Int),rows)] 0 (fun w A hG=>(Az (M9 (v1:=[Value.int IntKind.i64 ↑rows.length]) (Dq (by first|(simp only [Bv];omega)|(simp [Bv];done)|assumption)) (A2 (hG _ (Af (n:=1) rfl)))) (Az (M9 (v1:=[Value.int IntKind.i64 ↑N]) (Dq (by first|(simp only [Bv];omega)|(simp [Bv];done)|assumption)) (A2 (hG _ (Af (n:=2) rfl)))) Bd))) rfl rfl rfl rfl (by first|decide|exact Nat.le_of_ble_eq_true rfl) (by first|decide|exact Nat.le_of_ble_eq_true rfl) ?_
 refine Aa rfl (Aw [1,0] rfl (Cl) rfl ?_)
 rintro _ _ _ ⟨b6,pg1,cg1,pe1,ce1,pl1,cl1,rfl,rfl,rfl⟩
 simp only [List.cons_append,List.nil_append]
 refine Ae it 5 rfl (by simp) ?_
 refine Am [_,_,_] rfl ?_
 refine Ae it 2 rfl (by simp) ?_
 refine Am [_,_] rfl ?_
 refine Nd rfl rfl (fun h1=>by exfalso;omega) (fun h1=>?_)
 refine Am [_,_,_] rfl ?_
 refine Aa rfl (Aq rfl I4 ?_)
 refine Aa rfl (Bm 2 rfl rfl Ci rfl ?_)
 refine Aa rfl (Aq rfl Hw ?_)
 refine Aa rfl (Bm 1 rfl rfl H7 rfl ?_)
 refine Aa rfl (Hf D5 rfl ?_)
 refine Ae it 1 rfl (by simp) ?_
 refine Am [_,_] rfl ?_
 refine Nd rfl rfl (fun h2=>by exfalso;omega) (fun h2=>?_)
 refine Am [_,_] rfl ?_
 refine Aa rfl (Aq rfl I4 ?_)
 refine Aa rfl (Bm 1 rfl rfl Ci rfl ?_)
 refine Aa rfl (Dn (cs:=[Value.int IntKind.i64 ↑N,Value.slice none 0 0]) Uz G9 rfl rfl ?_)
 refine Aa rfl (Bl G9 fun b7=>?_)
 refine Aa rfl (A8 0 rfl rfl rfl F6 rfl rfl (by simp [Value.oneCell']) ?_)
 refine Am [_,_,_] rfl ?_
 refine Aa rfl (Aq rfl Hw ?_)
 refine Aa rfl (Bm 3 rfl rfl H7 rfl ?_)
 refine Aa rfl (Hf D5 rfl ?_)
 refine Ae it 1 rfl (by simp) ?_
 refine Am [_,_,_] rfl ?_
 refine F3 (Aj Ai) 22 ?_
 refine Ah (X:=Nat×Row) [5,6,7,8,10,36,37] [0,1,2,3,4,5,6,7,8] (fun x=>[(38,.int .i64 (x.1:Int))]) (fun x=>[(x.2.bo,22,x.2.cs),(some b7,62,[.int .i64 N,.slice (ad x.2.bo) x.1 x.2.cap]),(some b4,62,[.int .i64 0,.slice none 0 0]),(some b3,62,[.int .i64 N,.slice ps rows.length c]),(some b2,62,[.int .i64 (rows.length:Nat),.slice p2 a.length c2]),(some b1,24,[.int .i64 p,.int .i64 m,.slice pm nm cm])]) (fun x=>[A7 (Aj Ai) x.2 x.1 ((a.take x.1).map fun x=>cbP p m md N x rows)]) (fun x=>x.1≤a.length) (fun x=>a.length-x.1) (0,⟨none,0,[]⟩) [0] rfl rfl rfl (Nat.zero_le _) (by repeat (first|exact Fr.sub_nil _|refine Fr.sub_cons rfl ?_)) rfl rfl ?_
 rintro ⟨k,r⟩ hk ih
 simp only [List.cons_append,List.nil_append] at hk ih ⊢
 by_cases h8:k<a.length
 ·obtain ⟨u,at_u⟩:∃ u,a[k]?=some u:=⟨_,List.getElem?_eq_getElem h8⟩
  have hu:=ha u (List.mem_of_getElem? at_u)
  have ih':=fun r=>ih (k+1,r) (by dsimp only;omega) (by dsimp only;omega)
  simp only [List.take_add_one,at_u,Option.toList_some,List.map_append,List.map_cons,List.map_nil] at ih'
  clear ih
  have hN6:N≤1000000:=by omega
  have ACn:=fun {b ng cg ce cl nx cx c:Nat}{pg pe pl px ps:Option Addr}=>ACr (b:=b) (ng:=ng) (cg:=cg) (ce:=ce) (cl:=cl) (pg:=pg) (pe:=pe) (pl:=pl) (nx:=nx) (cx:=cx) (px:=px) (ps:=ps) (n:=rows.length) (c:=c) (x:=u) (rows:=rows) K hN6 hM hu |>.pubR (by show N*8≤140737488355328;omega)
  refine wk 9 cz ?_
  intro h3 b8 o1 hz1 pa1 ca1
  (apply E5 it mx 10;(· rfl);(· rfl))
  (apply Ac;(· rfl);(· exact Cg fun _=>Aq rfl Hw An))
  (apply Ac;(· rfl);(· exact Ca 1 rfl rfl H7 rfl))
  (apply A3 2;(· rfl);(· simp))
  (apply Ac;(· rfl);(· exact Cg fun _=>Aq rfl Hw An))
  (apply Ac;(· rfl);(· exact Ca 3 rfl rfl H7 rfl))
  (apply Ac;(· rfl);(· exact Cg fun _=>Aq rfl I4 An))
  (apply Ac;(· rfl);(· exact Ca 3 rfl rfl Ci rfl))
  (apply Ih;(· rfl);(· exact Cg fun _=>Aw [4,6,7,0,11] rfl (ACn) rfl (by rintro _ _ _ ⟨pa2,ca2,rfl,rfl,rfl⟩;exact (Lq 0 rfl)));intro pa2 ca2)
  (apply Ih;(· rfl);(· exact Cg fun _=>Iu D5 I6 rfl rfl rfl rfl (by decide) (by decide) rfl fun b9=>ACc (E:=(Aj (Ai))) [[Value.slice pa2 N ca2]] [cbP p m md N u rows] (fun w A hG=>(Az (A2 (hG _ (Af (n:=0) rfl))) Bd)) rfl rfl rfl (by first|decide|exact Nat.le_of_ble_eq_true rfl));intro pa3 ca3)
  refine Et rfl ?_
  simp only [List.map_cons,List.map_nil,List.cons_append,List.nil_append]
  refine Aa rfl (Uv 0 4 0 rfl rfl rfl rfl rfl D5 I6 rfl (by omega) _ M7 (by omega) fun r1=>?_)
  refine wk 5 cz ?_
  exact tw (ih' r1)
 ·obtain rfl:k=a.length:=by omega
  rw [List.take_length]
  refine D2 0 0 rfl rfl (by show a.length*24≤140737488355328;omega) ?_
  refine wk 9 cz ?_
  intro h3
  refine Bj [0] rfl (.agg 1 rfl rfl F6 rfl (.tmp rfl .nil)) rfl ⟨_,_,rfl,rfl,rfl⟩
def trL (N:Nat) (rows:List (List Int)):List (List Int):=(List.range N).map (Ft rows)
theorem Qv {p m n c nm cm N:Nat}{pm ps:Option Addr}{md:List Int}{rows:List (List Int)}(K:Fok p m md) (hN:N≤256) (hl:rows.length≤256) (hM:Cw (p ^ m) N rows) :
  Bt Tryz.prog 109 [.agg #[.int .i64 p,.int .i64 m,.slice pm nm cm],.agg #[.int .i64 N,.slice ps n c]] [] [Ap Ai pm nm cm md,Ap (Aj Ai) ps n c rows]
   (fun v Φ β=>∃ (pb:Option Addr) (cb:Nat),v = .tuple #[.agg #[.int .i64 (rows.length:Nat),.slice pb N cb],.int .i64 0]∧Φ=[Ap (Aj Ai) pb N cb (trL N rows)]∧β=[]):=by
 refine Ab (F:=Ut) rfl fun C=>?_
 have O:=C1 K
 have hq:=K.q
 refine Ba 1 rfl fun hn hb _=>?_
 subst hn
 have hb':rows.length*24≤140737488355328:=hb
 have Cl:=fun {pm ps:Option Addr}{nm cm n c:Nat}=>Ew (pm:=pm) (nm:=nm) (cm:=cm) (ps:=ps) (n:=n) (c:=c) (Ms:=[((N:Int),rows)]) K (fun z hz=>by rw [List.mem_singleton.1 hz];simp only [Bv];omega) (Ui (Sa hN hl hM))
 refine wk 9 cz ?_
 intro b1 b2 b3 b4
 refine Cb (E:=AA4) (n:=1) [[Value.int IntKind.i64 ↑N,Value.slice ps rows.length c]] [((↑N:Int),rows)] 0 (fun w A hG=>(Az (M9 (v1:=[Value.int IntKind.i64 ↑N]) (Dq (by first|(simp only [Bv];omega)|(simp [Bv];done)|assumption)) (A2 (hG _ (Af (n:=1) rfl)))) Bd)) rfl rfl rfl rfl (by first|decide|exact Nat.le_of_ble_eq_true rfl) (by first|decide|exact Nat.le_of_ble_eq_true rfl) ?_
 refine wk 7 (ct @Cl cz) ?_
 intro b5 pg1 cg1 pe1 ce1 pl1 cl1 h1
 (apply E5 it mx 8;(· rfl);(· rfl))
 (apply Ac;(· rfl);(· exact Cg fun _=>Aq rfl Hw An))
 (apply Ac;(· rfl);(· exact Ca 1 rfl rfl H7 rfl))
 (apply Ac;(· rfl);(· exact Cg fun _=>Hf D5 rfl An))
 (apply Ac;(· rfl);(· exact Cg fun _=>Aq rfl I4 An))
 (apply Ac;(· rfl);(· exact Ca 1 rfl rfl Ci rfl))
 (apply Y6 (N) _;(· rfl);(· rfl);(· rfl);(· exact D5);(· exact I6);(· rfl);(· rfl);(· exact M7);(· rfl);(· omega);(· omega);intro b6)
 (apply G1 [25,28] (fun vs=>Value.agg ((Vc ([(0,1),(1,1)]) ([Value.int IntKind.i64 0,Value.slice none 0 0]) [(0,Cf (vs.getD 0 undef)),(1,Cf (vs.getD 1 undef))]).getD []).toArray) (v:=Value.agg #[Value.int IntKind.i64 ↑rows.length,Value.slice (some { block:=b6,off:=0 }) N N]);(· rfl);(· rfl);(· rfl);(· rfl);(· exact Cg fun _=>Dn (cs:=[Value.int IntKind.i64 ↑rows.length,Value.slice (some { block:=b6,off:=0 }) N N]) Uz G9 rfl rfl An))
 (apply Hj;(· rfl);(· exact G9);intro b7)
 refine Et rfl ?_
 simp only [List.map_cons,List.map_nil,List.cons_append,List.nil_append]
 refine wk 7 cz ?_
 simp only [setB]
 refine AH9 1 rfl (by omega) fun csA=>?_
 refine Zv Ai 3 0 ?_
 simp only [setB,List.cons_append,List.nil_append]
 refine Bs (Ar (trL N rows)) 0 rfl (fun g hg=>absurd hg (Nat.not_lt_zero g)) ?_
 simp only [List.eraseIdx_cons_zero,List.cons_append,List.nil_append]
 have htl:(trL N rows).length=N:=by simp [trL]
 have hta:∀ j,j<N→Ar (trL N rows) j=Ft rows j:=fun j hj=>by
  rw [Ar,trL,List.getD_eq_getElem?_getD,List.getElem?_map,List.getElem?_range hj];rfl
 refine Ah (X:=Nat×List Value×(Nat→Hd)×(Nat→List Value)) [3,4,5,8,32] [0,1,2,3,4,5,6,7,8,9] (fun x=>[(33,.int .i64 (x.1:Int))])
  (fun x=>(some b7,62,[.int .i64 (rows.length:Nat),.slice (some ⟨b6,0,none⟩) N N])::(some b6,22,x.2.1)::(some b3,62,[.int .i64 0,.slice none 0 0])::(some b2,62,[.int .i64 N,.slice ps rows.length c])::(some b1,24,[.int .i64 p,.int .i64 m,.slice pm nm cm])::C8 3 x.2.2.1 x.2.2.2 x.1 [])
  (fun x=>[A7 Sl ⟨some b6,N,x.2.1⟩ N (Iy x.2.2.1 N),Ei Ai x.2.2.1 x.2.2.2 (Ar (trL N rows)) x.1 []])
  (fun x=>x.1≤N) (fun x=>N-x.1) (0,csA,fun _=>(none,0,0),fun _=>[]) [2,0] rfl rfl rfl (Nat.zero_le _) (by repeat (first|exact Fr.sub_nil _|refine Fr.sub_cons rfl ?_)) rfl rfl ?_
 rintro ⟨k,hc,hd,cs⟩ hk ih
 simp only [List.cons_append,List.nil_append] at hk ih ⊢
 by_cases hkl:k<N
 ·refine wk 7 cz ?_
  intro h2
  (apply E5 it mx 7;(· rfl);(· rfl))
  (apply Ac;(· rfl);(· exact Cg fun _=>Aq rfl Hw An))
  (apply Ac;(· rfl);(· exact Ca 0 rfl rfl H7 rfl))
  (apply A3 1;(· rfl);(· simp))
  (apply Ac;(· rfl);(· exact Cg fun _=>Aq rfl Hw An))
  (apply Ac;(· rfl);(· exact Ca 3 rfl rfl H7 rfl))
  (apply Ac;(· rfl);(· exact Cg fun _=>Hf D5 rfl An))
  (apply Y6 (rows.length) _;(· rfl);(· rfl);(· rfl);(· exact Ce);(· exact Ep);(· rfl);(· rfl);(· exact Hu);(· rfl);(· omega);(· omega);intro b8)
  refine Et rfl ?_
  simp only [List.map_cons,List.map_nil,List.cons_append,List.nil_append]
  refine wk 1 cz ?_
  refine Aa rfl (G7 (vs:=[Value.slice (some { block:=b8,off:=0 }) rows.length rows.length]) (z:=(some b8,rows.length,rows.length)) 2 0 (k) rfl rfl rfl rfl rfl E7 (Nat.mul_one _).symm (by omega) (fun w A hG=>(T2 (some _) _ _)) fun cs1=>?_)
  refine wk 6 cz ?_
  simp only [setB]
  rw [K0]
  have hz:(Iy (Ek hd k (some b8,rows.length,rows.length)) N)[k]?=some (some b8,rows.length,rows.length):=by
   rw [Iy,List.getElem?_map,List.getElem?_range hkl,Option.map_some,Bo]
  have hTl:(Ft rows k).length=rows.length:=List.length_map _
  have hTa:∀ (i:Nat) (x:List Int),rows[i]?=some x→(Ft rows k)[i]?=some (Bf x k):=fun i x h=>by rw [Ft,List.getElem?_map,h];rfl
  have hTr:∀ z∈Ft rows k,Bv .i64 z:=fun z hz=>by
   have:=(Jt (by have:=O.q2;omega) hM k).2 z hz
   simp only [Bv];omega
  rw [AC8,show List.replicate rows.length (0:Int)=(Ft rows k).take 0++List.replicate (rows.length-0) 0 by simp]
  refine Ah (X:=Nat) [3,4,5,8,9,32,33,34,35,36,37,38,39,40,41,42,43,44,45,46] [0,1,2,3,4,5,6,7,8,9,10,11,12] (fun i=>[(47,.int .i64 (i:Int))]) (fun i=>(some b8,3,Al .i64 ((Ft rows k).take i++List.replicate (rows.length-i) 0))::(some b7,62,[.int .i64 (rows.length:Nat),.slice (some ⟨b6,0,none⟩) N N])::(some b6,22,cs1)::(some b3,62,[.int .i64 0,.slice none 0 0])::(some b2,62,[.int .i64 N,.slice ps rows.length c])::(some b1,24,[.int .i64 p,.int .i64 m,.slice pm nm cm])::C8 3 hd cs k []) (fun _=>[]) (fun i=>i≤rows.length) (fun i=>rows.length-i) 0 [] rfl rfl rfl (Nat.zero_le _) (by repeat (first|exact Fr.sub_nil _|refine Fr.sub_cons rfl ?_)) rfl rfl ?_
  rintro i hi ihi
  simp only [List.cons_append,List.nil_append] at hi ihi ⊢
  by_cases h9:i<rows.length
  ·obtain ⟨x,at_x⟩:∃ x,rows[i]?=some x:=⟨_,List.getElem?_eq_getElem h9⟩
   have hx:=hM x (List.mem_of_getElem? at_x)
   have hT:=hTa i x at_x
   have hxl:=hx.1
   have at_y:x[k]?=some (Bf x k):=by
    rw [Bf,List.getD_eq_getElem?_getD,List.getElem?_eq_getElem (by omega)];rfl
   have ih':=ihi (i+1) (by omega) (by omega)
   rw [← take_set hT h9] at ih'
   have hln:((Ft rows k).take i++List.replicate (rows.length-i) 0).length=rows.length:=by rw [List.length_append,List.length_take,List.length_replicate];omega
   generalize (Ft rows k).take i++List.replicate (rows.length-i) 0=L at *
   refine wk 16 cz ?_
   intro h3 b9 o1 hz1 pa1 ca1 b10 o2
   exact tw (ih')
  ·obtain rfl:i=rows.length:=by omega
   rw [Nat.sub_self,List.replicate_zero,List.append_nil,List.take_of_length_le (by omega)]
   clear ihi
   refine wk 3 cz ?_
   refine Bk 0 rfl hTl.symm hTr (by omega) ?_
   refine ADR 5 0 0 3 rfl rfl rfl rfl ?_
   simp only [List.eraseIdx_cons_zero,List.eraseIdx_cons_succ,List.take_succ_cons,List.take_zero,List.cons_append,List.nil_append]
   refine Bs (Ar (trL N rows)) 0 rfl (fun g hg=>by
    by_cases e:g=k
    ·subst e
     rw [Bo,hta g hkl]
    ·rw [C0 e]) ?_
   refine wk 4 cz ?_
   intro h3
   exact tw (ih (k+1,cs1,Ek hd k (some b8,rows.length,rows.length),Ek cs k (Al .i64 (Ft rows k))) (by dsimp only;omega) (by dsimp only;omega))
 ·obtain rfl:N=k:=by omega
  refine wk 3 cz ?_
  refine G3 1 rfl fun hlen=>?_
  refine Wz 5 1 0 1 rfl rfl rfl rfl (fun i hi=>by rw [hlen i hi rfl,hta i hi,List.length_map];show rows.length*8≤_;omega) ?_
  simp only [List.take_succ_cons,List.take_zero]
  rw [show (List.range N).map (Ar (trL N rows))=trL N rows from by
   refine List.ext_getElem (by rw [List.length_map,List.length_range,htl]) fun i h1 h2=>?_
   rw [List.getElem_map,List.getElem_range,Ar,List.getD_eq_getElem?_getD,List.getElem?_eq_getElem h2];rfl]
  refine D2 1 0 rfl rfl (by show N*24≤140737488355328;omega) ?_
  simp only [List.eraseIdx_cons_zero,List.eraseIdx_cons_succ]
  refine wk 6 cz ?_
  intro h2
  refine Bj [0] rfl (.agg 1 rfl rfl F6 rfl (.tmp rfl .nil)) rfl ⟨_,_,rfl,rfl,rfl⟩
theorem N5 {n:Nat}{ls:List (List Int)}{x:Int}:x∈Co n ls↔(0≤x∧x<n)∧∀ l∈ls,x∉l:=by
 rw [Co,List.mem_map]
 constructor
 ·rintro ⟨i,hi,rfl⟩
  obtain ⟨h1,h2⟩:=List.mem_filter.1 hi
  refine ⟨⟨by omega,by have:=List.mem_range.1 h1;omega⟩,fun l hl hx=>?_⟩
  rw [Rd,List.any_eq_true.2 ⟨l,hl,decide_eq_true hx⟩] at h2
  cases h2
 ·rintro ⟨⟨h0,h1⟩,h2⟩
  refine ⟨x.toNat,List.mem_filter.2 ⟨List.mem_range.2 (by omega),?_⟩,by omega⟩
  rw [Rd]
  cases h:ls.any fun l=>decide (((x.toNat:Nat):Int)∈l) with
  | false=>rfl
  | true =>
   obtain ⟨l,hl,hx⟩:=List.any_eq_true.1 h
   rw [Int.toNat_of_nonneg h0] at hx
   exact absurd (of_decide_eq_true hx) (h2 l hl)
theorem ADt (n:Nat) (ls:List (List Int)):(Co n ls).length≤n:=by
 rw [Co,List.length_map];have:=List.length_filter_le (Rd ls) (List.range n);rwa [List.length_range] at this
theorem Y1 (n:Nat) (ls:List (List Int)):Yk n (Co n ls):=by
 refine ⟨fun x hx=>(N5.1 hx).1,?_⟩
 rw [Co,List.pairwise_map]
 refine List.Pairwise.sublist List.filter_sublist ?_
 refine List.pairwise_lt_range.imp fun h=>?_
 omega
theorem AJC {rows:List (List Int)}{O:List Int}:trL O.length (rows.map fun r=>O.map fun j=>Bf r j.toNat)=O.map fun j=>Ft rows j.toNat:=by
 refine List.ext_getElem (by simp [trL]) fun i h1 h2=>?_
 have hi:i<O.length:=by simpa using h2
 simp only [trL,List.getElem_map,List.getElem_range,Ft,List.map_map]
 refine List.map_congr_left fun r _=>?_
 show Bf (O.map fun j=>Bf r j.toNat) i=Bf r O[i].toNat
 rw [Bf,List.getD_eq_getElem?_getD,List.getElem?_map,List.getElem?_eq_getElem hi];rfl
abbrev wiP (p m:Nat) (md:List Int) (n:Nat) (gen:List (List Int)) (hs:List Int):List (List Int):=wiL (Ad (fA p m)) (Ad (fM p (Ax m md))) (Cz p m) (Hn p m md) n gen (hs.map fun j=>Ft gen j.toNat)
theorem Wc {p m n:Nat}{md:List Int}{rows:List (List Int)}(K:Fok p m md) (hM:Cw (p ^ m) n rows):(Dh p m md n rows).1.length=(Dh p m md n rows).2.length∧(Dh p m md n rows).2.length≤n:=by
 have O:=C1 K
 have h1:Red (p ^ m) n (Dh p m md n rows).1 (Dh p m md n rows).2:=(O.cn hM).1
 exact ⟨O.cn_len hM,h1.piv_le⟩
theorem AIZ {p m n:Nat}{md:List Int}{rows:List (List Int)}(K:Fok p m md) (hM:Cw (p ^ m) n rows):(Li p m md n rows).length≤n:=by
 have O:=C1 K
 have h1:Cw (p ^ m) n (nvL (Cz p m) n (Dh p m md n rows)):=O.nv_mat (O.cn hM).1
 obtain ⟨h2,h3⟩:=Wc K h1
 show (Dh p m md n (nvL (Cz p m) n (Dh p m md n rows))).1.length≤n
 omega
theorem Rq {p m n c nm cm N ns cs':Nat}{pm ps pt:Option Addr}{md set:List Int}{rows:List (List Int)}(CC:Cok p m md N rows) (hst:Yk N set) :
  Bt Tryz.prog 61 [.agg #[.int .i64 p,.int .i64 m,.slice pm nm cm],.agg #[.int .i64 N,.slice ps n c],.slice pt ns cs'] [] [Ap Ai pm nm cm md,Ap (Aj Ai) ps n c rows,Ap Ai pt ns cs' set]
   (fun v Φ β=>∃ (pb:Option Addr) (cb:Nat),v = .tuple #[.agg #[.int .i64 N,.slice pb (wiP p m md N rows (Co N [set])).length cb],.int .i64 0]∧Φ=[Ap (Aj Ai) pb (wiP p m md N rows (Co N [set])).length cb (wiP p m md N rows (Co N [set]))]∧β=[]):=by
 refine Ab (F:=V0) rfl fun C=>?_
 have K:=CC.K
 have O:=C1 K
 have hq:=K.q
 have hN:N≤256:=by have:=CC.n64;omega
 have hl:rows.length≤256:=by have:=CC.len;omega
 have hM:=CC.mat
 refine Ba 1 rfl fun hn hb _=>?_
 subst hn
 refine Ba 2 rfl fun hn hb2 _=>?_
 subst hn
 have hb':rows.length*24≤140737488355328:=hb
 have hb2':set.length*8≤140737488355328:=hb2
 have D9:=fun {pm ps:Option Addr}{nm cm n c:Nat}=>Kj (pm:=pm) (nm:=nm) (cm:=cm) (ps:=ps) (n:=n) (c:=c) (rows:=rows) K hN hl hM CC.can
 refine wk 22 (ct @D9 cz) ?_
 intro b1 b2 b3 b4 pg1 cg1 pe1 ce1 pl1 cl1 pp1 cp1 b5 h1
 refine Ah (X:=Nat) [2,3,4,6,30,31] [0,1,2,3,4,5,6,7] (fun i=>[(32,.int .i64 (i:Int))]) (fun _=>_) (fun _=>[]) (fun i=>i≤set.length) (fun i=>set.length-i) 0 [] rfl rfl rfl (Nat.zero_le _) (by repeat (first|exact Fr.sub_nil _|refine Fr.sub_cons rfl ?_)) rfl rfl ?_
 rintro i hi ih
 simp only [List.cons_append,List.nil_append] at hi ih ⊢
 by_cases h9:i<set.length
 ·obtain ⟨x,at_x⟩:∃ x,set[i]?=some x:=⟨_,List.getElem?_eq_getElem h9⟩
  obtain ⟨⟨x0,x1⟩,x2⟩:=ABN.1 hst i h9 x at_x
  rcases Nat.eq_zero_or_pos i with hi0|hi0
  ·subst hi0
   refine wk 21 cz ?_
   intro h2 b6 o1 hz1 _ r1 r2 h3
   refine By (t:=45) rfl (fun h4=>by exfalso;omega) (fun h4=>?_)
   refine wk 6 cz ?_
   exact tw (ih 1 (by omega) (by omega))
  ·obtain ⟨k,rfl⟩:∃ k,i=k+1:=⟨i-1,by omega⟩
   obtain ⟨y,at_y⟩:∃ y,set[k]?=some y:=⟨_,List.getElem?_eq_getElem (by omega)⟩
   have hxy:=x2 y (by omega) at_y
   refine Am [_,_,_,_,_] rfl ?_
   refine Ae it 1 rfl (by simp) ?_
   refine Am [_,_,_,_,_] rfl ?_
   refine Lc rfl rfl (fun h2=>?_) (fun h2=>by exfalso;omega)
   refine Am [_,_,_,_,_,_,_] rfl ?_
   refine Ae it 1 rfl (by simp) ?_
   refine Aa rfl (Iw 7 (k+1) rfl rfl rfl Ce rfl (by omega) fun z1 hz1 b6 o1=>?_)
   obtain rfl:_=z1:=Option.some.inj (at_x.symm.trans hz1)
   refine Aa rfl (Av 0 rfl rfl Ci fun ⟨r1,r2⟩=>?_)
   refine Ae it 2 rfl (by simp) ?_
   refine Am [_,_,_,_,_,_,_] rfl ?_
   refine Ae it 3 rfl (by simp) ?_
   refine By (t:=39) rfl (fun h3=>by exfalso;omega) (fun h3=>?_)
   refine Ae it 1 rfl (by simp) ?_
   refine Bp rfl rfl (Aq rfl I4 ?_)
   refine Bp rfl rfl (Bm 2 rfl rfl Ci rfl ?_)
   refine Ae it 3 rfl (by simp) ?_
   refine By (t:=45) rfl (fun h4=>by exfalso;omega) (fun h4=>?_)
   refine Ae it 3 rfl (by simp) ?_
   refine By (t:=48) rfl (fun h5=>?_) (fun h5=>by exfalso;omega)
   refine Ae it 4 rfl ⟨⟨by omega,by omega⟩,trivial,trivial,trivial,trivial⟩ ?_
   refine Bp rfl rfl (Iw 8 ((k+1)-1) rfl rfl rfl Ce (by omega) (by omega) fun z1 hz2 b7 o2=>?_)
   obtain rfl:_=z1:=Option.some.inj (at_y.symm.trans hz2)
   refine Bp rfl rfl (Av 0 rfl rfl Ci fun ⟨r3,r4⟩=>?_)
   refine Ae it 3 rfl (by simp) ?_
   refine Am [_,_,_,_,_,_] rfl ?_
   refine Lc rfl rfl (fun h6=>by exfalso;omega) (fun h6=>?_)
   refine Am [_,_,_,_] rfl ?_
   refine Ae it 2 rfl ⟨trivial,⟨by omega,by omega⟩,trivial⟩ ?_
   refine Xx 1 [.lp (pL 116),.blk 0,.c [1,1,1]] rfl ?_
   exact tw (ih (k+2) (by omega) (by omega))
 ·clear ih
  have hle:=fun k=>ADt k [set]
  have hos:=ABc
  refine wk 11 cz ?_
  intro h2
  refine F3 Ai 3 ?_
  refine Ah (X:=Nat×Row) [2,3,4,6,61] [0,1,2,3,4,5,6,7,8] (fun x=>[(62,.int .i64 (x.1:Int)),(12,.slice (ad x.2.bo) (Co x.1 [set]).length x.2.cap)]) (fun x=>(x.2.bo,3,x.2.cs)::_) (fun x=>[A7 Ai x.2 (Co x.1 [set]).length (Co x.1 [set])]) (fun x=>x.1≤N) (fun x=>N-x.1) (0,⟨none,0,[]⟩) [0] rfl rfl rfl (Nat.zero_le _) (by repeat (first|exact Fr.sub_nil _|refine Fr.sub_cons rfl ?_)) rfl rfl ?_
  rintro ⟨k,r⟩ hk ih
  simp only [List.cons_append,List.nil_append] at hk ih ⊢
  by_cases h9:k<N
  ·have hk1:=hle k
   have ih':=fun r=>ih (k+1,r)
   simp only [hos] at ih'
   have hB:Rd [set] k=!decide ((k:Int)∈set):=by simp [Rd]
   by_cases hm:(k:Int)∈set
   ·have hd:decide ((k:Int)∈set)=true:=decide_eq_true hm
    rw [hB,hd,Bool.not_true,if_neg (by simp),List.append_nil] at ih'
    refine wk 15 (ct @Ck cz) ?_
    intro h3
    exact tw (ih' r (by omega) (by omega))
   ·have hd:decide ((k:Int)∈set)=false:=decide_eq_false hm
    rw [hB,hd,Bool.not_false,if_pos rfl] at ih'
    simp only [List.length_append,List.length_singleton] at ih'
    refine wk 15 (ct @Ck cz) ?_
    intro h3 b6
    refine Aa rfl (Ga (z:=(↑k:Int)) 1 0 0 rfl rfl rfl rfl rfl Ce Ep rfl (fun w A hG=>(Dq (by first|(simp only [Bv];omega)|(simp [Bv];done)))) (by omega) _ Hu (by omega) fun r1=>?_)
    refine wk 4 cz ?_
    refine Kx [true,false,true,true,true,true] [0,2,3,4,5,6,7,8,9,10] (by exact Uy rfl) rfl rfl (ih' r1 (by omega) (by omega))
  ·obtain rfl:k=N:=by omega
   clear ih
   have hk1:=hle k
   have hot:∀ x∈Co k [set],0≤x∧x<(k:Int):=fun x hx=>(N5.1 hx).1
   generalize Co k [set]=T at *
   refine D2 0 0 rfl rfl (by show T.length*8≤140737488355328;omega) ?_
   have Jj:=fun {pm ps pt:Option Addr}{nm cm n c ns cs':Nat}=>Ky (pm:=pm) (nm:=nm) (cm:=cm) (ps:=ps) (n:=n) (c:=c) (pt:=pt) (ns:=ns) (cs':=cs') (rows:=rows) (set:=T) K hN hl hM (by omega) hot
   have hq0:0<p ^ m:=by have:=O.q2;omega
   have hM1:Cw (p ^ m) T.length (rows.map fun r=>T.map fun j=>Bf r j.toNat):=fun r hr=>by
    obtain ⟨u,hu,rfl⟩:=List.mem_map.1 hr
    refine ⟨List.length_map _,fun x hx=>?_⟩
    obtain ⟨j,_,rfl⟩:=List.mem_map.1 hx
    exact Bh hq0 (hM u hu) _
   have L8:=fun {pm ps:Option Addr}{nm cm n c:Nat}=>Qv (pm:=pm) (nm:=nm) (cm:=cm) (ps:=ps) (n:=n) (c:=c) (rows:=rows.map fun r=>T.map fun j=>Bf r j.toNat) (N:=T.length) K (by omega) (by rw [List.length_map];exact hl) hM1
   simp only [AJC,List.length_map] at L8
   have hM2:Cw (p ^ m) rows.length (T.map fun j=>Ft rows j.toNat):=fun r hr=>by
    obtain ⟨j,_,rfl⟩:=List.mem_map.1 hr
    exact Jt hq0 hM _
   have En:=fun {pm ps:Option Addr}{nm cm n c:Nat}=>Ii (pm:=pm) (nm:=nm) (cm:=cm) (ps:=ps) (n:=n) (c:=c) (rows:=T.map fun j=>Ft rows j.toNat) (N:=rows.length) K hl (by rw [List.length_map];omega) hM2
   have hM3:Cw (p ^ m) rows.length (Li p m md rows.length (T.map fun j=>Ft rows j.toNat)):=(O.nu hM2).1
   have hl3:(Li p m md rows.length (T.map fun j=>Ft rows j.toNat)).length≤256:=by
    have:=AIZ K hM2
    omega
   have hW:woL (Ad (fA p m)) (Ad (fM p (Ax m md))) (Cz p m) (Hn p m md) k rows (T.map fun j=>Ft rows j.toNat)=(Li p m md rows.length (T.map fun j=>Ft rows j.toNat)).map fun x=>cbP p m md k x rows:=rfl
   have hM4:=O.wo_mat (n:=k) hM hM2
   have hlen4:=(Wc K hM4).1
   rw [show wiP p m md k rows T=(Dh p m md k (woL (Ad (fA p m)) (Ad (fM p (Ax m md))) (Cz p m) (Hn p m md) k rows (T.map fun j=>Ft rows j.toNat))).1 from rfl,hlen4]
   have hM4':Cw (p ^ m) k (woL (Ad (fA p m)) (Ad (fM p (Ax m md))) (Cz p m) (Hn p m md) k rows (T.map fun j=>Ft rows j.toNat)):=hM4
   have hl4:(woL (Ad (fA p m)) (Ad (fM p (Ax m md))) (Cz p m) (Hn p m md) k rows (T.map fun j=>Ft rows j.toNat)).length≤256:=by rw [hW,List.length_map];exact hl3
   have Br:=fun {pm ps:Option Addr}{nm cm n c:Nat}=>E4 (pm:=pm) (nm:=nm) (cm:=cm) (ps:=ps) (n:=n) (c:=c) K hN hl4 hM4'
   have ABY:=fun {pm ps p2:Option Addr}{nm cm n c n2 c2:Nat}=>X1 (pm:=pm) (nm:=nm) (cm:=cm) (ps:=ps) (n:=n) (c:=c) (p2:=p2) (n2:=n2) (c2:=c2) (N:=k) K hN hl hM hl3 rfl hM3
   rw [hW] at *
   have hMl:((Li p m md rows.length (T.map fun j=>Ft rows j.toNat)).map fun x=>cbP p m md k x rows).length=(Li p m md rows.length (T.map fun j=>Ft rows j.toNat)).length:=List.length_map _
   clear hW hlen4 hM4 hM4' hl4 hMl
   generalize Li p m md rows.length (T.map fun j=>Ft rows j.toNat)=U at *
   generalize (T.map fun j=>Ft rows j.toNat)=H at *
   refine wk 68 (ct @Jj (ct @L8 (ct @En (ct @ABY (ct @Br cz))))) ?_
   intro h3 pb1 cb1 b6 h4 pb2 cb2 pb3 cb3 b7 h5 pb4 cb4 b8 h6 pb5 pp2 cb5 cp2 b9
   refine Bj [0] rfl (.agg 5 rfl rfl F6 rfl (.tmp rfl .nil)) rfl ⟨_,_,rfl,rfl,rfl⟩
theorem AHU {p m:Nat}{md:List Int}(K:Fok p m md):FO (p ^ m) (Ad (fA p m)) (Ad (fM p (Ax m md))) (Cz p m) (Hn p m md):=C1 K
theorem Ou {p m nm cm:Nat}{a:Int}{pm pu:Option Addr}{nu cu:Nat}{u md:List Int}(K:Fok p m md) (a0:0≤a) (a1:a<((p ^ m:Nat):Int)) (hu:∀ x∈u,0≤x∧x<((p ^ m:Nat):Int)) :
  Bt Tryz.prog 180 [.agg #[.int .i64 p,.int .i64 m,.slice pm nm cm],.int .i64 a,.slice pu nu cu] [] [Ap Ai pm nm cm md,Ap Ai pu nu cu u] (RwI nu (Ct (Ad (fM p (Ax m md))) a u)):=by
 refine Ab (F:=Oo) rfl fun C=>?_
 refine Ba 1 rfl fun hn hb _=>?_
 subst hn
 have hb':u.length*8≤140737488355328:=hb
 have Cn:=fun {nm cm:Nat}{pm:Option Addr}{x y:Int}=>Gz (nm:=nm) (cm:=cm) (pm:=pm) (x:=x) (y:=y) K
 have hml:=fun x (h:x∈u)=>K.fi.ml a x a0 a1 (hu x h).1 (hu x h).2
 have hq:=K.q
 generalize Ad (fM p (Ax m md))=M at *
 generalize p ^ m=q at *
 refine wk 11 cz ?_
 intro b1 b2
 rw [show Ao .i64 (List.replicate u.length 0)=Al .i64 ((Ct M a u).take 0++List.replicate (u.length-0) 0) by simp [Ao,Al]]
 refine Ah (X:=Nat) [1,2,3,6,7] [0,1] (fun i=>[(8,.int .i64 (i:Int))]) (fun i=>(some b2,3,Al .i64 ((Ct M a u).take i++List.replicate (u.length-i) 0))::_) (fun _=>[]) (fun i=>i≤u.length) (fun i=>u.length-i) 0 [] rfl rfl rfl (Nat.zero_le _) (by repeat (first|exact Fr.sub_nil _|refine Fr.sub_cons rfl ?_)) rfl rfl ?_
 rintro i hi ih
 simp only [List.cons_append,List.nil_append] at hi ih ⊢
 by_cases h9:i<u.length
 ·obtain ⟨x,at_x⟩:∃ x,u[i]?=some x:=⟨_,List.getElem?_eq_getElem h9⟩
  have ex:u.getD i default=x:=by rw [List.getD_eq_getElem?_getD,at_x];rfl
  have hx:=hu x (List.mem_of_getElem? at_x)
  have hm:=hml x (List.mem_of_getElem? at_x)
  obtain ⟨hx0,hx1⟩:=hx
  have ih':=ih (i+1) (by omega) (by omega)
  have eT:(Ct M a u)[i]?=some (M a (u.getD i default)):=by rw [Ct,List.getElem?_map,at_x,ex];rfl
  rw [← take_set eT h9] at ih'
  have hln:((Ct M a u).take i++List.replicate (u.length-i) 0).length=u.length:=by simp [Ct];omega
  generalize (Ct M a u).take i++List.replicate (u.length-i) 0=L at *
  rw [← ex] at hm
  refine wk 13 (ct @Cn cz) ?_
  intro h1 b3 o1
  exact tw (ih')
 ·obtain rfl:i=u.length:=by omega
  rw [Nat.sub_self,List.replicate_zero,List.append_nil,List.take_of_length_le (by simp [Ct])]
  refine wk 9 cz ?_
  intro h1
  have hall:∀ z∈Ct M a u,Bv .i64 z:=fun z hz=>by
   obtain ⟨y,hy,rfl⟩:=List.mem_map.1 hz
   have:=hml y hy
   simp only [Bv];omega
  have hln:(Ct M a u).length=u.length:=by simp [Ct]
  generalize Ct M a u=L at *
  refine Bk 0 rfl hln.symm hall (by omega) ?_
  refine D4 2 [0] [0] rfl (.tmp rfl .nil) rfl rfl rfl ⟨⟨some b2,u.length,Al .i64 L⟩,rfl,rfl,rfl⟩
theorem N7 {p m nm cm n:Nat}{a:Int}{pm pu pv:Option Addr}{nu cu nv cv:Nat}{u v md:List Int}(K:Fok p m md) (a0:0≤a) (a1:a<((p ^ m:Nat):Int)) (hu:Wd (p ^ m) n u) (hv:Wd (p ^ m) n v) :
  Bt Tryz.prog 182 [.agg #[.int .i64 p,.int .i64 m,.slice pm nm cm],.slice pv nv cv,.int .i64 a,.slice pu nu cu] [] [Ap Ai pm nm cm md,Ap Ai pv nv cv v,Ap Ai pu nu cu u] (RwI n (Eo (Ad (fA p m)) (Ad (fM p (Ax m md))) a u v)):=by
 refine Ab (F:=O1) rfl fun C=>?_
 refine Ba 1 rfl fun hn hb _=>?_
 refine Ba 2 rfl fun hn2 hb2 _=>?_
 have hul:=hu.1
 have hvl:=hv.1
 have hb':v.length*8≤140737488355328:=hn▸hb
 rw [hvl] at hn hb'
 rw [hul] at hn2
 subst hn
 subst hn2
 have FF:=K.fi
 have Cn:=fun {nm cm:Nat}{pm:Option Addr}{x y:Int}=>Gz (nm:=nm) (cm:=cm) (pm:=pm) (x:=x) (y:=y) K
 have Gy:=fun {nm cm:Nat}{pm:Option Addr}{x y:Int}=>Jg (nm:=nm) (cm:=cm) (pm:=pm) (x:=x) (y:=y) K
 have hT:=FF.axw a0 a1 hu hv
 have hq:=K.q
 generalize Ad (fM p (Ax m md))=M at *
 generalize Ad (fA p m)=A0 at *
 generalize p ^ m=q at *
 have hTa:∀ (i:Nat) (x y:Int),u[i]?=some x→v[i]?=some y→(Eo A0 M a u v)[i]?=some (A0 y (M a x)):=fun i x y h1 h2=>by rw [Eo,List.getElem?_zipWith,h1,h2]
 generalize Eo A0 M a u v=T at *
 have hTl:=hT.1
 refine wk 11 cz ?_
 intro b1 b2
 rw [show Ao .i64 (List.replicate nu 0)=Al .i64 (T.take 0++List.replicate (nu-0) 0) by simp [Ao,Al]]
 refine Ah (X:=Nat) [1,2,3,4,8,9] [0,1,2] (fun i=>[(10,.int .i64 (i:Int))]) (fun i=>(some b2,3,Al .i64 (T.take i++List.replicate (nu-i) 0))::_) (fun _=>[]) (fun i=>i≤nu) (fun i=>nu-i) 0 [] rfl rfl rfl (Nat.zero_le _) (by repeat (first|exact Fr.sub_nil _|refine Fr.sub_cons rfl ?_)) rfl rfl ?_
 rintro i hi ih
 simp only [List.cons_append,List.nil_append] at hi ih ⊢
 by_cases h9:i<nu
 ·obtain ⟨x,at_x⟩:∃ x,u[i]?=some x:=⟨_,List.getElem?_eq_getElem (by omega)⟩
  obtain ⟨y,at_y⟩:∃ y,v[i]?=some y:=⟨_,List.getElem?_eq_getElem (by omega)⟩
  have ex:u.getD i default=x:=by rw [List.getD_eq_getElem?_getD,at_x];rfl
  have ey:v.getD i default=y:=by rw [List.getD_eq_getElem?_getD,at_y];rfl
  obtain ⟨x0,x1⟩:=hu.2 x (List.mem_of_getElem? at_x)
  obtain ⟨y0,y1⟩:=hv.2 y (List.mem_of_getElem? at_y)
  obtain ⟨m0,m1⟩:=FF.ml a x a0 a1 x0 x1
  have eT:=hTa i x y at_x at_y
  obtain ⟨t0,t1⟩:=hT.2 _ (List.mem_of_getElem? eT)
  have ih':=ih (i+1) (by omega) (by omega)
  have hln:(T.take i++List.replicate (nu-i) 0).length=nu:=by rw [List.length_append,List.length_take,List.length_replicate];omega
  by_cases h0:x=0
  ·rw [h0,FF.m0 a0 a1,FF.a0 y y0 y1] at eT
   rw [← take_set eT h9] at ih'
   generalize T.take i++List.replicate (nu-i) 0=L at *
   refine wk 9 cz ?_
   intro h1 b3 o1 hz1
   refine Aa rfl (Av 0 rfl rfl Ci fun ⟨r1,r2⟩=>?_)
   refine wk 5 cz ?_
   intro b4 o2 hz2
   refine Aa rfl (Av 0 rfl rfl Ci fun ⟨r3,r4⟩=>?_)
   refine wk 6 cz ?_
   intro h2
   exact tw (ih')
  ·rw [← ex,← ey] at eT t0 t1
   rw [← ex] at m0 m1
   rw [← take_set eT h9,← List.set_set (i:=i) (a:=y)] at ih'
   generalize T.take i++List.replicate (nu-i) 0=L at *
   refine wk 9 cz ?_
   intro h1 b3 o1 hz1
   refine Aa rfl (Av 0 rfl rfl Ci fun ⟨r1,r2⟩=>?_)
   refine wk 5 cz ?_
   intro b4 o2 hz2
   refine Aa rfl (Av 0 rfl rfl Ci fun ⟨r3,r4⟩=>?_)
   refine wk 5 (ct @Cn (ct @Gy cz)) ?_
   intro h2 b5 o3 b6 o4
   refine Aa rfl (Xr 0 rfl rfl rfl Ci (by first|omega|(simp;omega)) ?_)
   refine wk 3 cz ?_
   exact tw (ih')
 ·obtain rfl:i=nu:=by omega
  rw [Nat.sub_self,List.replicate_zero,List.append_nil,List.take_of_length_le (by omega)]
  refine wk 9 cz ?_
  intro h1
  refine Bk 0 rfl hTl.symm (fun z hz=>by have:=hT.2 z hz;simp only [Bv];omega) (by omega) ?_
  refine D4 2 [0] [0] rfl (.tmp rfl .nil) rfl rfl rfl ⟨⟨some b2,_,Al .i64 T⟩,rfl,rfl,rfl⟩
abbrev ElO (n:Nat) (E:List (List Int)×List Nat):Value→List Fact→List A4→Prop:=fun v Φ β=>∃ (r:Row) (pp:Option Addr) (cp:Nat),v = .tuple #[.slice (ad r.bo) n r.cap,.slice pp E.2.length cp]
 ∧ Φ=[A7 (Aj Ai) r n E.1,Ap Ai pp E.2.length cp (Bb E.2)]∧β=[(r.bo,22,r.cs)]
theorem K9 {p m n N W nm cm c:Nat}{pm ps:Option Addr}{rows:List (List Int)}{md:List Int}(K:Fok p m md) (hn:n≤1000000) (hNW:N≤W) (hW:W≤1000000) (hl:rows.length=n) (hM:Cw (p ^ m) W rows) :
  Bt Tryz.prog 149 [.agg #[.int .i64 p,.int .i64 m,.slice pm nm cm],.slice ps n c,.int .i64 N] [] [Ap Ai pm nm cm md,Ap (Aj Ai) ps n c rows] (ElO n (J9 p m md N 0 0 rows)):=by
 refine Ab (F:=G4) rfl fun C=>?_
 have O:=C1 K
 have hq:=K.q
 have q2:=O.q2
 subst hl
 generalize hEE:J9 p m md N 0 0 rows=EE
 have I9:=fun {ps:Option Addr}{n c:Nat}=>Ps (ps:=ps) (n:=n) (c:=c) (rows:=rows) fun r hr=>by rw [(hM r hr).1];exact hW
 have hb0:rows.length*24≤140737488355328:=by omega
 rcases Nat.eq_zero_or_pos rows.length with hn0|hn0
 ·have hr0:=List.length_eq_zero_iff.1 hn0
  subst hr0
  rw [J9,Lk _ _ _ _ (Nat.zero_le _)] at hEE
  subst hEE
  refine wk 14 (ct @I9 cz) ?_
  intro b1 r1
  refine F3 Ai 3 ?_
  refine Ah (X:=Unit) [2,3,6,7,8] [0,1,2,3] (fun _=>[(11,.int .i64 0),(10,.int .i64 0),(9,.slice none 0 0)]) (fun _=>_) (fun _=>[]) (fun _=>True) (fun _=>0) () [] rfl rfl rfl trivial (by repeat (first|exact Fr.sub_nil _|refine Fr.sub_cons rfl ?_)) rfl rfl ?_
  rintro ⟨⟩-ih
  simp only [List.cons_append,List.nil_append] at ih ⊢
  refine D2 0 0 rfl rfl (by show 0*8≤140737488355328;omega) ?_
  rcases Nat.eq_zero_or_pos N with hN0|hN0
  ·subst hN0
   refine wk 7 cz ?_
   refine D4 2 [0] [2,0] rfl (.tmp rfl (.tmp rfl .nil)) rfl rfl rfl ⟨r1,_,_,rfl,rfl,rfl⟩
  ·refine wk 14 cz ?_
   intro h1 h2
   refine D4 2 [0] [2,0] rfl (.tmp rfl (.tmp rfl .nil)) rfl rfl rfl ⟨r1,_,_,rfl,rfl,rfl⟩
 refine wk 14 (ct @I9 cz) ?_
 intro b1 r1
 refine Dt 0 rfl hn0 fun bh caph csh hr=>?_
 subst hr
 dsimp only
 refine F3 Ai 3 ?_
 refine Ah (X:=Nat×List Value×Row×List (List Int)×List Nat) [2,3,6,7,8] [2] (fun x=>[(11,.int .i64 (x.1:Int)),(10,.int .i64 (x.2.2.2.2.length:Int)),(9,.slice (ad x.2.2.1.bo) x.2.2.2.2.length x.2.2.1.cap)])
  (fun x=>(x.2.2.1.bo,3,x.2.2.1.cs)::(some bh,22,x.2.1)::_)
  (fun x=>[A7 Ai x.2.2.1 x.2.2.2.2.length (Bb x.2.2.2.2),A7 (Aj Ai) ⟨some bh,caph,x.2.1⟩ rows.length x.2.2.2.1])
  (fun x=>x.1≤N∧x.2.2.2.1.length=rows.length∧Cw (p ^ m) W x.2.2.2.1∧x.2.2.2.2.length≤rows.length∧(J9 p m md (N-x.1) x.1 x.2.2.2.2.length x.2.2.2.1).1=EE.1∧x.2.2.2.2++(J9 p m md (N-x.1) x.1 x.2.2.2.2.length x.2.2.2.1).2=EE.2) (fun x=>N-x.1)
  (0,csh,⟨none,0,[]⟩,rows,[]) [0,1] rfl rfl rfl ⟨Nat.zero_le _,rfl,hM,Nat.zero_le _,congrArg Prod.fst hEE,congrArg Prod.snd hEE⟩ (by repeat (first|exact Fr.sub_nil _|refine Fr.sub_cons rfl ?_)) rfl rfl ?_
 clear hEE
 generalize hnn:rows.length=n at *
 rintro ⟨c,ch,rp,L,pv⟩ ⟨hcN,hL,hLM,hpv,hE1,hE2⟩ ih
 simp only [List.cons_append,List.nil_append] at hcN hL hLM hpv hE1 hE2 ih ⊢
 by_cases hcl:c<N
 ·by_cases hpl:pv.length<n
  ·have hrl:∀ k,k<n→(Ar L k).length=W:=fun k hk=>(hLM.row (by omega)).1
   have hra:∀ k,k<n→L[k]?=some (Ar L k):=fun k hk=>by rw [Ar,List.getD_eq_getElem?_getD,List.getElem?_eq_getElem (by omega)];rfl
   have hre:∀ k,k<n→(Ar L k)[c]?=some (en L k c):=fun k hk=>by
    rw [en,Bf,List.getD_eq_getElem?_getD,List.getElem?_eq_getElem (by rw [hrl k hk];omega)];rfl
   have hen:∀ k,k<n→0≤en L k c∧en L k c<((p ^ m:Nat):Int):=fun k hk=>Bh (by omega) (hLM.row (by omega)) c
   refine wk 14 cz ?_
   intro h1 h2
   refine Ah (X:=Nat) [2,3,6,7,8,9,10,11,16,17,18,19,20,21,22,23,24,27] [0,1,2] (fun k=>[(12,.int .i64 (k:Int))]) (fun _=>_) (fun _=>[]) (fun k=>pv.length≤k∧k≤n∧∀ j,pv.length≤j→j<k→en L j c=0) (fun k=>n-k) pv.length [] rfl rfl rfl ⟨Nat.le_refl _,hpv,fun j h1 h2=>by omega⟩ (by repeat (first|exact Fr.sub_nil _|refine Fr.sub_cons rfl ?_)) rfl rfl ?_
   rintro k ⟨hk1,hk2,hk3⟩ ihk
   simp only [List.cons_append,List.nil_append] at hk1 hk2 hk3 ihk ⊢
   by_cases hkn:k<n
   ·have at_u:=hra k hkn
    have at_z:=hre k hkn
    have hru:=hrl k hkn
    by_cases hz0:en L k c=0
    ·rw [hz0] at at_z
     refine wk 8 cz ?_
     intro h3
     refine Bp rfl rfl (J6 1 1 (k) rfl rfl rfl E7 rfl (by omega) fun z1 hz1 pa1 ca1=>?_)
     obtain rfl:_=z1:=Option.some.inj (at_u.symm.trans hz1)
     refine wk 2 cz ?_
     intro b2 o1 hz2
     refine Bp rfl rfl (Av 0 rfl rfl Ci fun ⟨r1,r2⟩=>?_)
     refine wk 6 cz ?_
     intro h4
     exact tw (ihk (k+1) (by omega) ⟨by omega,by omega,fun j h1 h2=>by
      rcases Nat.lt_succ_iff_lt_or_eq.1 h2 with h|rfl
      ·exact hk3 j h1 h
      ·exact hz0⟩)
    ·clear ihk
     have hrt:=hra pv.length hpl
     obtain ⟨e0,e1⟩:=hen k hkn
     obtain ⟨⟨v0,v1⟩,hiv⟩:=O.iv _ e0 e1 hz0
     have hSl:(Cc L pv.length k).length=n:=by rw [Cc,List.length_set,List.length_set,hL]
     have hSW:∀ i,i<n→Wd (p ^ m) W (Ar (Cc L pv.length k) i):=fun i hi=>L0 hLM (by omega) (by omega) (by omega)
     have hSra:∀ i,i<n→(Cc L pv.length k)[i]?=some (Ar (Cc L pv.length k) i):=fun i hi=>by rw [Ar,List.getD_eq_getElem?_getD,List.getElem?_eq_getElem (by omega)];rfl
     have hSt:Ar (Cc L pv.length k) pv.length=Ar L k:=by
      rw [E0 (by omega) (by omega)]
      split
      ·rename_i e;rw [← e]
      ·rw [if_pos rfl]
     have at_v:=hSra pv.length hpl
     rw [hSt,Cc] at at_v
     have hrk:=hrl k hkn
     have ek:(Ar L k).getD c default=en L k c:=Wi at_z
     have key:∀ ch':List Value,J G4 C [It.c (pL 128159),It.blk 1,It.c (pL 2003),It.lp (pL 500),It.blk 0,It.c [1,1,1,1,1]]
       [(2,.int .i64 N),(3,.pointer (some ⟨b1,0,none⟩)),(6,.slice none 0 0),(7,.slice none 0 0),(8,.slice (ad (some bh)) n caph),(9,.slice (ad rp.bo) pv.length rp.cap),(10,.int .i64 (pv.length:Int)),(11,.int .i64 (c:Int))]
       [(rp.bo,3,rp.cs),(some bh,22,ch'),(some b1,24,[.int .i64 p,.int .i64 m,.slice pm nm cm])]
       [A7 Ai rp pv.length (Bb pv),A7 (Aj Ai) ⟨some bh,caph,ch'⟩ n ((Cc L pv.length k).set pv.length (Ct (Ad (fM p (Ax m md))) (Hn p m md (en L k c)) (Ar L k))),Ap Ai pm nm cm md] (Fg C (ElO n EE)):=by
      intro ch'
      clear at_v at_u at_z hrt hrk ek
      have hprW:Wd (p ^ m) W (Ct (Ad (fM p (Ax m md))) (Hn p m md (en L k c)) (Ar L k)):=O.scl_wd v0 v1 (hLM.row (by omega))
      have hpiv:J1 (Ad (fA p m)) (Ad (fM p (Ax m md))) (Cz p m) (Hn p m md) pv.length k c L=(List.range n).map fun i=>if i=pv.length then Ct (Ad (fM p (Ax m md))) (Hn p m md (en L k c)) (Ar L k) else Eo (Ad (fA p m)) (Ad (fM p (Ax m md))) (Cz p m (en (Cc L pv.length k) i c)) (Ct (Ad (fM p (Ax m md))) (Hn p m md (en L k c)) (Ar L k)) (Ar (Cc L pv.length k) i):=by rw [J1,hL]
      have hpM:=O.piv_wd hLM (show pv.length<L.length by omega) (show k<L.length by omega) hz0
      have hf:Hr L pv.length c=some k:=Ze hk1 (by omega) hz0 fun j h1 h2=>hk3 j h1 h2
      rw [J9,show N-c=(N-(c+1))+1 by omega,Dr,hf] at hE1 hE2
      have hE1':(J9 p m md (N-(c+1)) (c+1) (pv.length+1) (J1 (Ad (fA p m)) (Ad (fM p (Ax m md))) (Cz p m) (Hn p m md) pv.length k c L)).1=EE.1:=hE1
      have hE2':pv++c::(J9 p m md (N-(c+1)) (c+1) (pv.length+1) (J1 (Ad (fA p m)) (Ad (fM p (Ax m md))) (Cz p m) (Hn p m md) pv.length k c L)).2=EE.2:=hE2
      have hpM':Cw (p ^ m) W (J1 (Ad (fA p m)) (Ad (fM p (Ax m md))) (Cz p m) (Hn p m md) pv.length k c L):=hpM
      have hplen:(J1 (Ad (fA p m)) (Ad (fM p (Ax m md))) (Cz p m) (Hn p m md) pv.length k c L).length=n:=by rw [Hc,hL]
      clear hE1 hE2 hpM
      generalize J1 (Ad (fA p m)) (Ad (fM p (Ax m md))) (Cz p m) (Hn p m md) pv.length k c L=PV at *
      generalize Ct (Ad (fM p (Ax m md))) (Hn p m md (en L k c)) (Ar L k)=pr at *
      have hSen:∀ i,i<n→0≤en (Cc L pv.length k) i c∧en (Cc L pv.length k) i c<((p ^ m:Nat):Int):=fun i hi=>Bh (by omega) (hSW i hi) c
      have hSre:∀ i,i<n→(Ar (Cc L pv.length k) i)[c]?=some (en (Cc L pv.length k) i c):=fun i hi=>by
       rw [en,Bf,List.getD_eq_getElem?_getD,List.getElem?_eq_getElem (by rw [(hSW i hi).1];omega)];rfl
      clear hSt hre hen hra hrl hf hz0 e0 e1 hiv v0 v1 hk3 hLM
      generalize Cc L pv.length k=S at *
      let CL:Nat→List (List Int):=fun i=>(List.range n).map fun j=>if j=pv.length then pr else if j<i then Eo (Ad (fA p m)) (Ad (fM p (Ax m md))) (Cz p m (en S j c)) pr (Ar S j) else Ar S j
      have hCl:∀ i,(CL i).length=n:=fun i=>by simp [CL]
      have hCa:∀ i j,j<n→(CL i)[j]?=some (if j=pv.length then pr else if j<i then Eo (Ad (fA p m)) (Ad (fM p (Ax m md))) (Cz p m (en S j c)) pr (Ar S j) else Ar S j):=fun i j hj=>by
       show ((List.range n).map _)[j]?=_
       rw [List.getElem?_map,List.getElem?_range hj];rfl
      have hC0:S.set pv.length pr=CL 0:=by
       refine List.ext_getElem? fun j=>?_
       by_cases hj:j<n
       ·rw [hCa 0 j hj,List.getElem?_set]
        by_cases e:pv.length=j
        ·rw [if_pos e,if_pos (by omega),if_pos e.symm]
        ·rw [if_neg e,if_neg (fun h=>e h.symm),if_neg (by omega),hSra j hj]
       ·rw [List.getElem?_eq_none (by rw [List.length_set];omega),List.getElem?_eq_none (by rw [hCl];omega)]
      have hCn:CL n=PV:=by
       rw [hpiv]
       refine List.map_congr_left fun j hj=>?_
       have:=List.mem_range.1 hj
       by_cases e:j=pv.length
       ·rw [if_pos e,if_pos e]
       ·rw [if_neg e,if_neg e,if_pos this]
      have hCt:∀ i,(CL i)[pv.length]?=some pr:=fun i=>by rw [hCa i _ hpl,if_pos rfl]
      have hCi:∀ i,i<n→i≠pv.length→(CL i)[i]?=some (Ar S i):=fun i hi e=>by rw [hCa i i hi,if_neg e,if_neg (Nat.lt_irrefl i)]
      have hCsame:∀ i,i<n→(i=pv.length∨en S i c=0)→CL (i+1)=CL i:=fun i hi h=>by
       refine List.map_congr_left fun j hj=>?_
       have hjn:=List.mem_range.1 hj
       by_cases e:j=pv.length
       ·rw [if_pos e,if_pos e]
       ·rw [if_neg e,if_neg e]
        by_cases e2:j<i
        ·rw [if_pos e2,if_pos (by omega)]
        ·rw [if_neg e2]
         by_cases e3:j=i
         ·subst e3
          rcases h with h|h
          ·exact absurd h e
          ·have n0:Cz p m 0=0:=O.n0
           rw [if_pos (by omega),h,n0,ADV O.fi hprW (hSW j hjn)]
         ·rw [if_neg (by omega)]
      have hCset:∀ i,i<n→i≠pv.length→CL (i+1)=(CL i).set i (Eo (Ad (fA p m)) (Ad (fM p (Ax m md))) (Cz p m (en S i c)) pr (Ar S i)):=fun i hi e=>by
       refine List.ext_getElem? fun j=>?_
       by_cases hj:j<n
       ·rw [hCa _ j hj,List.getElem?_set]
        by_cases e2:i=j
        ·subst e2
         rw [if_neg e,if_pos (Nat.lt_succ_self i),if_pos rfl,if_pos (by rw [hCl];exact hi)]
        ·rw [if_neg e2,hCa i j hj]
         by_cases e3:j=pv.length
         ·rw [if_pos e3,if_pos e3]
         ·rw [if_neg e3,if_neg e3]
          by_cases e4:j<i
          ·rw [if_pos e4,if_pos (by omega)]
          ·rw [if_neg e4,if_neg (by omega)]
       ·rw [List.getElem?_eq_none (by rw [hCl];omega),List.getElem?_eq_none (by rw [List.length_set,hCl];omega)]
      clear_value CL
      rw [hC0]
      refine wk 3 cz ?_
      refine Ah (X:=Nat×List Value) [2,3,6,7,8,9,10,11] [0,1,2] (fun x=>[(13,.int .i64 (x.1:Int))]) (fun x=>(rp.bo,3,rp.cs)::(some bh,22,x.2)::_) (fun x=>[A7 (Aj Ai) ⟨some bh,caph,x.2⟩ n (CL x.1)]) (fun x=>x.1≤n) (fun x=>n-x.1) (0,ch') [1] rfl rfl rfl (Nat.zero_le _) (by repeat (first|exact Fr.sub_nil _|refine Fr.sub_cons rfl ?_)) rfl rfl ?_
      rintro ⟨i,ch2⟩ hi ihi
      simp only [List.cons_append,List.nil_append] at hi ihi ⊢
      by_cases hin:i<n
      ·by_cases hit:i=pv.length
       ·have ih':=fun ch=>ihi (i+1,ch) (by dsimp only;omega) (by dsimp only;omega)
        simp only [hCsame i hin (.inl hit)] at ih'
        refine wk 18 cz ?_
        intro h3 h4
        exact tw (ih' ch2)
       ·have at_w:=hCi i hin hit
        have at_x:=hSre i hin
        have hwl:=(hSW i hin).1
        by_cases hx0:en S i c=0
        ·have ih':=fun ch=>ihi (i+1,ch) (by dsimp only;omega) (by dsimp only;omega)
         simp only [hCsame i hin (.inr hx0)] at ih'
         refine wk 14 cz ?_
         intro h3 h4
         refine Bp rfl rfl (J6 1 0 (i) rfl rfl rfl E7 rfl (by omega) fun z1 hz1 pa1 ca1=>?_)
         obtain rfl:_=z1:=Option.some.inj (at_w.symm.trans hz1)
         refine wk 2 cz ?_
         intro b2 o1 hz2
         refine Bp rfl rfl (Av 0 rfl rfl Ci fun ⟨r1,r2⟩=>?_)
         refine wk 6 cz ?_
         intro h5
         exact tw (ih' ch2)
        ·have ih':=fun ch=>ihi (i+1,ch) (by dsimp only;omega) (by dsimp only;omega)
         simp only [hCset i hin hit] at ih'
         have at_p:=hCt i
         have ex:(Ar S i).getD c default=en S i c:=Wi at_x
         obtain ⟨x0,x1⟩:=hSen i hin
         obtain ⟨⟨g0,g1⟩,-⟩:=O.ng _ x0 x1
         have hneg:0≤((nP p m ((Ar S i).getD c default).toNat:Nat):Int)∧((nP p m ((Ar S i).getD c default).toNat:Nat):Int)<((p ^ m:Nat):Int):=by rw [ex];exact ⟨g0,g1⟩
         have Rb:=fun {nm cm:Nat}{pm:Option Addr}{x:Int}=>Q2 (nm:=nm) (cm:=cm) (pm:=pm) (x:=x) K
         have N3:=fun {nm cm nu cu nv cv:Nat}{pm pu pv:Option Addr}{a:Int}(a0:0≤a) (a1:a<((p ^ m:Nat):Int))=>(N7 (nm:=nm) (cm:=cm) (pm:=pm) (pu:=pu) (nu:=nu) (cu:=cu) (pv:=pv) (nv:=nv) (cv:=cv) (a:=a) K a0 a1 hprW (hSW i hin)).pubR (by show W*8≤140737488355328;omega)
         refine wk 14 cz ?_
         intro h3 h4
         refine Bp rfl rfl (J6 1 0 (i) rfl rfl rfl E7 rfl (by omega) fun z1 hz1 pa1 ca1=>?_)
         obtain rfl:_=z1:=Option.some.inj (at_w.symm.trans hz1)
         refine wk 2 cz ?_
         intro b2 o1 hz2
         refine Bp rfl rfl (Av 0 rfl rfl Ci fun ⟨r1,r2⟩=>?_)
         refine wk 5 (ct @Rb (ct @N3 cz)) ?_
         intro h5 pa2 ca2 pa3 ca3 b3 o2 pa4 ca4 pa5 ca5
         refine Aa rfl (G7 (vs:=[Value.slice pa5 W ca5]) (z:=Eo (Ad (fA p m)) (Ad (fM p (Ax m md))) (↑(nP p m ((Ar S i).getD c default).toNat)) pr (Ar S i)) 1 7 (i) rfl rfl rfl rfl rfl E7 (Nat.mul_one _).symm (by omega) (fun w A hG=>(A2 (hG _ (Af (n:=0) rfl)))) fun cs1=>?_)
         refine wk 3 cz ?_
         rw [ex]
         exact tw (ih' cs1)
      ·obtain rfl:i=n:=by omega
       rw [hCn]
       clear ihi hC0 hCn hCt hCi hCsame hCset hCa hCl
       refine wk 9 cz ?_
       intro h3 b2
       refine Aa rfl (Ga (z:=(↑c:Int)) 1 0 1 rfl rfl rfl rfl rfl Ce Ep rfl (fun w A hG=>(Dq (by first|(simp only [Bv];omega)|(simp [Bv];done)))) (by omega) _ Hu (by omega) fun r1=>?_)
       refine wk 6 cz ?_
       have ih':=fun ch rp=>ih (c+1,ch,rp,PV,pv++[c]) (by dsimp only;omega) ⟨by dsimp only;omega,hplen,hpM',by rw [List.length_append,List.length_singleton];omega,by rw [List.length_append,List.length_singleton];exact hE1',by rw [List.length_append,List.length_singleton,List.append_assoc];exact hE2'⟩
       have et:Bb (pv++[c])=Bb pv++[(c:Int)]:=by simp [Bb]
       simp only [et,List.length_append,List.length_singleton] at ih'
       refine Kx [true,false,true,true] [0,1,4] (by exact Uy rfl) rfl rfl (ih' ch2 r1)
     by_cases h1:en L k c=1
     ·have hV:Hn p m md (en L k c)=1:=by
       rw [h1] at hiv v0 v1 ⊢
       have v0':0≤Hn p m md 1:=v0
       have v1':Hn p m md 1<((p ^ m:Nat):Int):=v1
       have h2:Ad (fM p (Ax m md)) 1 (Hn p m md 1)=1:=hiv
       rw [O.fi.mc 1 _ (by omega) (by omega) v0' v1',O.fi.m1 _ v0' v1'] at h2
       exact h2
      have hs1:(Cc L pv.length k).set pv.length (Ct (Ad (fM p (Ax m md))) (Hn p m md (en L k c)) (Ar L k))=(L.set pv.length (Ar L k)).set k (Ar L pv.length):=by
       rw [hV,AEQ O.fi (hLM.row (by omega))]
       obtain ⟨h2,h3⟩:=List.getElem?_eq_some_iff.1 at_v
       refine List.ext_getElem? fun j=>?_
       rw [List.getElem?_set]
       by_cases e:pv.length=j
       ·subst e
        rw [if_pos rfl,if_pos (by rw [hSl];exact hpl),at_v]
       ·rw [if_neg e];rfl
      rw [hs1] at key
      refine wk 8 cz ?_
      intro h3
      refine Bp rfl rfl (J6 1 1 (k) rfl rfl rfl E7 rfl (by omega) fun z1 hz1 pa1 ca1=>?_)
      obtain rfl:_=z1:=Option.some.inj (at_u.symm.trans hz1)
      refine wk 2 cz ?_
      intro b2 o1 hz2
      refine Bp rfl rfl (Av 0 rfl rfl Ci fun ⟨r1,r2⟩=>?_)
      refine wk 10 cz ?_
      intro h4 h5
      (apply Fz (x0:=none) it mx 0 13 [2,3] 1;(· rfl);(· rfl);(· rfl);(· decide))
      simp only [List.drop_zero]
      (apply A3 6;(· rfl);(· simp))
      (apply Ac;(· rfl);(· exact Cg fun _=>Be (k) (k) rfl rfl D5 rfl (by omega) (Nat.mul_one _) An))
      (apply Ih;(· rfl);(· exact Sm 1 3 (k) rfl rfl rfl E7 rfl (by assumption));intro pa2 ca2)
      (apply A3 2;(· rfl);(· simp))
      (apply Ac;(· rfl);(· exact Cg fun _=>Be (pv.length) (pv.length) rfl rfl D5 rfl (by omega) (Nat.mul_one _) An))
      (apply Ih;(· rfl);(· exact Sm 1 3 (pv.length) rfl rfl rfl E7 rfl (by assumption));intro pa3 ca3)
      (apply Ac;(· rfl);(· exact Cg fun _=>Be (pv.length) (pv.length) rfl rfl D5 rfl (by omega) (Nat.mul_one _) An))
      refine Fo rfl ?_
      (rotate_left;rfl;rotate_right)
      simp only [List.map_cons,List.map_nil,List.cons_append,List.nil_append]
      refine Gr it rfl rfl ⟨⟨_,_,_,_,rfl,rfl,rfl,rfl,rfl,rfl,(by first|trivial|(repeat' first|exact trivial|apply And.intro|omega))⟩,⟨⟨_,_,_,_,rfl,rfl,rfl,rfl,rfl,rfl,(by first|trivial|(repeat' first|exact trivial|apply And.intro|omega))⟩,trivial⟩⟩ (G7 (vs:=[Value.slice pa2 (Ar L k).length ca2]) (z:=Ar L k) 1 5 (pv.length) rfl rfl rfl rfl rfl E7 (Nat.mul_one _).symm (by omega) (fun w A hG=>(A2 (hG _ (Af (n:=1) rfl)))) fun cs1=>?_)
      refine Ib it ⟨⟨_,_,_,_,rfl,rfl,rfl,rfl,rfl,rfl,(by first|trivial|(repeat' first|exact trivial|apply And.intro|omega))⟩,⟨⟨_,_,_,_,rfl,rfl,rfl,rfl,rfl,rfl,(by first|trivial|(repeat' first|exact trivial|apply And.intro|omega))⟩,trivial⟩⟩ ?_
      refine wk 1 cz ?_
      refine Aa rfl (G7 (vs:=[Value.slice pa3 (Ar L pv.length).length ca3]) (z:=Ar L pv.length) 1 0 (k) rfl rfl rfl rfl rfl E7 (Nat.mul_one _).symm (by omega) (fun w A hG=>(A2 (hG _ (Af (n:=1) rfl)))) fun cs2=>?_)
      refine wk 3 cz ?_
      refine Aa rfl (J6 1 0 (pv.length) rfl rfl rfl E7 rfl (by omega) fun z1 hz3 pa4 ca4=>?_)
      obtain rfl:_=z1:=Option.some.inj (at_v.symm.trans hz3)
      refine wk 2 cz ?_
      intro b3 o2 hz4
      refine Aa rfl (Av 0 rfl rfl Ci fun ⟨r3,r4⟩=>?_)
      refine wk 3 cz ?_
      intro h6
      refine Xx 1 [.c (pL 128159),.blk 1,.c (pL 2003),.lp (pL 500),.blk 0,.c [1,1,1,1,1]] rfl ?_
      exact tw (key cs2)
     ·have Ra:=fun {nm cm:Nat}{pm:Option Addr}{x:Int}=>Qu (nm:=nm) (cm:=cm) (pm:=pm) (x:=x) K
      have O7:=fun {nm cm cu:Nat}{pm pu:Option Addr}{a:Int}(a0:0≤a) (a1:a<((p ^ m:Nat):Int))=>(Ou (nm:=nm) (cm:=cm) (pm:=pm) (pu:=pu) (nu:=(Ar L k).length) (cu:=cu) (a:=a) (u:=Ar L k) K a0 a1 (hLM.row (by omega)).2).pubR (by show (Ar L k).length*8≤140737488355328;omega)
      have hiv2:0≤((iF (p ^ m) (fM p (Ax m md)) ((Ar L k).getD c default).toNat:Nat):Int)∧((iF (p ^ m) (fM p (Ax m md)) ((Ar L k).getD c default).toNat:Nat):Int)<((p ^ m:Nat):Int):=by rw [ek];exact ⟨v0,v1⟩
      rw [show (Cc L pv.length k).set pv.length (Ct (Ad (fM p (Ax m md))) (Hn p m md (en L k c)) (Ar L k))=((L.set pv.length (Ar L k)).set k (Ar L pv.length)).set pv.length (Ct (Ad (fM p (Ax m md))) ((iF (p ^ m) (fM p (Ax m md)) (en L k c).toNat:Nat):Int) (Ar L k)) from rfl] at key
      refine wk 8 cz ?_
      intro h3
      refine Bp rfl rfl (J6 1 1 (k) rfl rfl rfl E7 rfl (by omega) fun z1 hz1 pa1 ca1=>?_)
      obtain rfl:_=z1:=Option.some.inj (at_u.symm.trans hz1)
      refine wk 2 cz ?_
      intro b2 o1 hz2
      refine Bp rfl rfl (Av 0 rfl rfl Ci fun ⟨r1,r2⟩=>?_)
      refine wk 10 cz ?_
      intro h4 h5
      (apply Fz (x0:=none) it mx 0 13 [2,3] 1;(· rfl);(· rfl);(· rfl);(· decide))
      simp only [List.drop_zero]
      (apply A3 6;(· rfl);(· simp))
      (apply Ac;(· rfl);(· exact Cg fun _=>Be (k) (k) rfl rfl D5 rfl (by omega) (Nat.mul_one _) An))
      (apply Ih;(· rfl);(· exact Sm 1 3 (k) rfl rfl rfl E7 rfl (by assumption));intro pa2 ca2)
      (apply A3 2;(· rfl);(· simp))
      (apply Ac;(· rfl);(· exact Cg fun _=>Be (pv.length) (pv.length) rfl rfl D5 rfl (by omega) (Nat.mul_one _) An))
      (apply Ih;(· rfl);(· exact Sm 1 3 (pv.length) rfl rfl rfl E7 rfl (by assumption));intro pa3 ca3)
      (apply Ac;(· rfl);(· exact Cg fun _=>Be (pv.length) (pv.length) rfl rfl D5 rfl (by omega) (Nat.mul_one _) An))
      refine Fo rfl ?_
      (rotate_left;rfl;rotate_right)
      simp only [List.map_cons,List.map_nil,List.cons_append,List.nil_append]
      refine Gr it rfl rfl ⟨⟨_,_,_,_,rfl,rfl,rfl,rfl,rfl,rfl,(by first|trivial|(repeat' first|exact trivial|apply And.intro|omega))⟩,⟨⟨_,_,_,_,rfl,rfl,rfl,rfl,rfl,rfl,(by first|trivial|(repeat' first|exact trivial|apply And.intro|omega))⟩,trivial⟩⟩ (G7 (vs:=[Value.slice pa2 (Ar L k).length ca2]) (z:=Ar L k) 1 5 (pv.length) rfl rfl rfl rfl rfl E7 (Nat.mul_one _).symm (by omega) (fun w A hG=>(A2 (hG _ (Af (n:=1) rfl)))) fun cs1=>?_)
      refine Ib it ⟨⟨_,_,_,_,rfl,rfl,rfl,rfl,rfl,rfl,(by first|trivial|(repeat' first|exact trivial|apply And.intro|omega))⟩,⟨⟨_,_,_,_,rfl,rfl,rfl,rfl,rfl,rfl,(by first|trivial|(repeat' first|exact trivial|apply And.intro|omega))⟩,trivial⟩⟩ ?_
      refine wk 1 cz ?_
      refine Aa rfl (G7 (vs:=[Value.slice pa3 (Ar L pv.length).length ca3]) (z:=Ar L pv.length) 1 0 (k) rfl rfl rfl rfl rfl E7 (Nat.mul_one _).symm (by omega) (fun w A hG=>(A2 (hG _ (Af (n:=1) rfl)))) fun cs2=>?_)
      refine wk 3 cz ?_
      refine Aa rfl (J6 1 0 (pv.length) rfl rfl rfl E7 rfl (by omega) fun z1 hz3 pa4 ca4=>?_)
      obtain rfl:_=z1:=Option.some.inj (at_v.symm.trans hz3)
      refine wk 2 cz ?_
      intro b3 o2 hz4
      refine Aa rfl (Av 0 rfl rfl Ci fun ⟨r3,r4⟩=>?_)
      refine wk 5 (ct @Ra (ct @O7 cz)) ?_
      intro h6 pa5 ca5 b4 o3 pa6 ca6 pa7 ca7
      refine Aa rfl (G7 (vs:=[Value.slice pa7 (Ar L k).length ca7]) (z:=Ct (Ad (fM p (Ax m md))) (↑(iF (p ^ m) (fM p (Ax m md)) ((Ar L k).getD c default).toNat)) (Ar L k)) 1 6 (pv.length) rfl rfl rfl rfl rfl E7 (Nat.mul_one _).symm (by omega) (fun w A hG=>(A2 (hG _ (Af (n:=0) rfl)))) fun cs3=>?_)
      refine Xx 1 [.c (pL 128159),.blk 1,.c (pL 2003),.lp (pL 500),.blk 0,.c [1,1,1,1,1]] rfl ?_
      rw [ek]
      exact tw (key cs3)
   ·clear ihk
    obtain rfl:n=k:=by omega
    have hf:Hr L pv.length c=none:=Zp fun j h1 h2=>hk3 j h1 (by omega)
    rw [J9,show N-c=(N-(c+1))+1 by omega,Dr,hf] at hE1 hE2
    refine wk 18 cz ?_
    intro h3 h4
    exact tw (ih (c+1,ch,rp,L,pv) (by dsimp only;omega) ⟨by dsimp only;omega,hL,hLM,hpv,hE1,hE2⟩)
  ·rw [J9,Lk _ _ _ _ (by omega)] at hE1 hE2
   rw [List.append_nil] at hE2
   obtain ⟨E1,E2⟩:=EE
   obtain rfl:L=E1:=hE1
   obtain rfl:pv=E2:=hE2
   clear ih
   refine D2 0 0 rfl rfl (by show pv.length*8≤140737488355328;omega) ?_
   refine wk 14 cz ?_
   intro h1 h2
   refine D4 2 [0] [2,0] rfl (.tmp rfl (.tmp rfl .nil)) rfl rfl rfl ⟨⟨some bh,caph,ch⟩,_,_,rfl,rfl,rfl⟩
 ·obtain rfl:c=N:=by omega
  rw [Nat.sub_self,J9,Dr] at hE1 hE2
  rw [List.append_nil] at hE2
  obtain ⟨E1,E2⟩:=EE
  obtain rfl:L=E1:=hE1
  obtain rfl:pv=E2:=hE2
  clear ih
  refine D2 0 0 rfl rfl (by show pv.length*8≤140737488355328;omega) ?_
  refine wk 12 cz ?_
  intro h1
  refine D4 2 [0] [2,0] rfl (.tmp rfl (.tmp rfl .nil)) rfl rfl rfl ⟨⟨some bh,caph,ch⟩,_,_,rfl,rfl,rfl⟩
abbrev CnO (E:List (List Int)×List Nat):Value→List Fact→List A4→Prop:=fun v Φ β=>∃ (r:Row) (pp:Option Addr) (cp:Nat),v = .tuple #[.slice (ad r.bo) E.2.length r.cap,.slice pp E.2.length cp]
 ∧ Φ=[A7 (Aj Ai) r E.2.length E.1,Ap Ai pp E.2.length cp (Bb E.2)]∧β=[(r.bo,22,r.cs)]
theorem Oz {p m n N nm cm c:Nat}{pm ps:Option Addr}{rows:List (List Int)}{md:List Int}(K:Fok p m md) (hn:n≤1000000) (hN:N≤1000000) (hl:rows.length=n) (hM:Cw (p ^ m) N rows) :
  Bt Tryz.prog 105 [.agg #[.int .i64 p,.int .i64 m,.slice pm nm cm],.slice ps n c,.int .i64 N] [] [Ap Ai pm nm cm md,Ap (Aj Ai) ps n c rows] (CnO (Dh p m md N rows)):=by
 refine Ab (F:=Oi) rfl fun C=>?_
 have La:=fun {nm cm c:Nat}{pm ps:Option Addr}=>K9 (nm:=nm) (cm:=cm) (pm:=pm) (ps:=ps) (c:=c) K hn (Nat.le_refl N) hN hl hM
 have hEk:(J9 p m md N 0 0 rows).2.length≤n:=by
  have:=V9 (A:=Ad (fA p m)) (M:=Ad (fM p (Ax m md))) (N:=Cz p m) (V:=Hn p m md) N 0 0 rows (Nat.zero_le _)
  rw [Nat.zero_add,hl] at this;exact this
 show J _ _ _ _ _ _ (Fg C (CnO ((J9 p m md N 0 0 rows).1.take (J9 p m md N 0 0 rows).2.length,(J9 p m md N 0 0 rows).2)))
 generalize J9 p m md N 0 0 rows=E at *
 refine Ba 1 rfl fun hlx _ _=>?_
 refine Am [_,_] rfl ?_
 refine Aa rfl (Cv rfl fun b1=>?_)
 refine Ae it 2 rfl (by simp) ?_
 refine Am [_,_] rfl ?_
 refine Aa rfl (A1 0 rfl rfl Hy rfl ?_)
 refine Ae it 2 rfl (by simp) ?_
 refine Aa rfl (Aw [0,1] rfl (La) rfl ?_)
 rintro _ _ _ ⟨r1,pp1,cp1,rfl,rfl,rfl⟩
 simp only [List.cons_append,List.nil_append]
 refine Ae it 5 rfl (by simp) ?_
 refine Am [_,_] rfl ?_
 refine Ae it 2 rfl (by simp) ?_
 refine Aa rfl (Hf Ce rfl ?_) --ok
 refine AGN 0 rfl fun hEn=>?_
 refine Aa rfl (AAV E.2.length 0 rfl rfl rfl D5 rfl (by omega) ?_)
 refine wk 2 cz ?_
 refine D4 2 [0] [0,2] rfl (.tmp rfl (.tmp rfl .nil)) rfl rfl rfl ⟨r1,_,_,rfl,rfl,rfl⟩
theorem O3 {p m n N nm cm c:Nat}{pm ps:Option Addr}{rows:List (List Int)}{md:List Int}(K:Fok p m md) (hn:n≤1000000) (hN:N≤1000000) (hl:rows.length=n) (hM:Cw (p ^ m) N rows) :
  Bt Tryz.prog 105 [.agg #[.int .i64 p,.int .i64 m,.slice pm nm cm],.slice ps n c,.int .i64 N] [] [Ap Ai pm nm cm md,Ap (Aj Ai) ps n c rows] (CnR (Dh p m md N rows)) :=
 (Oz K hn hN hl hM).pubT (by
  have hk:=(Wc K hM).2
  show _*24≤140737488355328;omega)
open Classical in
noncomputable def sfE (P M:Int) (md:List Int) (N:Int) (rows:List (List Int)):Int:=if ¬ Wg P M md then 1 else spE P.toNat M.toNat md N rows
theorem Od {P M N e:Int}{nm cm n c:Nat}{pm ps:Option Addr}{md:List Int}{rows:List (List Int)}(hN:Bv .i64 N) (he:sfE P M md N rows=e) :
  Bt Tryz.prog 88 [.agg #[.int .i64 P,.int .i64 M,.slice pm nm cm],.agg #[.int .i64 N,.slice ps n c]] [] [Ap Ai pm nm cm md,Ap (Aj Ai) ps n c rows] (Rv (.int .i64 e) []):=by
 refine Ab (F:=O5) rfl fun C=>?_
 refine Ba 1 rfl fun hn hb _=>?_
 subst hn
 have hb':rows.length*24≤140737488355328:=hb
 have Bz:=fun {nm cm n c:Nat}{pm ps:Option Addr}=>Ob (P:=P) (M:=M) (N:=N) (md:=md) (rows:=rows) (nm:=nm) (cm:=cm) (n:=n) (c:=c) (pm:=pm) (ps:=ps) hN rfl
 rw [sfE] at he
 by_cases hc:Wg P M md
 ·rw [if_neg (fun h=>h hc)] at he
  have hk:mkE P M md N rows=Uw N rows (P.toNat ^ M.toNat):=by rw [mkE,if_neg (fun h=>h hc)]
  rw [hk] at Bz
  obtain ⟨p,m,rfl,rfl,K⟩:=ACz hc
  rw [Int.toNat_natCast,Int.toNat_natCast] at he Bz
  have hr:=S1 N rows (p ^ m)
  rw [spE] at he
  by_cases h0:Uw N rows (p ^ m)=0
  ·rw [if_neg (by omega)] at he
   rw [h0] at Bz
   obtain ⟨k,rfl,hk,hl,hM⟩:=AEF h0
   rw [Int.toNat_natCast] at he
   have Iv:=fun {nm cm c:Nat}{pm ps:Option Addr}=>O3 (nm:=nm) (cm:=cm) (pm:=pm) (ps:=ps) (c:=c) (n:=rows.length) K (by omega) (show k≤1000000 by omega) rfl hM
   by_cases hcn:(Dh p m md k rows).1=rows
   ·rw [if_pos hcn] at he
    subst he
    have hd:decide ((Dh p m md k rows).1=rows)=true:=decide_eq_true hcn
    refine wk 32 (ct @Bz (ct @Iv (ct @Dv cz))) ?_
    intro b1 b2 h1 pb1 pp1 cb1 cp1
    exact ge
   ·rw [if_neg hcn] at he
    subst he
    have hd:decide ((Dh p m md k rows).1=rows)=false:=decide_eq_false hcn
    refine wk 32 (ct @Bz (ct @Iv (ct @Dv cz))) ?_
    intro b1 b2 h1 pb1 pp1 cb1 cp1
    exact ge
  ·rw [if_pos h0] at he
   subst he
   refine wk 16 (ct @Bz cz) ?_
   intro b1 b2 h1
   exact ge
 ·rw [if_pos hc] at he
  subst he
  have hk:mkE P M md N rows=1:=by rw [mkE,if_pos hc]
  rw [hk] at Bz
  refine wk 16 (ct @Bz cz) ?_
  intro b1 b2 h1
  exact ge
theorem Ot {P M N e:Int}{pm ps:Option Addr}{nm cm n c:Nat}{md:List Int}{rows:List (List Int)}(hN:Bv .i64 N) (h:Pg P M md N rows=e) :
  Bt Tryz.prog 38 [.agg #[.int .i64 P,.int .i64 M,.slice pm nm cm,.int .i64 N,.slice ps n c]] [] [Ap Ai pm nm cm md,Ap (Aj Ai) ps n c rows] (Rv (.int .i64 e) []):=by
 refine Ab (F:=Oc) rfl fun C=>?_
 rw [Pg] at h
 by_cases hc:Wg P M md
 ·rw [if_neg (fun h=>h hc)] at h
  have A9:=fun {pm:Option Addr}{nm cm:Nat}=>Ej (P:=P) (M:=M) (md:=md) (pm:=pm) (nm:=nm) (cm:=cm) (if_pos hc).symm
  have hs:sfE P M md N rows=spE P.toNat M.toNat md N rows:=by rw [sfE,if_neg (fun h=>h hc)]
  by_cases h1:N<1
  ·rw [if_pos (.inl h1)] at h
   subst h
   refine wk 24 (ct @A9 cz) ?_
   intro b1 h2 h3
   exact ge
  ·by_cases h2:64<N
   ·rw [if_pos (.inr h2)] at h
    subst h
    refine wk 26 (ct @A9 cz) ?_
    intro b1 h3 h4 h5
    exact ge
   ·rw [if_neg (by omega),← hs] at h
    have O2:=fun {nm cm n c:Nat}{pm ps:Option Addr}=>Od (nm:=nm) (cm:=cm) (n:=n) (c:=c) (pm:=pm) (ps:=ps) hN h
    refine wk 34 (ct @A9 (ct @O2 cz)) ?_
    intro b1 h3 h4 h5
    exact ge
 ·rw [if_pos hc] at h
  subst h
  have A9:=fun {pm:Option Addr}{nm cm:Nat}=>Ej (P:=P) (M:=M) (md:=md) (pm:=pm) (nm:=nm) (cm:=cm) (if_neg hc).symm
  refine wk 15 (ct @A9 cz) ?_
  intro b1 h1
  exact ge
def sw (L:List Int) (i j:Nat):List Int:=(L.set i (Bf L j)).set j (Bf L i)
theorem gt0 {L:List Int}{i:Nat}(h:i<L.length):L[i]?=some (Bf L i):=by rw [Bf,List.getD_eq_getElem?_getD,List.getElem?_eq_getElem h];rfl
theorem AFU {L:List Int}{i:Nat}(h:i<L.length):Bf L i=L[i]:=Option.some.inj ((gt0 h).symm.trans (List.getElem?_eq_getElem h))
theorem Xv {L:List Int}{i j a:Nat}(hi:i<L.length) (hj:j<L.length):Bf (sw L i j) a=if a=j then Bf L i else if a=i then Bf L j else Bf L a:=by
 rw [sw,Bf,List.getD_eq_getElem?_getD,List.getElem?_set,List.length_set,List.getElem?_set]
 by_cases h1:j=a
 ·rw [if_pos h1,if_pos hj,if_pos h1.symm];rfl
 ·rw [if_neg h1,if_neg (show ¬ a=j from fun e=>h1 e.symm)]
  by_cases h2:i=a
  ·rw [if_pos h2,if_pos hi,if_pos h2.symm];rfl
  ·rw [if_neg h2,if_neg (show ¬ a=i from fun e=>h2 e.symm),Bf,List.getD_eq_getElem?_getD]
theorem AJB {L:List Int}{i j:Nat}(hi:i<L.length) (hj:j<L.length):(sw L i j).Perm L:=by
 rw [sw,AFU hi,AFU hj]
 exact List.set_set_perm hi hj
structure Seg (a b:Nat) (L L':List Int):Prop where
 perm:L'.Perm L
 out:∀ i,i<a∨b≤i→Bf L' i=Bf L i
 inn:∀ i,a≤i→i<b→∃ j,a≤j∧j<b∧Bf L' i=Bf L j
theorem Seg.refl {a b:Nat}{L:List Int}:Seg a b L L:=⟨.refl _,fun _ _=>rfl,fun i h1 h2=>⟨i,h1,h2,rfl⟩⟩
theorem Seg.len {a b:Nat}{L L':List Int}(h:Seg a b L L'):L'.length=L.length:=h.perm.length_eq
theorem Seg.trans {a b:Nat}{L L' M:List Int}(h:Seg a b L L') (g:Seg a b L' M):Seg a b L M :=
 ⟨g.perm.trans h.perm,fun i hi=>(g.out i hi).trans (h.out i hi),fun i h1 h2=>by
  obtain ⟨j,j1,j2,e⟩:=g.inn i h1 h2
  obtain ⟨k,k1,k2,e'⟩:=h.inn j j1 j2
  exact ⟨k,k1,k2,e.trans e'⟩⟩
theorem Seg.wide {a b a' b':Nat}{L L':List Int}(h:Seg a b L L') (ha:a'≤a) (hb:b≤b'):Seg a' b' L L' :=
 ⟨h.perm,fun i hi=>h.out i (by omega),fun i h1 h2=>by
  by_cases hi:a≤i∧i<b
  ·obtain ⟨j,j1,j2,e⟩:=h.inn i hi.1 hi.2
   exact ⟨j,by omega,by omega,e⟩
  ·exact ⟨i,h1,h2,h.out i (by omega)⟩⟩
theorem AAu {L:List Int}{a b i j:Nat}(hb:b≤L.length) (i1:a≤i) (i2:i<b) (j1:a≤j) (j2:j<b):Seg a b L (sw L i j) :=
 ⟨AJB (by omega) (by omega),fun k hk=>by rw [Xv (by omega) (by omega),if_neg (by omega),if_neg (by omega)],fun k h1 h2=>by
  rw [Xv (by omega) (by omega)]
  split
  ·exact ⟨i,i1,i2,rfl⟩
  ·split
   ·exact ⟨j,j1,j2,rfl⟩
   ·exact ⟨k,h1,h2,rfl⟩⟩
theorem Seg.inR {a b:Nat}{L L':List Int}(h:Seg a b L L') (hr:∀ x∈L,Bv .i64 x):∀ x∈L',Bv .i64 x:=fun x hx=>hr x (h.perm.mem_iff.1 hx)
theorem AHr {L:List Int}(hr:∀ x∈L,Bv .i64 x) {i:Nat}(h:i<L.length):Bv .i64 (Bf L i):=hr _ (List.mem_of_getElem? (gt0 h))
theorem Seg.all {a b:Nat}{L L':List Int}(h:Seg a b L L') {P:Int→Prop}(hp:∀ i,a≤i→i<b→P (Bf L i)):∀ i,a≤i→i<b→P (Bf L' i):=fun i h1 h2=>by
 obtain ⟨j,j1,j2,e⟩:=h.inn i h1 h2
 rw [e];exact hp j j1 j2
def Ko (L:List Int) (a b:Nat):Prop:=∀ i j,a≤i→i<j→j<b→Bf L i≤Bf L j
theorem Ko.short {L:List Int}{a b:Nat}(h:b≤a+1):Ko L a b:=fun i j h1 h2 h3=>by omega
def AEe (L:List Int) (a b:Nat):Prop:=a=0∨∀ i,a≤i→i<b→Bf L (a-1)≤Bf L i
theorem AEe.seg {a b:Nat}{L L':List Int}(h:Seg a b L L') (hl:AEe L a b):AEe L' a b:=by
 rcases hl with h0|hl
 ·exact .inl h0
 ·by_cases h0:a=0
  ·exact .inl h0
  ·refine .inr ?_
   rw [h.out (a-1) (by omega)]
   exact h.all (P:=fun x=>Bf L (a-1)≤x) hl
theorem AEe.sub {L:List Int}{a b b':Nat}(hl:AEe L a b) (hb:b'≤b):AEe L a b':=hl.imp id fun h i h1 h2=>h i h1 (by omega)
def AGU (L:List Int) (a i j:Nat):Prop:=∀ u v,a≤u→u<v→v≤i→v≠j→Bf L u≤Bf L v
theorem AHq {L:List Int}{a i j:Nat}(h:AGU L a i j) (h0:a<j) (hj:i<L.length) (hji:j≤i) (hx:Bf L j<Bf L (j-1)):AGU (sw L j (j-1)) a i (j-1):=fun u v hu huv hv hn=>by
 rw [Xv (by omega) (by omega),Xv (by omega) (by omega),if_neg hn]
 have g:=h
 by_cases hbj:v=j
 ·rw [if_pos hbj]
  by_cases ha:u=j-1
  ·rw [if_pos ha];omega
  ·rw [if_neg ha,if_neg (by omega)];exact h u (j-1) hu (by omega) (by omega) (by omega)
 ·rw [if_neg hbj]
  by_cases ha:u=j-1
  ·rw [if_pos ha];exact h j v (by omega) (by omega) hv hbj
  ·rw [if_neg ha]
   by_cases ha2:u=j
   ·rw [if_pos ha2];exact h (j-1) v (by omega) (by omega) hv hbj
   ·rw [if_neg ha2];exact h u v hu huv hv hbj
theorem ADi {L:List Int}{a i j:Nat}(h:AGU L a i j) (hja:a≤j) (hx:j=a∨¬ Bf L j<Bf L (j-1)):Ko L a (i+1):=fun u v hu huv hv=>by
 by_cases hbj:v=j
 ·subst hbj
  rcases hx with hx|hx
  ·omega
  ·by_cases ha:u=v-1
   ·subst ha;omega
   ·have:=h u (v-1) hu (by omega) (by omega) (by omega);omega
 ·exact h u v hu huv (by omega) hbj
theorem AFG {L:List Int}{a i:Nat}(h:Ko L a i):AGU L a i i:=fun u v hu huv hv hn=>h u v hu huv (by omega)
theorem AJ6 {L:List Int}{a m b:Nat}{x:Int}(h1:∀ i,a≤i→i<m→Bf L i=x) (h2:∀ i,m≤i→i<b→x≤Bf L i) (h3:Ko L m b):Ko L a b:=fun i j hi hij hj=>by
 by_cases c:i<m
 ·rw [h1 i hi c]
  by_cases c2:j<m
  ·rw [h1 j (by omega) c2];exact Int.le_refl x
  ·exact h2 j (by omega) hj
 ·exact h3 i j (by omega) hij hj
theorem Ko.out {a b c d:Nat}{L L':List Int}(h:Seg a b L L') (hs:Ko L c d) (hd:d≤a∨b≤c):Ko L' c d:=fun i j hi hij hj=>by
 rw [h.out i (by omega),h.out j (by omega)];exact hs i j hi hij hj
section
variable {q:Nat}{A M:Int→Int→Int}{N V:Int→Int}(O:FO q A M N V)
include O
theorem FO.cmb_nu {n:Nat}{R:List (List Int)}(hM:Cw q n R) {u:List Int}:Cmb q A M n (nuL A M N V n R) u↔Wd q n u∧Oy A M R u:=by
 have h1:=(O.nu hM).1
 constructor
 ·intro h
  have hw:=O.cmb_mat h1 h
  refine ⟨hw,fun r hr=>?_⟩
  have hr':=hM r hr
  rw [O.fi.dcomm hw hr']
  exact O.cmb_sol h1 hr' ((O.nu_sol hM hr').2 (O.cmb_row hM hr)) h
 ·rintro ⟨hw,hs⟩
  refine (O.dd h1 hw).1 fun x hx hxs=>?_
  rw [O.fi.dcomm hx hw]
  exact O.cmb_sol hM hw hs ((O.nu_sol hM hx).1 hxs)
theorem FO.cmb_map {n k:Nat}{f:List Int→List Int}(h0:f (zW n)=zW k) (hf:∀ (a:Int) (r u:List Int),0≤a→a<q→Wd q n r→Wd q n u→f (Eo A M a r u)=Eo A M a (f r) (f u)) {R:List (List Int)}(hM:Cw q n R) {v:List Int} :
  Cmb q A M k (R.map f) v↔∃ w,Cmb q A M n R w∧v=f w:=by
 constructor
 ·intro h
  induction h with
  | zero=>exact ⟨_,.zero,h0.symm⟩
  | @add a r u hr a0 a1 _ ih =>
   obtain ⟨w,hw,rfl⟩:=ih
   obtain ⟨s,hs,rfl⟩:=List.mem_map.1 hr
   exact ⟨_,.add hs a0 a1 hw,(hf a s w a0 a1 (hM s hs) (O.cmb_mat hM hw)).symm⟩
 ·rintro ⟨w,hw,rfl⟩
  induction hw with
  | zero=>rw [h0];exact .zero
  | @add a r u hr a0 a1 hu ih =>
   rw [hf a r u a0 a1 (hM r hr) (O.cmb_mat hM hu)]
   exact .add (List.mem_map.2 ⟨r,hr,rfl⟩) a0 a1 ih
theorem FO.cmbL_lin {n:Nat}{gen:List (List Int)}(hG:Cw q n gen):Yo A M n (zW gen.length) gen=zW n∧∀ (a:Int) (r u:List Int),0≤a→a<q→Wd q gen.length r→Wd q gen.length u→Yo A M n (Eo A M a r u) gen=Eo A M a (Yo A M n r gen) (Yo A M n u gen):=by
 have hq:=O.q2
 have F:=O.fi
 refine ⟨Gx (O.cmb_wd (O.wz _).2 hG) (O.wz n) fun j _=>?_,fun a r u a0 a1 hr hu=>Gx (O.cmb_wd (F.axw a0 a1 hr hu).2 hG) (F.axw a0 a1 (O.cmb_wd hr.2 hG) (O.cmb_wd hu.2 hG)) fun j _=>?_⟩
 ·rw [O.cmb_at (O.wz _).2 hG,L5]
  refine O.dot_zero (O.wz _) (Jt (by omega) hG j) fun e=>?_
  obtain ⟨y0,y1⟩:=Bh (by omega) (Jt (show 0<q by omega) hG j) e
  rw [L5,F.mc 0 _ (Int.le_refl 0) F.z y0 y1,F.m0 y0 y1]
 ·rw [O.cmb_at (F.axw a0 a1 hr hu).2 hG,O.axp_at a0 a1 (O.cmb_wd hr.2 hG) (O.cmb_wd hu.2 hG),O.cmb_at hr.2 hG,O.cmb_at hu.2 hG,O.dot_axp_l a0 a1 hr hu (Jt (by omega) hG j)]
theorem FO.wi_cmb {n:Nat}{gen:List (List Int)}(hG:Cw q n gen) {hs:List Nat}{u:List Int}:Cmb q A M n (wiL A M N V n gen (hs.map (Ft gen))) u↔Cmb q A M n gen u∧∀ j∈hs,Bf u j=0:=by
 have hq:=O.q2
 have hh:Cw q gen.length (hs.map (Ft gen)):=fun r hr=>by
  obtain ⟨j,_,rfl⟩:=List.mem_map.1 hr
  exact Jt (by omega) hG j
 obtain ⟨l0,l1⟩:=O.cmbL_lin hG
 rw [wiL,O.cmb_cn (O.wo_mat hG hh),woL,O.cmb_map (f:=fun x=>Yo A M n x gen) l0 l1 (O.nu hh).1]
 have hz:∀ w,Wd q gen.length w→(Oy A M (hs.map (Ft gen)) w↔∀ j∈hs,Bf (Yo A M n w gen) j=0):=fun w hw=>by
  constructor
  ·intro h j hj;rw [O.cmb_at hw.2 hG];exact h _ (List.mem_map.2 ⟨j,hj,rfl⟩)
  ·intro h r hr
   obtain ⟨j,hj,rfl⟩:=List.mem_map.1 hr
   rw [← O.cmb_at hw.2 hG];exact h j hj
 constructor
 ·rintro ⟨w,hw,rfl⟩
  obtain ⟨hw1,hw2⟩:=(O.cmb_nu hh).1 hw
  refine ⟨?_,(hz w hw1).1 hw2⟩
  exact O.cmbF_ind hG (P:=Cmb q A M n gen) (fun a r u hr a0 a1 _ h=>.add hr a0 a1 h) hw1.2 (fun r hr=>hr) (O.wz n) .zero
 ·rintro ⟨hu,h0⟩
  obtain ⟨t,ht,e⟩:=O.cmb_coef hG hu
  have eu:u=Yo A M n t gen:=Gx (O.cmb_mat hG hu) (O.cmb_wd ht.2 hG) fun j _=>by rw [O.cmb_at ht.2 hG,← e j]
  refine ⟨t,(O.cmb_nu hh).2 ⟨ht,(hz t ht).2 ?_⟩,eu⟩
  rw [← eu];exact h0
end
set_option maxRecDepth 100000
set_option linter.unusedVariables false
set_option linter.unusedSimpArgs false
abbrev Tc (w:List Int) (hs:List Int):List Int:=hs.map fun j=>Bf w j.toNat
def exI (n:Nat) (u hs:List Int):List Int:=(List.range n).map fun j:Nat=>if (j:Int)∈hs then Bf u (hs.idxOf (j:Int)) else 0
abbrev ABS (n:Nat) (p:Nat→Bool):List Int:=((List.range n).filter p).map fun i:Nat=>(i:Int)
theorem ABq {n:Nat}{p:Nat→Bool}{x:Int}:x∈ABS n p↔∃ i:Nat,i<n∧p i=true∧x=i:=by
 simp only [ABS,List.mem_map,List.mem_filter,List.mem_range]
 exact ⟨fun ⟨i,⟨h1,h2⟩,h3⟩=>⟨i,h1,h2,h3.symm⟩,fun ⟨i,h1,h2,h3⟩=>⟨i,⟨h1,h2⟩,h3.symm⟩⟩
theorem AIF {l:List Int}(hd:l.Nodup) {i:Nat}(hi:i<l.length):l.idxOf l[i]=i:=by
 have h1:l.idxOf l[i]<l.length:=List.idxOf_lt_length_iff.2 (List.getElem_mem _)
 have h2:l[l.idxOf l[i]]=l[i]:=List.getElem_idxOf h1
 exact (List.getElem_inj hd).1 h2
theorem AKq {w hs:List Int}:(Tc w hs).length=hs.length:=List.length_map _
theorem ex_wd {q n:Nat}(hq:0<q) {u hs:List Int}(hu:Wd q hs.length u):Wd q n (exI n u hs):=by
 refine ⟨by simp [exI],fun x hx=>?_⟩
 obtain ⟨j,_,rfl⟩:=List.mem_map.1 hx
 split
 ·exact Bh hq hu _
 ·omega
theorem AIb {q n:Nat}(hq:0<q) {u:List Int}(hu:Wd q n u) (hs:List Int):Wd q hs.length (Tc u hs):=⟨AKq,fun x hx=>by
 obtain ⟨j,_,rfl⟩:=List.mem_map.1 hx
 exact Bh hq hu _⟩
theorem AL7 {n:Nat}{hs:List Int}:Tc (zW n) hs=zW hs.length:=by
 refine List.ext_getElem (by simp [zW]) fun i h1 h2=>?_
 rw [List.getElem_map,L5]
 simp [zW]
section
variable {q:Nat}{A M:Int→Int→Int}{N V:Int→Int}(O:FO q A M N V)
include O
theorem FO.pk_axp {n:Nat}{a:Int}(a0:0≤a) (a1:a<q) {r u:List Int}(hr:Wd q n r) (hu:Wd q n u):∀ hs:List Int,Tc (Eo A M a r u) hs=Eo A M a (Tc r hs) (Tc u hs)
 | []=>rfl
 | j::hs=>by
  show Bf (Eo A M a r u) j.toNat::Tc (Eo A M a r u) hs=A (Bf u j.toNat) (M a (Bf r j.toNat))::Eo A M a (Tc r hs) (Tc u hs)
  rw [O.axp_at a0 a1 hr hu,FO.pk_axp a0 a1 hr hu hs]
theorem FO.pk_mat {n:Nat}{R:List (List Int)}(hM:Cw q n R) (hs:List Int):Cw q hs.length (R.map fun r=>Tc r hs):=fun r hr=>by
 obtain ⟨s,hs',rfl⟩:=List.mem_map.1 hr
 exact AIb (by have:=O.q2;omega) (hM s hs') hs
theorem FO.pk_cmb {n:Nat}{R:List (List Int)}(hM:Cw q n R) {hs v:List Int}:Cmb q A M hs.length (R.map fun r=>Tc r hs) v↔∃ w,Cmb q A M n R w∧v=Tc w hs :=
 O.cmb_map (f:=fun r=>Tc r hs) AL7 (fun _ _ _ a0 a1 hr hu=>O.pk_axp a0 a1 hr hu hs) hM
end
set_option maxRecDepth 100000
set_option linter.unusedVariables false
set_option linter.unusedSimpArgs false
section
variable {q:Nat}{A M:Int→Int→Int}{N V:Int→Int}(O:FO q A M N V)
include O
theorem FO.rp_dot {n:Nat}{x:List Int}(hx:Wd q n x):∀ {P:List Nat}{R:List (List Int)}{out:List Int},Cw q n R→Oy A M R x→Wd q n out→Dp A M x (rpF A M N P R out)=Dp A M x out
 | [],_,_,_,_,_=>rfl
 | _::_,[],_,_,_,_=>rfl
 | p::ps,r::rs,out,hM,hs,ho=>by
  have hq:=O.q2
  obtain ⟨v0,v1⟩:=Bh (by omega) ho p
  obtain ⟨⟨n0,n1⟩,_⟩:=O.ng _ v0 v1
  have hr:=hM r (.head _)
  obtain ⟨d0,d1⟩:=O.fi.dlt hx ho
  rw [rpF,FO.rp_dot hx (P:=ps) (R:=rs) (fun s h=>hM s (.tail _ h)) (fun s h=>hs s (.tail _ h)) (O.fi.axw n0 n1 hr ho),O.fi.daxp n0 n1 hx hr ho,hs r (.head _),O.fi.m0 n0 n1,O.fi.a0 _ d0 d1]
theorem FO.rests_mat {n:Nat}{R B:List (List Int)}{P:List Nat}(hM:Cw q n R) (hB:Cw q n B):Cw q n (B.map (rpF A M N P R)):=fun r hr=>by
 obtain ⟨s,hs,rfl⟩:=List.mem_map.1 hr
 exact O.rp_wd hM (hB s hs)
omit O in
theorem H8 {n:Nat}{R B:List (List Int)}(hM:Cw q n R) (hB:Cw q n B):Cw q n (R++B):=fun r hr=>(List.mem_append.1 hr).elim (hM r) (hB r)
theorem FO.sum_rests {n:Nat}{R B:List (List Int)}{P:List Nat}(hM:Cw q n R) (hB:Cw q n B):Qd A M N V n ((Qd A M N V n (B.map (rpF A M N P R))).1++R)=Qd A M N V n (R++B):=by
 have hR:=O.rests_mat (P:=P) hM hB
 refine O.cn_congr (H8 (O.cn hR).1.mat hM) (H8 hM hB) fun x hx=>?_
 rw [M4,M4,(O.cn hR).2 x hx]
 constructor
 ·rintro ⟨h1,h2⟩
  refine ⟨h2,fun r hr=>?_⟩
  rw [← O.rp_dot hx (P:=P) hM h2 (hB r hr)]
  exact h1 _ (List.mem_map.2 ⟨r,hr,rfl⟩)
 ·rintro ⟨h1,h2⟩
  refine ⟨fun r hr=>?_,h1⟩
  obtain ⟨s,hs,rfl⟩:=List.mem_map.1 hr
  rw [O.rp_dot hx (P:=P) hM h1 (hB s hs)]
  exact h2 s hs
theorem FO.nu_cn {n:Nat}{R:List (List Int)}(hM:Cw q n R):nuL A M N V n (Qd A M N V n R).1=nuL A M N V n R:=O.nu_congr (O.cn hM).1.mat hM (O.cn hM).2
theorem FO.nu_nu {n:Nat}{R:List (List Int)}(hM:Cw q n R):nuL A M N V n (nuL A M N V n R)=(Qd A M N V n R).1:=by
 have h1:=(O.nu hM).1
 have h2:=(O.nu h1).1
 have h3:=O.cn_cmb h2 hM fun u=>by
  rw [O.cmb_nu h1]
  exact ⟨fun ⟨hw,hs⟩=>(O.nu_sol hM hw).1 hs,fun hc=>⟨O.cmb_mat hM hc,(O.nu_sol hM (O.cmb_mat hM hc)).2 hc⟩⟩
 rw [← h3]
 exact (congrArg Prod.fst (O.cn_cn (O.nv_mat (O.cn h1).1))).symm
theorem FO.cn_nu {n:Nat}{R:List (List Int)}(hM:Cw q n R):Qd A M N V n (nuL A M N V n R)=Qd A M N V n (nvL N n (Qd A M N V n R)):=O.cn_cn (O.nv_mat (O.cn hM).1)
end
theorem AFo {α:Type} [DecidableEq α]:∀ {l l':List α},l.Nodup→(∀ x∈l,x∈l')→l'.length≤l.length→∀ x∈l',x∈l
 | [],l',_,_,h=>fun x hx=>by
  have:l'=[]:=List.eq_nil_of_length_eq_zero (by simpa using h)
  rw [this] at hx;cases hx
 | a::l,l',hn,hs,h=>fun x hx=>by
  obtain ⟨h1,h2⟩:=List.nodup_cons.1 hn
  have ha:=hs a (.head _)
  by_cases e:x=a
  ·rw [e];exact .head _
  ·have hl:(l'.erase a).length=l'.length-1:=List.length_erase_of_mem ha
   have:=AFo (l:=l) (l':=l'.erase a) h2 (fun y hy=>(List.mem_erase_of_ne (fun (e:y=a)=>h1 (e▸hy))).2 (hs y (.tail _ hy))) (by rw [hl];simp only [List.length_cons] at h;omega) x ((List.mem_erase_of_ne e).2 hx)
   exact .tail _ this
structure PmOk (n:Nat) (l:List Int):Prop where
 len:l.length=n
 nd:l.Nodup
 rng:∀ x∈l,0≤x∧x<(n:Int)
theorem PmOk.mem {n:Nat}{l:List Int}(h:PmOk n l) {j:Nat}(hj:j<n):(j:Int)∈l:=by
 refine AFo (l':=ABS n fun _=>true) h.nd (fun x hx=>?_) ?_ _ (ABq.2 ⟨j,hj,rfl,rfl⟩)
 ·obtain ⟨x0,x1⟩:=h.rng x hx
  exact ABq.2 ⟨x.toNat,by omega,rfl,by omega⟩
 ·rw [h.len,ABS,List.length_map];have:=List.length_filter_le (fun _=>true) (List.range n);rwa [List.length_range] at this
def AGA (n:Nat) (l:List Int):List Int:=(List.range n).map fun j:Nat=>((l.idxOf (j:Int):Nat):Int)
abbrev mvI (n:Nat) (v l:List Int):List Int:=Tc v (AGA n l)
set_option maxRecDepth 100000
set_option linter.unusedVariables false
set_option linter.unusedSimpArgs false
section
variable {q:Nat}{A M:Int→Int→Int}{N V:Int→Int}(O:FO q A M N V)
include O
theorem FO.nu_can {n:Nat}{R:List (List Int)}(hM:Cw q n R):(Qd A M N V n (nuL A M N V n R)).1=nuL A M N V n R:=by
 rw [O.cn_nu hM];rfl
omit O in
theorem PmOk.perm {n:Nat}{l:List Int}(h:PmOk n l):l.Perm ((List.range n).map fun i:Nat=>(i:Int)):=by
 refine (List.perm_ext_iff_of_nodup h.nd ?_).2 fun x=>?_
 ·rw [List.nodup_iff_pairwise_ne,List.pairwise_map]
  exact (List.nodup_iff_pairwise_ne.1 List.nodup_range).imp fun hne e=>hne (by omega)
 ·constructor
  ·intro hx
   have:=h.rng x hx
   exact List.mem_map.2 ⟨x.toNat,List.mem_range.2 (by omega),by omega⟩
  ·intro hx
   obtain ⟨i,hi,rfl⟩:=List.mem_map.1 hx
   exact h.mem (List.mem_range.1 hi)
end
set_option maxRecDepth 100000
set_option linter.unusedVariables false
set_option linter.unusedSimpArgs false
abbrev onL (n:Nat):List Int:=List.replicate n 1
section
variable {q:Nat}{A M:Int→Int→Int}{N V:Int→Int}(O:FO q A M N V)
include O
theorem FO.on_wd (n:Nat):Wd q n (onL n):=⟨by simp,fun x hx=>by rw [List.eq_of_mem_replicate hx];have:=O.q2;omega⟩
theorem FO.fold_add:∀ (r:List Int) (a:Int),0≤a→a<q→(∀ x∈r,0≤x∧x<(q:Int))→r.foldl A a=A a (r.foldl A 0)∧0≤r.foldl A 0∧r.foldl A 0<q
 | [],a,a0,a1,_=>⟨(O.fi.a0 a a0 a1).symm,Int.le_refl 0,O.fi.z⟩
 | x::r,a,a0,a1,h=>by
  have F:=O.fi
  have hx:=h x (.head _)
  have hr:∀ y∈r,0≤y∧y<(q:Int):=fun y hy=>h y (.tail _ hy)
  have h0x:A 0 x=x:=by rw [F.ac 0 x (Int.le_refl 0) F.z hx.1 hx.2,F.a0 x hx.1 hx.2]
  have hax:=F.al a x a0 a1 hx.1 hx.2
  obtain ⟨e1,b1,b2⟩:=FO.fold_add r (A a x) hax.1 hax.2 hr
  obtain ⟨e2,_,_⟩:=FO.fold_add r x hx.1 hx.2 hr
  have h2:=F.al x _ hx.1 hx.2 b1 b2
  refine ⟨?_,?_,?_⟩
  ·show r.foldl A (A a x)=A a (r.foldl A (A 0 x))
   rw [h0x,e1,e2,F.aa _ _ _ a0 a1 hx.1 hx.2 b1 b2]
  ·show 0≤r.foldl A (A 0 x)
   rw [h0x,e2];exact h2.1
  ·show r.foldl A (A 0 x)<q
   rw [h0x,e2];exact h2.2
theorem FO.sm_dot:∀ {n:Nat}{r:List Int},Wd q n r→r.foldl A 0=Dp A M r (onL n)
 | 0,[],_=>rfl
 | n+1,x::r,h=>by
  have F:=O.fi
  obtain ⟨hx,hr⟩:=P5 h
  have h0x:A 0 x=x:=by rw [F.ac 0 x (Int.le_refl 0) F.z hx.1 hx.2,F.a0 x hx.1 hx.2]
  show r.foldl A (A 0 x)=A (M x 1) (Dp A M r (onL n))
  rw [h0x,(O.fold_add r x hx.1 hx.2 hr.2).1,FO.sm_dot hr,F.m1 x hx.1 hx.2]
 | 0,_::_,h=>by have:=h.1;simp at this
 | n+1,[],h=>by have:=h.1;simp at this
def Ux (A M:Int→Int→Int) (N:Int→Int) (n:Nat) (r:List Int):List Int:=r++[N (Dp A M r (onL n))]
theorem FO.ex_wd {n:Nat}{r:List Int}(h:Wd q n r):Wd q (n+1) (Ux A M N n r):=by
 have hd:=O.fi.dlt h (O.on_wd n)
 obtain ⟨⟨n0,n1⟩,_⟩:=O.ng _ hd.1 hd.2
 refine ⟨by rw [Ux,List.length_append,h.1];rfl,fun x hx=>?_⟩
 rcases List.mem_append.1 hx with hx|hx
 ·exact h.2 x hx
 ·rw [List.mem_singleton.1 hx];exact ⟨n0,n1⟩
theorem FO.ng_lin {x y a:Int}(x0:0≤x) (x1:x<q) (y0:0≤y) (y1:y<q) (a0:0≤a) (a1:a<q):N (A x (M a y))=A (N x) (M a (N y)):=by
 have F:=O.fi
 obtain ⟨⟨nx0,nx1⟩,ex⟩:=O.ng x x0 x1
 obtain ⟨⟨ny0,ny1⟩,ey⟩:=O.ng y y0 y1
 have hm:=F.ml a y a0 a1 y0 y1
 have hm2:=F.ml a (N y) a0 a1 ny0 ny1
 have hs:=F.al _ _ x0 x1 hm.1 hm.2
 have hs2:=F.al _ _ nx0 nx1 hm2.1 hm2.2
 obtain ⟨⟨ns0,ns1⟩,es⟩:=O.ng _ hs.1 hs.2
 refine F.cancel (x:=A x (M a y)) hs.1 hs.2 ns0 ns1 hs2.1 hs2.2 ?_
 rw [es,F.swap4 x0 x1 hm.1 hm.2 nx0 nx1 hm2.1 hm2.2,ex,← F.md _ _ _ a0 a1 y0 y1 ny0 ny1,ey,F.m0 a0 a1,F.a0 0 (Int.le_refl 0) F.z]
theorem FO.ex_axp {n:Nat}{a:Int}{r u:List Int}(a0:0≤a) (a1:a<q) (hr:Wd q n r) (hu:Wd q n u):Ux A M N n (Eo A M a r u)=Eo A M a (Ux A M N n r) (Ux A M N n u):=by
 have F:=O.fi
 have d1:=F.dlt hr (O.on_wd n)
 have d2:=F.dlt hu (O.on_wd n)
 rw [Ux,O.dot_axp_l a0 a1 hr hu (O.on_wd n),O.ng_lin d2.1 d2.2 d1.1 d1.2 a0 a1,Ux,Ux,Eo,Eo,List.zipWith_append (by rw [hr.1,hu.1])]
 rfl
theorem FO.ex_zero (n:Nat):Ux A M N n (zW n)=zW (n+1):=by
 have h0:Dp A M (zW n) (onL n)=0:=O.fi.dz' (O.on_wd n)
 rw [Ux,h0,O.n0,zW,zW,List.replicate_succ']
theorem FO.ex_cmb {n:Nat}{R:List (List Int)}(hM:Cw q n R) {v:List Int}:Cmb q A M (n+1) (R.map (Ux A M N n)) v↔∃ w,Cmb q A M n R w∧v=Ux A M N n w :=
 O.cmb_map (O.ex_zero n) (fun a r u a0 a1 hr hu=>O.ex_axp a0 a1 hr hu) hM
theorem FO.ex_sum {n:Nat}{w:List Int}(hw:Wd q n w):(Ux A M N n w).foldl A 0=0:=by
 have d:=O.fi.dlt hw (O.on_wd n)
 rw [Ux,List.foldl_append,O.sm_dot hw]
 exact (O.ng _ d.1 d.2).2
omit O in
theorem AJM {n:Nat}{w:List Int}(hw:w.length=n):Bf (Ux A M N n w) n=N (Dp A M w (onL n)):=by
 rw [Bf,Ux,List.getD_eq_getElem?_getD,List.getElem?_append_right (by omega),hw,Nat.sub_self];rfl
abbrev Sr (n:Nat):List Int:=(List.range n).map fun i:Nat=>(i:Int)
omit O in
theorem AFe {n:Nat}{w:List Int}(hw:w.length=n):Tc (Ux A M N n w) (Sr n)=w:=by
 refine List.ext_getElem (by simp [Tc,hw]) fun i h1 h2=>?_
 rw [List.getElem_map,List.getElem_map,List.getElem_range,Int.toNat_natCast,Bf,Ux,List.getD_eq_getElem?_getD,List.getElem?_append_left (by omega),List.getElem?_eq_getElem h2];rfl
theorem FO.ex_pu {n:Nat}{R:List (List Int)}(hM:Cw q n R) (hc:(Qd A M N V n R).1=R) :
  (Qd A M N V n ((Qd A M N V (n+1) (R.map (Ux A M N n))).1.map fun r=>Tc r (Sr n))).1=R:=by
 have hE:Cw q (n+1) (R.map (Ux A M N n)):=fun r hr=>by
  obtain ⟨s,hs,rfl⟩:=List.mem_map.1 hr
  exact O.ex_wd (hM s hs)
 have hl:(Sr n).length=n:=by simp [Sr]
 have hC:=(O.cn hE).1.mat
 have hP:=O.pk_mat hC (Sr n)
 rw [hl] at hP
 refine (congrArg Prod.fst (O.cn_cmb hP hM fun u=>?_)).trans hc
 have h1:=O.pk_cmb hC (hs:=Sr n) (v:=u)
 rw [hl] at h1
 rw [h1]
 constructor
 ·rintro ⟨v,hv,rfl⟩
  obtain ⟨w,hw,rfl⟩:=(O.ex_cmb hM).1 ((O.cmb_cn hE).1 hv)
  rw [AFe (O.cmb_mat hM hw).1];exact hw
 ·intro hu
  exact ⟨Ux A M N n u,(O.cmb_cn hE).2 ((O.ex_cmb hM).2 ⟨u,hu,rfl⟩),(AFe (O.cmb_mat hM hu).1).symm⟩
theorem FO.ex_sh {n:Nat}{R:List (List Int)}(hM:Cw q n R) :
  (Qd A M N V n ((wiL A M N V (n+1) (Qd A M N V (n+1) (R.map (Ux A M N n))).1 ([n].map (Ft (Qd A M N V (n+1) (R.map (Ux A M N n))).1))).map fun r=>Tc r (Sr n))).1=nuL A M N V n (nuL A M N V n R++[onL n]):=by
 have hE:Cw q (n+1) (R.map (Ux A M N n)):=fun r hr=>by
  obtain ⟨s,hs,rfl⟩:=List.mem_map.1 hr
  exact O.ex_wd (hM s hs)
 have hq:=O.q2
 have hl:(Sr n).length=n:=by simp [Sr]
 have hC:=(O.cn hE).1.mat
 have hh:Cw q (Qd A M N V (n+1) (R.map (Ux A M N n))).1.length ([n].map (Ft (Qd A M N V (n+1) (R.map (Ux A M N n))).1)):=fun r hr=>by
  obtain ⟨j,_,rfl⟩:=List.mem_map.1 hr
  exact Jt (by omega) hC j
 have hW:Cw q (n+1) (wiL A M N V (n+1) (Qd A M N V (n+1) (R.map (Ux A M N n))).1 ([n].map (Ft (Qd A M N V (n+1) (R.map (Ux A M N n))).1))):=(O.wi hC hh).1
 have hP:=O.pk_mat hW (Sr n)
 rw [hl] at hP
 have hS:Cw q n (nuL A M N V n R++[onL n]):=H8 (O.nu hM).1 fun r hr=>by rw [List.mem_singleton.1 hr];exact O.on_wd n
 rw [← O.nu_can hS]
 refine congrArg Prod.fst (O.cn_cmb hP (O.nu hS).1 fun u=>?_)
 have h1:=O.pk_cmb hW (hs:=Sr n) (v:=u)
 rw [hl] at h1
 rw [h1,O.cmb_nu hS]
 constructor
 ·rintro ⟨v,hv,rfl⟩
  obtain ⟨hv,h0⟩:=(O.wi_cmb hC).1 hv
  obtain ⟨w,hw,rfl⟩:=(O.ex_cmb hM).1 ((O.cmb_cn hE).1 hv)
  have hww:=O.cmb_mat hM hw
  rw [AFe hww.1]
  have h2:=h0 n (.head _)
  rw [AJM hww.1] at h2
  have d:=O.fi.dlt hww (O.on_wd n)
  have h3:=(O.ng _ d.1 d.2).2
  rw [h2,O.fi.a0 _ d.1 d.2] at h3
  exact ⟨hww,M4.2 ⟨(O.nu_sol hM hww).2 hw,fun r hr=>by rw [List.mem_singleton.1 hr];exact h3⟩⟩
 ·rintro ⟨hu,hs⟩
  obtain ⟨h2,h3⟩:=M4.1 hs
  have hw:=(O.nu_sol hM hu).1 h2
  refine ⟨Ux A M N n u,(O.wi_cmb hC).2 ⟨(O.cmb_cn hE).2 ((O.ex_cmb hM).2 ⟨u,hw,rfl⟩),fun j hj=>?_⟩,(AFe hu.1).symm⟩
  rw [List.mem_singleton.1 hj,AJM hu.1,h3 _ (.head _),O.n0]
end
open Go Go.Fw
set_option maxRecDepth 100000
set_option linter.unusedVariables false
set_option linter.unusedSimpArgs false
set_option maxHeartbeats 0
abbrev Xc (P M N:Int) (md:List Int) (rows:List (List Int)) (e:Int):Value→List Fact→List A4→Prop:=fun v Φ β=>∃ (pb pc:Option Addr) (nb cb nc cc:Nat),v = .tuple #[.agg #[.int .i64 P,.int .i64 M,.slice pb nb cb,.int .i64 N,.slice pc nc cc],.int .i64 e]∧Φ=[Ap Ai pb nb cb md,Ap (Aj Ai) pc nc cc rows]∧β=[]
section
variable {p m n c nm cm N:Nat}{pm ps:Option Addr}{md:List Int}{rows:List (List Int)}
theorem Fok.md8 {p m:Nat}{md:List Int}(K:Fok p m md):md.length≤8:=by
 by_cases h:m=1
 ·rw [K.one h];exact Nat.zero_le _
 ·rw [K.len h];exact K.m8
theorem AEB {P M:Int}(h8:md.length≤1000):Bt Tryz.prog 136 [.agg #[.int .i64 P,.int .i64 M,.slice pm nm cm]] [] [Ap Ai pm nm cm md] (fun v Φ β=>∃ (pb:Option Addr) (nb cb:Nat),v = .agg #[.int .i64 P,.int .i64 M,.slice pb nb cb]∧Φ=[Ap Ai pb nb cb md]∧β=[]):=by
 refine Ab (F:=AEj) rfl fun C=>?_
 refine Ba 0 rfl fun hn _ _=>?_
 subst hn
 have E8:=fun {ps:Option Addr}{n cs:Nat}{l:List Int}(h:n*8≤140737488355328)=>(D6 (ps:=ps) (n:=n) (cs:=cs) (l:=l)).pubR h
 refine wk 13 (ct @E8 cz) ?_
 intro b1 b2 pa1 ca1
 refine Bj [0] rfl (.agg 0 rfl rfl Hy rfl .nil) rfl ⟨_,_,_,rfl,rfl,rfl⟩
theorem K6 {N:Int}(h8:md.length≤1000) {P M:Int}:Bt Tryz.prog 91 [.agg #[.int .i64 P,.int .i64 M,.slice pm nm cm],.agg #[.int .i64 N,.slice ps n c],.int .i64 0] [] [Ap Ai pm nm cm md,Ap (Aj Ai) ps n c rows] (Xc P M N md rows 0):=by
 refine Ab (F:=AFE) rfl fun C=>?_
 refine Ba 1 rfl fun hn _ _=>?_
 subst hn
 have AEh:=fun {pm:Option Addr}{nm cm:Nat}=>AEB (P:=P) (M:=M) (pm:=pm) (nm:=nm) (cm:=cm) (md:=md) h8
 refine wk 10 cz ?_
 intro b1 b2 b3 h1
 (apply E5 it mx 6;(· rfl);(· rfl))
 (apply Ac;(· rfl);(· exact Cy 2 rfl rfl Hy rfl))
 (apply Iz (val:=(fun g=>Value.agg #[Value.int IntKind.i64 P,Value.int IntKind.i64 M,Value.slice (g 0).fst (g 1).snd.fst (g 2).snd.fst])) (f:=(fun g=>[Ap Ai (g 0).fst (g 1).snd.fst (g 2).snd.fst md]));(· rfl);(· exact Cg fun _=>Aw [0] rfl (AEh) rfl (by rintro _ _ _ ⟨pbg0,nbg1,cbg2,rfl,rfl,rfl⟩;exact fun _ _ _ hG=>⟨(fun|0=>(pbg0,0,0,[])|1=>(none,nbg1,0,[])|2=>(none,cbg2,0,[])|_=>default),rfl,fun g hg=>Ey (hG _ (List.mem_append_left _ hg))⟩));intro g1;dsimp only [List.map_cons,List.map_nil])
 (apply Ac;(· rfl);(· exact Cg fun _=>Aq rfl I4 An))
 (apply Ac;(· rfl);(· exact Ca 1 rfl rfl Ci rfl))
 (apply Ac;(· rfl);(· exact Cg fun _=>Aq rfl Hw An))
 (apply Ac;(· rfl);(· exact Ca 1 rfl rfl H7 rfl))
 refine Et rfl ?_
 simp only [List.map_cons,List.map_nil,List.cons_append,List.nil_append]
 refine Aa rfl (Dn (cs:=[Value.int IntKind.i64 P,Value.int IntKind.i64 M,Value.slice (g1 0).fst (g1 1).snd.fst (g1 2).snd.fst,Value.int IntKind.i64 N,Value.slice ps rows.length c]) AKg O0 rfl rfl ?_)
 refine Aa rfl (A8 0 rfl rfl rfl Cs rfl rfl (by simp [Value.oneCell']) ?_)
 refine Ae it 1 rfl (by simp) ?_
 refine Am [_] rfl ?_ --ok
 refine Bj [0,2] rfl (.agg 0 rfl rfl Cs rfl (.tmp rfl .nil)) rfl ⟨_,_,_,_,_,_,rfl,rfl,rfl⟩
theorem Io (K:Fok p m md) (h1:1≤N) (hN:N≤64) (hl:rows.length≤256) (hM:Cw (p ^ m) N rows) :
  Bt Tryz.prog 66 [.agg #[.int .i64 p,.int .i64 m,.slice pm nm cm],.agg #[.int .i64 N,.slice ps n c]] [] [Ap Ai pm nm cm md,Ap (Aj Ai) ps n c rows] (Xc p m N md (Dh p m md N rows).1 0):=by
 refine Ab (F:=ADU) rfl fun C=>?_
 have h8:=K.md8
 have Br:=fun {pm ps:Option Addr}{nm cm n c:Nat}=>E4 (pm:=pm) (ps:=ps) (nm:=nm) (cm:=cm) (n:=n) (c:=c) (rows:=rows) K (show N≤256 by omega) hl hM
 have H4:=Nt (n:=(N:Int)) (if_neg (by omega))
 have Jo:=fun {pm ps:Option Addr}{nm cm n c:Nat}{rows:List (List Int)}=>K6 (P:=p) (M:=m) (N:=N) (pm:=pm) (ps:=ps) (nm:=nm) (cm:=cm) (n:=n) (c:=c) (md:=md) (rows:=rows) (by omega)
 generalize Dh p m md N rows=E at *
 refine wk 31 (ct @Br (ct @H4 (ct @Jo cz))) ?_
 intro b1 b2 b3 pb1 pp1 cb1 cp1 b4 h2 pb2 pc1 nb1 cb2 nc1 cc1
 refine Bj [0,1] rfl (.agg 1 rfl rfl Cs rfl (.tmp rfl .nil)) rfl ⟨_,_,_,_,_,_,rfl,rfl,rfl⟩
theorem Jb (CC:Cok p m md N rows):Bt Tryz.prog 40 [.agg #[.int .i64 p,.int .i64 m,.slice pm nm cm,.int .i64 N,.slice ps n c]] [] [Ap Ai pm nm cm md,Ap (Aj Ai) ps n c rows] (Xc p m N md (Li p m md N rows) 0):=by
 refine Ab (F:=ADn) rfl fun C=>?_
 have K:=CC.K
 have h8:=K.md8
 have hN:=CC.n64
 have hl:=CC.len
 have Au:=fun {pm ps:Option Addr}{nm cm n c:Nat}=>Ds (P:=p) (M:=m) (pm:=pm) (ps:=ps) (nm:=nm) (cm:=cm) (n:=n) (c:=c) (md:=md) (rows:=rows) (N:=N) (by simp only [Bv];omega) CC.ck
 have Ik:=fun {P M N:Int}{pm ps:Option Addr}{nm cm n c:Nat}=>Qa (P:=P) (M:=M) (N:=N) (pm:=pm) (ps:=ps) (nm:=nm) (cm:=cm) (n:=n) (c:=c)
 have En:=fun {pm ps:Option Addr}{nm cm n c:Nat}=>Ii (pm:=pm) (ps:=ps) (nm:=nm) (cm:=cm) (n:=n) (c:=c) (rows:=rows) K (show N≤256 by omega) (by omega) CC.mat
 have Jo:=fun {pm ps:Option Addr}{nm cm n c:Nat}{rows:List (List Int)}=>K6 (P:=p) (M:=m) (N:=N) (pm:=pm) (ps:=ps) (nm:=nm) (cm:=cm) (n:=n) (c:=c) (md:=md) (rows:=rows) (by omega)
 generalize Li p m md N rows=R at *
 refine wk 13 (ct @Au cz) ?_
 intro b1 b2 h1
 (apply Fz (x0:=none) it mx 0 9 [7] 1;(· rfl);(· rfl);(· rfl);(· decide))
 simp only [List.drop_zero]
 (apply Ac;(· rfl);(· exact Cg fun _=>Aq rfl Ug An))
 (apply Ac;(· rfl);(· exact Ji 1 rfl rfl Hy rfl rfl))
 (apply Ac;(· rfl);(· exact Cy 1 rfl rfl Cs rfl))
 (apply Ac;(· rfl);(· exact Cg fun _=>Aw [] rfl (Ik) rfl (by rintro _ _ _ ⟨rfl,rfl,rfl⟩;exact An)))
 (apply Iz (val:=(fun g=>Value.tuple #[Value.agg #[Value.int IntKind.i64 ↑N,Value.slice (g 0).fst R.length (g 1).snd.fst],Value.int IntKind.i64 0])) (f:=(fun g=>[Ap (Aj Ai) (g 0).fst R.length (g 1).snd.fst R]));(· rfl);(· exact Cg fun _=>Aw [0,1] rfl (En) rfl (by rintro _ _ _ ⟨pbg0,cbg1,rfl,rfl,rfl⟩;exact fun _ _ _ hG=>⟨(fun|0=>(pbg0,0,0,[])|1=>(none,cbg1,0,[])|_=>default),rfl,fun g hg=>Ey (hG _ (List.mem_append_left _ hg))⟩));intro g1;dsimp only [List.map_cons,List.map_nil])
 (apply G1 [18] (fun vs=>vs.getD 0 undef) (v:=Value.tuple #[Value.agg #[Value.int IntKind.i64 ↑N,Value.slice (g1 0).fst R.length (g1 1).snd.fst],Value.int IntKind.i64 0]);(· rfl);(· rfl);(· rfl);(· rfl);(· exact Cg fun _=>Kc it rfl (by trivial) An))
 (apply G1 [13] (fun vs=>match vs.getD 0 undef with | .tuple a=>a.getD 0 undef|_=>undef) (v:=Value.agg #[Value.int IntKind.i64 ↑N,Value.slice (g1 0).fst R.length (g1 1).snd.fst]);(· rfl);(· rfl);(· rfl);(· rfl);(· exact Cg fun _=>Kc it rfl (by trivial) An))
 (apply Ac;(· rfl);(· exact Cg fun _=>Kc it rfl (by trivial) An))
 (apply Hj;(· rfl);(· exact G9);intro b3)
 refine Fo rfl ?_
 (rotate_left;rfl;rotate_right)
 simp only [List.map_cons,List.map_nil,List.cons_append,List.nil_append]
 refine Gr it rfl rfl ⟨⟨_,_,_,_,rfl,rfl,rfl,rfl,rfl,rfl,(by first|trivial|(repeat' first|exact trivial|apply And.intro|omega))⟩,trivial⟩ (A8 0 rfl rfl rfl F6 rfl rfl (by simp [Value.oneCell']) ?_)
 refine Ib it ⟨⟨_,_,_,_,rfl,rfl,rfl,rfl,rfl,rfl,(by first|trivial|(repeat' first|exact trivial|apply And.intro|omega))⟩,trivial⟩ ?_
 refine wk 11 (ct @Jo cz) ?_
 intro pb1 pc1 nb1 cb1 nc1 cc1
 refine Bj [0,1] rfl (.agg 1 rfl rfl Cs rfl (.tmp rfl .nil)) rfl ⟨_,_,_,_,_,_,rfl,rfl,rfl⟩
end
open Go Go.Fw
set_option maxRecDepth 100000
set_option linter.unusedVariables false
set_option linter.unusedSimpArgs false
set_option maxHeartbeats 0
def S0 (A:Int→Int→Int) (l:List Int):Int:=l.foldl A 0
section
variable {p m q b ng cg ne ce nl cl:Nat}{pg pe pl:Option Addr}
theorem U6 (hq:q≤256):Bt Tryz.prog 165 [.pointer (some ⟨b,0,none⟩)] [] [Jc b p m q pg ng cg pe ne ce pl nl cl] (Rv (.int .i64 (q:Int)) []):=by
 refine Ab (F:=Vs) rfl fun C=>?_
 refine wk 8 cz ?_
 exact ge
theorem R1 {q:Nat}{A M:Int→Int→Int}(F:FI q A M):∀ (l:List Int) (a:Int),0≤a→a<q→(∀ x∈l,0≤x∧x<(q:Int))→0≤l.foldl A a∧l.foldl A a<q
 | [],a,a0,a1,_=>⟨a0,a1⟩
 | x::l,a,a0,a1,h=>by
  obtain ⟨x0,x1⟩:=h x (.head _)
  obtain ⟨y0,y1⟩:=F.al a x a0 a1 x0 x1
  exact R1 F l _ y0 y1 fun z hz=>h z (.tail _ hz)
theorem Z5 {A:Int→Int→Int}{l:List Int}{i:Nat}{x:Int}(h:l[i]?=some x):S0 A (l.take (i+1))=A (S0 A (l.take i)) x:=by
 rw [S0,S0,List.take_add_one,h,List.foldl_append];rfl
theorem Qj {pu:Option Addr}{nu cu:Nat}{u md:List Int}(K:Fok p m md) (hu:∀ x∈u,0≤x∧x<((p ^ m:Nat):Int)) :
  Bt Tryz.prog 75 [.pointer (some ⟨b,0,none⟩),.slice pu nu cu] [] [Jc b p m (p ^ m) pg ng cg pe ne ce pl nl cl,Ap Ai pu nu cu u] (Rv (.int .i64 (S0 (Ad (fA p m)) u)) []):=by
 refine Ab (F:=Yq) rfl fun C=>?_
 refine Ba 1 rfl fun hn hb _=>?_
 subst hn
 have hb':u.length*8≤140737488355328:=hb
 have hq:=K.q
 have Bq:=fun {b ng cg ne ce nl cl:Nat}{pg pe pl:Option Addr}{x y:Int}=>Dc (p:=p) (m:=m) (b:=b) (ng:=ng) (cg:=cg) (ne:=ne) (ce:=ce) (nl:=nl) (cl:=cl) (pg:=pg) (pe:=pe) (pl:=pl) (x:=x) (y:=y) K.p2 K.m1 hq
 have hF:=K.fi
 have hr:=fun i=>R1 hF (u.take i) 0 (Int.le_refl 0) hF.z fun x hx=>hu x (List.mem_of_mem_take hx)
 generalize Ad (fM p (Ax m md))=M at *
 generalize Ad (fA p m)=A at *
 generalize p ^ m=q at *
 refine wk 9 cz ?_
 refine Ah (X:=Nat) [0,4,8,9] [0,1] (fun i=>[(10,.int .i64 (i:Int)),(5,.int .i64 (S0 A (u.take i)))]) (fun _=>_) (fun _=>[]) (fun i=>i≤u.length) (fun i=>u.length-i) 0 [] rfl rfl rfl (Nat.zero_le _) (by repeat (first|exact Fr.sub_nil _|refine Fr.sub_cons rfl ?_)) rfl rfl ?_
 rintro i hi ih
 simp only [List.cons_append,List.nil_append] at hi ih ⊢
 by_cases h9:i<u.length
 ·obtain ⟨x,at_x⟩:∃ x,u[i]?=some x:=⟨_,List.getElem?_eq_getElem h9⟩
  obtain ⟨hx0,hx1⟩:=hu x (List.mem_of_getElem? at_x)
  have ih':=ih (i+1) (by omega) (by omega)
  rw [Z5 at_x] at ih'
  obtain ⟨s0,s1⟩:=hr i
  rw [← S0] at s0 s1
  generalize S0 A (u.take i)=s at *
  refine wk 6 cz ?_
  intro h1 b1 o1 hz1
  refine Aa rfl (Av 0 rfl rfl Ci fun ⟨r1,r2⟩=>?_)
  refine wk 8 (ct @Bq cz) ?_
  exact tw (ih')
 ·obtain rfl:i=u.length:=by omega
  rw [List.take_length]
  clear ih
  refine wk 7 cz ?_
  intro h1
  exact ge
theorem Yn {pu pv:Option Addr}{nu cu nv cv:Nat}{u v md:List Int}(K:Fok p m md) (hu:∀ x∈u,0≤x∧x<((p ^ m:Nat):Int)) (hv:∀ x∈v,0≤x∧x<((p ^ m:Nat):Int)) :
  Bt Tryz.prog 166 [.pointer (some ⟨b,0,none⟩),.slice pu nu cu,.slice pv nv cv] [] [Jc b p m (p ^ m) pg ng cg pe (p ^ m-1) ce pl (p ^ m) cl,Ap Ai pe (p ^ m-1) ce (Jh p m md),Ap Ai pl (p ^ m) cl (Jk p m md),Ap Ai pu nu cu u,Ap Ai pv nv cv v] (Rv (.int .i64 (S0 (Ad (fA p m)) (List.zipWith (Ad (fM p (Ax m md))) u v))) []):=by
 refine Ab (F:=Ye) rfl fun C=>?_
 refine Ba 3 rfl fun hn hb _=>?_
 subst hn
 refine Ba 4 rfl fun hn hb2 _=>?_
 subst hn
 have hb':u.length*8≤140737488355328:=hb
 have hb2':v.length*8≤140737488355328:=hb2
 have hq:=K.q
 have Bq:=fun {b ng cg ne ce nl cl:Nat}{pg pe pl:Option Addr}{x y:Int}=>Dc (p:=p) (m:=m) (b:=b) (ng:=ng) (cg:=cg) (ne:=ne) (ce:=ce) (nl:=nl) (cl:=cl) (pg:=pg) (pe:=pe) (pl:=pl) (x:=x) (y:=y) K.p2 K.m1 hq
 have A6:=fun {b ng cg ce cl:Nat}{pg pe pl:Option Addr}{x y:Int}=>C3 (b:=b) (ng:=ng) (cg:=cg) (ce:=ce) (cl:=cl) (pg:=pg) (pe:=pe) (pl:=pl) (x:=x) (y:=y) K
 have hF:=K.fi
 have hz:∀ x∈List.zipWith (Ad (fM p (Ax m md))) u v,0≤x∧x<((p ^ m:Nat):Int):=fun x hx=>by
  obtain ⟨i,hi,rfl⟩:=List.getElem_of_mem hx
  rw [List.getElem_zipWith]
  rw [List.length_zipWith] at hi
  obtain ⟨a0,a1⟩:=hu u[i] (List.getElem_mem _)
  obtain ⟨b0,b1⟩:=hv v[i] (List.getElem_mem _)
  exact hF.ml _ _ a0 a1 b0 b1
 have hr:=fun i=>R1 hF ((List.zipWith (Ad (fM p (Ax m md))) u v).take i) 0 (Int.le_refl 0) hF.z fun x hx=>hz x (List.mem_of_mem_take hx)
 have hml:=hF.ml
 generalize Ad (fM p (Ax m md))=M at *
 generalize Ad (fA p m)=A at *
 generalize Jh p m md=ex at *
 generalize Jk p m md=lg at *
 generalize p ^ m=q at *
 refine wk 9 cz ?_
 refine Aa rfl (ALS rfl rfl ?_)
 refine wk 2 cz ?_
 refine Ah (X:=Nat) [0,1,2,6,13] [0,1,2,3,4] (fun i=>[(14,.int .i64 (i:Int)),(7,.int .i64 (S0 A ((List.zipWith M u v).take i)))]) (fun _=>_) (fun _=>[]) (fun i=>i≤min u.length v.length) (fun i=>min u.length v.length-i) 0 [] rfl rfl rfl (Nat.zero_le _) (by repeat (first|exact Fr.sub_nil _|refine Fr.sub_cons rfl ?_)) rfl rfl ?_
 rintro i hi ih
 simp only [List.cons_append,List.nil_append] at hi ih ⊢
 by_cases h9:i<min u.length v.length
 ·have hiu:i<u.length:=by omega
  have hiv:i<v.length:=by omega
  obtain ⟨x,at_x⟩:∃ x,u[i]?=some x:=⟨_,List.getElem?_eq_getElem hiu⟩
  obtain ⟨y,at_y⟩:∃ y,v[i]?=some y:=⟨_,List.getElem?_eq_getElem hiv⟩
  have ex':u.getD i default=x:=by rw [List.getD_eq_getElem?_getD,at_x];rfl
  have ey':v.getD i default=y:=by rw [List.getD_eq_getElem?_getD,at_y];rfl
  obtain ⟨hx0,hx1⟩:=hu x (List.mem_of_getElem? at_x)
  obtain ⟨hy0,hy1⟩:=hv y (List.mem_of_getElem? at_y)
  rw [← ex'] at hx0 hx1
  rw [← ey'] at hy0 hy1
  obtain ⟨hm0,hm1⟩:=hml _ _ hx0 hx1 hy0 hy1
  have ih':=ih (i+1) (by omega) (by omega)
  rw [Z5 (l:=List.zipWith M u v) (i:=i) (x:=M (u.getD i default) (v.getD i default)) (by rw [List.getElem?_zipWith,at_x,at_y,ex',ey']),] at ih'
  obtain ⟨s0,s1⟩:=hr i
  rw [← S0] at s0 s1
  generalize S0 A ((List.zipWith M u v).take i)=s at *
  refine wk 12 (ct @A6 (ct @Bq cz)) ?_
  intro h1 b1 o1 b2 o2
  exact tw (ih')
 ·have hall:(List.zipWith M u v).take i=List.zipWith M u v:=List.take_of_length_le (by rw [List.length_zipWith];omega)
  rw [hall]
  clear ih
  refine wk 7 cz ?_
  intro h1
  exact ge
theorem Vo {md:List Int}{cg:Nat}(hm8:md.length≤8) (hp:p≤256) (hm:m≤8) :
  Bt Tryz.prog 196 [.pointer (some ⟨b,0,none⟩)] [] [Jc b p m q pg md.length cg pe ne ce pl nl cl,Ap Ai pg md.length cg md] (fun v Φ β=>∃ (pb:Option Addr) (nb cb:Nat),v = .agg #[.int .i64 p,.int .i64 m,.slice pb nb cb]∧Φ=[Ap Ai pb nb cb md]∧β=[]):=by
 refine Ab (F:=V5) rfl fun C=>?_
 refine wk 3 cz ?_
 intro b1
 (apply Vd it mx 0 18;(· rfl);(· rfl);(· rfl))
 (apply A3 2;(· rfl);(· simp))
 (apply Ac;(· rfl);(· exact Cg fun _=>Aq rfl S9 An))
 (apply Ac;(· rfl);(· exact Cg fun _=>Aq rfl Pn An))
 (apply Ac;(· rfl);(· exact Zi 0 rfl rfl Ci rfl))
 (apply A3 2;(· rfl);(· simp))
 (apply Ac;(· rfl);(· exact Cg fun _=>Aq rfl S9 An))
 (apply Ac;(· rfl);(· exact Cg fun _=>Aq rfl P9 An))
 (apply Ac;(· rfl);(· exact Zi 0 rfl rfl Ci rfl))
 (apply AC6 (Dy IntKind.i64 8);(· rfl);(· exact Ce);intro pa1)
 (apply A3 2;(· rfl);(· simp))
 (apply Ac;(· rfl);(· exact Cg fun _=>Aq rfl S9 An))
 (apply Ac;(· rfl);(· exact Cg fun _=>Aq rfl AEM An))
 (apply Ac;(· rfl);(· exact Zi 0 rfl rfl E7 rfl))
 (apply ABf 0 2;(· rfl);(· rfl);(· rfl);(· rfl);(· rfl);(· exact Ce);(· exact Ep);(· rfl);(· (first|omega|(simp only [List.length_cons,List.length_nil];omega)));(· exact Hu);(· (first|omega|(simp only [List.length_cons,List.length_nil];omega)));intro pa2 cap1 b2 cs1)
 (apply G1 [7,12,19] (fun vs=>Value.agg ((Vc ([(0,1),(1,1),(2,1)]) ([Value.int IntKind.i64 0,Value.int IntKind.i64 0,Value.slice none 0 0]) [(0,Cf (vs.getD 0 undef)),(1,Cf (vs.getD 1 undef)),(2,Cf (vs.getD 2 undef))]).getD []).toArray) (v:=Value.agg #[Value.int IntKind.i64 ↑p,Value.int IntKind.i64 ↑m,Value.slice pa2 (0+md.length) cap1]);(· rfl);(· rfl);(· rfl);(· rfl);(· exact Cg fun _=>Dn (cs:=[Value.int IntKind.i64 ↑p,Value.int IntKind.i64 ↑m,Value.slice pa2 (0+md.length) cap1]) AJi AGj rfl rfl An))
 refine Zm rfl ?_
 (rotate_left;rfl;rotate_right)
 simp only [List.append_nil,List.append_assoc,List.map_cons,List.map_nil,List.cons_append,List.nil_append,List.drop_zero]
 (refine AD1 0 0 (by first|rfl|exact (List.append_nil _).symm) rfl (by show (0+md.length)*8≤140737488355328;omega) ?_;simp only [List.take_succ_cons,List.take_zero,List.cons_append,List.nil_append,List.append_nil])
 refine wk 2 cz ?_ --ok
 refine Bj [0] rfl (.agg 0 rfl rfl Hy rfl .nil) rfl ⟨_,_,_,rfl,rfl,rfl⟩
theorem Ub {md:List Int}{x:Int}(K:Fok p m md) (x0:0≤x) (x1:x<((p ^ m:Nat):Int)) :
  Bt Tryz.prog 167 [.pointer (some ⟨b,0,none⟩),.int .i64 x] [] [Jc b p m (p ^ m) pg ng cg pe ne ce pl nl cl] (SvI m (Bb (Db p m x.toNat))):=by
 refine Ab (F:=Um) rfl fun C=>?_
 have hq:=K.q
 obtain ⟨a,rfl⟩:=Int.eq_ofNat_of_zero_le x0
 rw [Int.toNat_natCast]
 have hx2:a<p ^ m:=Int.ofNat_lt.1 x1
 have hp2:=K.p2
 have hp256:=K.p256
 have hm8:=K.m8
 have Xj:=Ju (p:=p) (n:=m) (x:=a) (by omega) (by omega) (by omega) (by omega)
 have I0:=fun {b ng cg ne ce nl cl:Nat}{pg pe pl:Option Addr}{x:Int}=>B4 (p:=p) (m:=m) (b:=b) (ng:=ng) (cg:=cg) (ne:=ne) (ce:=ce) (nl:=nl) (cl:=cl) (pg:=pg) (pe:=pe) (pl:=pl) (x:=x) hq
 refine wk 6 (ct @I0 (ct @Xj cz)) ?_
 intro pa1 ca1 --ok
 refine Ov [0] rfl rfl rfl ⟨_,_,rfl,rfl,rfl⟩
theorem AJ1 {q:Nat}{A M:Nat→Nat→Nat}(R:Rng q A M) {g:Nat}(hg:g<q) (h:Ma q M g) (hq:2≤q) (i:Nat):∀ n,B2 M (B2 M g i) n=B2 M g ((i*n) % (q-1))
 | 0=>by rw [Nat.mul_zero,Nat.zero_mod];rfl
 | n+1=>by
  show M (B2 M (B2 M g i) n) (B2 M g i)=_
  rw [AJ1 R hg h hq i n,← R.exp_mul hg h,Nat.mod_add_mod,Nat.mul_succ]
theorem AMI {q:Nat}{A M:Nat→Nat→Nat}(R:Rng q A M) {n:Nat}(hn:1≤n) (hq:0<q):B2 M 0 n=0:=by
 obtain ⟨k,rfl⟩:∃ k,n=k+1:=⟨n-1,by omega⟩
 exact R.m0 (R.pw_lt hq k)
theorem X9 {a k:Nat}{md:List Int}(K:Fok p m md) (x1:a<p ^ m) (k1:1≤k) (k2:k≤256) :
  Bt Tryz.prog 201 [.pointer (some ⟨b,0,none⟩),.int .i64 (a:Int),.int .i64 (k:Int)] [] [Jc b p m (p ^ m) pg ng cg pe (p ^ m-1) ce pl (p ^ m) cl,Ap Ai pe (p ^ m-1) ce (Jh p m md),Ap Ai pl (p ^ m) cl (Jk p m md)] (Rv (.tuple #[.int .i64 ((B2 (fM p (Ax m md)) a k:Nat):Int),.int .i64 0]) []):=by
 refine Ab (F:=X7) rfl fun C=>?_
 have R:=K.rng'
 have hq:=K.q
 have q2:=K.fi.q2
 obtain ⟨g2,g3,hgen,-⟩:=Uf ((My K.shp K.pr).2 K)
 have I0:=fun {b ng cg ne ce nl cl:Nat}{pg pe pl:Option Addr}{x:Int}=>B4 (p:=p) (m:=m) (b:=b) (ng:=ng) (cg:=cg) (ne:=ne) (ce:=ce) (nl:=nl) (cl:=cl) (pg:=pg) (pe:=pe) (pl:=pl) (x:=x) hq
 unfold Jh Jk
 generalize gnX (p ^ m) (fM p (Ax m md))=g at *
 generalize fM p (Ax m md)=M at *
 generalize p ^ m=q at *
 rcases Nat.eq_zero_or_pos a with h0|h0
 ·subst h0
  rw [AMI R k1 (by omega)]
  refine wk 21 (ct @I0 cz) ?_
  intro h1 h2 h3
  exact ge
 ·obtain ⟨i,hi,rfl⟩:=R.gen_all g3 hgen x1 (by omega)
  rw [AJ1 R g3 hgen q2]
  have ei:(Sn q M g)[B2 M g i]?=some (i:Int):=Il (by rw [List.getElem?_map,List.getElem?_range x1];show some (lgN q M g _)=_;rw [ACD hgen hi])
  have ei':(Sn q M g).getD (B2 M g i) default=(i:Int):=by rw [List.getD_eq_getElem?_getD,ei];rfl
  have hk:(i*k) % (q-1)<q-1:=Nat.mod_lt _ (by omega)
  have ek:(Vt q M g)[(i*k) % (q-1)]?=some ((B2 M g ((i*k) % (q-1)):Nat):Int):=Il (by rw [List.getElem?_map,List.getElem?_range hk];rfl)
  have hi0:(0:Int)≤(i:Int)∧(i:Int)<(q:Int)-1:=by omega
  have hr0:0≤(k:Int) % ((q:Int)-1):=Int.emod_nonneg _ (by omega)
  have hr1:(k:Int) % ((q:Int)-1)<(q:Int)-1:=Int.emod_lt_of_pos _ (by omega)
  have hs0:0≤((k:Int) % ((q:Int)-1)+((q:Int)-1)) % ((q:Int)-1):=Int.emod_nonneg _ (by omega)
  have hs1:((k:Int) % ((q:Int)-1)+((q:Int)-1)) % ((q:Int)-1)<(q:Int)-1:=Int.emod_lt_of_pos _ (by omega)
  have hse:((k:Int) % ((q:Int)-1)+((q:Int)-1)) % ((q:Int)-1)=(k:Int) % ((q:Int)-1):=by rw [Int.add_emod_right,Int.emod_emod]
  have hp0:0≤(Sn q M g).getD (B2 M g i) default*(((k:Int) % ((q:Int)-1)+((q:Int)-1)) % ((q:Int)-1)):=by rw [ei'];exact Int.mul_nonneg hi0.1 hs0
  have hp1:(Sn q M g).getD (B2 M g i) default*(((k:Int) % ((q:Int)-1)+((q:Int)-1)) % ((q:Int)-1))≤256*256:=by rw [ei'];exact Int.mul_le_mul (by omega) (by omega) hs0 (by omega)
  have hz0:0≤(Sn q M g).getD (B2 M g i) default*(((k:Int) % ((q:Int)-1)+((q:Int)-1)) % ((q:Int)-1)) % ((q:Int)-1):=Int.emod_nonneg _ (by omega)
  have hz1:(Sn q M g).getD (B2 M g i) default*(((k:Int) % ((q:Int)-1)+((q:Int)-1)) % ((q:Int)-1)) % ((q:Int)-1)<(q:Int)-1:=Int.emod_lt_of_pos _ (by omega)
  have hze:(Sn q M g).getD (B2 M g i) default*(((k:Int) % ((q:Int)-1)+((q:Int)-1)) % ((q:Int)-1)) % ((q:Int)-1)=((i*k % (q-1):Nat):Int):=by
   rw [hse,ei',Int.natCast_emod,Int.natCast_sub (by omega),Int.natCast_mul,Int.mul_emod,Int.emod_emod,← Int.mul_emod];rfl
  have hN:(((Sn q M g).getD (B2 M g i) default:Int).toNat*((k % (q-1)+(q-1)) % (q-1))) % (q-1)=i*k % (q-1):=by
   rw [ei',Int.toNat_natCast,Nat.add_mod_right,Nat.mod_mod,Nat.mul_mod_mod]
  have hN1:(((Sn q M g).getD (B2 M g i) default:Int).toNat*((k % (q-1)+(q-1)) % (q-1))) % (q-1)<q-1:=by rw [hN];exact hk
  have hNe:(Sn q M g).getD (B2 M g i) default*(((k:Int) % ((q:Int)-1)+((q:Int)-1)) % ((q:Int)-1)) % ((q:Int)-1)=(((((Sn q M g).getD (B2 M g i) default:Int).toNat*((k % (q-1)+(q-1)) % (q-1))) % (q-1):Nat):Int):=by rw [hN,hze]
  have ef:(Vt q M g).getD ((((Sn q M g).getD (B2 M g i) default:Int).toNat*((k % (q-1)+(q-1)) % (q-1))) % (q-1)) default=((B2 M g ((i*k) % (q-1)):Nat):Int):=by rw [hN,List.getD_eq_getElem?_getD,ek];rfl
  refine wk 33 (ct @I0 cz) ?_
  intro h1 h2 h3 b1 o1 b2 o2
  simp only [hze,Int.toNat_natCast]
  rw [hN] at ef
  rw [ef]
  exact ge
end
open Go Go.Fw
set_option maxRecDepth 100000
set_option linter.unusedVariables false
set_option linter.unusedSimpArgs false
set_option maxHeartbeats 0
abbrev CnC (E:List (List Int)×List Nat):Value→List Fact→List A4→Prop:=fun v Φ β=>∃ (pb pp:Option Addr) (cp:Nat),v = .tuple #[.slice pb E.2.length E.2.length,.slice pp E.2.length cp]
 ∧ Φ=[Ap (Aj Ai) pb E.2.length E.2.length E.1,Ap Ai pp E.2.length cp (Bb E.2)]∧β=[]
abbrev CaC (N:Nat) (E:List (List Int)×List Nat):Value→List Fact→List A4→Prop:=fun v Φ β=>∃ (pb pp:Option Addr) (cp:Nat),v = .tuple #[.agg #[.int .i64 N,.slice pb E.2.length E.2.length],.slice pp E.2.length cp,.int .i64 0]
 ∧ Φ=[Ap (Aj Ai) pb E.2.length E.2.length E.1,Ap Ai pp E.2.length cp (Bb E.2)]∧β=[]
theorem Xy {b p m n N c ng cg ce cl:Nat}{pg pe pl ps:Option Addr}{rows:List (List Int)}{md:List Int}(K:Fok p m md) (hn:n≤1000000) (hN:N≤1000000) (hl:rows.length=n) (hM:Cw (p ^ m) N rows) :
  Bt Tryz.prog 135 [.pointer (some ⟨b,0,none⟩),.slice ps n c,.int .i64 N] []
   [Jc b p m (p ^ m) pg ng cg pe (p ^ m-1) ce pl (p ^ m) cl,Ap Ai pe (p ^ m-1) ce (Jh p m md),Ap Ai pl (p ^ m) cl (Jk p m md),Ap (Aj Ai) ps n c rows]
   (CnC (Dh p m md N rows)):=by
 refine Ab (F:=R0) rfl fun C=>?_
 have Ig:=fun {b ng cg ce cl:Nat}{pg pe pl:Option Addr}{rh:Row}{hd:Nat→Hd}{cs:Nat→List Value}=>Lp (b:=b) (ng:=ng) (cg:=cg) (ce:=ce) (cl:=cl) (pg:=pg) (pe:=pe) (pl:=pl) (rh:=rh) (hd:=hd) (cs:=cs) K hn hN hl hM
 have hEl:(J9 p m md N 0 0 rows).1.length=n:=by rw [J9,Sw,hl]
 have hEk:(J9 p m md N 0 0 rows).2.length≤n:=by
  have:=V9 (A:=Ad (fA p m)) (M:=Ad (fM p (Ax m md))) (N:=Cz p m) (V:=Hn p m md) N 0 0 rows (Nat.zero_le _)
  rw [Nat.zero_add,hl] at this;exact this
 have hEM:Cw (p ^ m) N (J9 p m md N 0 0 rows).1:=((C1 K).elim (m:=N) hM).1
 show J _ _ _ _ _ _ (Fg C (CnC ((J9 p m md N 0 0 rows).1.take (J9 p m md N 0 0 rows).2.length,(J9 p m md N 0 0 rows).2)))
 generalize J9 p m md N 0 0 rows=E at *
 refine Am [_,_] rfl ?_
 refine Ae it 2 rfl (by simp) ?_
 refine Am [_,_] rfl ?_
 refine Ae it 1 rfl (by simp) ?_
 refine Aa rfl (Aw [3] rfl (R6 (by omega)) rfl ?_)
 rintro _ _ _ ⟨r1,hd1,cs1,rfl,rfl,rfl⟩
 simp only [List.cons_append,List.nil_append]
 refine Ae it 1 rfl (by simp) ?_
 refine Am [_,_] rfl ?_
 refine Ae it 3 rfl (by simp) ?_ --ok
 simp only [List.append_nil]
 refine Aa rfl (Na 0 [2,3,4,0,1] rfl rfl (Ig) rfl ?_)
 rintro _ _ _ ⟨r2,ch'1,hd'1,cs'1,d1,rfl,rfl,rfl⟩
 simp only [List.cons_append,List.nil_append]
 refine Ae it 5 rfl (by simp) ?_
 refine Am [_,_] rfl ?_
 refine Ae it 2 rfl (by simp) ?_
 refine Aa rfl (Hf Ce rfl ?_)
 refine Ae it 1 rfl (by simp) ?_
 refine Aa rfl (Hf Ce rfl ?_) --ok
 simp only [List.take_zero,List.nil_append]
 refine G3 2 rfl fun hlen=>?_
 refine Wz 2 1 1 2 rfl rfl rfl rfl (fun i hi=>by rw [hlen i hi rfl,(hEM.row (by omega)).1];show N*8≤_;omega) ?_
 simp only [List.take_succ_cons,List.take_zero]
 rw [show (List.range n).map (Ar E.1)=E.1 from by
  refine List.ext_getElem (by rw [List.length_map,List.length_range,hEl]) fun i h1 h2=>?_
  rw [List.getElem_map,List.getElem_range,Ar,List.getD_eq_getElem?_getD,List.getElem?_eq_getElem h2];rfl]
 refine D2 1 0 rfl rfl (by show n*24≤140737488355328;omega) ?_
 simp only [List.eraseIdx_cons_zero,List.eraseIdx_cons_succ]
 refine D2 0 2 rfl rfl (by show E.2.length*8≤140737488355328;omega) ?_
 simp only [List.eraseIdx_cons_zero,List.eraseIdx_cons_succ]
 refine Ba 1 rfl fun _ _ hcap=>?_
 refine Aa rfl (Z1 1 (E.snd.length) (E.snd.length) rfl rfl rfl rfl D5 (by omega) (by omega) (by omega) (by omega) (by omega) ?_)
 refine wk 2 cz ?_
 refine Ov [0,1] rfl rfl rfl ⟨_,_,_,rfl,rfl,rfl⟩
section
variable {p m n c nm cm:Nat}{pm ps:Option Addr}{md:List Int}{rows:List (List Int)}
theorem Tl {N:Nat}(K:Fok p m md) (hN:N≤256) (hl:rows.length≤256) (hM:Cw (p ^ m) N rows) :
  Bt Tryz.prog 111 [.agg #[.int .i64 p,.int .i64 m,.slice pm nm cm],.agg #[.int .i64 N,.slice ps n c]] [] [Ap Ai pm nm cm md,Ap (Aj Ai) ps n c rows] (CaC N (Dh p m md N rows)):=by
 refine Ab (F:=Ij) rfl fun C=>?_
 refine Ba 1 rfl fun hn hb _=>?_
 subst hn
 have Cl:=fun {pm ps:Option Addr}{nm cm n c:Nat}=>Ew (pm:=pm) (nm:=nm) (cm:=cm) (ps:=ps) (n:=n) (c:=c) (Ms:=[((N:Int),rows)]) K (fun z hz=>by rw [List.mem_singleton.1 hz];simp only [Bv];omega) (Ui (Sa hN hl hM))
 have F2:=fun {b ng cg ce cl c:Nat}{pg pe pl ps:Option Addr}=>Xy (b:=b) (ng:=ng) (cg:=cg) (ce:=ce) (cl:=cl) (pg:=pg) (pe:=pe) (pl:=pl) (ps:=ps) (c:=c) (n:=rows.length) (rows:=rows) K (by omega) (show N≤1000000 by omega) rfl hM
 refine Am [_,_] rfl ?_
 refine Aa rfl (Cv rfl fun b1=>?_)
 refine Aa rfl (Cv rfl fun b2=>?_)
 refine Aa rfl (Bl G9 fun b3=>?_)
 refine Ae it 2 rfl (by simp) ?_
 refine Am [_,_] rfl ?_
 refine Aa rfl (A1 2 rfl rfl Hy rfl ?_)
 refine Aa rfl (A1 1 rfl rfl F6 rfl ?_)
 refine Aa rfl (Iu AHG AEq rfl rfl rfl rfl (by decide) (by decide) rfl fun b4=>?_)
 refine Cb (E:=AA4) (n:=1) [[Value.int IntKind.i64 ↑N,Value.slice ps rows.length c]] [((↑N:Int),rows)] 0 (fun w A hG=>(Az (M9 (v1:=[Value.int IntKind.i64 ↑N]) (Dq (by first|(simp only [Bv];omega)|(simp [Bv];done)|assumption)) (A2 (hG _ (Af (n:=1) rfl)))) Bd)) rfl rfl rfl rfl (by first|decide|exact Nat.le_of_ble_eq_true rfl) (by first|decide|exact Nat.le_of_ble_eq_true rfl) ?_
 refine Aa rfl (Aw [1,0] rfl (Cl) rfl ?_)
 rintro _ _ _ ⟨b5,pg1,cg1,pe1,ce1,pl1,cl1,rfl,rfl,rfl⟩
 simp only [List.cons_append,List.nil_append]
 refine Ae it 5 rfl (by simp) ?_
 refine Am [_,_,_] rfl ?_
 refine Ae it 2 rfl (by simp) ?_
 refine Am [_,_] rfl ?_
 refine Nd rfl rfl (fun h1=>by exfalso;omega) (fun h1=>?_)
 refine Am [_,_] rfl ?_
 refine Ae it 1 rfl (by simp) ?_
 refine Aa rfl (Aq rfl Hw ?_)
 refine Aa rfl (Bm 1 rfl rfl H7 rfl ?_)
 refine Aa rfl (Aq rfl I4 ?_)
 refine Aa rfl (Bm 1 rfl rfl Ci rfl ?_)
 refine Aa rfl (Aw [0,2,3,6] rfl (F2) rfl ?_)
 rintro _ _ _ ⟨pb1,pp1,cp1,rfl,rfl,rfl⟩
 simp only [List.cons_append,List.nil_append]
 simp only [decide_true]
 refine Ae it 5 rfl (by simp) ?_
 refine Am [_,_] rfl ?_
 refine Aa rfl (Aq rfl I4 ?_)
 refine Aa rfl (Bm 1 rfl rfl Ci rfl ?_)
 refine Ae it 1 rfl (by simp) ?_
 refine Aa rfl (Dn (cs:=[Value.int IntKind.i64 ↑N,Value.slice pb1 (Dh p m md N rows).snd.length (Dh p m md N rows).snd.length]) Uz G9 rfl rfl ?_)
 refine Ae it 1 rfl (by simp) ?_
 refine Aa rfl (A8 0 rfl rfl rfl F6 rfl rfl (by simp [Value.oneCell']) ?_)
 refine Ae it 2 rfl (by simp) ?_
 refine Am [_] rfl ?_
 refine Bj [0,1] rfl (.agg 0 rfl rfl F6 rfl (.tmp rfl (.tmp rfl .nil))) rfl ⟨_,_,_,rfl,rfl,rfl⟩
end
theorem ACJ {P M P2 M2:Int}{pm p2:Option Addr}{nm cm n2 c2:Nat}{md md2:List Int}{res:Bool}(hr:decide (P=P2∧M=M2∧md=md2)=res):Bt Tryz.prog 158 [.agg #[.int .i64 P,.int .i64 M,.slice pm nm cm],.agg #[.int .i64 P2,.int .i64 M2,.slice p2 n2 c2]] [] [Ap Ai pm nm cm md,Ap Ai p2 n2 c2 md2] (Rv (.bool res) []):=by
 refine Ab (F:=ACC) rfl fun C=>?_
 refine Ba 0 rfl fun hn hb _=>?_
 subst hn
 refine Ba 1 rfl fun hn hb2 _=>?_
 subst hn
 have hb':md.length*8≤140737488355328:=hb
 have hb2':md2.length*8≤140737488355328:=hb2
 by_cases h1:P=P2∧M=M2∧md.length=md2.length
 ·obtain ⟨rfl,rfl,hl⟩:=h1
  simp only [true_and] at hr
  refine wk 35 cz ?_
  intro b1 b2 h1 h2 h3
  refine Ah (X:=Nat) [3,29,30] [0,1] (fun i=>[(31,.int .i64 (i:Int))]) (fun _=>_) (fun _=>[]) (fun i=>i≤md.length∧∀ j,j<i→md[j]?=md2[j]?) (fun i=>md.length-i) 0 [] rfl rfl rfl ⟨Nat.zero_le _,fun j hj=>by omega⟩ (by repeat (first|exact Fr.sub_nil _|refine Fr.sub_cons rfl ?_)) rfl rfl ?_
  rintro i ⟨hi,hj⟩ ih
  simp only [List.cons_append,List.nil_append] at ih ⊢
  by_cases h9:i<md.length
  ·obtain ⟨x,at_x⟩:∃ x,md[i]?=some x:=⟨_,List.getElem?_eq_getElem h9⟩
   obtain ⟨y,at_y⟩:∃ y,md2[i]?=some y:=⟨_,List.getElem?_eq_getElem (by omega)⟩
   by_cases hxy:x=y
   ·have ih':=ih (i+1) (by omega) ⟨by omega,fun j h=>by
     by_cases e:j=i
     ·rw [e,at_x,at_y,hxy]
     ·exact hj j (by omega)⟩
    clear ih
    refine wk 7 cz ?_
    intro h4 b3 o1 hz1
    refine Aa rfl (Av 0 rfl rfl Ci fun ⟨r1,r2⟩=>?_)
    refine wk 6 cz ?_
    intro b4 o2 hz2
    refine Aa rfl (Av 0 rfl rfl Ci fun ⟨r3,r4⟩=>?_)
    refine wk 6 cz ?_
    intro h5
    exact tw (ih')
   ·have e:res=false:=by
     rw [← hr]
     refine decide_eq_false fun e=>hxy ?_
     rw [e,at_y] at at_x
     exact (Option.some.inj at_x).symm
    subst e
    clear ih
    refine wk 7 cz ?_
    intro h4 b3 o1 hz1
    refine Aa rfl (Av 0 rfl rfl Ci fun ⟨r1,r2⟩=>?_)
    refine wk 6 cz ?_
    intro b4 o2 hz2
    refine Aa rfl (Av 0 rfl rfl Ci fun ⟨r3,r4⟩=>?_)
    refine wk 6 cz ?_
    intro h5
    exact ge
  ·have e:res=true:=by
    rw [← hr]
    refine decide_eq_true (List.ext_getElem? fun j=>?_)
    by_cases h:j<md.length
    ·exact hj j (by omega)
    ·rw [List.getElem?_eq_none (by omega),List.getElem?_eq_none (by omega)]
   subst e
   clear ih
   refine wk 7 cz ?_
   intro h4
   exact ge
 ·have e:res=false:=by
   rw [← hr]
   exact decide_eq_false fun ⟨a,b,d⟩=>h1 ⟨a,b,by rw [d]⟩
  subst e
  by_cases hP:P=P2
  ·by_cases hM:M=M2
   ·have hl:md.length≠md2.length:=fun e=>h1 ⟨hP,hM,e⟩
    refine wk 32 cz ?_
    intro b1 b2 h2 h3 h4
    exact ge
   ·refine wk 26 cz ?_
    intro b1 b2 h2 h3
    exact ge
  ·refine wk 18 cz ?_
   intro b1 b2 h2
   exact ge
open Go Go.Fw
set_option maxRecDepth 100000
set_option linter.unusedVariables false
set_option linter.unusedSimpArgs false
set_option maxHeartbeats 0
section
variable {p m:Nat}{md:List Int}
theorem Qf {b ng cg ne ce nl cl:Nat}{pg pe pl:Option Addr}{x y:Int}(K:Fok p m md) (x0:0≤x) (x1:x<((p ^ m:Nat):Int)) (y0:0≤y) (y1:y<((p ^ m:Nat):Int)) :
  Bt Tryz.prog 207 [.pointer (some ⟨b,0,none⟩),.int .i64 x,.int .i64 y] [] [Jc b p m (p ^ m) pg ng cg pe ne ce pl nl cl] (Rv (.int .i64 (Ad (fA p m) x (Cz p m y))) []):=by
 refine Ab (F:=Yp) rfl fun C=>?_
 have hq:=K.q
 have h2:=K.p2
 have h1:=K.m1
 obtain ⟨⟨n0,n1⟩,_⟩:=(AHU K).ng y y0 y1
 refine wk 99 (ct @Gt (ct @Dc cz)) ?_
 exact ge
end
open Go Go.Fw
set_option maxRecDepth 100000
set_option linter.unusedVariables false
set_option linter.unusedSimpArgs false
set_option maxHeartbeats 0
abbrev ReQ (N:Nat) (l:List Int):Value→List Fact→List A4→Prop:=fun v Φ β=>∃ (r:Row) (pt:Option Addr) (kt ct:Nat),v = .tuple #[.slice (ad r.bo) N r.cap,.slice pt kt ct]∧Φ=[A7 Ai r N l]∧β=[(r.bo,3,r.cs)]
theorem Ri {p m b ng cg ce cl n c k cp nx cx N:Nat}{pg pe pl ps pp px:Option Addr}{md x:List Int}{rows:List (List Int)}{P:List Nat}(K:Fok p m md) (hR:Red (p ^ m) N rows P) (hlen:rows.length=P.length) (hN1:1≤N) (hN:N≤1000000) (hPl:P.length≤1000000) (hx:Wd (p ^ m) N x) :
  Bt Tryz.prog 176 [.agg #[.pointer (some ⟨b,0,none⟩),.int .i64 N,.slice ps n c,.slice pp k cp],.slice px nx cx] [] [Jc b p m (p ^ m) pg ng cg pe (p ^ m-1) ce pl (p ^ m) cl,Ap Ai pe (p ^ m-1) ce (Jh p m md),Ap Ai pl (p ^ m) cl (Jk p m md),Ap (Aj Ai) ps n c rows,Ap Ai pp k cp (Bb P),Ap Ai px nx cx x]
   (ReQ N (rpF (Ad (fA p m)) (Ad (fM p (Ax m md))) (Cz p m) P rows x)):=by
 refine Ab (F:=Rm) rfl fun C=>?_
 have O:=AHU K
 have FF:=O.fi
 have hq:=K.q
 have hq2:=O.q2
 refine Ba 3 rfl fun hn hb _=>?_
 subst hn
 refine Ba 4 rfl fun hn hb2 _=>?_
 rw [Ch] at hn
 subst hn
 refine Ba 5 rfl fun hn hb3 _=>?_
 have hnx:=hx.1
 rw [hnx] at hn
 subst hn
 have A6:=fun {b ng cg ce cl:Nat}{pg pe pl:Option Addr}{x y:Int}=>C3 (b:=b) (ng:=ng) (cg:=cg) (ce:=ce) (cl:=cl) (pg:=pg) (pe:=pe) (pl:=pl) (x:=x) (y:=y) K
 have Kl:=fun {b ng cg ne ce nl cl:Nat}{pg pe pl:Option Addr}{x y:Int}=>Qf (b:=b) (ng:=ng) (cg:=cg) (ne:=ne) (ce:=ce) (nl:=nl) (cl:=cl) (pg:=pg) (pe:=pe) (pl:=pl) (x:=x) (y:=y) K
 generalize Ad (fM p (Ax m md))=M at *
 generalize Ad (fA p m)=A0 at *
 generalize Cz p m=Ng at *
 refine wk 13 (ct @D6 cz) ?_
 intro b1 r1
 simp only [List.cons_append,List.nil_append]
 refine Dt 0 rfl hN1 fun b9 cap9 cs9 hr=>?_
 subst hr
 refine F3 Ai 3 ?_
 refine Ah (X:=Nat×List Value×Row×List Int) [2,4,14,15] [0,1,2,3,4,5,6,7] (fun x'=>[(16,.int .i64 (x'.1:Int)),(4,.slice (some ⟨b9,0,none⟩) nx cap9),(5,.slice (ad x'.2.2.1.bo) x'.1 x'.2.2.1.cap)]) (fun x'=>[(x'.2.2.1.bo,3,x'.2.2.1.cs),(some b9,3,x'.2.1),(some b1,108,[.pointer (some ⟨b,0,none⟩),.int .i64 nx,.slice ps rows.length c,.slice pp P.length cp])])
  (fun x'=>[A7 Ai x'.2.2.1 x'.1 x'.2.2.2,A7 Ai ⟨some b9,cap9,x'.2.1⟩ nx (rpF A0 M Ng (P.take x'.1) (rows.take x'.1) x)]) (fun x'=>x'.1≤P.length) (fun x'=>P.length-x'.1) (0,cs9,⟨none,0,[]⟩,[]) [0,1] rfl rfl rfl (Nat.zero_le _) (by repeat (first|exact Fr.sub_nil _|refine Fr.sub_cons rfl ?_)) rfl rfl ?_
 rintro ⟨i,cs,r,tl⟩ hi ih
 simp only [List.cons_append,List.nil_append] at hi ih ⊢
 by_cases hil:i<P.length
 ·obtain ⟨pi,hpi⟩:∃ pi,P[i]?=some pi:=⟨_,List.getElem?_eq_getElem hil⟩
  obtain ⟨ri,at_r⟩:∃ ri,rows[i]?=some ri:=⟨_,List.getElem?_eq_getElem (by omega)⟩
  have at_p:(Bb P)[i]?=some (pi:Int):=Il hpi
  have hpn:=hR.ech.lt pi (List.mem_of_getElem? hpi)
  have hri:=hR.mat ri (List.mem_of_getElem? at_r)
  have hL:=O.rp_wd (P:=P.take i) (R:=rows.take i) (fun r hr=>hR.mat r (List.mem_of_mem_take hr)) hx
  have hst:rpF A0 M Ng (P.take (i+1)) (rows.take (i+1)) x=Eo A0 M (Ng (Bf (rpF A0 M Ng (P.take i) (rows.take i) x) pi)) ri (rpF A0 M Ng (P.take i) (rows.take i) x):=by
   rw [List.take_add_one,List.take_add_one,hpi,at_r]
   exact ADm (by rw [List.length_take,List.length_take,hlen])
  have ih':=fun cs r tl=>ih (i+1,cs,r,tl) (by dsimp only;omega) (by dsimp only;omega)
  dsimp only at ih'
  simp only [hst] at ih'
  generalize rpF A0 M Ng (P.take i) (rows.take i) x=L at *
  have at_y:L[pi]?=some (Bf L pi):=by rw [Bf,List.getD_eq_getElem?_getD,List.getElem?_eq_getElem (by rw [hL.1];exact hpn)];rfl
  obtain ⟨y0,y1⟩:=Bh (by omega) hL pi
  generalize Bf L pi=y at *
  obtain ⟨⟨n0,n1⟩,_⟩:=O.ng y y0 y1
  by_cases hy:y=0
  ·have e0:Eo A0 M (Ng y) ri L=L:=by rw [hy,O.n0];exact O.axp0 hri hL
   rw [e0] at ih'
   refine wk 6 cz ?_
   intro h1
   refine Aa rfl (Iw 8 (i) rfl rfl rfl Ce rfl (by omega) fun z1 hz1 b2 o1=>?_)
   obtain rfl:_=z1:=Option.some.inj (at_p.symm.trans hz1)
   refine Aa rfl (Av 0 rfl rfl Ci fun ⟨r1,r2⟩=>?_)
   refine wk 4 cz ?_
   refine Aa rfl (Su 1 2 (pi) rfl rfl rfl Ci rfl (by assumption) fun hr1=>?_)
   refine wk 4 cz ?_
   intro b3
   refine Aa rfl (Ga (z:=(y:Int)) 1 0 1 rfl rfl rfl rfl rfl Ce Ep rfl (fun w A hG=>(Dq (by first|(simp only [Bv];omega)|(simp [Bv];done)))) (by omega) _ Hu (by omega) fun r3=>?_)
   refine wk 8 cz ?_
   intro h2
   refine Kx [true,false,true,true] [0,3,4,5,6,7,8,9,10,11] (by exact Uy rfl) rfl rfl (ih' cs r3 (tl++[y]))
  ·have hy':=hy
   obtain ⟨hax0,hax1⟩:Wd (p ^ m) nx (Eo A0 M (Ng y) ri L):=FF.axw n0 n1 hri hL
   have hLl:=hL.1
   have hrl:=hri.1
   refine wk 6 cz ?_
   intro h1
   refine Aa rfl (Iw 8 (i) rfl rfl rfl Ce rfl (by omega) fun z1 hz1 b2 o1=>?_)
   obtain rfl:_=z1:=Option.some.inj (at_p.symm.trans hz1)
   refine Aa rfl (Av 0 rfl rfl Ci fun ⟨r1,r2⟩=>?_)
   refine wk 4 cz ?_
   refine Aa rfl (Su 1 2 (pi) rfl rfl rfl Ci rfl (by assumption) fun hr1=>?_)
   refine wk 4 cz ?_
   intro b3
   refine Aa rfl (Ga (z:=(y:Int)) 1 0 1 rfl rfl rfl rfl rfl Ce Ep rfl (fun w A hG=>(Dq (by first|(simp only [Bv];omega)|(simp [Bv];done)))) (by omega) _ Hu (by omega) fun r3=>?_)
   refine wk 8 cz ?_
   intro h2
   refine Aa rfl (Bm 3 rfl rfl H7 rfl ?_)
   refine wk 1 cz ?_
   refine Aa rfl (Iw 9 (i) rfl rfl rfl D5 rfl (by omega) fun z1 hz2 b4 o2=>?_)
   obtain rfl:_=z1:=Option.some.inj (at_r.symm.trans hz2)
   refine Aa rfl (Y0 0 rfl rfl E7 fun pa1 ca1=>?_)
   refine wk 3 cz ?_
   refine Ah (X:=Nat×List Value) [2,4,5,6,7,8,14,15,16,17,18,19,20,21,22,23,24,25,26,27,28,29,30,31,32,33,34,35,36,37] [0,1,2,3,4,5,6,7,8,9,10,11,12,13] (fun z=>[(38,.int .i64 (z.1:Int))]) (fun z=>[(r3.bo,3,r3.cs),(some b3,3,[.int .i64 y]),(some b9,3,z.2),(some b1,108,[.pointer (some ⟨b,0,none⟩),.int .i64 nx,.slice ps rows.length c,.slice pp P.length cp])]) (fun z=>[A7 Ai ⟨some b9,cap9,z.2⟩ nx ((Eo A0 M (Ng y) ri L).take z.1++L.drop z.1)]) (fun z=>z.1≤nx) (fun z=>nx-z.1) (0,cs) [5] rfl rfl rfl (Nat.zero_le _) (by repeat (first|exact Fr.sub_nil _|refine Fr.sub_cons rfl ?_)) rfl rfl ?_
   rintro ⟨j,cs⟩ hj ihj
   simp only [List.cons_append,List.nil_append] at hj ihj ⊢
   by_cases hjl:j<nx
   ·obtain ⟨z,at_z⟩:∃ z,ri[j]?=some z:=⟨_,List.getElem?_eq_getElem (by omega)⟩
    obtain ⟨u,hu⟩:∃ u,L[j]?=some u:=⟨_,List.getElem?_eq_getElem (by omega)⟩
    obtain ⟨z0,z1⟩:=hri.2 z (List.mem_of_getElem? at_z)
    obtain ⟨u0,u1⟩:=hL.2 u (List.mem_of_getElem? hu)
    obtain ⟨m0,m1⟩:=FF.ml y z y0 y1 z0 z1
    have hT:(Eo A0 M (Ng y) ri L)[j]?=some (A0 u (Ng (M y z))):=by rw [Eo,List.getElem?_zipWith,hu,at_z,O.ng_mul y0 y1 z0 z1]
    have hLj:=(ACq hax0 hL.1 hjl).trans hu
    have hset:=Za hax0 hL.1 hjl hT
    have hLl:((Eo A0 M (Ng y) ri L).take j++L.drop j).length=nx:=by rw [List.length_append,List.length_take,List.length_drop];omega
    have ihj':=fun cs=>ihj (j+1,cs) (by dsimp only;omega) (by dsimp only;omega)
    dsimp only at ihj'
    rw [← hset] at ihj'
    generalize (Eo A0 M (Ng y) ri L).take j++L.drop j=L2 at *
    obtain ⟨⟨g0,g1⟩,_⟩:=O.ng _ m0 m1
    obtain ⟨a0,a1⟩:=FF.al u _ u0 u1 g0 g1
    refine wk 6 cz ?_
    intro h3
    refine Aa rfl (Iw 1 (j) rfl rfl rfl Ce rfl (by omega) fun z2 hz3 b5 o3=>?_)
    obtain rfl:_=z2:=Option.some.inj (at_z.symm.trans hz3)
    refine Aa rfl (Av 0 rfl rfl Ci fun ⟨r4,r5⟩=>?_)
    refine wk 2 cz ?_
    (apply E5 it mx 14;(· rfl);(· rfl))
    (apply A3 2;(· rfl);(· simp))
    (apply Ac;(· rfl);(· exact Cg fun _=>Aq rfl AE7 An))
    (apply Ac;(· rfl);(· exact Ca 3 rfl rfl Xs rfl))
    (apply A3 2;(· rfl);(· simp))
    (apply Ac;(· rfl);(· exact Cg fun _=>Be (j) (j) rfl rfl Ce rfl (by omega) (Nat.mul_one _) An))
    (apply Ac;(· rfl);(· exact Hk 2 1 (j) rfl rfl rfl Ci rfl (by assumption)))
    (apply Ac;(· rfl);(· exact Cg fun _=>Aq rfl AE7 An))
    (apply Ac;(· rfl);(· exact Ca 3 rfl rfl Xs rfl))
    (apply A3 2;(· rfl);(· simp))
    (apply Ac;(· rfl);(· exact Cg fun _=>Aw [10,11,12] rfl (A6 (by omega) (by omega) (by omega) (by omega)) rfl (by rintro _ _ _ ⟨rfl,rfl,rfl⟩;exact An)))
    (apply Ac;(· rfl);(· exact Cg fun _=>Aw [10] rfl (Kl (by omega) (by omega) (by omega) (by omega)) rfl (by rintro _ _ _ ⟨rfl,rfl,rfl⟩;exact An)))
    refine Et rfl ?_
    simp only [List.map_cons,List.map_nil,List.cons_append,List.nil_append]
    refine wk 1 cz ?_
    refine Aa rfl (G7 (vs:=[Value.int IntKind.i64 (A0 u (Ng (M y z)))]) (z:=(A0 u (Ng (M y z)):Int)) 2 1 (j) rfl rfl rfl rfl rfl Ci (Nat.mul_one _).symm (by omega) (fun w A hG=>(Dq (by first|(simp only [Bv];omega)|(simp [Bv];done)))) fun cs1=>?_)
    refine wk 3 cz ?_
    exact tw (ihj' cs1)
   ·obtain rfl:nx=j:=by omega
    rw [List.take_of_length_le (by omega),List.drop_of_length_le (by omega),List.append_nil]
    refine wk 7 cz ?_
    intro h3
    refine Kx [true,false,true,true] [3,0,7,8,9,10,11,12,13,14] (by exact Uy rfl) rfl rfl (ih' cs r3 (tl++[y]))
 ·obtain rfl:i=P.length:=by omega
  rw [List.take_length,← hlen,List.take_length] at *
  refine wk 7 cz ?_
  intro h1
  refine D4 3 [1] [1] rfl (.tmp rfl (.tmp rfl .nil)) rfl rfl rfl ⟨⟨some b9,cap9,cs⟩,_,_,_,rfl,rfl,rfl⟩
structure PtI (l L:List Int) (a e:Nat) (p:Int) (i j:Nat):Prop where
 seg:Seg a e l L
 p0:Bf L a=p
 i1:a+1≤i
 ij:i≤j+1
 je:j<e
 lo:∀ k,a+1≤k→k<i→Bf L k<p
 hi:∀ k,j<k→k<e→p≤Bf L k
section
variable {l L:List Int}{a e i j:Nat}{p:Int}
theorem PtI.next (h:PtI l L a e p i j) (hij:i≤j) (hx:Bf L i<p):PtI l L a e p (i+1) j:=⟨h.seg,h.p0,by have:=h.i1;omega,by omega,h.je,fun k k1 k2=>by
 by_cases c:k=i
 ·rw [c];exact hx
 ·exact h.lo k k1 (by omega),h.hi⟩
theorem PtI.swap (h:PtI l L a e p i j) (he:e≤l.length) (hij:i≤j) (hx:¬ Bf L i<p) (hy:Bf L j<p):i<j∧PtI l (sw L i j) a e p (i+1) (j-1):=by
 have hL:=h.seg.len
 have h1:=h.i1
 have h2:=h.je
 have hne:i≠j:=fun c=>by rw [c] at hx;exact hx hy
 have hsw:∀ k,Bf (sw L i j) k=if k=j then Bf L i else if k=i then Bf L j else Bf L k:=fun k=>Xv (by omega) (by omega)
 refine ⟨by omega,h.seg.trans (AAu (by omega) (by omega) (by omega) (by omega) (by omega)),?_,by omega,by omega,by omega,fun k k1 k2=>?_,fun k k1 k2=>?_⟩
 ·rw [hsw,if_neg (by omega),if_neg (by omega)];exact h.p0
 ·rw [hsw,if_neg (by omega)]
  by_cases c:k=i
  ·rw [if_pos c];exact hy
  ·rw [if_neg c];exact h.lo k k1 (by omega)
 ·rw [hsw]
  by_cases c:k=j
  ·rw [if_pos c];omega
  ·rw [if_neg c,if_neg (by omega)];exact h.hi k (by omega) k2
structure PtE (l L:List Int) (a e m:Nat):Prop where
 seg:Seg a e l L
 am:a≤m
 me:m<e
 lo:∀ k,a≤k→k<m→Bf L k≤Bf L m
 hi:∀ k,m<k→k<e→Bf L m≤Bf L k
theorem PtI.fin (h:PtI l L a e p i j) (he:e≤l.length) (hij:¬ i≤j):PtE l (sw L j a) a e j:=by
 have hL:=h.seg.len
 have h1:=h.i1
 have h2:=h.je
 have h3:=h.ij
 have hsw:∀ k,Bf (sw L j a) k=if k=a then Bf L j else if k=j then Bf L a else Bf L k:=fun k=>Xv (by omega) (by omega)
 have hm:Bf (sw L j a) j=p:=by
  rw [hsw]
  by_cases c:j=a
  ·rw [if_pos c,c];exact h.p0
  ·rw [if_neg c,if_pos rfl];exact h.p0
 refine ⟨h.seg.trans (AAu (by omega) (by omega) (by omega) (by omega) (by omega)),by omega,h2,fun k k1 k2=>?_,fun k k1 k2=>?_⟩
 ·rw [hm,hsw]
  by_cases c:k=a
  ·rw [if_pos c];exact Int.le_of_lt (h.lo j (by omega) (by omega))
  ·rw [if_neg c,if_neg (by omega)];exact Int.le_of_lt (h.lo k (by omega) (by omega))
 ·rw [hm,hsw,if_neg (by omega),if_neg (by omega)]
  exact h.hi k k1 k2
end
open Go Go.Fw
set_option maxRecDepth 100000
set_option linter.unusedVariables false
set_option linter.unusedSimpArgs false
set_option maxHeartbeats 0
structure PeI (l L:List Int) (a e:Nat) (p:Int) (i j:Nat):Prop where
 seg:Seg a e l L
 p0:Bf L a=p
 i1:a+1≤i
 ij:i≤j+1
 je:j<e
 lo:∀ k,a+1≤k→k<i→Bf L k≤p
 hi:∀ k,j<k→k<e→p<Bf L k
section
variable {l L:List Int}{a e i j:Nat}{p:Int}
theorem PeI.next (h:PeI l L a e p i j) (hij:i≤j) (hx:¬ p<Bf L i):PeI l L a e p (i+1) j:=⟨h.seg,h.p0,by have:=h.i1;omega,by omega,h.je,fun k k1 k2=>by
 by_cases c:k=i
 ·rw [c];omega
 ·exact h.lo k k1 (by omega),h.hi⟩
theorem PeI.swap (h:PeI l L a e p i j) (he:e≤l.length) (hij:i≤j) (hx:p<Bf L i) (hy:¬ p<Bf L j):i<j∧PeI l (sw L i j) a e p (i+1) (j-1):=by
 have hL:=h.seg.len
 have h1:=h.i1
 have h2:=h.je
 have hne:i≠j:=fun c=>by rw [c] at hx;exact hy hx
 have hsw:∀ k,Bf (sw L i j) k=if k=j then Bf L i else if k=i then Bf L j else Bf L k:=fun k=>Xv (by omega) (by omega)
 refine ⟨by omega,h.seg.trans (AAu (by omega) (by omega) (by omega) (by omega) (by omega)),?_,by omega,by omega,by omega,fun k k1 k2=>?_,fun k k1 k2=>?_⟩
 ·rw [hsw,if_neg (by omega),if_neg (by omega)];exact h.p0
 ·rw [hsw,if_neg (by omega)]
  by_cases c:k=i
  ·rw [if_pos c];omega
  ·rw [if_neg c];exact h.lo k k1 (by omega)
 ·rw [hsw]
  by_cases c:k=j
  ·rw [if_pos c];exact hx
  ·rw [if_neg c,if_neg (by omega)];exact h.hi k (by omega) k2
structure PeE (l L:List Int) (a e m:Nat) (p:Int):Prop where
 seg:Seg a e l L
 am:a<m
 me:m≤e
 lo:∀ k,a≤k→k<m→Bf L k≤p
 hi:∀ k,m≤k→k<e→p<Bf L k
theorem PeI.fin (h:PeI l L a e p i j) (hij:¬ i≤j):PeE l L a e i p:=by
 have h1:=h.i1
 have h2:=h.je
 have h3:=h.ij
 refine ⟨h.seg,by omega,by omega,fun k k1 k2=>?_,fun k k1 k2=>h.hi k (by omega) k2⟩
 by_cases c:k=a
 ·rw [c,h.p0];exact Int.le_refl _
 ·exact h.lo k (by omega) k2
end
open Go Go.Fw
set_option maxRecDepth 100000
set_option linter.unusedVariables false
set_option linter.unusedSimpArgs false
set_option maxHeartbeats 0
structure PdI (l L:List Int) (a0 e0 a e:Nat):Prop where
 seg:Seg a0 e0 l L
 aa:a0≤a
 ae:a≤e
 ee:e≤e0
 low:AEe L a e
 fin:∀ L',Seg a e L L'→Ko L' a e→Ko L' a0 e0
section
variable {l L L2 L3:List Int}{a0 e0 a e m:Nat}{p:Int}
theorem PdI.seg2 (h:PdI l L a0 e0 a e) (s:Seg a e L L2):PdI l L2 a0 e0 a e :=
 ⟨h.seg.trans (s.wide h.aa h.ee),h.aa,h.ae,h.ee,h.low.seg s,fun L' t u=>h.fin L' (s.trans t) u⟩
theorem PdI.done (h:PdI l L a0 e0 a e) (s:Seg a e L L2) (u:Ko L2 a e):Seg a0 e0 l L2∧Ko L2 a0 e0 :=
 ⟨h.seg.trans (s.wide h.aa h.ee),h.fin _ s u⟩
theorem PdI.eq (h:PdI l L a0 e0 a e) (h0:0<a) (hp:p≤Bf L (a-1)) (q:PeE L L2 a e m p):PdI l L2 a0 e0 m e:=by
 have hlow:∀ i,a≤i→i<e→p≤Bf L i:=fun i h1 h2=>by
  rcases h.low with h3|h3
  ·omega
  ·have:=h3 i h1 h2;omega
 have hall:=q.seg.all (P:=fun x=>p≤x) hlow
 have am:=q.am
 have me:=q.me
 have heq:∀ i,a≤i→i<m→Bf L2 i=p:=fun i h1 h2=>Int.le_antisymm (q.lo i h1 h2) (hall i h1 (by omega))
 have h2:=h.seg2 q.seg
 refine ⟨h2.seg,by have:=h.aa;omega,me,h.ee,.inr fun i h1 h3=>?_,fun L' s u=>?_⟩
 ·rw [heq (m-1) (by omega) (by omega)];exact Int.le_of_lt (q.hi i h1 h3)
 ·refine h2.fin L' (s.wide (by omega) (Nat.le_refl _)) (AJ6 (m:=m) (x:=p) (fun i h1 h3=>?_) (fun i h1 h3=>?_) u)
  ·rw [s.out i (.inl h3)];exact heq i h1 h3
  ·exact s.all (P:=fun x=>p≤x) (fun j j1 j2=>Int.le_of_lt (q.hi j j1 j2)) i h1 h3
end
end Go.Proofs.YtpienolhkccpnaaGreat
