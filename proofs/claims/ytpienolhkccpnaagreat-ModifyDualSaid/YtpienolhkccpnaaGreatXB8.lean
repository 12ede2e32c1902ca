/-
Bases of a field. The elements of a field, one by one; normal elements. Values of polynomials. The roots of a polynomial. A small field in a big one. A small field in a big one, for codes. Medians, in the library. Reversing a part, in the library. Heap sort, in the library. A part is split, in the library. A part is split into what is no greater and what is, in the library. Partial insertion, in the library. Numbers drawn, in the library. Patterns broken, in the library. Lists put in order by pivots, in the library. Lists put in order and turned round, in the library. Trace codes. Trace codes and subfield subcodes; what is refused. Lifted codes. The examples of the chapter: fields and codes. The chapter is awake. Dual codes and weights, in the document. The document's extended codes. Independent columns: a basis that grows, and the pivots of the rows. Independent columns and the pivots of the rows. Columns taken as long as they are independent, in plain words. Exclusion trees in plain words. Columns in their order, as far as they are independent, in the program. The nodes below a node of an exclusion tree, in the program. The program's walk through an exclusion tree. The program's CheckRank and CheckDistance. Entries of a word at some places, in the document. Tests of exclusion trees in the document. The document's sets of positions and punctured codes. The document's words of a space that vanish at some positions. The document's shortened and expurgated codes. The document's augmented codes. ModifySums: the program and the document make the same codes. Sorted lists of values. Permuted codes, for all lengths. The document's subcodes. The document's permuted codes. ModifyPositions: the program and the document make the same codes. The positions whose bits are set. ModifyDual: duals of punctured and shortened codes.
-/
import Derived.Test.YtpienolhkccpnaaGreatXB7
set_option linter.unusedVariables false
set_option linter.unusedSimpArgs false
namespace Go.Proofs.YtpienolhkccpnaaGreat
open Go Go.Fw
set_option maxRecDepth 100000
set_option linter.unusedVariables false
set_option linter.unusedSimpArgs false
set_option maxHeartbeats 0
def nsB (p m d:Nat) (md:List Int) (l:List Nat):Bool:=decide ((J9 p m md (m / d) 0 0 (syL (fM p (Ax m md)) p m d l (Bc (Rp (fM p (Ax m md)) p m d 0)))).2.length=m / d)
theorem AIA {d:Nat}{l:List Nat}{r md:List Int}{p m n k:Nat}(K:Fok p m md) (hn:m / d=n) (hlk:l.length=k) (hlq:∀ x∈l,x<p ^ m) (hrl:r.length=n) (hr:∀ z∈r,0≤z∧z<((p ^ m:Nat):Int)) :
  (syL (fM p (Ax m md)) p m d l r).length=n∧Cz (p ^ m) (k+1) (syL (fM p (Ax m md)) p m d l r):=by
 refine ⟨by simp [syL,hn],fun s hs=>?_⟩
 obtain ⟨i,hi,rfl⟩:=List.mem_map.1 hs
 have hi:=List.mem_range.1 hi
 refine ⟨by simp [hlk],fun z hz=>?_⟩
 rcases List.mem_append.1 hz with hz|hz
 ·obtain ⟨x,hx,rfl⟩:=List.mem_map.1 hz
  have:=Pz (f:=Mu (fM p (Ax m md)) p (d % m)) (fun y hy=>Nr K hy (d % m)) (hlq x hx) i
  omega
 ·rw [List.mem_singleton.1 hz,Ba,List.getD_eq_getElem?_getD,List.getElem?_eq_getElem (by omega)]
  exact hr _ (List.getElem_mem _)
section
variable {b p m n ng cg ce cl d cL:Nat}{pg pe pl pX0:Option Addr}{l:List Nat}{md:List Int}
theorem AA7 (K:Fok p m md) (d1:1≤d) (d8:d≤8) (hd:dgB m d=true) (hn:m / d=n) (hn0:0<n) (hlk:l.length=n) (hlq:∀ x∈l,x<p ^ m) :
  Bs Tryz.prog 200 [.pointer (some ⟨b,0,none⟩),.slice pX0 n cL,.int .i64 (d:Int)] []
   [I2 b p m (p ^ m) pg md.length cg pe (p ^ m-1) ce pl (p ^ m) cl,Ap Ai pg md.length cg md,Ap Ai pe (p ^ m-1) ce (Jg p m md),Ap Ai pl (p ^ m) cl (Jf p m md),Ap Ai pX0 n cL (Bc l)]
   (Rv (.int .i64 (if nsB p m d md l then 0 else 9)) []):=by
 refine Ab (F:=AAN) rfl fun C=>?_
 have hm:=K.m8
 have hn8:n≤8:=by have:=Nat.div_le_self m d;omega
 have hq:=K.q
 have q0:0<p ^ m:=Nat.pow_pos (by have:=K.p2;omega)
 have h0:=AGH (d:=d) K q0
 have h0l:(Bc (Rp (fM p (Ax m md)) p m d 0)).length=n:=by rw [Ch,ACB,hn]
 have hsy:=AIA K hn hlk hlq h0l h0
 have Bg:=fun {b ne ce nl cl cg:Nat}{pg pe pl:Option Addr}=>Gc (b:=b) (ne:=ne) (ce:=ce) (nl:=nl) (cl:=cl) (cg:=cg) (pg:=pg) (pe:=pe) (pl:=pl) K d1 d8
 have Cq:=fun {b cg ce cl:Nat}{pg pe pl:Option Addr}=>(K1 (b:=b) (cg:=cg) (ce:=ce) (cl:=cl) (pg:=pg) (pe:=pe) (pl:=pl) K q0 d1 d8).pubR (by show m / d*8≤140737488355328;omega)
 have Rn:=fun {b cg ce cl cL cR:Nat}{pg pe pl pX0 pR:Option Addr}=>Zu (b:=b) (cg:=cg) (ce:=ce) (cl:=cl) (cL:=cL) (cR:=cR) (pg:=pg) (pe:=pe) (pl:=pl) (pX0:=pX0) (pR:=pR) K d1 d8 hn hn0 hlk (by omega) hlq h0l fun z hz=>by have:=h0 z hz;simp only [Bv];omega
 have Gv:=fun {b ng cg ce cl:Nat}{pg pe pl:Option Addr}{rh:Row}{hd:Nat→Hd}{cs:Nat→List Value}=>AAJ (b:=b) (ng:=ng) (cg:=cg) (ce:=ce) (cl:=cl) (pg:=pg) (pe:=pe) (pl:=pl) (rh:=rh) (hd:=hd) (cs:=cs) K hn0 (by omega) hsy.1 hsy.2
 rw [hd] at Bg
 have hns:nsB p m d md l=decide ((J9 p m md (m / d) 0 0 (syL (fM p (Ax m md)) p m d l (Bc (Rp (fM p (Ax m md)) p m d 0)))).2.length=m / d):=rfl
 rw [hn] at *
 generalize Rp (fM p (Ax m md)) p m d 0=Z at *
 have h0:((0:Nat):Int)=0:=rfl
 rw [h0] at Cq
 generalize J9 p m md n 0 0 (syL (fM p (Ax m md)) p m d l (Bc Z))=EE at *
 by_cases he:EE.2.length=n
 ·rw [decide_eq_true he] at *
  rw [hns,if_pos rfl]
  refine wk 23 (ct @Bg (ct @Cq (ct @Rn cz))) ?_
  intro pa1 ca1 h1 rh1 hd1 cs1
  simp only [List.append_nil]
  have Gv:=fun {b ng cg ce cl:Nat}{pg pe pl:Option Addr}=>Gv (b:=b) (ng:=ng) (cg:=cg) (ce:=ce) (cl:=cl) (pg:=pg) (pe:=pe) (pl:=pl) (rh:=rh1) (hd:=hd1) (cs:=cs1)
  refine Aa rfl (Mz 0 [3,5,6,0,1] rfl rfl (Gv) rfl ?_)
  rintro _ _ _ ⟨pa2,k1,c1,rfl,rfl,rfl⟩
  simp only [List.cons_append,List.nil_append]
  simp only [decide_true]
  refine wk 8 cz ?_
  exact ge
 ·rw [decide_eq_false he] at *
  rw [hns,if_neg Bool.false_ne_true]
  refine wk 23 (ct @Bg (ct @Cq (ct @Rn cz))) ?_
  intro pa1 ca1 h1 rh1 hd1 cs1
  simp only [List.append_nil]
  have Gv:=fun {b ng cg ce cl:Nat}{pg pe pl:Option Addr}=>Gv (b:=b) (ng:=ng) (cg:=cg) (ce:=ce) (cl:=cl) (pg:=pg) (pe:=pe) (pl:=pl) (rh:=rh1) (hd:=hd1) (cs:=cs1)
  refine Aa rfl (Mz 0 [3,5,6,0,1] rfl rfl (Gv) rfl ?_)
  rintro _ _ _ ⟨pa2,k1,c1,rfl,rfl,rfl⟩
  simp only [List.cons_append,List.nil_append]
  simp only [decide_true]
  refine wk 8 cz ?_
  exact ge
theorem X3 (K:Fok p m md) (d1:1≤d) (d8:d≤8) (hd:dgB m d=true) (hn:m / d=n) (hn0:0<n) (hlk:l.length=n) (hlq:∀ x∈l,x<p ^ m) :
  Bs Tryz.prog 169 [.pointer (some ⟨b,0,none⟩),.slice pX0 n cL,.int .i64 (d:Int)] []
   [I2 b p m (p ^ m) pg md.length cg pe (p ^ m-1) ce pl (p ^ m) cl,Ap Ai pg md.length cg md,Ap Ai pe (p ^ m-1) ce (Jg p m md),Ap Ai pl (p ^ m) cl (Jf p m md),Ap Ai pX0 n cL (Bc l)]
   (Rv (.bool (nsB p m d md l)) []):=by
 refine Ab (F:=Yh) rfl fun C=>?_
 have hm:=K.m8
 have Jw:=fun {b cg ce cl cL:Nat}{pg pe pl pX0:Option Addr}=>AA7 (b:=b) (cg:=cg) (ce:=ce) (cl:=cl) (cL:=cL) (pg:=pg) (pe:=pe) (pl:=pl) (pX0:=pX0) K d1 d8 hd hn hn0 hlk hlq
 cases he:nsB p m d md l with
 | true =>
  rw [he,if_pos rfl] at Jw
  refine wk 7 (ct @Jw cz) ?_
  exact ge
 | false =>
  rw [he,if_neg Bool.false_ne_true] at Jw
  refine wk 7 (ct @Jw cz) ?_
  exact ge
end
open Go Go.Fw
set_option maxRecDepth 100000
set_option linter.unusedVariables false
set_option linter.unusedSimpArgs false
set_option maxHeartbeats 0
section
variable {b p m q ng cg ne ce nl cl:Nat}{pg pe pl:Option Addr}
theorem Kc:Bs Tryz.prog 168 [.pointer (some ⟨b,0,none⟩)] [] []
  (fun v Φ β=>∃ b2,v = .func (.func 199) #[] #[.pointer (some ⟨b2,0,none⟩)]∧Φ=[I9 b2 [.pointer (some ⟨b,0,none⟩)]]∧β=[]):=by
 refine Ab (F:=Rc) rfl fun C=>?_
 refine wk 7 cz ?_
 intro b1 --ok
 refine Uh 0 rfl ?_
 simp only [List.eraseIdx_cons_zero]
 exact U8 [0] rfl rfl rfl ⟨_,rfl,rfl,rfl⟩
theorem Vm {b2 l:Nat}{r:Loop}{B:Code}{X:Type}{st:X→List A2}{gf:X→Fact}{I:Nat→X→Prop}{Qs:List Nat→List Fact→List A2→Prop}(x0:X) (h0:I 0 x0) (hq:q≤256) (hr:Rdy r)
  (hY:∀ i x,I i x→i<q→AF2 Tryz.prog l r B [.int .i64 (i:Int)] (st x) [gf x] (AJR st gf I i Qs)) :
  AIO Tryz.prog 199 [.func (.yield l) #[] #[],.pointer (some ⟨b2,0,none⟩)] l r B (st x0) [I9 b2 [.pointer (some ⟨b,0,none⟩)],I2 b p m q pg ng cg pe ne ce pl nl cl,gf x0]
   (fun Φ β=>∃ x,I q x∧Φ=[gf x]∧β=st x) Qs:=by
 refine ABt (F:=P6) rfl fun C hoff=>?_
 refine wk 7 cz ?_ --ok
 refine Ah (X:=Nat×X) [0,7] [0,1,2] (fun z=>[(8,.int .i64 (z.1:Int))]) (fun z=>st z.2) (fun z=>[gf z.2]) (fun z=>I z.1 z.2∧z.1≤q) (fun z=>q-z.1) (0,x0) [2] rfl rfl rfl ⟨h0,Nat.zero_le _⟩ (by repeat (first|exact Fr.sub_nil _|refine Fr.sub_cons rfl ?_)) rfl rfl ?_
 rintro ⟨i,x⟩ ⟨hi,hi2⟩ ih
 simp only [List.cons_append,List.nil_append] at hi hi2 ih ⊢
 by_cases hl:i<q
 ·refine Am [_,_,_,_] rfl ?_
  refine Ae it 1 rfl (by simp) ?_
  refine Am [_,_,_,_] rfl ?_
  refine Kj rfl rfl (fun h1=>?_) (fun h1=>by exfalso;omega)
  refine Am [_,_,_,_,_,_] rfl ?_
  refine Ae it 2 rfl (by simp) ?_
  refine Am [_,_,_,_,_,_] rfl ?_
  refine Ae it 2 rfl (by simp) ?_ --ok
  refine AFr (n:=(st x).length) [0] hoff hr rfl rfl rfl (by rw [List.take_length];exact hY i x hi hl) rfl ?_ ?_
  ·intro Φ β' hq
   obtain ⟨x',hx',rfl,rfl⟩:=AHp hq
   rw [List.drop_length,List.append_nil]
   have ih':=ih (i+1,x') (by dsimp only;omega) ⟨hx',by dsimp only;omega⟩
   dsimp only at ih'
   clear ih
   refine wk 6 cz ?_
   exact tw (ih')
  ·intro q Φ β' C' hq
   have hq:=ADp hq
   rw [List.drop_length,List.append_nil]
   refine Ae it 1 rfl (by simp) ?_
   refine Am [_,_,_,_,_] rfl ?_
   refine Rd rfl rfl ?_ --ok
   exact ACW rfl rfl hq fun g hg=>List.mem_append_left _ hg
 ·obtain rfl:i=q:=by omega
  clear ih
  refine wk 5 cz ?_
  intro h1 --ok
  refine AKc hoff hr ?_
  exact Co [0] rfl rfl ⟨x,hi,rfl,rfl⟩
theorem AIV {d x:Nat}{md:List Int}(K:Fok p m md) (hx:x<p ^ m):∀ z∈Rp (fM p (Ax m md)) p m d x,z<p ^ m:=fun z hz=>by
 obtain ⟨i,_,rfl⟩:=List.mem_map.1 hz
 exact Pz (f:=Mu (fM p (Ax m md)) p (d % m)) (fun y hy=>Nr K hy (d % m)) hx i
theorem AAw {x0 d n:Nat}{md:List Int}(K:Fok p m md) (d1:1≤d) (d8:d≤8) (hd:dgB m d=true) (hn:m / d=n) (hn0:0<n) (hx0:x0<p ^ m) (hN:nsB p m d md (Rp (fM p (Ax m md)) p m d x0)=true) (hmin:∀ y,y<x0→nsB p m d md (Rp (fM p (Ax m md)) p m d y)=false) :
  Bs Tryz.prog 127 [.pointer (some ⟨b,0,none⟩),.int .i64 (d:Int)] []
   [I2 b p m (p ^ m) pg md.length cg pe (p ^ m-1) ce pl (p ^ m) cl,Ap Ai pg md.length cg md,Ap Ai pe (p ^ m-1) ce (Jg p m md),Ap Ai pl (p ^ m) cl (Jf p m md)]
   (Rv (.tuple #[.int .i64 (x0:Int),.int .i64 0]) []):=by
 refine Ab (F:=Rf) rfl fun C=>?_
 have hm:=K.m8
 have hn8:n≤8:=by have:=Nat.div_le_self m d;omega
 have hq:=K.q
 have Bg:=fun {b ne ce nl cl cg:Nat}{pg pe pl:Option Addr}=>Gc (b:=b) (ne:=ne) (ce:=ce) (nl:=nl) (cl:=cl) (cg:=cg) (pg:=pg) (pe:=pe) (pl:=pl) K d1 d8
 rw [hd] at Bg
 refine Am [_,_] rfl ?_
 refine Aa rfl (O5 rfl rfl fun b1=>?_)
 refine Aa rfl (O5 rfl rfl fun b2=>?_)
 refine Aa rfl (Bk zo3 fun b3=>?_)
 refine Aa rfl (Bk AMQ fun b4=>?_)
 refine Am [_,_,_] rfl ?_
 refine Aa rfl (Bm 3 rfl rfl Xo rfl ?_)
 refine Aa rfl (Bm 2 rfl rfl Ci rfl ?_)
 refine Aa rfl (Aw [0,1] rfl (Bg) rfl ?_)
 rintro _ _ _ ⟨rfl,rfl,rfl⟩
 simp only [List.cons_append,List.nil_append]
 refine Ae it 1 rfl (by simp) ?_
 refine Am [_,_] rfl ?_
 refine My rfl rfl ?_
 refine Am [_,_,_] rfl ?_
 refine Aa rfl (Bm 3 rfl rfl Xo rfl ?_)
 refine Aa rfl (Aw [] rfl (Kc) rfl ?_)
 rintro _ _ _ ⟨b21,rfl,rfl,rfl⟩
 simp only [List.cons_append,List.nil_append]
 refine Am [_,_,_] rfl ?_ --ok
 refine Uh 3 rfl ?_
 simp only [List.eraseIdx_cons_succ,List.eraseIdx_cons_zero]
 refine Uh 2 rfl ?_
 simp only [List.eraseIdx_cons_succ,List.eraseIdx_cons_zero]
 refine AB6 [0,1,3,4,5,6] rfl ?_
 refine Z1 (n:=2) (Γ1:=[I9 b21 [.pointer (some ⟨b,0,none⟩)],I2 b p m (p ^ m) pg md.length cg pe (p ^ m-1) ce pl (p ^ m) cl,AAp [I9 b2 [.int .i64 (d:Int)],I9 b1 [.pointer (some ⟨b,0,none⟩)],I2 b p m (p ^ m) pg md.length cg pe (p ^ m-1) ce pl (p ^ m) cl,Ap Ai pg md.length cg md,Ap Ai pe (p ^ m-1) ce (Jg p m md),Ap Ai pl (p ^ m) cl (Jf p m md)]])
  (Qs:=fun q Φ β=>Lw Rf.B q=true∧Φ=[]∧β=[(some b4,30,[.int .i64 0]),(some b3,3,[.int .i64 (x0:Int)])]) [3,4,0] rfl rfl rfl rfl
  (fun l r hr hY=>Vm (X:=Unit) (st:=fun _=>[(some b4,30,[.int .i64 0]),(some b3,3,[.int .i64 0])])
   (gf:=fun _=>AAp [I9 b2 [.int .i64 (d:Int)],I9 b1 [.pointer (some ⟨b,0,none⟩)],I2 b p m (p ^ m) pg md.length cg pe (p ^ m-1) ce pl (p ^ m) cl,Ap Ai pg md.length cg md,Ap Ai pe (p ^ m-1) ce (Jg p m md),Ap Ai pl (p ^ m) cl (Jf p m md)])
   (I:=fun i _=>i≤x0) () (Nat.zero_le _) hq hr fun i x hi hlt=>hY _ _ _ _ rfl fun C hoff=>?_) ?_ ?_
 ·refine Tr (σ':=[(13,.int .i64 (i:Int)),(5,.pointer (some ⟨b4,0,none⟩)),(4,.pointer (some ⟨b3,0,none⟩)),(3,.pointer (some ⟨b2,0,none⟩)),(2,.pointer (some ⟨b1,0,none⟩))]) (Ux rfl) ?_
  refine Am [_,_,_] rfl ?_
  refine Ae it 1 rfl (by simp) ?_
  refine Am [_,_] rfl ?_ --ok
  refine AKt hoff hr.1 fun C'=>?_
  refine Zf 0 rfl ?_
  simp only [List.cons_append,List.nil_append]
  have hE:=AIV (d:=d) K hlt
  have hEl:(Rp (fM p (Ax m md)) p m d i).length=n:=by rw [ACB,hn]
  have Cq:=fun {b cg ce cl:Nat}{pg pe pl:Option Addr}=>(K1 (b:=b) (cg:=cg) (ce:=ce) (cl:=cl) (pg:=pg) (pe:=pe) (pl:=pl) K hlt d1 d8).pubR (by show m / d*8≤140737488355328;omega)
  have H7:=fun {b cg ce cl cL:Nat}{pg pe pl pX0:Option Addr}=>X3 (b:=b) (cg:=cg) (ce:=ce) (cl:=cl) (cL:=cL) (pg:=pg) (pe:=pe) (pl:=pl) (pX0:=pX0) K d1 d8 hd hn hn0 hEl hE
  rw [hn] at Cq
  have hmi:=hmin i
  by_cases he:i=x0
  ·subst he
   rw [hN] at H7
   generalize Rp (fM p (Ax m md)) p m d i=L at *
   refine wk 9 (ct @Cq (ct @H7 cz)) ?_
   intro pa1 ca1 --ok
   simp only [setB,List.set_cons_zero,List.set_cons_succ]
   exact AKJ [] rfl rfl (.inr ⟨_,rfl,rfl,rfl,rfl⟩)
  ·rw [hmi (by omega)] at H7
   generalize Rp (fM p (Ax m md)) p m d i=L at *
   refine wk 5 (ct @Cq (ct @H7 cz)) ?_
   intro pa1 ca1 --ok
   exact ACp [7] rfl (.inl ⟨rfl,(),show i+1≤x0 by omega,rfl,rfl⟩)
 ·rintro Φ β' D C' ⟨x,hi,rfl,rfl⟩
  omega
 ·rintro q Φ β' D C' ⟨hq,rfl,rfl⟩
  simp only [List.cons_append,List.nil_append]
  exact Bj [] hq (.one 1 rfl rfl Ci (.one 0 rfl rfl ANa .nil)) rfl ⟨rfl,rfl,rfl⟩
end
open Go Go.Fw
set_option maxRecDepth 100000
set_option linter.unusedVariables false
set_option linter.unusedSimpArgs false
set_option maxHeartbeats 0
def hoE (A M:Int→Int→Int) (x:Int) (l:List Int):Int:=l.foldr (fun c y=>A (M y x) c) 0
theorem AE3 {q:Nat}{A M:Int→Int→Int}(F:FI q A M) {x:Int}(x0:0≤x) (x1:x<q):∀ (l:List Int),(∀ c∈l,0≤c∧c<(q:Int))→0≤hoE A M x l∧hoE A M x l<q
 | [],_=>⟨Int.le_refl 0,F.z⟩
 | c::l,h=>by
  have ih:=AE3 F x0 x1 l fun d hd=>h d (.tail _ hd)
  have hc:=h c (.head _)
  have h1:=F.ml _ _ ih.1 ih.2 x0 x1
  exact F.al _ _ h1.1 h1.2 hc.1 hc.2
section
variable {b p m q n c ng cg ne ce nl cl:Nat}{pg pe pl ps:Option Addr}{l md:List Int}
theorem ADB (hl:∀ x,l.getLast?=some x→x≠0):Bs Tryz.prog 215 [.slice ps n c] [] [Ap Ai ps n c l] (Rv (.slice ps n c) []):=by
 refine Ab (F:=ADC) rfl fun C=>?_
 refine Bb 0 rfl fun hn hb _=>?_
 subst hn
 have hb':l.length*8≤140737488355328:=hb
 by_cases h0:l.length=0
 ·refine wk 3 cz ?_
  refine Ah (X:=Unit) [2] [0] (fun _=>[(0,.slice ps l.length c)]) (fun _=>_) (fun _=>[]) (fun _=>True) (fun _=>0) () [] rfl rfl rfl trivial (by repeat (first|exact Fr.sub_nil _|refine Fr.sub_cons rfl ?_)) rfl rfl ?_
  rintro _ _ ih
  simp only [List.cons_append,List.nil_append] at ih ⊢
  clear ih
  refine wk 12 cz ?_
  intro h1
  exact ge
 ·obtain ⟨x,at_x⟩:∃ x,l[l.length-1]?=some x:=⟨_,List.getElem?_eq_getElem (by omega)⟩
  have hx0:=hl x (by rw [List.getLast?_eq_getElem?,at_x])
  refine wk 3 cz ?_
  refine Ah (X:=Unit) [2] [0] (fun _=>[(0,.slice ps l.length c)]) (fun _=>_) (fun _=>[]) (fun _=>True) (fun _=>0) () [] rfl rfl rfl trivial (by repeat (first|exact Fr.sub_nil _|refine Fr.sub_cons rfl ?_)) rfl rfl ?_
  rintro _ _ ih
  simp only [List.cons_append,List.nil_append] at ih ⊢
  clear ih
  refine wk 10 cz ?_
  intro h1 b1 o1 hz1
  refine Bt rfl rfl (Av 0 rfl rfl Ci fun ⟨r1,r2⟩=>?_)
  refine wk 6 cz ?_
  intro h2
  exact ge
theorem ADe {x:Int}(K:Fok p m md) (hx0:0≤x) (hx1:x<((p ^ m:Nat):Int)) (hlq:∀ c∈l,0≤c∧c<((p ^ m:Nat):Int)) :
  Bs Tryz.prog 198 [.pointer (some ⟨b,0,none⟩),.slice ps n c,.int .i64 x] [] [I2 b p m (p ^ m) pg ng cg pe (p ^ m-1) ce pl (p ^ m) cl,Ap Ai pe (p ^ m-1) ce (Jg p m md),Ap Ai pl (p ^ m) cl (Jf p m md),Ap Ai ps n c l]
   (Rv (.int .i64 (hoE (Ad (fA p m)) (Ad (fM p (Ax m md))) x l)) []):=by
 refine Ab (F:=ADs) rfl fun C=>?_
 refine Bb 3 rfl fun hn hb _=>?_
 subst hn
 have hb':l.length*8≤140737488355328:=hb
 have hq:=K.q
 have Bq:=fun {b ng cg ne ce nl cl:Nat}{pg pe pl:Option Addr}{x y:Int}=>De (p:=p) (m:=m) (b:=b) (ng:=ng) (cg:=cg) (ne:=ne) (ce:=ce) (nl:=nl) (cl:=cl) (pg:=pg) (pe:=pe) (pl:=pl) (x:=x) (y:=y) K.p2 K.m1 hq
 have A8:=fun {b ng cg ce cl:Nat}{pg pe pl:Option Addr}{x y:Int}=>C1 (b:=b) (ng:=ng) (cg:=cg) (ce:=ce) (cl:=cl) (pg:=pg) (pe:=pe) (pl:=pl) (x:=x) (y:=y) K
 have hr:=fun i=>AE3 K.fi hx0 hx1 (l.drop i) fun c hc=>hlq c (List.mem_of_mem_drop hc)
 have hml:=K.fi.ml
 have hes:∀ i (y:Int),l[i]?=some y→hoE (Ad (fA p m)) (Ad (fM p (Ax m md))) x (l.drop i)=Ad (fA p m) (Ad (fM p (Ax m md)) (hoE (Ad (fA p m)) (Ad (fM p (Ax m md))) x (l.drop (i+1))) x) y:=fun i y hy=>by
  have h1:=(List.getElem?_eq_some_iff.1 hy)
  rw [List.drop_eq_getElem_cons h1.1,h1.2];rfl
 generalize Ad (fM p (Ax m md))=M at *
 generalize Ad (fA p m)=A at *
 generalize Jg p m md=ex at *
 generalize Jf p m md=lg at *
 generalize p ^ m=q at *
 refine wk 9 cz ?_
 refine Ah (X:=Nat×Int) [0,1,2,6] [0,1,2,3] (fun k=>[(8,.int .i64 ((k.1:Int)-1)),(7,.int .i64 k.2)]) (fun _=>_) (fun _=>[]) (fun k=>k.1≤l.length∧k.2=hoE A M x (l.drop k.1)) (fun k=>k.1) (l.length,0) [] rfl rfl rfl ⟨Nat.le_refl _,by dsimp only;rw [List.drop_length];rfl⟩ (by repeat (first|exact Fr.sub_nil _|refine Fr.sub_cons rfl ?_)) rfl rfl ?_
 rintro ⟨k,y⟩ ⟨hk,hy⟩ ih
 simp only [List.cons_append,List.nil_append] at hk hy ih ⊢
 subst hy
 cases k with
 | zero =>
  clear ih
  refine wk 7 cz ?_
  intro h1
  exact ge
 | succ j =>
  rw [show (((j+1:Nat):Int)-1)=(j:Int) by omega]
  obtain ⟨y,at_y⟩:∃ y,l[j]?=some y:=⟨_,List.getElem?_eq_getElem (by omega)⟩
  have ey:l.getD j default=y:=by rw [List.getD_eq_getElem?_getD,at_y];rfl
  have hy:=hlq y (List.mem_of_getElem? at_y)
  have ih':=ih (j,hoE A M x (l.drop j)) (by dsimp only;omega) ⟨by dsimp only;omega,rfl⟩
  dsimp only at ih'
  rw [hes j y at_y] at ih'
  rw [← ey] at hy ih'
  have hs:=hr (j+1)
  have hmx:=hml _ _ hs.1 hs.2 hx0 hx1
  generalize hoE A M x (l.drop (j+1))=s at *
  clear ih
  obtain ⟨y0,y1⟩:=hy
  obtain ⟨s0,s1⟩:=hs
  obtain ⟨m0,m1⟩:=hmx
  refine wk 10 (ct @A8 (ct @Bq cz)) ?_
  intro h1 b1 o1
  exact tw (ih')
theorem ABY (hq:q≤256) (hlq:∀ c∈l,0≤c∧c<(q:Int)) (hl:∀ x,l.getLast?=some x→x≠0) :
  Bs Tryz.prog 197 [.pointer (some ⟨b,0,none⟩),.slice ps n c] [] [I2 b p m q pg ng cg pe ne ce pl nl cl,Ap Ai ps n c l]
   (fun v Φ β=>∃ (pa:Option Addr) (ca:Nat),v = .slice pa l.length ca∧Φ=[Ap Ai pa l.length ca l]∧β=[]):=by
 refine Ab (F:=ABy) rfl fun C=>?_
 refine Bb 1 rfl fun hn hb _=>?_
 subst hn
 have hb':l.length*8≤140737488355328:=hb
 have Lz:=fun {x:Int}{b ng cg ne ce nl cl:Nat}{pg pe pl:Option Addr}(h:decide (0≤x∧x<(q:Int))=true)=>Ja (p:=p) (m:=m) (b:=b) (ng:=ng) (cg:=cg) (ne:=ne) (ce:=ce) (nl:=nl) (cl:=cl) (pg:=pg) (pe:=pe) (pl:=pl) (x:=x) hq h
 have ADu:=fun {ps:Option Addr}{n c:Nat}=>ADB (ps:=ps) (n:=n) (c:=c) hl
 refine wk 12 cz ?_
 intro b1
 rw [show Ao .i64 (List.replicate l.length 0)=Al .i64 (l.take 0++List.replicate (l.length-0) 0) by simp [Ao,Al]]
 refine Ah (X:=Nat) [0,4,5,11,12] [0,1] (fun i=>[(13,.int .i64 (i:Int))]) (fun i=>[(some b1,3,Al .i64 (l.take i++List.replicate (l.length-i) 0))]) (fun _=>[]) (fun i=>i≤l.length) (fun i=>l.length-i) 0 [] rfl rfl rfl (Nat.zero_le _) (by repeat (first|exact Fr.sub_nil _|refine Fr.sub_cons rfl ?_)) rfl rfl ?_
 rintro i hi ih
 simp only [List.cons_append,List.nil_append] at hi ih ⊢
 by_cases h9:i<l.length
 ·obtain ⟨x,at_x⟩:∃ x,l[i]?=some x:=⟨_,List.getElem?_eq_getElem h9⟩
  have hx:=hlq x (List.mem_of_getElem? at_x)
  have Lz:=fun {b ng cg ne ce nl cl:Nat}{pg pe pl:Option Addr}=>Lz (x:=x) (b:=b) (ng:=ng) (cg:=cg) (ne:=ne) (ce:=ce) (nl:=nl) (cl:=cl) (pg:=pg) (pe:=pe) (pl:=pl) (decide_eq_true hx)
  have ih':=ih (i+1) (by omega) (by omega)
  rw [← take_set at_x h9] at ih'
  have hln:(l.take i++List.replicate (l.length-i) 0).length=l.length:=by simp;omega
  generalize l.take i++List.replicate (l.length-i) 0=T at *
  clear ih
  obtain ⟨x0,x1⟩:=hx
  refine wk 7 cz ?_
  intro h1 b2 o1 hz1
  refine Aa rfl (Av 0 rfl rfl Ci fun ⟨r1,r2⟩=>?_)
  refine wk 13 (ct @Lz cz) ?_
  exact tw (ih')
 ·obtain rfl:i=l.length:=by omega
  rw [Nat.sub_self,List.replicate_zero,List.append_nil,List.take_of_length_le (Nat.le_refl _)]
  clear ih
  have hr:∀ z∈l,Bv .i64 z:=fun z hz=>by have:=hlq z hz;simp only [Bv];omega
  refine Bl 0 rfl rfl hr (by omega) ?_
  refine C5 0 0 rfl rfl hb' ?_
  simp only [List.eraseIdx_cons_zero]
  refine wk 9 (ct @ADu cz) ?_
  intro h1
  refine Of [0] rfl rfl rfl ⟨_,_,rfl,rfl,rfl⟩
end
open Go Go.Fw
set_option maxRecDepth 100000
set_option linter.unusedVariables false
set_option linter.unusedSimpArgs false
set_option maxHeartbeats 0
def rtP (A M:Int→Int→Int) (l:List Int) (i:Nat):List Int:=Bc ((List.range i).filter fun x=>decide (hoE A M (x:Int) l=0))
theorem AH6 {A M:Int→Int→Int}{l:List Int}{i:Nat}:rtP A M l (i+1)=if hoE A M (i:Int) l=0 then rtP A M l i++[(i:Int)] else rtP A M l i:=by
 rw [rtP,rtP,List.range_succ,List.filter_append]
 by_cases h:hoE A M (i:Int) l=0
 ·rw [if_pos h];simp [Bc,h]
 ·rw [if_neg h];simp [Bc,h]
theorem AJq {A M:Int→Int→Int}{l:List Int}{i:Nat}:(rtP A M l i).length≤i:=by
 rw [rtP,Bc,List.length_map]
 exact Nat.le_trans (List.length_filter_le _ _) (by simp)
section
variable {b p m q n c ng cg ne ce nl cl:Nat}{pg pe pl ps:Option Addr}{l md:List Int}
theorem ACE (K:Fok p m md) (hlq:∀ c∈l,0≤c∧c<((p ^ m:Nat):Int)) (hl:∀ x,l.getLast?=some x→x≠0) (hl0:0<l.length) :
  Bs Tryz.prog 163 [.pointer (some ⟨b,0,none⟩),.slice ps n c] [] [I2 b p m (p ^ m) pg ng cg pe (p ^ m-1) ce pl (p ^ m) cl,Ap Ai pe (p ^ m-1) ce (Jg p m md),Ap Ai pl (p ^ m) cl (Jf p m md),Ap Ai ps n c l]
   (fun v Φ β=>∃ (pa:Option Addr) (ca:Nat),v = .tuple #[.slice pa (rtP (Ad (fA p m)) (Ad (fM p (Ax m md))) l (p ^ m)).length ca,.int .i64 0]∧Φ=[Ap Ai pa (rtP (Ad (fA p m)) (Ad (fM p (Ax m md))) l (p ^ m)).length ca (rtP (Ad (fA p m)) (Ad (fM p (Ax m md))) l (p ^ m))]∧β=[]):=by
 refine Ab (F:=ABV) rfl fun C=>?_
 have hq:=K.q
 have ABX:=fun {b ng cg ne ce nl cl n c:Nat}{pg pe pl ps:Option Addr}=>ABY (p:=p) (m:=m) (b:=b) (ng:=ng) (cg:=cg) (ne:=ne) (ce:=ce) (nl:=nl) (cl:=cl) (pg:=pg) (pe:=pe) (pl:=pl) (ps:=ps) (n:=n) (c:=c) hq hlq hl
 have Jx:=fun {b ng cg ce cl n c x:Nat}{pg pe pl ps:Option Addr}(hx:x<p ^ m)=>ADe (b:=b) (ng:=ng) (cg:=cg) (ce:=ce) (cl:=cl) (pg:=pg) (pe:=pe) (pl:=pl) (ps:=ps) (n:=n) (c:=c) (x:=(x:Int)) K (by omega) (by omega) hlq
 have hR:=fun i=>AH6 (A:=Ad (fA p m)) (M:=Ad (fM p (Ax m md))) (l:=l) (i:=i)
 have hRl:=fun i=>AJq (A:=Ad (fA p m)) (M:=Ad (fM p (Ax m md))) (l:=l) (i:=i)
 have hR0:rtP (Ad (fA p m)) (Ad (fM p (Ax m md))) l 0=[]:=rfl
 refine Am [_,_] rfl ?_
 refine Aa rfl (O5 rfl rfl fun b1=>?_)
 refine Ae it 2 rfl (by simp) ?_
 refine Am [_,_] rfl ?_
 refine Aa rfl (Bm 0 rfl rfl Xo rfl ?_)
 refine Ae it 1 rfl (by simp) ?_
 refine Aa rfl (Aw [0,3] rfl (ABX) rfl ?_)
 rintro _ _ _ ⟨pa1,ca1,rfl,rfl,rfl⟩
 simp only [List.cons_append,List.nil_append]
 refine Aa rfl (Bk AL3 fun b2=>?_)
 refine Aa rfl (Nt 0 rfl rfl rfl rfl Fb rfl (Nat.le_of_ble_eq_true rfl) ?_)
 refine Am [_,_,_] rfl ?_
 refine Aa rfl (Bm 0 rfl rfl Fb rfl ?_)
 refine Aa rfl (G6 Cb rfl ?_)
 refine Ae it 1 rfl (by simp) ?_
 refine Am [_,_] rfl ?_
 refine Kj rfl rfl (fun h1=>by exfalso;omega) (fun h1=>?_)
 refine Am [_,_] rfl ?_
 refine Aa rfl (Bk AL3 fun b3=>?_)
 refine Am [_,_,_] rfl ?_
 refine Aa rfl (Bm 2 rfl rfl Xo rfl ?_)
 refine Aa rfl (Aw [] rfl (Kc) rfl ?_)
 rintro _ _ _ ⟨b21,rfl,rfl,rfl⟩
 simp only [List.cons_append,List.nil_append]
 refine Am [_,_,_] rfl ?_ --ok
 simp only [setB,List.set_cons_zero]
 refine Uh 2 rfl ?_
 simp only [List.eraseIdx_cons_succ,List.eraseIdx_cons_zero]
 refine Uh 1 rfl ?_
 simp only [List.eraseIdx_cons_succ,List.eraseIdx_cons_zero]
 refine Fz Ai 3 ?_
 refine AB6 [0,1,2,5,6,7,4] rfl ?_
 refine Z1 (n:=2) (Γ1:=[I9 b21 [.pointer (some ⟨b,0,none⟩)],I2 b p m (p ^ m) pg ng cg pe (p ^ m-1) ce pl (p ^ m) cl,AAp [A6 Ai ⟨none,0,[]⟩ 0 [],I9 b2 [.slice pa1 l.length ca1],I9 b1 [.pointer (some ⟨b,0,none⟩)],I2 b p m (p ^ m) pg ng cg pe (p ^ m-1) ce pl (p ^ m) cl,Ap Ai pe (p ^ m-1) ce (Jg p m md),Ap Ai pl (p ^ m) cl (Jf p m md),Ap Ai pa1 l.length ca1 l]])
  (Qs:=fun _ _ _=>False) [4,6,0] rfl rfl rfl rfl
  (fun l2 r hr hY=>Vm (X:=Nat×Row) (st:=fun x=>[(x.2.bo,3,x.2.cs),(some b3,22,[.slice (ad x.2.bo) (rtP (Ad (fA p m)) (Ad (fM p (Ax m md))) l x.1).length x.2.cap])])
   (gf:=fun x=>AAp [A6 Ai x.2 (rtP (Ad (fA p m)) (Ad (fM p (Ax m md))) l x.1).length (rtP (Ad (fA p m)) (Ad (fM p (Ax m md))) l x.1),I9 b2 [.slice pa1 l.length ca1],I9 b1 [.pointer (some ⟨b,0,none⟩)],I2 b p m (p ^ m) pg ng cg pe (p ^ m-1) ce pl (p ^ m) cl,Ap Ai pe (p ^ m-1) ce (Jg p m md),Ap Ai pl (p ^ m) cl (Jf p m md),Ap Ai pa1 l.length ca1 l])
   (I:=fun i x=>x.1=i) (0,⟨none,0,[]⟩) rfl hq hr fun i x hi hlt=>hY _ _ _ _ rfl fun C hoff=>?_) ?_ (fun _ _ _ _ _ h=>h.elim)
 ·obtain ⟨i',r1⟩:=x
  obtain rfl:i'=i:=hi
  refine Tr (σ':=[(17,.int .i64 (i':Int)),(7,.pointer (some ⟨b3,0,none⟩)),(6,.pointer (some ⟨b2,0,none⟩)),(2,.pointer (some ⟨b1,0,none⟩))]) (Ux rfl) ?_
  refine Am [_,_,_] rfl ?_
  refine Ae it 1 rfl (by simp) ?_
  refine Am [_,_] rfl ?_ --ok
  refine AKt hoff hr.1 fun C'=>?_
  refine Zf 0 rfl ?_
  simp only [List.cons_append,List.nil_append]
  have Jx:=fun {b ng cg ce cl n c:Nat}{pg pe pl ps:Option Addr}=>Jx (b:=b) (ng:=ng) (cg:=cg) (ce:=ce) (cl:=cl) (pg:=pg) (pe:=pe) (pl:=pl) (ps:=ps) (n:=n) (c:=c) hlt
  have hRi:=hR i'
  have hRn:=hRl i'
  have hRn1:=hRl (i'+1)
  by_cases he:hoE (Ad (fA p m)) (Ad (fM p (Ax m md))) (i':Int) l=0
  ·rw [he] at Jx
   rw [if_pos he] at hRi
   refine wk 12 (ct @Jx cz) ?_
   intro h2 b4
   refine Aa rfl (F1 (z:=(↑i':Int)) 1 0 0 rfl rfl rfl rfl rfl Cb Er rfl (fun w A hG=>(Dh (by first|(simp only [Bv];omega)|(simp [Bv];done)))) (by omega) _ Hf (by omega) fun r2=>?_)
   refine wk 2 cz ?_ --ok
   simp only [setB,List.set_cons_zero,List.set_cons_succ,List.nil_append,List.eraseIdx_cons_zero,List.eraseIdx_cons_succ]
   refine Nj [0,2] rfl rfl ?_
   refine AB6 [0,2,3,4,5,6,7] rfl ?_
   refine ACp [0] rfl (.inl ⟨rfl,(i'+1,r2),rfl,?_,?_⟩)
   ·dsimp only
    rw [hRi,List.length_append,List.length_singleton]
   ·dsimp only
    rw [hRi,List.length_append,List.length_singleton]
  ·rw [if_neg he] at hRi
   refine wk 9 (ct @Jx cz) ?_
   intro h2 --ok
   simp only [List.nil_append]
   refine AB6 [0,1,2,3,4,5,6] rfl ?_
   refine ACp [0] rfl (.inl ⟨rfl,(i'+1,r1),rfl,?_,?_⟩)
   ·dsimp only
    rw [hRi]
   ·dsimp only
    rw [hRi]
 ·rintro Φ β' D C' ⟨⟨i',r1⟩,hi,rfl,rfl⟩
  obtain rfl:i'=p ^ m:=hi
  refine Zf 0 rfl ?_
  simp only [List.cons_append,List.nil_append]
  refine wk 4 cz ?_ --ok
  simp only [List.drop_succ_cons,List.drop_zero,List.drop_nil]
  have hRn:=hRl (p ^ m)
  refine D4 0 0 rfl rfl (by show (rtP _ _ l (p ^ m)).length*8≤140737488355328;omega) ?_
  exact Bj [0] rfl (.tmp rfl (.tmp rfl .nil)) rfl ⟨_,_,rfl,rfl,rfl⟩
end
open Go Go.Fw
set_option maxRecDepth 100000
set_option linter.unusedVariables false
set_option linter.unusedSimpArgs false
set_option maxHeartbeats 0
def imL (A M:Int→Int→Int) (p d:Nat) (pw:List Int):List Int:=(List.range (p ^ d)).map fun x=>Uw A (List.zipWith M (Bc (Dd p d x)) pw)
def Wh (M:Nat→Nat→Nat) (r k:Nat):List Int:=Bc ((List.range k).map (B0 M r))
theorem AJz {M:Nat→Nat→Nat}{r:Nat}(k:Nat):(Wh M r k).length=k:=by simp [Wh,Bc]
theorem ALi {M:Nat→Nat→Nat}{r i k:Nat}(h:i<k):(Wh M r k)[i]?=some ((B0 M r i:Nat):Int):=by
 rw [Wh,Bc,List.getElem?_map,List.getElem?_map,List.getElem?_range h];rfl
theorem AHo {M:Nat→Nat→Nat}{r k:Nat}:Wh M r (k+1)=Wh M r k++[((B0 M r k:Nat):Int)]:=by
 rw [Wh,Wh,Bc,Bc,List.range_succ,List.map_append,List.map_append];rfl
section
variable {b p m ms q n c ng cg ne ce nl cl nm cm:Nat}{pg pe pl ps pm:Option Addr}{l md mds:List Int}
theorem AE5 {A M:Int→Int→Int}{pw:List Int}:(imL A M p ms pw).length=p ^ ms:=by simp [imL]
theorem AKk {A M:Int→Int→Int}{pw:List Int}{x:Nat}(hx:x<p ^ ms):(imL A M p ms pw)[x]?=some (Uw A (List.zipWith M (Bc (Dd p ms x)) pw)):=by
 rw [imL,List.getElem?_map,List.getElem?_range hx];rfl
theorem AA8 {r b6 b2 ng2 cg2 ce2 cl2 cw:Nat}{pg2 pe2 pl2 pw:Option Addr}{C:Cx}(K:Fok p m md) (Ks:Fok p ms mds) (hr:r<p ^ m) :
  J Tp C [.c (pL 4090),.blk 2,.c (pL 1023)]
   [(82,.int .i64 0),(81,.int .i64 ((p ^ ms:Nat):Int)),(14,.slice (some ⟨b6,0,none⟩) (p ^ ms) (p ^ ms)),(10,.slice pw ms cw),(1,.pointer (some ⟨b,0,none⟩)),(6,.pointer (some ⟨b2,0,none⟩)),(5,.int .i64 0)]
   [(some b6,3,Ao .i64 (List.replicate (p ^ ms) 0))]
   [Ap Ai pw ms cw (Wh (fM p (Ax m md)) r ms),I2 b2 p ms (p ^ ms) pg2 ng2 cg2 pe2 (p ^ ms-1) ce2 pl2 (p ^ ms) cl2,I2 b p m (p ^ m) pg ng cg pe (p ^ m-1) ce pl (p ^ m) cl,Ap Ai pe (p ^ m-1) ce (Jg p m md),Ap Ai pl (p ^ m) cl (Jf p m md)]
   (Fm C fun v Φ β=>∃ (pa:Option Addr) (ca:Nat),v = .tuple #[.slice pa (p ^ ms) ca,.int .i64 0]∧Φ=[Ap Ai pa (p ^ ms) ca (imL (Ad (fA p m)) (Ad (fM p (Ax m md))) p ms (Wh (fM p (Ax m md)) r ms))]∧β=[]):=by
 have hq:=K.q
 have hqs:=Ks.q
 have hpw:∀ z∈Wh (fM p (Ax m md)) r ms,0≤z∧z<((p ^ m:Nat):Int):=fun z hz=>by
  obtain ⟨y,hy,rfl⟩:=List.mem_map.1 hz
  obtain ⟨i,_,rfl⟩:=List.mem_map.1 hy
  have:=K.rng'.pw_lt hr i
  omega
 have hpm:p≤p ^ m:=Nat.le_self_pow (by have:=K.m1;omega) p
 have hdg:∀ x,∀ z∈Bc (Dd p ms x),0≤z∧z<((p ^ m:Nat):Int):=fun x z hz=>by
  obtain ⟨y,hy,rfl⟩:=List.mem_map.1 hz
  have:=I1 (by have:=K.p2;omega) y hy
  omega
 have Gl:=fun {x:Nat}{b ng cg ne ce nl cl:Nat}{pg pe pl:Option Addr}(hx:x<p ^ ms)=>T5 (b:=b) (ng:=ng) (cg:=cg) (ne:=ne) (ce:=ce) (nl:=nl) (cl:=cl) (pg:=pg) (pe:=pe) (pl:=pl) (x:=(x:Int)) Ks (by omega) (by omega)
 have Kl:=fun {x:Nat}{b ng cg ce cl nu cu nv cv:Nat}{pg pe pl pu pv:Option Addr}=>Xz (b:=b) (ng:=ng) (cg:=cg) (ce:=ce) (cl:=cl) (pg:=pg) (pe:=pe) (pl:=pl) (pu:=pu) (pv:=pv) (nu:=nu) (cu:=cu) (nv:=nv) (cv:=cv) K (hdg x) hpw
 have hTl:=AE5 (p:=p) (ms:=ms) (A:=Ad (fA p m)) (M:=Ad (fM p (Ax m md))) (pw:=Wh (fM p (Ax m md)) r ms)
 have hTa:=fun x (h:x<p ^ ms)=>AKk (p:=p) (ms:=ms) (A:=Ad (fA p m)) (M:=Ad (fM p (Ax m md))) (pw:=Wh (fM p (Ax m md)) r ms) h
 have hsr:∀ x,0≤Uw (Ad (fA p m)) (List.zipWith (Ad (fM p (Ax m md))) (Bc (Dd p ms x)) (Wh (fM p (Ax m md)) r ms))∧Uw (Ad (fA p m)) (List.zipWith (Ad (fM p (Ax m md))) (Bc (Dd p ms x)) (Wh (fM p (Ax m md)) r ms))<((p ^ m:Nat):Int):=fun x=>Uo K.fi _ 0 (Int.le_refl 0) K.fi.z fun z hz=>by
  obtain ⟨i,hi,rfl⟩:=List.getElem_of_mem hz
  rw [List.getElem_zipWith]
  rw [List.length_zipWith] at hi
  obtain ⟨a0,a1⟩:=hdg x (Bc (Dd p ms x))[i] (List.getElem_mem (by omega))
  obtain ⟨b0,b1⟩:=hpw (Wh (fM p (Ax m md)) r ms)[i] (List.getElem_mem (by omega))
  exact K.fi.ml _ _ a0 a1 b0 b1
 generalize imL (Ad (fA p m)) (Ad (fM p (Ax m md))) p ms (Wh (fM p (Ax m md)) r ms)=T at *
 generalize Wh (fM p (Ax m md)) r ms=PW at *
 rw [show Ao .i64 (List.replicate (p ^ ms) 0)=Al .i64 (T.take 0++List.replicate (p ^ ms-0) 0) by simp [Ao,Al]]
 refine Ah (X:=Nat) [1,5,6,10,14,81] [0,1,2,3,4] (fun x=>[(82,.int .i64 (x:Int))]) (fun i=>[(some b6,3,Al .i64 (T.take i++List.replicate (p ^ ms-i) 0))]) (fun _=>[]) (fun i=>i≤p ^ ms) (fun i=>p ^ ms-i) 0 [] rfl rfl rfl (Nat.zero_le _) (by repeat (first|exact Fr.sub_nil _|refine Fr.sub_cons rfl ?_)) rfl rfl ?_
 rintro i hi ih
 simp only [List.cons_append,List.nil_append] at hi ih ⊢
 by_cases h9:i<p ^ ms
 ·have Gl:=fun {b ng cg ne ce nl cl:Nat}{pg pe pl:Option Addr}=>Gl (b:=b) (ng:=ng) (cg:=cg) (ne:=ne) (ce:=ce) (nl:=nl) (cl:=cl) (pg:=pg) (pe:=pe) (pl:=pl) h9
  have Kl:=fun {b ng cg ce cl nu cu nv cv:Nat}{pg pe pl pu pv:Option Addr}=>Kl (x:=i) (b:=b) (ng:=ng) (cg:=cg) (ce:=ce) (cl:=cl) (pg:=pg) (pe:=pe) (pl:=pl) (pu:=pu) (pv:=pv) (nu:=nu) (cu:=cu) (nv:=nv) (cv:=cv)
  have ih':=ih (i+1) (by omega) (by omega)
  rw [← take_set (hTa i h9) (by omega)] at ih'
  have hln:(T.take i++List.replicate (p ^ ms-i) 0).length=p ^ ms:=by simp;omega
  obtain ⟨s0,s1⟩:=hsr i
  rw [Int.toNat_natCast] at Gl
  generalize T.take i++List.replicate (p ^ ms-i) 0=L at *
  generalize Uw (Ad (fA p m)) (List.zipWith (Ad (fM p (Ax m md))) (Bc (Dd p ms i)) PW)=s at *
  clear ih
  refine wk 16 (ct @Gl (ct @Kl cz)) ?_
  intro h1 pa1 ca1
  exact tw (ih')
 ·obtain rfl:i=p ^ ms:=by omega
  rw [Nat.sub_self,List.replicate_zero,List.append_nil,List.take_of_length_le (by omega)]
  clear ih
  have hall:∀ z∈T,Bv .i64 z:=fun z hz=>by
   obtain ⟨j,hj⟩:=List.getElem?_of_mem hz
   have hj':j<p ^ ms:=by have:=(List.getElem?_eq_some_iff.1 hj).1;omega
   rw [hTa j hj'] at hj
   have:=hsr j
   rw [← Option.some.inj hj]
   simp only [Bv];omega
  refine Bl 0 rfl hTl.symm hall (by omega) ?_
  refine C5 0 0 rfl rfl (by show p ^ ms*8≤140737488355328;omega) ?_
  simp only [List.eraseIdx_cons_zero]
  refine wk 7 cz ?_
  intro h1
  refine Of [0] rfl rfl rfl ⟨_,_,rfl,rfl,rfl⟩
theorem AAQ {r:Nat}(K:Fok p m md) (Ks:Fok p ms mds) (hd:dgB m ms=true) (hr:r<p ^ m) (hr1:ms≠1→(rtP (Ad (fA p m)) (Ad (fM p (Ax m md))) (mds++[1]) (p ^ m))[0]?=some (r:Int)) :
  Bs Tryz.prog 126 [.agg #[.int .i64 p,.int .i64 ms,.slice pm nm cm],.pointer (some ⟨b,0,none⟩)] [] [Ap Ai pm nm cm mds,I2 b p m (p ^ m) pg md.length cg pe (p ^ m-1) ce pl (p ^ m) cl,Ap Ai pg md.length cg md,Ap Ai pe (p ^ m-1) ce (Jg p m md),Ap Ai pl (p ^ m) cl (Jf p m md)]
   (fun v Φ β=>∃ (pa:Option Addr) (ca:Nat),v = .tuple #[.slice pa (p ^ ms) ca,.int .i64 0]∧Φ=[Ap Ai pa (p ^ ms) ca (imL (Ad (fA p m)) (Ad (fM p (Ax m md))) p ms (Wh (fM p (Ax m md)) r ms))]∧β=[]):=by
 refine Ab (F:=Tp) rfl fun C=>?_
 have hq:=K.q
 have hqs:=Ks.q
 have hm1:=Ks.m1
 have hm8:=Ks.m8
 have D3:=fun {pm:Option Addr}{nm cm:Nat}=>F5 (pm:=pm) (nm:=nm) (cm:=cm) Ks
 have Ea:=fun {b ne ce nl cl cg:Nat}{pg pe pl:Option Addr}=>Jr (b:=b) (ne:=ne) (ce:=ce) (nl:=nl) (cl:=cl) (cg:=cg) (pg:=pg) (pe:=pe) (pl:=pl) K
 have Bg:=fun {b ne ce nl cl cg:Nat}{pg pe pl:Option Addr}=>Gc (b:=b) (ne:=ne) (ce:=ce) (nl:=nl) (cl:=cl) (cg:=cg) (pg:=pg) (pe:=pe) (pl:=pl) K hm1 hm8
 rw [hd] at Bg
 have Nb:=fun {b ng cg ne ce nl cl m:Nat}{pg pe pl:Option Addr}=>Wk (q:=p ^ ms) (p:=p) (m:=m) (b:=b) (ng:=ng) (cg:=cg) (ne:=ne) (ce:=ce) (nl:=nl) (cl:=cl) (pg:=pg) (pe:=pe) (pl:=pl) hqs
 refine Bb 0 rfl fun hn hb _=>?_
 subst hn
 have hb':mds.length*8≤140737488355328:=hb
 have P8:=fun (h1:ms≠1) {b ng cg ce cl n c:Nat}{pg pe pl ps:Option Addr}=>ACE (b:=b) (ng:=ng) (cg:=cg) (ce:=ce) (cl:=cl) (n:=n) (c:=c) (pg:=pg) (pe:=pe) (pl:=pl) (ps:=ps) (l:=mds++[1]) K (fun c hc=>by
  have:=K.p2
  have h2:p≤p ^ m:=Nat.le_self_pow (by have:=K.m1;omega) p
  rcases List.mem_append.1 hc with hc|hc
  ·have:=Ks.rng c hc;omega
  ·rw [List.mem_singleton.1 hc];omega) (fun x hx=>by rw [List.getLast?_concat] at hx;rw [← Option.some.inj hx];omega) (by simp)
 have A8:=fun {b ng cg ce cl:Nat}{pg pe pl:Option Addr}{x y:Int}=>C1 (b:=b) (ng:=ng) (cg:=cg) (ce:=ce) (cl:=cl) (pg:=pg) (pe:=pe) (pl:=pl) (x:=x) (y:=y) K
 by_cases h1:ms=1
 ·refine wk 48 (ct @D3 (ct @Ea (ct @Bg (ct @Nb cz)))) ?_
  intro b1 b2 pg1 cg1 pe1 ce1 pl1 cl1 h2 h3 b3 h4 b4 --ok
  subst h1
  simp only [List.cons_append,List.nil_append]
  refine Bl (l:=[1]) 1 rfl (n:=1) rfl (fun z hz=>by rw [List.mem_singleton.1 hz];simp [Bv]) (by omega) ?_
  refine C5 1 0 rfl rfl (by show 1*8≤140737488355328;omega) ?_
  refine Nj [0] rfl rfl ?_
  rw [← show Wh (fM p (Ax m md)) r 1=[1] from rfl]
  exact tw (AA8 (b6:=b4) (b2:=b2) (b:=b) (pw:=some ⟨b3,0,none⟩) (cw:=1) (ng2:=mds.length) (pg2:=pg1) (pe2:=pe1) (pl2:=pl1) (cg2:=cg1) (ce2:=ce1) (cl2:=cl1) (ng:=md.length) (pg:=pg) (pe:=pe) (pl:=pl) (cg:=cg) (ce:=ce) (cl:=cl) (C:=C) K Ks hr)
 ·have hms:1<ms:=by omega
  have hml:=Ks.len h1
  have P8:=fun {b ng cg ce cl n c:Nat}{pg pe pl ps:Option Addr}=>P8 h1 (b:=b) (ng:=ng) (cg:=cg) (ce:=ce) (cl:=cl) (n:=n) (c:=c) (pg:=pg) (pe:=pe) (pl:=pl) (ps:=ps)
  have hr0:=hr1 h1
  have hpl:=AJz (M:=fM p (Ax m md)) (r:=r)
  have hpa:=fun i k=>ALi (M:=fM p (Ax m md)) (r:=r) (i:=i) (k:=k)
  have hps:=fun k=>AHo (M:=fM p (Ax m md)) (r:=r) (k:=k)
  have hpq:=fun k=>K.rng'.pw_lt hr k
  have hp1:Wh (fM p (Ax m md)) r 1=[1]:=rfl
  generalize rtP (Ad (fA p m)) (Ad (fM p (Ax m md))) (mds++[1]) (p ^ m)=RR at *
  have hRl:0<RR.length:=by
   have:=(List.getElem?_eq_some_iff.1 hr0).1;omega
  have er0:RR.getD 0 default=(r:Int):=by rw [List.getD_eq_getElem?_getD,hr0];rfl
  refine Am [_,_] rfl ?_
  refine Aa rfl (Cm rfl fun b1=>?_)
  refine Ae it 2 rfl (by simp) ?_
  refine Am [_,_] rfl ?_
  refine Aa rfl (A5 0 rfl rfl Hx rfl ?_)
  refine Aa rfl (Aw [0] rfl (D3) rfl ?_)
  rintro _ _ _ ⟨b2,pg1,cg1,pe1,ce1,pl1,cl1,rfl,rfl,rfl⟩
  simp only [List.cons_append,List.nil_append]
  refine Ae it 5 rfl (by simp) ?_
  refine Am [_,_,_] rfl ?_
  refine Ae it 2 rfl (by simp) ?_
  refine Am [_,_] rfl ?_
  refine Kw rfl rfl (fun h2=>by exfalso;omega) (fun h2=>?_)
  refine Am [_,_] rfl ?_
  refine Ae it 1 rfl (by simp) ?_
  refine Aa rfl (Aw [5,6] rfl (Ea) rfl ?_)
  rintro _ _ _ ⟨rfl,rfl,rfl⟩
  simp only [List.cons_append,List.nil_append]
  simp only [decide_true]
  refine Ae it 5 rfl (by simp) ?_
  refine Am [_,_,_] rfl ?_
  refine Aa rfl (Aq rfl P3 ?_)
  refine Aa rfl (Bm 0 rfl rfl Ci rfl ?_)
  refine Ae it 3 rfl (by simp) ?_
  refine Pg (t:=33) rfl (fun h3=>by exfalso;omega) (fun h3=>?_)
  refine Ae it 1 rfl (by simp) ?_
  refine Bt rfl rfl (Aq rfl P1 ?_)
  refine Bt rfl rfl (Bm 0 rfl rfl Ci rfl ?_)
  refine Bt rfl rfl (Aw [5,6] rfl (Bg) rfl ?_)
  rintro _ _ _ ⟨rfl,rfl,rfl⟩
  simp only [List.cons_append,List.nil_append]
  simp only [decide_true]
  refine Ae it 2 rfl (by simp) ?_
  refine Am [_,_] rfl ?_
  refine My rfl rfl ?_
  refine Am [_,_] rfl ?_
  refine Aa rfl (Ix Cb Er rfl rfl rfl rfl (by decide) (by decide) rfl fun b3=>?_)
  refine Ae it 1 rfl (by simp) ?_
  refine Am [_,_,_] rfl ?_
  refine Aa rfl (Aq rfl P1 ?_)
  refine Aa rfl (Bm 1 rfl rfl Ci rfl ?_)
  refine Ae it 1 rfl (by simp) ?_
  refine Am [_,_] rfl ?_
  refine Kj rfl rfl (fun h4=>?_) (fun h4=>by exfalso;omega)
  refine Am [_,_,_] rfl ?_
  refine Ae it 1 rfl (by simp) ?_
  refine Aa rfl (AD8 Cb fun b4=>?_)
  refine Aa rfl (Aq rfl ADW ?_)
  refine Aa rfl (Bm 2 rfl rfl Fb rfl ?_)
  (apply L4 (E:=Dv IntKind.i64 8) (n:=0) (cs:=[]) [] [] 0 (fun w A hG=>Bf);(· rfl);(· rfl);(· rfl);(· rfl);(· decide))
  refine Aa rfl (Uk 0 0 5 rfl rfl rfl rfl rfl Cb Er rfl (by omega) _ Hf (by omega) fun r1=>?_)
  refine Aa rfl (Ix Cb Er rfl rfl rfl rfl (by decide) (by decide) rfl fun b5=>?_)
  refine Aa rfl (F1 (z:=(1:Int)) 1 0 0 rfl rfl rfl rfl rfl Cb Er rfl (fun w A hG=>(Dh (by first|(simp only [Bv];omega)|(simp [Bv];done)))) (by omega) _ Hf (by omega) fun r2=>?_)
  refine D4 0 0 rfl rfl (by show (0 + mds.length + 1) * 8 ≤ 140737488355328;omega) ?_ --ok
  simp only [List.nil_append,List.cons_append,List.eraseIdx_cons_zero,List.eraseIdx_cons_succ,Nat.zero_add]
  refine wk 11 (ct @P8 cz) ?_
  intro pa1 ca1 h5 --ok
  refine Bl (l:=[1]) 1 rfl (n:=1) rfl (fun z hz=>by rw [List.mem_singleton.1 hz];simp [Bv]) (by omega) ?_
  refine Nj [1,2] rfl rfl ?_
  rw [← hp1]
  refine Ah (X:=Nat×Row) [1,2,4,5,6,11] [0,1,2,3,4,5,6,7,8,9,10,11,12,13,14] (fun x=>[(13,.int .i64 (x.1:Int)),(10,.slice (ad x.2.bo) x.1 x.2.cap)]) (fun x=>[(x.2.bo,3,x.2.cs),(some b1,24,[.int .i64 p,.int .i64 ms,.slice pm mds.length cm])]) (fun x=>[A6 Ai x.2 x.1 (Wh (fM p (Ax m md)) r x.1)]) (fun x=>1≤x.1∧x.1≤ms) (fun x=>ms-x.1) (1,⟨some b3,1,Al .i64 (Wh (fM p (Ax m md)) r 1)⟩) [0] rfl rfl rfl ⟨Nat.le_refl _,hm1⟩ (by repeat (first|exact Fr.sub_nil _|refine Fr.sub_cons rfl ?_)) rfl rfl ?_
  rintro ⟨k,r3⟩ ⟨hk1,hk2⟩ ih
  simp only [List.cons_append,List.nil_append] at hk1 hk2 ih ⊢
  by_cases hkl:k<ms
  ·have ih':=fun r3=>ih (k+1,r3) (by dsimp only;omega) ⟨by dsimp only;omega,by dsimp only;omega⟩
   dsimp only at ih'
   clear ih
   refine Dt 0 rfl (by omega) fun bh caph csh hr=>?_
   subst hr
   dsimp only
   have hpj:=hpa (k-1) k (by omega)
   have epj:(Wh (fM p (Ax m md)) r k).getD (k-1) default=((B0 (fM p (Ax m md)) r (k-1):Nat):Int):=by rw [List.getD_eq_getElem?_getD,hpj];rfl
   have hpjq:=hpq (k-1)
   have hmr:Ad (fM p (Ax m md)) ((B0 (fM p (Ax m md)) r (k-1):Nat):Int) (RR.getD 0 default)=((B0 (fM p (Ax m md)) r k:Nat):Int):=by
    rw [er0,Ad,Int.toNat_natCast,Int.toNat_natCast]
    show ((B0 (fM p (Ax m md)) r (k-1+1):Nat):Int)=_
    rw [Nat.sub_add_cancel hk1]
   have hpkq:=hpq k
   rw [hps] at ih'
   refine wk 8 cz ?_
   intro h6
   (apply E7 it mx 12;(· rfl);(· rfl))
   (apply A3 4;(· rfl);(· simp))
   (apply Ac (v:=Value.int IntKind.i64 ((((k)-1:Nat)):Int));(· rfl);(· exact Cf fun _=>ADg it _ rfl ⟨by omega,by omega⟩ (by omega) An))
   simp only [Nat.add_sub_cancel]
   (apply Ac;(· rfl);(· exact Cf fun _=>Be (k-1) (k-1) rfl rfl Cb rfl (by omega) (Nat.mul_one _) An))
   (apply Ac;(· rfl);(· exact Hn 0 0 (k-1) rfl rfl rfl Ci rfl (by assumption)))
   (apply A3 1;(· rfl);(· simp))
   (apply ACH;(· rfl);(· exact Cf fun _=>Io 2 0 rfl rfl rfl Cb (by omega) (by omega) fun z1 hz1 b6 o1=>(ACz default hz1 0 rfl));intro b6 o1)
   (apply Ac;(· rfl);(· exact Cf fun _=>Av 0 rfl rfl Ci fun ⟨r3,r4⟩=>An))
   (apply Ac;(· rfl);(· exact Cf fun _=>Aw [13,15,16] rfl (A8 (by omega) (by omega) (by omega) (by omega)) rfl (by rintro _ _ _ ⟨rfl,rfl,rfl⟩;exact An)))
   (apply Ii;(· rfl);(· exact Cf fun _=>Ix Cb Er rfl rfl rfl rfl (by decide) (by decide) rfl fun b7=>ABP (E:=Ai) [[Value.int IntKind.i64 (Ad (fM p (Ax m md)) (↑(B0 (fM p (Ax m md)) r (k-1))) (RR.getD 0 default))]] [Ad (fM p (Ax m md)) (↑(B0 (fM p (Ax m md)) r (k-1))) (RR.getD 0 default)] (fun w A hG=>(Az ⟨rfl,by first|assumption|(simp only [Bv];omega)⟩ Bf)) rfl rfl rfl (by first|decide|exact Nat.le_of_ble_eq_true rfl));intro pa2 ca2)
   refine Eu rfl ?_
   simp only [List.map_cons,List.map_nil,List.cons_append,List.nil_append]
   refine Aa rfl (Uk 0 2 0 rfl rfl rfl rfl rfl Cb Er rfl (by omega) _ Hf (by omega) fun r3=>?_)
   refine wk 4 cz ?_ --ok
   rw [hmr]
   simp only [List.eraseIdx_cons_zero]
   exact tw (ih' r3)
  ·obtain rfl:k=ms:=by omega
   clear ih
   refine wk 17 (ct @Nb cz) ?_
   intro h6 b6 --ok
   simp only [List.cons_append,List.nil_append]
   refine D4 1 0 rfl rfl (by show k*8≤140737488355328;omega) ?_
   refine Nj [0] rfl rfl ?_
   exact tw (AA8 (b6:=b6) (b2:=b2) (b:=b) (pw:=ad r3.bo) (cw:=r3.cap) (ng2:=mds.length) (pg2:=pg1) (pe2:=pe1) (pl2:=pl1) (cg2:=cg1) (ce2:=ce1) (cl2:=cl1) (ng:=md.length) (pg:=pg) (pe:=pe) (pl:=pl) (cg:=cg) (ce:=ce) (cl:=cl) (C:=C) K Ks hr)
end
open Go Go.Fw
set_option maxRecDepth 100000
set_option linter.unusedVariables false
set_option linter.unusedSimpArgs false
set_option maxHeartbeats 0
section
variable {b p m p2 ms n c ng cg ce cl nm cm nm2 cm2 nm3 cm3:Nat}{pg pe pl ps pm pm2 pm3:Option Addr}{l md mds:List Int}
abbrev AMR (p m ms:Nat) (md:List Int) (r:Nat):Value→List Fact→List A2→Prop:=fun v Φ β=>∃ b pg cg pe ce pl cl,∃ (pa:Option Addr) (ca:Nat),v = .tuple #[.pointer (some ⟨b,0,none⟩),.slice pa (p ^ ms) ca,.int .i64 0] ∧
 Φ=Ap Ai pa (p ^ ms) ca (imL (Ad (fA p m)) (Ad (fM p (Ax m md))) p ms (Wh (fM p (Ax m md)) r ms))::gfL p m md b pg cg pe ce pl cl∧β=[]
theorem Kn {r q s:Nat}{mdu:List Int}(K:Fok p m md) (Ks:Fok p ms mds) (Ku:Fok q s mdu) (hd:dgB m ms=true) (hr:r<p ^ m) (hr1:ms≠1→(rtP (Ad (fA p m)) (Ad (fM p (Ax m md))) (mds++[1]) (p ^ m))[0]?=some (r:Int)) :
  Bs Tryz.prog 85 [.agg #[.int .i64 p,.int .i64 ms,.slice pm nm cm],.agg #[.int .i64 p,.int .i64 m,.slice pm2 nm2 cm2],.agg #[.int .i64 q,.int .i64 s,.slice pm3 nm3 cm3]] [] [Ap Ai pm nm cm mds,Ap Ai pm2 nm2 cm2 md,Ap Ai pm3 nm3 cm3 mdu] (AMR p m ms md r):=by
 refine Ab (F:=Ys) rfl fun C=>?_
 have Gy:=fun {pm:Option Addr}{nm cm:Nat}=>O0 (pm:=pm) (nm:=nm) (cm:=cm) Ku
 have D3:=fun {pm:Option Addr}{nm cm:Nat}=>F5 (pm:=pm) (nm:=nm) (cm:=cm) K
 have AA2:=fun {b nm cm cg ce cl:Nat}{pm pg pe pl:Option Addr}=>AAQ (b:=b) (nm:=nm) (cm:=cm) (cg:=cg) (ce:=ce) (cl:=cl) (pm:=pm) (pg:=pg) (pe:=pe) (pl:=pl) K Ks hd hr hr1
 refine wk 31 (ct @Gy (ct @D3 (ct @AA2 cz))) ?_
 intro b1 b2 b3 h1 b4 pg1 cg1 pe1 ce1 pl1 cl1 h2 pa1 ca1 h3
 refine Bj [0,1,2,3,4] rfl (.tmp rfl (.tmp rfl (.tmp rfl .nil))) rfl ⟨_,_,_,_,_,_,_,_,_,rfl,rfl,rfl⟩
end
open Go Go.Fw
set_option maxRecDepth 100000
set_option linter.unusedVariables false
set_option linter.unusedSimpArgs false
set_option maxHeartbeats 0
section
variable {b s cap n a e k:Nat}{cs:List Value}{l:List Int}
end
open Go Go.Fw
set_option maxRecDepth 100000
set_option linter.unusedVariables false
set_option linter.unusedSimpArgs false
set_option maxHeartbeats 0
section
variable {b cap n a e f lo hi:Nat}{cs:List Value}{l:List Int}
end
open Go Go.Fw
set_option maxRecDepth 100000
set_option linter.unusedVariables false
set_option linter.unusedSimpArgs false
set_option maxHeartbeats 0
section
variable {b cap n a e:Nat}{cs:List Value}{l:List Int}
end
open Go Go.Fw
set_option maxRecDepth 100000
set_option linter.unusedVariables false
set_option linter.unusedSimpArgs false
set_option maxHeartbeats 0
section
variable {b cap n a e pv:Nat}{cs:List Value}{l:List Int}
end
open Go Go.Fw
set_option maxRecDepth 100000
set_option linter.unusedVariables false
set_option linter.unusedSimpArgs false
set_option maxHeartbeats 0
section
variable {b cap n a e pv:Nat}{cs:List Value}{l:List Int}{p:Int}
end
open Go Go.Fw
set_option maxRecDepth 100000
set_option linter.unusedVariables false
set_option linter.unusedSimpArgs false
set_option maxHeartbeats 0
section
variable {b cap n a e:Nat}{cs:List Value}{l:List Int}
end
open Go Go.Fw
set_option maxRecDepth 100000
set_option linter.unusedVariables false
set_option linter.unusedSimpArgs false
set_option maxHeartbeats 0
section
variable {b cap n a e:Nat}{cs:List Value}{l:List Int}
end
open Go Go.Fw
set_option maxRecDepth 100000
set_option linter.unusedVariables false
set_option linter.unusedSimpArgs false
set_option maxHeartbeats 0
section
variable {b cap n:Nat}
end
open Go Go.Fw
set_option maxRecDepth 100000
set_option linter.unusedVariables false
set_option linter.unusedSimpArgs false
set_option maxHeartbeats 0
structure RvI (l L:List Int) (i:Nat):Prop where
 seg:Seg 0 l.length l L
 val:∀ k,k<l.length→Ba L k=if k<i∨l.length-1-k<i then Ba l (l.length-1-k) else Ba l k
theorem RvI.step {l L:List Int}{i:Nat}(h:RvI l L i) (hi:i<l.length-1-i):RvI l (sw L i (l.length-1-i)) (i+1):=by
 have hlen:=h.seg.len
 refine ⟨h.seg.trans (AAm (by omega) (by omega) (by omega) (by omega) (by omega)),fun k hk=>?_⟩
 rw [Xv (by omega) (by omega)]
 by_cases c1:k=l.length-1-i
 ·rw [if_pos c1,h.val i (by omega),if_neg (by omega),if_pos (by omega)];congr 1;omega
 ·by_cases c2:k=i
  ·rw [if_neg c1,if_pos c2,h.val _ (by omega),if_neg (by omega),if_pos (by omega),c2]
  ·rw [if_neg c1,if_neg c2,h.val k hk]
   by_cases c3:k<i∨l.length-1-k<i
   ·rw [if_pos c3,if_pos (by omega)]
   ·rw [if_neg c3,if_neg (by omega)]
theorem RvI.fin {l L:List Int}{i:Nat}(h:RvI l L i) (hi:¬ i<l.length-1-i):L=l.reverse:=by
 refine List.ext_getElem (h.seg.len.trans List.length_reverse.symm) fun k h1 h2=>?_
 have hlen:=h.seg.len
 rw [← AFJ h1,List.getElem_reverse,← AFJ,h.val k (by omega)]
 by_cases c3:k<i∨l.length-1-k<i
 ·rw [if_pos c3]
 ·rw [if_neg c3];congr 1;omega
section
variable {b cap n:Nat}{cs:List Value}{l:List Int}
end
open Go Go.Fw
set_option maxRecDepth 100000
set_option linter.unusedVariables false
set_option linter.unusedSimpArgs false
set_option maxHeartbeats 0
def txI (p m ms:Nat) (md IM:List Int) (b:Int) (row:List Int):List Int:=(Ct (Ad (fM p (Ax m md))) b row).map fun y=>Td (Uw (Ad (fA p m)) (Bc (Rp (fM p (Ax m md)) p m ms y.toNat))) IM
def trO (p ms:Nat) (mds:List Int) (N:Nat) (f:Int→List (List Int)) (l:List Int):List (List Int):=l.foldl (fun out b=>(Dm p ms mds N (out++(Dm p ms mds N (f b)).1)).1) (Dm p ms mds N []).1
theorem AGR {p ms N i:Nat}{mds:List Int}{f:Int→List (List Int)}{l:List Int}{b:Int}(h:l[i]?=some b):trO p ms mds N f (l.take (i+1))=(Dm p ms mds N (trO p ms mds N f (l.take i)++(Dm p ms mds N (f b)).1)).1:=by
 rw [trO,List.take_add_one,h,Option.toList_some,List.foldl_append];rfl
theorem AIB {p ms N:Nat}{mds:List Int}{f:Int→List (List Int)}(K:Fok p ms mds) (h1:1≤N) (h2:N≤64):∀ l:List Int,(∀ b∈l,Cz (p ^ ms) N (f b))→Cok p ms mds N (trO p ms mds N f l):=fun l hf=>by
 have h:∀ (l:List Int) (out:List (List Int)),(∀ b∈l,Cz (p ^ ms) N (f b))→Cok p ms mds N out→Cok p ms mds N (l.foldl (fun out b=>(Dm p ms mds N (out++(Dm p ms mds N (f b)).1)).1) out):=by
  intro l
  induction l with
  | nil=>intro out _ ho;exact ho
  | cons b l ih =>
   intro out hf ho
   exact ih _ (fun c hc=>hf c (.tail _ hc)) (Cok.cn K h1 h2 (K9 ho.mat (Cok.cn K h1 h2 (hf b (.head _))).mat))
 exact h l _ hf (Cok.cn K h1 h2 fun r hr=>by cases hr)
section
variable {b p m ms n N ng cg ce cl nm cm nm2 cm2 c ns ci x0:Nat}{pg pe pl ps pm pm2 pi:Option Addr}{md mds IM:List Int}{rows:List (List Int)}
theorem Qc (CC:Cok p m md N rows) (Ks:Fok p ms mds) (hd:dgB m ms=true) (hn:m / ms=n) (hn0:0<n) (hx0:x0<p ^ m)
  (hN:nsB p m ms md (Rp (fM p (Ax m md)) p m ms x0)=true) (hmin:∀ y,y<x0→nsB p m ms md (Rp (fM p (Ax m md)) p m ms y)=false)
  (hxc:Mx (Mu (fM p (Ax m md)) p (ms % m)) n x0=x0) (hxn:∀ i,1≤i→i<n→Mx (Mu (fM p (Ax m md)) p (ms % m)) i x0≠x0)
  (hTr:∀ y,y<p ^ m→0≤Td (Uw (Ad (fA p m)) (Bc (Rp (fM p (Ax m md)) p m ms y))) IM∧Td (Uw (Ad (fA p m)) (Bc (Rp (fM p (Ax m md)) p m ms y))) IM<((p ^ ms:Nat):Int)) :
  Bs Tryz.prog 86 [.agg #[.int .i64 p,.int .i64 m,.slice pm nm cm,.int .i64 N,.slice ps ns c],.agg #[.int .i64 p,.int .i64 ms,.slice pm2 nm2 cm2],.pointer (some ⟨b,0,none⟩),.slice pi (p ^ ms) ci] []
   [Ap (Aj Ai) ps ns c rows,Ap Ai pm2 nm2 cm2 mds,I2 b p m (p ^ m) pg md.length cg pe (p ^ m-1) ce pl (p ^ m) cl,Ap Ai pg md.length cg md,Ap Ai pe (p ^ m-1) ce (Jg p m md),Ap Ai pl (p ^ m) cl (Jf p m md),Ap Ai pi (p ^ ms) ci IM]
   (Y0 p ms N mds (trO p ms mds N (fun b=>rows.map (txI p m ms md IM b)) (Bc ((List.range n).map fun i=>Mx (Mu (fM p (Ax m md)) p (ms % m)) i x0))) 0):=by
 refine Ab (F:=X9) rfl fun C=>?_
 refine Bb 0 rfl fun hnn hb _=>?_
 subst hnn
 have K:=CC.K
 have hq:=K.q
 have hqs:=Ks.q
 have d1:=Ks.m1
 have d8:=Ks.m8
 have h64:=CC.n64
 have h1N:=CC.n1
 have hrl:=CC.len
 have hFM:∀ b:Int,0≤b→b<((p ^ m:Nat):Int)→∀ r∈rows,Wd (p ^ ms) N (txI p m ms md IM b r):=fun b b0 b1 r hr=>by
  have hw:=(Dc K).scl_wd b0 b1 (CC.mat r hr)
  refine ⟨by rw [txI,List.length_map];exact hw.1,fun z hz=>?_⟩
  obtain ⟨y,hy,rfl⟩:=List.mem_map.1 hz
  have:=hw.2 y hy
  exact hTr y.toNat (by omega)
 have Zw:=fun {b cg ce cl:Nat}{pg pe pl:Option Addr}=>AAw (b:=b) (cg:=cg) (ce:=ce) (cl:=cl) (pg:=pg) (pe:=pe) (pl:=pl) K d1 d8 hd hn hn0 hx0 hN hmin
 have Us:=fun {b cg ce cl:Nat}{pg pe pl:Option Addr}=>T4 (b:=b) (cg:=cg) (ce:=ce) (cl:=cl) (pg:=pg) (pe:=pe) (pl:=pl) K hx0 d1 d8 hd (by rw [hn];exact hxc)
 have hNew:=fun {rows:List (List Int)}{pm ps:Option Addr}{nm cm n c:Nat}(hl:rows.length≤256) (hM:Cz (p ^ ms) N rows)=>Ik (pm:=pm) (ps:=ps) (nm:=nm) (cm:=cm) (n:=n) (c:=c) (N:=N) (rows:=rows) Ks h1N h64 hl hM
 have Dj:=fun {pm ps:Option Addr}{nm cm n c:Nat}=>hNew (rows:=[]) (pm:=pm) (ps:=ps) (nm:=nm) (cm:=cm) (n:=n) (c:=c) (by simp) (fun r hr=>by cases hr)
 refine Eh (Ap (Aj Ai) none 0 0 []) (fun w A _=>Dp _ w A none 0) ?_
 refine wk 19 (ct @Zw cz) ?_
 intro b1 b2 b3 h1
 refine Aa rfl (Aw [3,4,5,6] rfl (Us) rfl ?_)
 rintro _ _ _ ⟨r1,k1,rfl,rfl,rfl,h2,h3,h4,h5⟩
 simp only [List.cons_append,List.nil_append]
 simp only [decide_true]
 refine wk 20 (ct @Dj cz) ?_
 intro h6 pb1 pc1 nb1 cb1 nc1 cc1 b4 --ok
 have hk1:k1=n:=by
  have e1:=‹1≤k1›
  have e2:=‹k1≤m / ms›
  have e3:=‹Mx (Mu (fM p (Ax m md)) p (ms % m)) k1 x0=x0›
  have:=hxn k1 e1
  omega
 have hn8:n≤8:=by have:=K.m8;have:=Nat.div_le_self m ms;omega
 subst hk1
 simp only [setB,List.set_cons_zero,List.set_cons_succ,List.cons_append,List.nil_append]
 refine D4 1 2 rfl rfl (by show k1*8≤140737488355328;omega) ?_
 simp only [List.eraseIdx_cons_zero,List.eraseIdx_cons_succ]
 have hbl:(Bc ((List.range k1).map fun i=>Mx (Mu (fM p (Ax m md)) p (ms % m)) i x0)).length=k1:=by simp [Bc]
 have hba:∀ i,i<k1→(Bc ((List.range k1).map fun i=>Mx (Mu (fM p (Ax m md)) p (ms % m)) i x0))[i]?=some ((Mx (Mu (fM p (Ax m md)) p (ms % m)) i x0:Nat):Int):=fun i hi=>by
  rw [Bc,List.getElem?_map,List.getElem?_map,List.getElem?_range hi];rfl
 have hbq:=fun i=>Pz (f:=Mu (fM p (Ax m md)) p (ms % m)) (fun y hy=>Nr K hy (ms % m)) hx0 i
 generalize Bc ((List.range k1).map fun i=>Mx (Mu (fM p (Ax m md)) p (ms % m)) i x0)=BS at *
 have hFM2:∀ b:Int,0≤b→b<((p ^ m:Nat):Int)→Cz (p ^ ms) N (rows.map (txI p m ms md IM b)):=fun b b0 b1 r hr=>by
  obtain ⟨s,hs,rfl⟩:=List.mem_map.1 hr
  exact hFM b b0 b1 s hs
 have hbs:∀ i b,BS[i]?=some b→0≤b∧b<((p ^ m:Nat):Int):=fun i b h=>by
  have hi:i<k1:=by rw [← hbl];exact (List.getElem?_eq_some_iff.1 h).1
  rw [hba i hi] at h
  have:=hbq i
  rw [← Option.some.inj h]
  omega
 refine Ah (X:=Nat×(Option Addr×Nat×Nat)×(Option Addr×Nat×Nat)) [2,3,4,5,8,13,57,58] [0,4,5,6,7,8,9,10,11] (fun z=>[(59,.int .i64 (z.1:Int)),(11,.int .i64 0)])
  (fun z=>(some b4,27,[.int .i64 p,.int .i64 ms,.slice z.2.1.1 z.2.1.2.1 z.2.1.2.2,.int .i64 N,.slice z.2.2.1 z.2.2.2.1 z.2.2.2.2])::_)
  (fun z=>[Ap Ai z.2.1.1 z.2.1.2.1 z.2.1.2.2 mds,Ap (Aj Ai) z.2.2.1 z.2.2.2.1 z.2.2.2.2 (trO p ms mds N (fun b=>rows.map (txI p m ms md IM b)) (BS.take z.1))])
  (fun z=>z.1≤k1) (fun z=>k1-z.1) (0,(pb1,nb1,cb1),(pc1,nc1,cc1)) [1,2] rfl rfl rfl (Nat.zero_le _) (by repeat (first|exact Fr.sub_nil _|refine Fr.sub_cons rfl ?_)) rfl rfl ?_
 rintro ⟨k,⟨pb,nb,cb⟩,⟨pc,nc,cc⟩⟩ hk ih
 simp only [List.cons_append,List.nil_append] at hk ih ⊢
 by_cases hkl:k<k1
 ·have at_x:=hba k hkl
  have hxb:=hbq k
  have hOC:Cok p ms mds N (trO p ms mds N (fun b=>rows.map (txI p m ms md IM b)) (BS.take k)):=AIB Ks h1N h64 _ fun b hb=>by
   obtain ⟨i,hi⟩:=List.getElem?_of_mem (List.mem_of_mem_take hb)
   obtain ⟨b0,b1⟩:=hbs i b hi
   exact hFM2 b b0 b1
  have ih0:=fun pb nb cb pc nc cc=>ih (k+1,(pb,nb,cb),(pc,nc,cc)) (by dsimp only;omega) (by dsimp only;omega)
  dsimp only at ih0
  rw [AGR at_x] at ih0
  clear ih
  generalize trO p ms mds N (fun b=>rows.map (txI p m ms md IM b)) (BS.take k)=OUT at *
  generalize Mx (Mu (fM p (Ax m md)) p (ms % m)) k x0=x at *
  have hMx:=hFM2 (x:Int) (by omega) (by omega)
  have hWx:=hFM (x:Int) (by omega) (by omega)
  have En:=fun {u:List Int}{b ng cg ce cl nu cu:Nat}{pg pe pl pu:Option Addr}(hu:∀ x∈u,0≤x∧x<((p ^ m:Nat):Int))=>(U1 (b:=b) (ng:=ng) (cg:=cg) (ce:=ce) (cl:=cl) (pg:=pg) (pe:=pe) (pl:=pl) (pu:=pu) (nu:=nu) (cu:=cu) (u:=u) K (Int.natCast_nonneg x) (by omega:(x:Int)<((p ^ m:Nat):Int)) hu)
  have Nk:=fun {y:Nat}{b cg ce cl:Nat}{pg pe pl:Option Addr}(hy:y<p ^ m)=>AAP (b:=b) (cg:=cg) (ce:=ce) (cl:=cl) (pg:=pg) (pe:=pe) (pl:=pl) K hy d1 d8 hd
  refine Am [_,_,_,_,_] rfl ?_
  refine Ae it 1 rfl (by simp) ?_
  refine Am [_,_,_,_,_] rfl ?_
  refine Kj rfl rfl (fun h7=>?_) (fun h7=>by exfalso;omega)
  refine Am [_,_,_,_,_,_,_] rfl ?_
  refine Aa rfl (Io 2 (k) rfl rfl rfl Cb rfl (by omega) fun z1 hz1 b5 o1=>?_)
  obtain rfl:_=z1:=Option.some.inj (at_x.symm.trans hz1)
  refine Aa rfl (Av 0 rfl rfl Ci fun ⟨r2,r3⟩=>?_)
  refine Ae it 1 rfl (by simp) ?_
  refine Am [_,_,_,_,_,_,_] rfl ?_
  refine Aa rfl (Aq rfl Jj ?_)
  refine Aa rfl (Bm 3 rfl rfl Ci rfl ?_)
  refine Aa rfl (Dq (cs:=[Value.int IntKind.i64 ↑N,Value.slice none 0 0]) U4 Ha rfl rfl ?_)
  refine Aa rfl (Bk Ha fun b6=>?_)
  refine Aa rfl (A7 0 rfl rfl rfl Gd rfl rfl (by simp [Value.oneCell']) ?_)
  refine Am [_,_,_,_,_,_,_,_] rfl ?_
  refine Aa rfl (Aq rfl Rt ?_)
  refine Aa rfl (Bm 4 rfl rfl H3 rfl ?_)
  refine Aa rfl (G6 D5 rfl ?_)
  refine Ae it 1 rfl (by simp) ?_
  refine Am [_,_,_,_,_,_,_,_] rfl ?_ --ok
  simp only [setB,List.set_cons_zero,List.set_cons_succ]
  refine Fz (Aj Ai) 22 ?_
  refine Ah (X:=Nat×Row) [2,3,4,5,8,11,13,15,16,57,58,59,60,61,62,63,64,65,66,67,68] [0,1,2,3,4,5,6,7,8,9,10,11,12] (fun z=>[(69,.int .i64 (z.1:Int))]) (fun z=>(z.2.bo,22,z.2.cs)::(some b6,62,[.int .i64 N,.slice (ad z.2.bo) z.1 z.2.cap])::_) (fun z=>[A6 (Aj Ai) z.2 z.1 ((rows.take z.1).map (txI p m ms md IM x))]) (fun z=>z.1≤rows.length) (fun z=>rows.length-z.1) (0,⟨none,0,[]⟩) [0] rfl rfl rfl (Nat.zero_le _) (by repeat (first|exact Fr.sub_nil _|refine Fr.sub_cons rfl ?_)) rfl rfl ?_
  rintro ⟨i,r⟩ hi ih
  simp only [List.cons_append,List.nil_append] at hi ih ⊢
  by_cases hil:i<rows.length
  ·obtain ⟨u,at_u⟩:∃ u,rows[i]?=some u:=⟨_,List.getElem?_eq_getElem hil⟩
   have hum:=List.mem_of_getElem? at_u
   have hu:=CC.mat u hum
   have hul:=hu.1
   have ih1:=fun r=>ih (i+1,r) (by dsimp only;omega) (by dsimp only;omega)
   dsimp only at ih1
   rw [List.take_add_one (l:=rows),at_u,Option.toList_some,List.map_append,List.map_cons,List.map_nil] at ih1
   clear ih
   have En:=fun {b ng cg ce cl cu:Nat}{pg pe pl pu:Option Addr}=>(En (u:=u) (b:=b) (ng:=ng) (cg:=cg) (ce:=ce) (cl:=cl) (pg:=pg) (pe:=pe) (pl:=pl) (pu:=pu) (nu:=u.length) (cu:=cu) hu.2).pubR (by show u.length*8≤140737488355328;omega)
   have hSw:=(Dc K).scl_wd (Int.natCast_nonneg x) (by omega:(x:Int)<((p ^ m:Nat):Int)) hu
   have hTw:=hWx u hum
   have hTa:∀ (j:Nat) (y:Int),(Ct (Ad (fM p (Ax m md))) (x:Int) u)[j]?=some y→(txI p m ms md IM x u)[j]?=some (Td (Uw (Ad (fA p m)) (Bc (Rp (fM p (Ax m md)) p m ms y.toNat))) IM):=fun j y h=>by rw [txI,List.getElem?_map,h];rfl
   generalize txI p m ms md IM x u=T at *
   have hSl:=hSw.1
   generalize Ct (Ad (fM p (Ax m md))) (x:Int) u=SC at *
   refine wk 19 (ct @En cz) ?_
   intro h8 b7 o2 hz2 pa1 ca1 b8 pa2 ca2 --ok
   rw [show Ao .i64 (List.replicate N 0)=Al .i64 (T.take 0++List.replicate (N-0) 0) by simp [Ao,Al]]
   simp only [List.cons_append,List.nil_append]
   refine Ah (X:=Nat) [2,3,4,5,8,11,13,15,16,18,19,57,58,59,60,61,62,63,64,65,66,67,68,69,70,71,72,73,74,75,76,77,78,79,80] [0,1,2,3,4,5,6,7,8,9,10,11,12,13,14,15,16] (fun t=>[(81,.int .i64 (t:Int))]) (fun t=>(some b8,3,Al .i64 (T.take t++List.replicate (N-t) 0))::_) (fun _=>[]) (fun t=>t≤N) (fun t=>N-t) 0 [] rfl rfl rfl (Nat.zero_le _) (by repeat (first|exact Fr.sub_nil _|refine Fr.sub_cons rfl ?_)) rfl rfl ?_
   rintro t ht ih
   simp only [List.cons_append,List.nil_append] at ht ih ⊢
   by_cases htl:t<N
   ·obtain ⟨y,at_y⟩:∃ y,SC[t]?=some y:=⟨_,List.getElem?_eq_getElem (by omega)⟩
    obtain ⟨y0,y1⟩:=hSw.2 y (List.mem_of_getElem? at_y)
    obtain ⟨y',rfl⟩:=Int.eq_ofNat_of_zero_le y0
    have hyq:y'<p ^ m:=by omega
    have hTt:=hTa t _ at_y
    rw [Int.toNat_natCast] at hTt
    obtain ⟨i0,i1⟩:=hTr y' hyq
    have Nk:=fun {b cg ce cl:Nat}{pg pe pl:Option Addr}=>Nk (b:=b) (cg:=cg) (ce:=ce) (cl:=cl) (pg:=pg) (pe:=pe) (pl:=pl) hyq
    have ih':=ih (t+1) (by omega) (by omega)
    rw [← take_set hTt htl] at ih'
    have hln:(T.take t++List.replicate (N-t) 0).length=N:=by have:=hTw.1;simp;omega
    generalize T.take t++List.replicate (N-t) 0=L at *
    generalize Uw (Ad (fA p m)) (Bc (Rp (fM p (Ax m md)) p m ms y'))=tr at *
    clear ih
    refine wk 7 cz ?_
    intro h9 b9 o3 hz3
    refine Aa rfl (Av 0 rfl rfl Ci fun ⟨r4,r5⟩=>?_)
    refine wk 15 (ct @Nk (ct @Ht cz)) ?_
    exact tw (ih')
   ·obtain rfl:t=N:=by omega
    have hTl:=hTw.1
    rw [Nat.sub_self,List.replicate_zero,List.append_nil,List.take_of_length_le (by omega)]
    clear ih
    have hmr:∀ z∈T,Bv .i64 z:=fun z hz=>by have:=hTw.2 z hz;simp only [Bv];omega
    refine Bl 0 rfl hTl.symm hmr (by omega) ?_
    refine wk 9 cz ?_
    intro h9 b9
    refine C5 1 0 rfl rfl (by show (t)*8≤140737488355328;omega) ?_
    refine Aa rfl (F1 (z:=T) 1 0 5 rfl rfl rfl rfl rfl D5 I5 rfl (fun w A hG=>(A1 (hG _ (Af (n:=0) rfl)))) (by omega) _ Nd (by omega) fun r4=>?_)
    refine wk 5 cz ?_
    refine Ky [true,false,true,true,true,true,true] [0,7,8,9,10,11,12,13,14,15,16,17,18,19] (by exact Ux rfl) rfl rfl (ih1 r4)
  ·obtain rfl:i=rows.length:=by omega
   clear ih
   rw [List.take_length]
   refine D4 0 0 rfl rfl (by show rows.length*24≤140737488355328;omega) ?_
   simp only [List.eraseIdx_cons_zero,List.eraseIdx_cons_succ]
   have hRl:(rows.map (txI p m ms md IM (x:Int))).length=rows.length:=List.length_map _
   have hCok2:=Cok.cn Ks h1N h64 hMx
   generalize rows.map (txI p m ms md IM (x:Int))=RX at *
   have Dj:=fun {pm ps:Option Addr}{nm cm n c:Nat}=>hNew (rows:=RX) (pm:=pm) (ps:=ps) (nm:=nm) (cm:=cm) (n:=n) (c:=c) (by omega) hMx
   have Ut:=fun {pm ps p2 pm2:Option Addr}{nm cm n c nm2 cm2 n2 c2:Nat}=>Tt (pm:=pm) (ps:=ps) (nm:=nm) (cm:=cm) (n:=n) (c:=c) (p2:=p2) (pm2:=pm2) (n2:=n2) (c2:=c2) (nm2:=nm2) (cm2:=cm2) hOC hCok2
   refine wk 30 (ct @Dj (ct @Ut cz)) ?_
   intro h8 pb2 pc2 nb2 cb2 nc2 cc2 b7 h9 pb3 pc3 nb3 cb3 nc3 cc3 h10
   simp only [setB,List.set_cons_zero,List.set_cons_succ,List.cons_append,List.nil_append]
   refine Nj [2,3,4,5] rfl rfl ?_
   exact tw (ih0 pb3 nb3 cb3 pc3 nc3 cc3)
 ·obtain rfl:k=k1:=by omega
  rw [List.take_of_length_le (by omega)]
  clear ih
  refine wk 10 cz ?_
  intro h7
  refine Bj [0,1] rfl (.agg 1 rfl rfl Cs rfl (.tmp rfl .nil)) rfl ⟨_,_,_,_,_,_,rfl,rfl,rfl⟩
end
open Go Go.Fw
set_option maxRecDepth 100000
set_option linter.unusedVariables false
set_option linter.unusedSimpArgs false
set_option maxHeartbeats 0
abbrev imT (p m ms:Nat) (md:List Int) (r:Nat):List Int:=imL (Ad (fA p m)) (Ad (fM p (Ax m md))) p ms (Wh (fM p (Ax m md)) r ms)
structure TwOk (p m ms:Nat) (md mds:List Int) (r x0:Nat):Prop where
 K:Fok p m md
 Ks:Fok p ms mds
 hd:dgB m ms=true
 hr:r<p ^ m
 hr1:ms≠1→(rtP (Ad (fA p m)) (Ad (fM p (Ax m md))) (mds++[1]) (p ^ m))[0]?=some (r:Int)
 hx0:x0<p ^ m
 hN:nsB p m ms md (Rp (fM p (Ax m md)) p m ms x0)=true
 hmin:∀ y,y<x0→nsB p m ms md (Rp (fM p (Ax m md)) p m ms y)=false
 hxc:Mx (Mu (fM p (Ax m md)) p (ms % m)) (m / ms) x0=x0
 hxn:∀ i,1≤i→i<m / ms→Mx (Mu (fM p (Ax m md)) p (ms % m)) i x0≠x0
 hTr:∀ y,y<p ^ m→0≤Td (Uw (Ad (fA p m)) (Bc (Rp (fM p (Ax m md)) p m ms y))) (imT p m ms md r)∧Td (Uw (Ad (fA p m)) (Bc (Rp (fM p (Ax m md)) p m ms y))) (imT p m ms md r)<((p ^ ms:Nat):Int)
theorem TwOk.n0 {p m ms r x0:Nat}{md mds:List Int}(T:TwOk p m ms md mds r x0):0<m / ms:=Nat.div_pos (of_decide_eq_true T.hd).1 T.Ks.m1
def tcP (p m ms:Nat) (md mds:List Int) (r x0 N:Nat) (rows:List (List Int)):List (List Int):=trO p ms mds N (fun b=>rows.map (txI p m ms md (imT p m ms md r) b)) (Bc ((List.range (m / ms)).map fun i=>Mx (Mu (fM p (Ax m md)) p (ms % m)) i x0))
def emL (IM:List Int) (row:List Int):List Int:=row.map fun x=>Ba IM x.toNat
section
variable {p m ms n nm cm nm2 cm2 c r x0:Nat}{ps pm pm2:Option Addr}{md mds:List Int}{rows:List (List Int)}
theorem U0 {N:Nat}(CC:Cok p m md N rows) (T:TwOk p m ms md mds r x0) :
  Bs Tryz.prog 34 [.agg #[.int .i64 p,.int .i64 m,.slice pm nm cm,.int .i64 N,.slice ps n c],.agg #[.int .i64 p,.int .i64 ms,.slice pm2 nm2 cm2]] [] [Ap Ai pm nm cm md,Ap (Aj Ai) ps n c rows,Ap Ai pm2 nm2 cm2 mds] (Y0 p ms N mds (tcP p m ms md mds r x0 N rows) 0):=by
 refine Ab (F:=Z4) rfl fun C=>?_
 have h64:=CC.n64
 have Au:=fun {pm ps:Option Addr}{nm cm n c:Nat}=>D0 (P:=p) (M:=m) (pm:=pm) (ps:=ps) (nm:=nm) (cm:=cm) (n:=n) (c:=c) (md:=md) (rows:=rows) (N:=N) (by simp only [Bv];omega) CC.ck
 have Gt:=fun {pm pm2 pm3:Option Addr}{nm cm nm2 cm2 nm3 cm3:Nat}=>Kn (pm:=pm) (nm:=nm) (cm:=cm) (pm2:=pm2) (nm2:=nm2) (cm2:=cm2) (pm3:=pm3) (nm3:=nm3) (cm3:=cm3) T.K T.Ks T.Ks T.hd T.hr T.hr1
 have H9:=fun {b nm cm nm2 cm2 n c cg ce cl ci:Nat}{pm pm2 ps pg pe pl pi:Option Addr}=>Qc (b:=b) (nm:=nm) (cm:=cm) (nm2:=nm2) (cm2:=cm2) (ns:=n) (c:=c) (cg:=cg) (ce:=ce) (cl:=cl) (ci:=ci) (pm:=pm) (pm2:=pm2) (ps:=ps) (pg:=pg) (pe:=pe) (pl:=pl) (pi:=pi) CC T.Ks T.hd rfl T.n0 T.hx0 T.hN T.hmin T.hxc T.hxn T.hTr
 rw [tcP]
 refine wk 33 (ct @Au (ct @Gt (ct @H9 cz))) ?_
 intro b1 b2 b3 h1 b4 pg1 cg1 pe1 ce1 pl1 cl1 pa1 ca1 h2 pb1 pc1 nb1 cb1 nc1 cc1
 refine Bj [0,1] rfl (.agg 0 rfl rfl Cs rfl (.tmp rfl .nil)) rfl ⟨_,_,_,_,_,_,rfl,rfl,rfl⟩
theorem Rr {N:Nat}(CC:Cok p m md N rows) (T:TwOk p m ms md mds r x0) (hT:Cok p ms mds N (tcP p m ms md mds r x0 N (Kt p m md N rows))) :
  Bs Tryz.prog 32 [.agg #[.int .i64 p,.int .i64 m,.slice pm nm cm,.int .i64 N,.slice ps n c],.agg #[.int .i64 p,.int .i64 ms,.slice pm2 nm2 cm2]] [] [Ap Ai pm nm cm md,Ap (Aj Ai) ps n c rows,Ap Ai pm2 nm2 cm2 mds] (Y0 p ms N mds (Kt p ms mds N (tcP p m ms md mds r x0 N (Kt p m md N rows))) 0):=by
 refine Ab (F:=Vb) rfl fun C=>?_
 have h64:=CC.n64
 have CN:=CC.nu
 have Au:=fun {pm ps:Option Addr}{nm cm n c:Nat}=>D0 (P:=p) (M:=m) (pm:=pm) (ps:=ps) (nm:=nm) (cm:=cm) (n:=n) (c:=c) (md:=md) (rows:=rows) (N:=N) (by simp only [Bv];omega) CC.ck
 have Gt:=fun {pm pm2 pm3:Option Addr}{nm cm nm2 cm2 nm3 cm3:Nat}=>Kn (pm:=pm) (nm:=nm) (cm:=cm) (pm2:=pm2) (nm2:=nm2) (cm2:=cm2) (pm3:=pm3) (nm3:=nm3) (cm3:=cm3) T.K T.Ks T.Ks T.hd T.hr T.hr1
 have Fs:=fun {pm ps:Option Addr}{nm cm n c:Nat}=>Iw (pm:=pm) (ps:=ps) (nm:=nm) (cm:=cm) (n:=n) (c:=c) CC
 have hD:=fun {pm ps:Option Addr}{nm cm n c:Nat}=>Iw (pm:=pm) (ps:=ps) (nm:=nm) (cm:=cm) (n:=n) (c:=c) hT
 have H9:=fun {b nm cm nm2 cm2 n c cg ce cl ci:Nat}{pm pm2 ps pg pe pl pi:Option Addr}=>Qc (b:=b) (nm:=nm) (cm:=cm) (nm2:=nm2) (cm2:=cm2) (ns:=n) (c:=c) (cg:=cg) (ce:=ce) (cl:=cl) (ci:=ci) (pm:=pm) (pm2:=pm2) (ps:=ps) (pg:=pg) (pe:=pe) (pl:=pl) (pi:=pi) CN T.Ks T.hd rfl T.n0 T.hx0 T.hN T.hmin T.hxc T.hxn T.hTr
 rw [← tcP] at H9
 generalize tcP p m ms md mds r x0 N (Kt p m md N rows)=TC at *
 generalize Kt p m md N rows=D at *
 refine wk 39 (ct @Au (ct @Gt (ct @Fs cz))) ?_
 intro b1 b2 b3 h1 b4 pg1 cg1 pe1 ce1 pl1 cl1 pa1 ca1 h2 pb1 pc1 nb1 cb1 nc1 cc1 b5 h3
 have Fs:=fun {pm ps:Option Addr}{nm cm n c:Nat}=>hD (pm:=pm) (ps:=ps) (nm:=nm) (cm:=cm) (n:=n) (c:=c)
 generalize Kt p ms mds N TC=R at *
 refine wk 16 (ct @H9 (ct @Fs cz)) ?_
 intro pb2 pc2 nb2 cb2 nc2 cc2 b6 h4 pb3 pc3 nb3 cb3 nc3 cc3
 refine Bj [0,1] rfl (.agg 2 rfl rfl Cs rfl (.tmp rfl .nil)) rfl ⟨_,_,_,_,_,_,rfl,rfl,rfl⟩
theorem AIR (K:Fok p m md) (hr:r<p ^ m) (Ks:Fok p ms mds):∀ z∈imT p m ms md r,0≤z∧z<((p ^ m:Nat):Int):=fun z hz=>by
 obtain ⟨x,_,rfl⟩:=List.mem_map.1 hz
 refine Uo K.fi _ 0 (Int.le_refl 0) K.fi.z fun y hy=>?_
 obtain ⟨i,hi,rfl⟩:=List.getElem_of_mem hy
 rw [List.getElem_zipWith]
 rw [List.length_zipWith] at hi
 have h1:∀ z∈Bc (Dd p ms x),0≤z∧z<((p ^ m:Nat):Int):=fun z hz=>by
  obtain ⟨y,hy,rfl⟩:=List.mem_map.1 hz
  have:=I1 (by have:=K.p2;omega) y hy
  have hpm:p≤p ^ m:=Nat.le_self_pow (by have:=K.m1;omega) p
  omega
 have h2:∀ z∈Wh (fM p (Ax m md)) r ms,0≤z∧z<((p ^ m:Nat):Int):=fun z hz=>by
  obtain ⟨y,hy,rfl⟩:=List.mem_map.1 hz
  obtain ⟨i,_,rfl⟩:=List.mem_map.1 hy
  have:=K.rng'.pw_lt hr i
  omega
 obtain ⟨a0,a1⟩:=h1 (Bc (Dd p ms x))[i] (List.getElem_mem (by omega))
 obtain ⟨b0,b1⟩:=h2 (Wh (fM p (Ax m md)) r ms)[i] (List.getElem_mem (by omega))
 exact K.fi.ml _ _ a0 a1 b0 b1
theorem AHE {q q' N:Nat}{IM u:List Int}(h0:0<q') (hI:∀ z∈IM,0≤z∧z<(q':Int)) (hu:Wd q N u):Wd q' N (emL IM u):=⟨by rw [emL,List.length_map,hu.1],fun z hz=>by
 obtain ⟨x,_,rfl⟩:=List.mem_map.1 hz
 rw [Ba,List.getD_eq_getElem?_getD]
 cases h:IM[x.toNat]? with
 | none=>exact ⟨Int.le_refl 0,by show (0:Int)<_;omega⟩
 | some y=>exact hI y (List.mem_of_getElem? h)⟩
end
open Go Go.Fw
set_option maxRecDepth 100000
set_option linter.unusedVariables false
set_option linter.unusedSimpArgs false
set_option maxHeartbeats 0
section
variable {p m ms n nm cm nm2 cm2 c r x0:Nat}{ps pm pm2:Option Addr}{md mds:List Int}{rows:List (List Int)}
theorem Ws {N:Nat}(CC:Cok p ms mds N rows) (K:Fok p m md) (hd:dgB m ms=true) (hr:r<p ^ m) (hr1:ms≠1→(rtP (Ad (fA p m)) (Ad (fM p (Ax m md))) (mds++[1]) (p ^ m))[0]?=some (r:Int)) :
  Bs Tryz.prog 36 [.agg #[.int .i64 p,.int .i64 ms,.slice pm nm cm,.int .i64 N,.slice ps n c],.agg #[.int .i64 p,.int .i64 m,.slice pm2 nm2 cm2]] [] [Ap Ai pm nm cm mds,Ap (Aj Ai) ps n c rows,Ap Ai pm2 nm2 cm2 md] (Y0 p m N md (Dm p m md N (rows.map (emL (imT p m ms md r)))).1 0):=by
 refine Ab (F:=AAF) rfl fun C=>?_
 refine Bb 1 rfl fun hn hb1 _=>?_
 subst hn
 have h64:=CC.n64
 have hl:=CC.len
 have Ks:=CC.K
 have hq:=K.q
 have Au:=fun {pm ps:Option Addr}{nm cm n c:Nat}=>D0 (P:=p) (M:=ms) (pm:=pm) (ps:=ps) (nm:=nm) (cm:=cm) (n:=n) (c:=c) (md:=mds) (rows:=rows) (N:=N) (by simp only [Bv];omega) CC.ck
 have Gt:=fun {pm pm2 pm3:Option Addr}{nm cm nm2 cm2 nm3 cm3:Nat}=>Kn (pm:=pm) (nm:=nm) (cm:=cm) (pm2:=pm2) (nm2:=nm2) (cm2:=cm2) (pm3:=pm3) (nm3:=nm3) (cm3:=cm3) K CC.K K hd hr hr1
 have hIr:=AIR K hr CC.K
 have hIl:(imT p m ms md r).length=p ^ ms:=AE5
 have hEM:Cz (p ^ m) N (rows.map (emL (imT p m ms md r))):=fun s hs=>by
  obtain ⟨u,hu,rfl⟩:=List.mem_map.1 hs
  exact AHE (Nat.pow_pos (by have:=K.p2;omega)) hIr (CC.mat u hu)
 have hRl:(rows.map (emL (imT p m ms md r))).length=rows.length:=List.length_map _
 have Dj:=fun {pm ps:Option Addr}{nm cm n c:Nat}=>Ik (pm:=pm) (ps:=ps) (nm:=nm) (cm:=cm) (n:=n) (c:=c) (N:=N) (rows:=rows.map (emL (imT p m ms md r))) K CC.n1 CC.n64 (by omega) hEM
 generalize hG:(Dm p m md N (rows.map (emL (imT p m ms md r)))).1=G at *
 clear hG
 simp only [imT] at *
 refine Am [_,_] rfl ?_
 refine Aa rfl (Cm rfl fun b1=>?_)
 refine Aa rfl (Cm rfl fun b2=>?_)
 refine Aa rfl (Bk Ni fun b3=>?_)
 refine Ae it 1 rfl (by simp) ?_
 refine Am [_,_,_] rfl ?_
 refine Aa rfl (A5 2 rfl rfl Cs rfl ?_)
 refine Aa rfl (Aw [0,1] rfl (Au) rfl ?_)
 rintro _ _ _ ⟨rfl,rfl,rfl⟩
 simp only [List.cons_append,List.nil_append]
 refine Ae it 1 rfl (by simp) ?_
 refine Am [_,_,_] rfl ?_
 refine Ae it 2 rfl (by simp) ?_
 refine Am [_,_] rfl ?_
 refine Kw rfl rfl (fun h1=>by exfalso;omega) (fun h1=>?_)
 refine Am [_,_] rfl ?_
 refine Aa rfl (Aq rfl Ud ?_)
 refine Aa rfl (S4 2 rfl rfl Hx rfl rfl ?_)
 refine Aa rfl (A5 1 rfl rfl Hx rfl ?_)
 refine Aa rfl (A5 1 rfl rfl Hx rfl ?_)
 refine Aa rfl (Aw [0,2,2] rfl (Gt) rfl ?_)
 rintro _ _ _ ⟨b4,pg1,cg1,pe1,ce1,pl1,cl1,pa1,ca1,rfl,rfl,rfl⟩
 simp only [List.cons_append,List.nil_append]
 simp only [decide_true]
 refine Ae it 7 rfl (by simp) ?_
 refine Am [_,_,_] rfl ?_
 refine Ae it 2 rfl (by simp) ?_
 refine Am [_,_] rfl ?_
 refine Kw rfl rfl (fun h2=>by exfalso;omega) (fun h2=>?_)
 refine Am [_,_] rfl ?_
 refine Aa rfl (Aq rfl Jj ?_)
 refine Aa rfl (Bm 2 rfl rfl Ci rfl ?_)
 refine Aa rfl (Dq (cs:=[Value.int IntKind.i64 ↑N,Value.slice none 0 0]) U4 Ha rfl rfl ?_)
 refine Aa rfl (Bk Ha fun b5=>?_)
 refine Aa rfl (A7 0 rfl rfl rfl Gd rfl rfl (by simp [Value.oneCell']) ?_)
 refine Am [_,_,_] rfl ?_
 refine Aa rfl (Aq rfl Rt ?_)
 refine Aa rfl (Bm 3 rfl rfl H3 rfl ?_)
 refine Aa rfl (G6 D5 rfl ?_)
 refine Ae it 1 rfl (by simp) ?_
 refine Am [_,_,_] rfl ?_ --ok
 simp only [setB,List.set_cons_zero,List.set_cons_succ,List.cons_append,List.nil_append]
 generalize imL (Ad (fA p m)) (Ad (fM p (Ax m md))) p ms (Wh (fM p (Ax m md)) r ms)=IM at *
 refine Eh (Ap (Aj Ai) none 0 0 []) (fun w A _=>Dp _ w A none 0) ?_
 refine Fz (Aj Ai) 22 ?_
 refine Ah (X:=Nat×Row) [2,3,4,5,8,10,39,40] [0,1,2,3,4,5,6,7,8,9] (fun z=>[(41,.int .i64 (z.1:Int))]) (fun z=>(z.2.bo,22,z.2.cs)::(some b5,62,[.int .i64 N,.slice (ad z.2.bo) z.1 z.2.cap])::_) (fun z=>[A6 (Aj Ai) z.2 z.1 ((rows.take z.1).map (emL IM))]) (fun z=>z.1≤rows.length) (fun z=>rows.length-z.1) (0,⟨none,0,[]⟩) [0] rfl rfl rfl (Nat.zero_le _) (by repeat (first|exact Fr.sub_nil _|refine Fr.sub_cons rfl ?_)) rfl rfl ?_
 rintro ⟨i,r⟩ hi ih
 simp only [List.cons_append,List.nil_append] at hi ih ⊢
 by_cases hil:i<rows.length
 ·obtain ⟨u,at_u⟩:∃ u,rows[i]?=some u:=⟨_,List.getElem?_eq_getElem hil⟩
  have hum:=List.mem_of_getElem? at_u
  have hu:=CC.mat u hum
  have hul:=hu.1
  have ih1:=fun r=>ih (i+1,r) (by dsimp only;omega) (by dsimp only;omega)
  dsimp only at ih1
  rw [List.take_add_one (l:=rows),at_u,Option.toList_some,List.map_append,List.map_cons,List.map_nil] at ih1
  clear ih
  have hTw:=AHE (show 0<p ^ m from Nat.pow_pos (by have:=K.p2;omega)) hIr hu
  have hTa:∀ (j:Nat) (y:Int),u[j]?=some y→(emL IM u)[j]?=some (Ba IM y.toNat):=fun j y h=>by rw [emL,List.getElem?_map,h];rfl
  generalize emL IM u=T at *
  refine wk 18 cz ?_
  intro h3 b6 o1 hz1 pa2 ca2 b7 --ok
  rw [show Ao .i64 (List.replicate N 0)=Al .i64 (T.take 0++List.replicate (N-0) 0) by simp [Ao,Al]]
  simp only [List.cons_append,List.nil_append]
  refine Ah (X:=Nat) [2,3,4,5,8,10,12,13,39,40,41,42,43,44,45,46,47,48,49] [0,1,2,3,4,5,6,7,8,9,10,11,12] (fun t=>[(50,.int .i64 (t:Int))]) (fun t=>(some b7,3,Al .i64 (T.take t++List.replicate (N-t) 0))::_) (fun _=>[]) (fun t=>t≤N) (fun t=>N-t) 0 [] rfl rfl rfl (Nat.zero_le _) (by repeat (first|exact Fr.sub_nil _|refine Fr.sub_cons rfl ?_)) rfl rfl ?_
  rintro t ht ih
  simp only [List.cons_append,List.nil_append] at ht ih ⊢
  by_cases htl:t<N
  ·obtain ⟨y,at_y⟩:∃ y,u[t]?=some y:=⟨_,List.getElem?_eq_getElem (by omega)⟩
   obtain ⟨y0,y1⟩:=hu.2 y (List.mem_of_getElem? at_y)
   obtain ⟨y',rfl⟩:=Int.eq_ofNat_of_zero_le y0
   have hTt:=hTa t _ at_y
   rw [Int.toNat_natCast] at hTt
   obtain ⟨z,at_z⟩:∃ z,IM[y']?=some z:=⟨_,List.getElem?_eq_getElem (by omega)⟩
   have ez:Ba IM y'=z:=by rw [Ba,List.getD_eq_getElem?_getD,at_z];rfl
   obtain ⟨z0,z1⟩:=hIr z (List.mem_of_getElem? at_z)
   rw [ez] at hTt
   have ih':=ih (t+1) (by omega) (by omega)
   rw [← take_set hTt htl] at ih'
   have hln:(T.take t++List.replicate (N-t) 0).length=N:=by have:=hTw.1;simp;omega
   generalize T.take t++List.replicate (N-t) 0=L at *
   clear ih
   refine wk 7 cz ?_
   intro h4 b8 o2 hz2
   refine Aa rfl (Av 0 rfl rfl Ci fun ⟨r1,r2⟩=>?_)
   refine wk 4 cz ?_
   intro b9 o3 hz3
   refine Aa rfl (Av 0 rfl rfl Ci fun ⟨r3,r4⟩=>?_)
   refine wk 5 cz ?_
   exact tw (ih')
  ·obtain rfl:t=N:=by omega
   have hTl:=hTw.1
   rw [Nat.sub_self,List.replicate_zero,List.append_nil,List.take_of_length_le (by omega)]
   clear ih
   have hmr:∀ z∈T,Bv .i64 z:=fun z hz=>by have:=hTw.2 z hz;simp only [Bv];omega
   refine Bl 0 rfl hTl.symm hmr (by omega) ?_
   refine wk 9 cz ?_
   intro h4 b8
   refine C5 1 0 rfl rfl (by show (t)*8≤140737488355328;omega) ?_
   refine Aa rfl (F1 (z:=T) 1 0 4 rfl rfl rfl rfl rfl D5 I5 rfl (fun w A hG=>(A1 (hG _ (Af (n:=0) rfl)))) (by omega) _ Nd (by omega) fun r1=>?_)
   refine wk 5 cz ?_
   refine Ky [true,false,true,true,true,true] [0,6,7,8,9,10,11,12,13,14,15] (by exact Ux rfl) rfl rfl (ih1 r1)
 ·obtain rfl:i=rows.length:=by omega
  clear ih
  rw [List.take_length]
  refine D4 0 0 rfl rfl (by show rows.length*24≤140737488355328;omega) ?_
  simp only [List.eraseIdx_cons_zero,List.eraseIdx_cons_succ]
  refine wk 12 (ct @Dj cz) ?_
  intro h3 pb1 pc1 nb1 cb1 nc1 cc1
  refine Bj [0,1] rfl (.agg 1 rfl rfl Cs rfl (.tmp rfl .nil)) rfl ⟨_,_,_,_,_,_,rfl,rfl,rfl⟩
end
open Go Go.Fw
set_option maxRecDepth 100000
set_option linter.unusedVariables false
set_option linter.unusedSimpArgs false
set_option maxHeartbeats 0
theorem AMg:Prm 2:=⟨Nat.le_refl 2,fun d h1 h2=>by omega⟩
theorem K21:Fok 2 1 []:=⟨AMg,by decide,by decide,by decide,fun _=>rfl,fun h=>absurd rfl h,fun x hx=>(by cases hx),fun h=>absurd rfl h⟩
theorem K22:Fok 2 2 [1,1]:=⟨AMg,by decide,by decide,by decide,fun h=>absurd h (by decide),fun _=>rfl,fun x hx=>(by
 rcases List.mem_cons.1 hx with rfl|hx
 ·decide
 ·rw [List.mem_singleton.1 hx];decide),fun _ d h1 h2 v hv hc=>by
 have h2:2*d≤2:=h2
 obtain rfl:d=1:=by omega
 have hv:v<2:=hv
 have h0:=hc 0
 match v,hv with
 | 0,_=>exact absurd h0 (by decide +kernel)
 | 1,_=>exact absurd h0 (by decide +kernel)⟩
abbrev cR:List (List Int):=[[1,0,1,0],[0,1,1,1]]
theorem AKV {q n:Nat}{u:List Int}(h:(decide (u.length=n) && u.all fun x=>decide (0≤x∧x<(q:Int)))=true):Wd q n u:=by
 rw [Bool.and_eq_true] at h
 exact ⟨of_decide_eq_true h.1,fun x hx=>of_decide_eq_true (List.all_eq_true.1 h.2 x hx)⟩
theorem Yu {q n:Nat}{rows:List (List Int)}(h:(rows.all fun u=>decide (u.length=n) && u.all fun x=>decide (0≤x∧x<(q:Int)))=true):Cz q n rows:=fun r hr=>AKV (List.all_eq_true.1 h r hr)
theorem CCa:Cok 2 1 [] 4 cR:=⟨K21,by decide,by decide,Yu (by decide +kernel),by decide +kernel⟩
theorem CCb:Cok 2 2 [1,1] 3 [[1,2,3]]:=⟨K22,by decide,by decide,Yu (by decide +kernel),by decide +kernel⟩
theorem CCy:Cok 2 1 [] 4 [[1,0,1,0]]:=⟨K21,by decide,by decide,Yu (by decide +kernel),by decide +kernel⟩
theorem TW:TwOk 2 2 1 [1,1] [] 0 2 where
 K:=K22
 Ks:=K21
 hd:=by decide +kernel
 hr:=by decide
 hr1:=fun h=>absurd rfl h
 hx0:=by decide
 hN:=by decide +kernel
 hmin:=by decide +kernel
 hxc:=by decide +kernel
 hxn:=fun i h1 h2=>by
  have h2:i<2:=h2
  obtain rfl:i=1:=by omega
  decide +kernel
 hTr:=by decide +kernel
section
variable {n c nm cm ns cs' nm2 cm2:Nat}{pm ps pt pm2:Option Addr}
theorem AG0 {n:Int}{l:List Int}(h:(l.all fun x=>decide (0≤x∧x<n))=true) (h2:l.Pairwise (·<·)):Uc n l:=⟨fun x hx=>of_decide_eq_true (List.all_eq_true.1 h x hx),h2⟩
theorem AJW:psE 2 1 [] 4 cR [0]=0:=by
 rw [psE,if_neg (fun e=>e CCa.ck),if_neg (fun e=>e (AG0 (by decide) (by simp))),if_neg (by decide)]
theorem AEB:Bs Tryz.prog 15 [.agg #[.int .i64 2,.int .i64 1,.slice pm nm cm,.int .i64 4,.slice ps n c],.slice pt ns cs'] [] [Ap Ai pm nm cm [],Ap (Aj Ai) ps n c cR,Ap Ai pt ns cs' [0]] (Y0 2 1 3 [] [[1,0,1],[0,1,0]] 0):=by
 have h:=Nc (P:=((2:Nat):Int)) (M:=((1:Nat):Int)) (pm:=pm) (nm:=nm) (cm:=cm) (ps:=ps) (n:=n) (c:=c) (md:=[]) (rows:=cR) (N:=((4:Nat):Int)) (pt:=pt) (ns:=ns) (cs':=cs') (set:=[0]) (by simp [Bv])
 rw [AEo (p:=2) (m:=1) (n:=4) AJW,show (Dm 2 1 [] (Cj 4 [[0]]).length (cR.map fun r=>Pd r (Cj 4 [[0]]))).1=[[1,0,1],[0,1,0]] by decide +kernel] at h
 exact h
theorem AGf:Bs Tryz.prog 18 [.agg #[.int .i64 2,.int .i64 1,.slice pm nm cm,.int .i64 4,.slice ps n c],.slice pt ns cs'] [] [Ap Ai pm nm cm [],Ap (Aj Ai) ps n c cR,Ap Ai pt ns cs' [0]] (Y0 2 1 3 [] [[1,1,1]] 0):=by
 have h:=Oz (P:=((2:Nat):Int)) (M:=((1:Nat):Int)) (pm:=pm) (nm:=nm) (cm:=cm) (ps:=ps) (n:=n) (c:=c) (md:=[]) (rows:=cR) (N:=((4:Nat):Int)) (pt:=pt) (ns:=ns) (cs':=cs') (set:=[0]) (by simp [Bv])
 rw [AEl (p:=2) (m:=1) (n:=4) AJW,show (Dm 2 1 [] (Cj 4 [[0]]).length ((wiP 2 1 [] 4 cR [0]).map fun r=>Pd r (Cj 4 [[0]]))).1=[[1,1,1]] by decide +kernel] at h
 exact h
theorem AIq:Bs Tryz.prog 26 [.agg #[.int .i64 2,.int .i64 1,.slice pm nm cm,.int .i64 4,.slice ps n c]] [] [Ap Ai pm nm cm [],Ap (Aj Ai) ps n c cR] (Y0 2 1 5 [] [[1,0,1,0,0],[0,1,1,1,1]] 0):=by
 have h:=Yo (P:=((2:Nat):Int)) (M:=((1:Nat):Int)) (pm:=pm) (nm:=nm) (cm:=cm) (ps:=ps) (n:=n) (c:=c) (md:=[]) (rows:=cR) (N:=((4:Nat):Int)) (by simp [Bv])
 rw [AIi CCa (by decide),show (Dm 2 1 [] (4+1) (etL 2 1 cR)).1=[[1,0,1,0,0],[0,1,1,1,1]] by decide +kernel] at h
 exact h
theorem ADD:Bs Tryz.prog 28 [.agg #[.int .i64 2,.int .i64 1,.slice pm nm cm,.int .i64 4,.slice ps n c]] [] [Ap Ai pm nm cm [],Ap (Aj Ai) ps n c cR] (Y0 2 1 4 [] [[1,0,1,0]] 0):=by
 have h:=Ub (P:=((2:Nat):Int)) (M:=((1:Nat):Int)) (pm:=pm) (nm:=nm) (cm:=cm) (ps:=ps) (n:=n) (c:=c) (md:=[]) (rows:=cR) (N:=((4:Nat):Int)) (by simp [Bv])
 rw [AGP CCa,show exP 2 1 [] 4 cR=[[1,0,1,0]] by decide +kernel] at h
 exact h
theorem AM4:PmOk 4 [1,0,2,3]:=⟨by decide,by decide,by decide⟩
theorem AGi:Bs Tryz.prog 22 [.agg #[.int .i64 2,.int .i64 1,.slice pm nm cm,.int .i64 4,.slice ps n c],.slice pt ns cs'] [] [Ap Ai pm nm cm [],Ap (Aj Ai) ps n c cR,Ap Ai pt ns cs' [1,0,2,3]] (Y0 2 1 4 [] [[1,0,1,1],[0,1,1,0]] 0):=by
 have h:=Vg (P:=((2:Nat):Int)) (M:=((1:Nat):Int)) (pm:=pm) (nm:=nm) (cm:=cm) (ps:=ps) (n:=n) (c:=c) (md:=[]) (rows:=cR) (N:=((4:Nat):Int)) (pt:=pt) (ns:=ns) (cs':=cs') (l:=[1,0,2,3]) (by simp [Bv]) (by decide) (fun hr {b2 n cs ps}=>Z9 (b2:=b2) (n:=n) (cs:=cs) (ps:=ps) (by decide) hr)
 rw [AHf CCa AM4,show (Dm 2 1 [] 4 (cR.map fun r=>mvI 4 r [1,0,2,3])).1=[[1,0,1,1],[0,1,1,0]] by decide +kernel] at h
 exact h
theorem AGa:Bs Tryz.prog 30 [.agg #[.int .i64 2,.int .i64 1,.slice pm nm cm,.int .i64 4,.slice ps n c]] [] [Ap Ai pm nm cm [],Ap (Aj Ai) ps n c [[1,0,1,0]]] (Y0 2 1 4 [] [[1,0,1,0],[0,1,0,1]] 0):=by
 have h:=W5 (P:=((2:Nat):Int)) (M:=((1:Nat):Int)) (pm:=pm) (nm:=nm) (cm:=cm) (ps:=ps) (n:=n) (c:=c) (md:=[]) (rows:=[[1,0,1,0]]) (N:=((4:Nat):Int)) (by simp [Bv])
 rw [AHv CCy,show auP 2 1 [] 4 [[1,0,1,0]]=[[1,0,1,0],[0,1,0,1]] by decide +kernel] at h
 exact h
theorem AGx:Bs Tryz.prog 20 [.agg #[.int .i64 2,.int .i64 1,.slice pm nm cm,.int .i64 4,.slice ps n c],.slice pt ns cs'] [] [Ap Ai pm nm cm [],Ap (Aj Ai) ps n c cR,Ap Ai pt ns cs' [1]] (Y0 2 1 4 [] [[0,1,1,1]] 0):=by
 have h:=W6 (P:=((2:Nat):Int)) (M:=((1:Nat):Int)) (pm:=pm) (nm:=nm) (cm:=cm) (ps:=ps) (n:=n) (c:=c) (md:=[]) (rows:=cR) (N:=((4:Nat):Int)) (pt:=pt) (ns:=ns) (cs':=cs') (set:=[1]) (by simp [Bv])
 rw [AHV CCa (set:=[1]) (AG0 (by decide) (by simp)),show (Dm 2 1 [] 4 (sbL cR [1])).1=[[0,1,1,1]] by decide +kernel] at h
 exact h
theorem AEI:Bs Tryz.prog 32 [.agg #[.int .i64 2,.int .i64 2,.slice pm nm cm,.int .i64 3,.slice ps n c],.agg #[.int .i64 2,.int .i64 1,.slice pm2 nm2 cm2]] [] [Ap Ai pm nm cm [1,1],Ap (Aj Ai) ps n c [[1,2,3]],Ap Ai pm2 nm2 cm2 []] (Y0 2 1 3 [] [] 0):=by
 have h:=Rr (pm:=pm) (nm:=nm) (cm:=cm) (ps:=ps) (n:=n) (c:=c) (pm2:=pm2) (nm2:=nm2) (cm2:=cm2) CCb TW ⟨K21,by decide,by decide,Yu (by decide +kernel),by decide +kernel⟩
 rw [show Kt 2 1 [] 3 (tcP 2 2 1 [1,1] [] 0 2 3 (Kt 2 2 [1,1] 3 [[1,2,3]]))=[] by decide +kernel] at h
 exact h
theorem AIN:Bs Tryz.prog 34 [.agg #[.int .i64 2,.int .i64 2,.slice pm nm cm,.int .i64 3,.slice ps n c],.agg #[.int .i64 2,.int .i64 1,.slice pm2 nm2 cm2]] [] [Ap Ai pm nm cm [1,1],Ap (Aj Ai) ps n c [[1,2,3]],Ap Ai pm2 nm2 cm2 []] (Y0 2 1 3 [] [[1,0,1],[0,1,1]] 0):=by
 have h:=U0 (pm:=pm) (nm:=nm) (cm:=cm) (ps:=ps) (n:=n) (c:=c) (pm2:=pm2) (nm2:=nm2) (cm2:=cm2) CCb TW
 rw [show tcP 2 2 1 [1,1] [] 0 2 3 [[1,2,3]]=[[1,0,1],[0,1,1]] by decide +kernel] at h
 exact h
theorem ALk:Bs Tryz.prog 36 [.agg #[.int .i64 2,.int .i64 1,.slice pm nm cm,.int .i64 4,.slice ps n c],.agg #[.int .i64 2,.int .i64 2,.slice pm2 nm2 cm2]] [] [Ap Ai pm nm cm [],Ap (Aj Ai) ps n c cR,Ap Ai pm2 nm2 cm2 [1,1]] (Y0 2 2 4 [1,1] cR 0):=by
 have h:=Ws (r:=0) (pm:=pm) (nm:=nm) (cm:=cm) (ps:=ps) (n:=n) (c:=c) (pm2:=pm2) (nm2:=nm2) (cm2:=cm2) CCa K22 (by decide +kernel) (by decide) (fun h=>absurd rfl h)
 rw [show (Dm 2 2 [1,1] 4 (cR.map (emL (imT 2 2 1 [1,1] 0)))).1=cR by decide +kernel] at h
 exact h
end
open Go Go.Fw
set_option maxRecDepth 100000
set_option linter.unusedVariables false
set_option linter.unusedSimpArgs false
set_option maxHeartbeats 0
theorem Fk {l:List Int}(h:(l.all fun x=>decide (0≤x∧x<100))=true):∀ z∈l,Bv .i64 z:=fun z hz=>by
 have:=of_decide_eq_true (List.all_eq_true.1 h z hz)
 simp only [Bv];omega
theorem Pc:Bs Tryz.prog 13 [] [] [] (Rv (.bool true) []):=by
 refine Ab (F:=Og) rfl fun C=>?_
 have G2:=fun {n c nm cm ns cs':Nat}{pm ps pt:Option Addr}=>AEB (n:=n) (c:=c) (nm:=nm) (cm:=cm) (ns:=ns) (cs':=cs') (pm:=pm) (ps:=ps) (pt:=pt)
 have Hl:=fun {n c nm cm ns cs':Nat}{pm ps pt:Option Addr}=>AGf (n:=n) (c:=c) (nm:=nm) (cm:=cm) (ns:=ns) (cs':=cs') (pm:=pm) (ps:=ps) (pt:=pt)
 have X0:=fun {n c nm cm:Nat}{pm ps:Option Addr}=>AIq (n:=n) (c:=c) (nm:=nm) (cm:=cm) (pm:=pm) (ps:=ps)
 have T2:=fun {n c nm cm:Nat}{pm ps:Option Addr}=>ADD (n:=n) (c:=c) (nm:=nm) (cm:=cm) (pm:=pm) (ps:=ps)
 have W9:=fun {n c nm cm ns cs':Nat}{pm ps pt:Option Addr}=>AGi (n:=n) (c:=c) (nm:=nm) (cm:=cm) (ns:=ns) (cs':=cs') (pm:=pm) (ps:=ps) (pt:=pt)
 have Vs:=fun {n c nm cm nm2 cm2:Nat}{pm ps pm2:Option Addr}=>AEI (n:=n) (c:=c) (nm:=nm) (cm:=cm) (nm2:=nm2) (cm2:=cm2) (pm:=pm) (ps:=ps) (pm2:=pm2)
 have Zo:=fun {n c nm cm nm2 cm2:Nat}{pm ps pm2:Option Addr}=>AIN (n:=n) (c:=c) (nm:=nm) (cm:=cm) (nm2:=nm2) (cm2:=cm2) (pm:=pm) (ps:=ps) (pm2:=pm2)
 have AAD:=fun {n c nm cm nm2 cm2:Nat}{pm ps pm2:Option Addr}=>ALk (n:=n) (c:=c) (nm:=nm) (cm:=cm) (nm2:=nm2) (cm2:=cm2) (pm:=pm) (ps:=ps) (pm2:=pm2)
 have W2:=fun {n c nm cm:Nat}{pm ps:Option Addr}=>AGa (n:=n) (c:=c) (nm:=nm) (cm:=cm) (pm:=pm) (ps:=ps)
 have Xn:=fun {n c nm cm ns cs':Nat}{pm ps pt:Option Addr}=>AGx (n:=n) (c:=c) (nm:=nm) (cm:=cm) (ns:=ns) (cs':=cs') (pm:=pm) (ps:=ps) (pt:=pt)
 have As:=fun {l:List (List Int)}{pl pk:Option Addr}{nl cl nk ck:Nat}=>Du (l:=l) (k:=l) (res:=true) (pl:=pl) (pk:=pk) (nl:=nl) (cl:=cl) (nk:=nk) (ck:=ck) (decide_eq_true rfl)
 refine Eh (Ap Ai none 0 0 []) (fun w A _=>Dp _ w A none 0) ?_
 refine Am [_,_] rfl ?_
 refine Ae it 1 rfl (by simp) ?_
 refine Am [_,_] rfl ?_
 refine Aa rfl (Dq (cs:=[Value.int IntKind.i64 2,Value.int IntKind.i64 1,Value.slice none 0 0]) AI0 AGj rfl rfl ?_)
 refine Aa rfl (Bk AGj fun b1=>?_)
 refine Aa rfl (A7 0 rfl rfl rfl Hx rfl rfl (by simp [Value.oneCell']) ?_)
 refine Am [_,_] rfl ?_
 refine Aa rfl (Ix Cb Er rfl rfl rfl rfl (by decide) (by decide) rfl fun b2=>?_)
 refine Bl (l:=[1,1]) 0 rfl (n:=2) rfl (fun z hz=>Fk (by decide) z hz) (by omega) ?_
 refine C5 0 0 rfl rfl (by decide) ?_
 simp only [List.eraseIdx_cons_zero]
 refine Aa rfl (Dq (cs:=[Value.int IntKind.i64 2,Value.int IntKind.i64 2,Value.slice (some { block:=b2,off:=0 }) 2 2]) AI0 AGj rfl rfl ?_)
 refine Aa rfl (Bk AGj fun b3=>?_)
 refine Aa rfl (A7 0 rfl rfl rfl Hx rfl rfl (by simp [Value.oneCell']) ?_)
 refine Am [_,_] rfl ?_
 refine Aa rfl (A5 1 rfl rfl Hx rfl ?_)
 refine Aa rfl (Ix Cb Er rfl rfl rfl rfl (by decide) (by decide) rfl fun b4=>?_)
 refine Bl (l:=[1,0,1,0]) 0 rfl (n:=4) rfl (fun z hz=>Fk (by decide) z hz) (by omega) ?_
 refine C5 0 0 rfl rfl (by decide) ?_
 simp only [List.eraseIdx_cons_zero]
 refine wk 1 cz ?_
 intro b5
 refine Bl (l:=[0,1,1,1]) 0 rfl (n:=4) rfl (fun z hz=>Fk (by decide) z hz) (by omega) ?_
 refine C5 0 0 rfl rfl (by decide) ?_
 simp only [List.eraseIdx_cons_zero]
 refine Aa rfl (Ix D5 I5 rfl rfl rfl rfl (by decide) (by decide) rfl fun b6=>?_)
 refine Aa rfl (Dq (cs:=[Value.int IntKind.i64 2,Value.int IntKind.i64 1,Value.slice none 0 0,Value.int IntKind.i64 4,Value.slice (some { block:=b6,off:=0 }) 2 2]) AK8 Ni rfl rfl ?_)
 refine Aa rfl (Bk Ni fun b7=>?_)
 refine Aa rfl (A7 0 rfl rfl rfl Cs rfl rfl (by simp [Value.oneCell']) ?_)
 refine Am [_,_] rfl ?_
 refine Aa rfl (A5 2 rfl rfl Hx rfl ?_)
 refine Aa rfl (Ix Cb Er rfl rfl rfl rfl (by decide) (by decide) rfl fun b8=>?_)
 refine Bl (l:=[1,2,3]) 0 rfl (n:=3) rfl (fun z hz=>Fk (by decide) z hz) (by omega) ?_
 refine C5 0 0 rfl rfl (by decide) ?_
 simp only [List.eraseIdx_cons_zero]
 refine Aa rfl (Ix D5 I5 rfl rfl rfl rfl (by decide) (by decide) rfl fun b9=>?_)
 refine Aa rfl (Dq (cs:=[Value.int IntKind.i64 2,Value.int IntKind.i64 2,Value.slice (some { block:=b2,off:=0 }) 2 2,Value.int IntKind.i64 3,Value.slice (some { block:=b9,off:=0 }) 1 1]) AK8 Ni rfl rfl ?_)
 refine Aa rfl (Bk Ni fun b10=>?_)
 refine Aa rfl (A7 0 rfl rfl rfl Cs rfl rfl (by simp [Value.oneCell']) ?_)
 refine Am [_,_] rfl ?_
 refine Aa rfl (A5 2 rfl rfl Cs rfl ?_)
 refine Aa rfl (Ix Cb Er rfl rfl rfl rfl (by decide) (by decide) rfl fun b11=>?_)
 refine Cg (E:=(Aj (Ai))) (n:=2) [[Value.slice (some { block:=b4,off:=0 }) 4 4],[Value.slice (some { block:=b5,off:=0 }) 4 4]] [[1,0,1,0],[0,1,1,1]] 4 (fun w A hG=>(Az (A1 (hG _ (Af (n:=4) rfl))) (Az (A1 (hG _ (Af (n:=2) rfl))) Bf))) rfl rfl rfl rfl (by first|decide|exact Nat.le_of_ble_eq_true rfl) (by first|decide|exact Nat.le_of_ble_eq_true rfl) ?_
 refine Cg (E:=Ai) (n:=1) [[Value.int IntKind.i64 0]] [0] 0 (fun w A hG=>(Az ⟨rfl,by first|assumption|(simp only [Bv];omega)⟩ Bf)) rfl rfl rfl rfl (by first|decide|exact Nat.le_of_ble_eq_true rfl) (by first|decide|exact Nat.le_of_ble_eq_true rfl) ?_
 refine Aa rfl (Aw [10,1,0] rfl (G2) rfl ?_)
 rintro _ _ _ ⟨pb1,pc1,nb1,cb1,nc1,cc1,rfl,rfl,rfl⟩
 simp only [List.cons_append,List.nil_append]
 refine Ae it 3 rfl (by simp) ?_
 refine Aa rfl (Bk Ni fun b12=>?_)
 refine Aa rfl (A7 0 rfl rfl rfl Cs rfl rfl (by simp [Value.oneCell']) ?_)
 refine Ae it 1 rfl (by simp) ?_
 refine Am [_,_] rfl ?_
 refine Aa rfl (A5 3 rfl rfl Cs rfl ?_)
 refine Aa rfl (Ix Cb Er rfl rfl rfl rfl (by decide) (by decide) rfl fun b13=>?_)
 refine Cg (E:=Ai) (n:=1) [[Value.int IntKind.i64 0]] [0] 0 (fun w A hG=>(Az ⟨rfl,by first|assumption|(simp only [Bv];omega)⟩ Bf)) rfl rfl rfl rfl (by first|decide|exact Nat.le_of_ble_eq_true rfl) (by first|decide|exact Nat.le_of_ble_eq_true rfl) ?_
 refine Aa rfl (Aw [13,4,0] rfl (Hl) rfl ?_)
 rintro _ _ _ ⟨pb2,pc2,nb2,cb2,nc2,cc2,rfl,rfl,rfl⟩
 simp only [List.cons_append,List.nil_append]
 refine Ae it 3 rfl (by simp) ?_
 refine Aa rfl (Bk Ni fun b14=>?_)
 refine Aa rfl (A7 0 rfl rfl rfl Cs rfl rfl (by simp [Value.oneCell']) ?_)
 refine Ae it 1 rfl (by simp) ?_
 refine Am [_,_] rfl ?_
 refine Aa rfl (A5 4 rfl rfl Cs rfl ?_)
 refine Aa rfl (Aw [15,6] rfl (X0) rfl ?_)
 rintro _ _ _ ⟨pb3,pc3,nb3,cb3,nc3,cc3,rfl,rfl,rfl⟩
 simp only [List.cons_append,List.nil_append]
 refine Ae it 3 rfl (by simp) ?_
 refine Aa rfl (Bk Ni fun b15=>?_)
 refine Aa rfl (A7 0 rfl rfl rfl Cs rfl rfl (by simp [Value.oneCell']) ?_)
 refine Ae it 1 rfl (by simp) ?_
 refine Am [_,_] rfl ?_
 refine Aa rfl (A5 5 rfl rfl Cs rfl ?_)
 refine Aa rfl (Aw [17,8] rfl (T2) rfl ?_)
 rintro _ _ _ ⟨pb4,pc4,nb4,cb4,nc4,cc4,rfl,rfl,rfl⟩
 simp only [List.cons_append,List.nil_append]
 refine Ae it 3 rfl (by simp) ?_
 refine Aa rfl (Bk Ni fun b16=>?_)
 refine Aa rfl (A7 0 rfl rfl rfl Cs rfl rfl (by simp [Value.oneCell']) ?_)
 refine Ae it 1 rfl (by simp) ?_
 refine Am [_,_] rfl ?_
 refine Aa rfl (A5 6 rfl rfl Cs rfl ?_)
 refine Aa rfl (Ix Cb Er rfl rfl rfl rfl (by decide) (by decide) rfl fun b17=>?_)
 refine Cg (E:=Ai) (n:=4) [[Value.int IntKind.i64 1],[Value.int IntKind.i64 0],[Value.int IntKind.i64 2],[Value.int IntKind.i64 3]] [1,0,2,3] 0 (fun w A hG=>(Az ⟨rfl,by first|assumption|(simp only [Bv];omega)⟩ (Az ⟨rfl,by first|assumption|(simp only [Bv];omega)⟩ (Az ⟨rfl,by first|assumption|(simp only [Bv];omega)⟩ (Az ⟨rfl,by first|assumption|(simp only [Bv];omega)⟩ Bf))))) rfl rfl rfl rfl (by first|decide|exact Nat.le_of_ble_eq_true rfl) (by first|decide|exact Nat.le_of_ble_eq_true rfl) ?_
 refine Aa rfl (Aw [20,11,0] rfl (W9) rfl ?_)
 rintro _ _ _ ⟨pb5,pc5,nb5,cb5,nc5,cc5,rfl,rfl,rfl⟩
 simp only [List.cons_append,List.nil_append]
 refine Ae it 3 rfl (by simp) ?_
 refine Aa rfl (Bk Ni fun b18=>?_)
 refine Aa rfl (A7 0 rfl rfl rfl Cs rfl rfl (by simp [Value.oneCell']) ?_)
 refine Ae it 1 rfl (by simp) ?_
 refine Am [_,_] rfl ?_
 refine Aa rfl (A5 5 rfl rfl Cs rfl ?_)
 refine Aa rfl (A5 9 rfl rfl Hx rfl ?_)
 refine Cg (E:=(Aj (Ai))) (n:=1) [[Value.slice (some { block:=b8,off:=0 }) 3 3]] [[1,2,3]] 6 (fun w A hG=>(Az (A1 (hG _ (Af (n:=14) rfl))) Bf)) rfl rfl rfl rfl (by first|decide|exact Nat.le_of_ble_eq_true rfl) (by first|decide|exact Nat.le_of_ble_eq_true rfl) ?_
 refine Aa rfl (Aw [21,0,23] rfl (Vs) rfl ?_)
 rintro _ _ _ ⟨pb6,pc6,nb6,cb6,nc6,cc6,rfl,rfl,rfl⟩
 simp only [List.cons_append,List.nil_append]
 refine Ae it 3 rfl (by simp) ?_
 refine Aa rfl (Bk Ni fun b19=>?_)
 refine Aa rfl (A7 0 rfl rfl rfl Cs rfl rfl (by simp [Value.oneCell']) ?_)
 refine Ae it 1 rfl (by simp) ?_
 refine Am [_,_] rfl ?_
 refine Aa rfl (A5 6 rfl rfl Cs rfl ?_)
 refine Aa rfl (A5 9 rfl rfl Hx rfl ?_)
 refine Bb 1 rfl fun hn0 _ _=>?_
 simp only [List.length_nil] at hn0
 subst hn0
 refine wk 8 (ct @Zo cz) ?_
 intro pb7 pc7 nb7 cb7 nc6 cc7 b20
 refine wk 13 (ct @AAD cz) ?_
 intro pb8 pc8 nb8 cb8 nc7 cc8 b21 h1 b22
 refine Bl (l:=[1,0,1]) 0 rfl (n:=3) rfl (fun z hz=>Fk (by decide) z hz) (by omega) ?_
 refine C5 0 0 rfl rfl (by decide) ?_
 simp only [List.eraseIdx_cons_zero]
 refine wk 1 cz ?_
 intro b23
 refine Bl (l:=[0,1,0]) 0 rfl (n:=3) rfl (fun z hz=>Fk (by decide) z hz) (by omega) ?_
 refine C5 0 0 rfl rfl (by decide) ?_
 simp only [List.eraseIdx_cons_zero]
 refine wk 1 cz ?_
 intro b24
 refine Cg (E:=(Aj (Ai))) (n:=2) [[Value.slice (some { block:=b22,off:=0 }) 3 3],[Value.slice (some { block:=b23,off:=0 }) 3 3]] [[1,0,1],[0,1,0]] 0 (fun w A hG=>(Az (A1 (hG _ (Af (n:=2) rfl))) (Az (A1 (hG _ (Af (n:=0) rfl))) Bf))) rfl rfl rfl rfl (by first|decide|exact Nat.le_of_ble_eq_true rfl) (by first|decide|exact Nat.le_of_ble_eq_true rfl) ?_
 refine wk 5 (ct @As cz) ?_
 intro b25
 refine Bl (l:=[1,1,1]) 0 rfl (n:=3) rfl (fun z hz=>Fk (by decide) z hz) (by omega) ?_
 refine C5 0 0 rfl rfl (by decide) ?_
 simp only [List.eraseIdx_cons_zero]
 refine wk 1 cz ?_
 intro b26
 refine Cg (E:=(Aj (Ai))) (n:=1) [[Value.slice (some { block:=b25,off:=0 }) 3 3]] [[1,1,1]] 0 (fun w A hG=>(Az (A1 (hG _ (Af (n:=0) rfl))) Bf)) rfl rfl rfl rfl (by first|decide|exact Nat.le_of_ble_eq_true rfl) (by first|decide|exact Nat.le_of_ble_eq_true rfl) ?_
 refine wk 5 (ct @As cz) ?_
 intro b27
 refine Bl (l:=[1,0,1,0,0]) 0 rfl (n:=5) rfl (fun z hz=>Fk (by decide) z hz) (by omega) ?_
 refine C5 0 0 rfl rfl (by decide) ?_
 simp only [List.eraseIdx_cons_zero]
 refine wk 1 cz ?_
 intro b28
 refine Bl (l:=[0,1,1,1,1]) 0 rfl (n:=5) rfl (fun z hz=>Fk (by decide) z hz) (by omega) ?_
 refine C5 0 0 rfl rfl (by decide) ?_
 simp only [List.eraseIdx_cons_zero]
 refine wk 1 cz ?_
 intro b29
 refine Cg (E:=(Aj (Ai))) (n:=2) [[Value.slice (some { block:=b27,off:=0 }) 5 5],[Value.slice (some { block:=b28,off:=0 }) 5 5]] [[1,0,1,0,0],[0,1,1,1,1]] 0 (fun w A hG=>(Az (A1 (hG _ (Af (n:=2) rfl))) (Az (A1 (hG _ (Af (n:=0) rfl))) Bf))) rfl rfl rfl rfl (by first|decide|exact Nat.le_of_ble_eq_true rfl) (by first|decide|exact Nat.le_of_ble_eq_true rfl) ?_
 refine wk 5 (ct @As cz) ?_
 intro b30
 refine Bl (l:=[1,0,1,0]) 0 rfl (n:=4) rfl (fun z hz=>Fk (by decide) z hz) (by omega) ?_
 refine C5 0 0 rfl rfl (by decide) ?_
 simp only [List.eraseIdx_cons_zero]
 refine wk 1 cz ?_
 intro b31
 refine Cg (E:=(Aj (Ai))) (n:=1) [[Value.slice (some { block:=b30,off:=0 }) 4 4]] [[1,0,1,0]] 0 (fun w A hG=>(Az (A1 (hG _ (Af (n:=0) rfl))) Bf)) rfl rfl rfl rfl (by first|decide|exact Nat.le_of_ble_eq_true rfl) (by first|decide|exact Nat.le_of_ble_eq_true rfl) ?_
 refine wk 7 (ct @As cz) ?_
 intro b32
 refine Bl (l:=[1,0,1,1]) 0 rfl (n:=4) rfl (fun z hz=>Fk (by decide) z hz) (by omega) ?_
 refine C5 0 0 rfl rfl (by decide) ?_
 simp only [List.eraseIdx_cons_zero]
 refine wk 1 cz ?_
 intro b33
 refine Bl (l:=[0,1,1,0]) 0 rfl (n:=4) rfl (fun z hz=>Fk (by decide) z hz) (by omega) ?_
 refine C5 0 0 rfl rfl (by decide) ?_
 simp only [List.eraseIdx_cons_zero]
 refine wk 1 cz ?_
 intro b34
 refine Cg (E:=(Aj (Ai))) (n:=2) [[Value.slice (some { block:=b32,off:=0 }) 4 4],[Value.slice (some { block:=b33,off:=0 }) 4 4]] [[1,0,1,1],[0,1,1,0]] 0 (fun w A hG=>(Az (A1 (hG _ (Af (n:=2) rfl))) (Az (A1 (hG _ (Af (n:=0) rfl))) Bf))) rfl rfl rfl rfl (by first|decide|exact Nat.le_of_ble_eq_true rfl) (by first|decide|exact Nat.le_of_ble_eq_true rfl) ?_
 refine wk 14 (ct @As cz) ?_
 intro h2 h3 b35
 refine Bl (l:=[1,0,1]) 0 rfl (n:=3) rfl (fun z hz=>Fk (by decide) z hz) (by omega) ?_
 refine C5 0 0 rfl rfl (by decide) ?_
 simp only [List.eraseIdx_cons_zero]
 refine wk 1 cz ?_
 intro b36
 refine Bl (l:=[0,1,1]) 0 rfl (n:=3) rfl (fun z hz=>Fk (by decide) z hz) (by omega) ?_
 refine C5 0 0 rfl rfl (by decide) ?_
 simp only [List.eraseIdx_cons_zero]
 refine wk 1 cz ?_
 intro b37
 refine Cg (E:=(Aj (Ai))) (n:=2) [[Value.slice (some { block:=b35,off:=0 }) 3 3],[Value.slice (some { block:=b36,off:=0 }) 3 3]] [[1,0,1],[0,1,1]] 0 (fun w A hG=>(Az (A1 (hG _ (Af (n:=2) rfl))) (Az (A1 (hG _ (Af (n:=0) rfl))) Bf))) rfl rfl rfl rfl (by first|decide|exact Nat.le_of_ble_eq_true rfl) (by first|decide|exact Nat.le_of_ble_eq_true rfl) ?_
 refine wk 18 (ct @As (ct @As (ct @W2 cz))) ?_
 intro pb9 pc9 nb9 cb9 nc8 cc9 b38 b39
 refine Cg (E:=Ai) (n:=1) [[Value.int IntKind.i64 1]] [1] 0 (fun w A hG=>(Az ⟨rfl,by first|assumption|(simp only [Bv];omega)⟩ Bf)) rfl rfl rfl rfl (by first|decide|exact Nat.le_of_ble_eq_true rfl) (by first|decide|exact Nat.le_of_ble_eq_true rfl) ?_
 refine wk 11 (ct @Xn cz) ?_
 intro pb10 pc10 nb10 cb10 nc9 cc10 b40 h4 b41
 refine Bl (l:=[1,0,1,0]) 0 rfl (n:=4) rfl (fun z hz=>Fk (by decide) z hz) (by omega) ?_
 refine C5 0 0 rfl rfl (by decide) ?_
 simp only [List.eraseIdx_cons_zero]
 refine wk 1 cz ?_
 intro b42
 refine Bl (l:=[0,1,0,1]) 0 rfl (n:=4) rfl (fun z hz=>Fk (by decide) z hz) (by omega) ?_
 refine C5 0 0 rfl rfl (by decide) ?_
 simp only [List.eraseIdx_cons_zero]
 refine wk 1 cz ?_
 intro b43
 refine Cg (E:=(Aj (Ai))) (n:=2) [[Value.slice (some { block:=b41,off:=0 }) 4 4],[Value.slice (some { block:=b42,off:=0 }) 4 4]] [[1,0,1,0],[0,1,0,1]] 0 (fun w A hG=>(Az (A1 (hG _ (Af (n:=2) rfl))) (Az (A1 (hG _ (Af (n:=0) rfl))) Bf))) rfl rfl rfl rfl (by first|decide|exact Nat.le_of_ble_eq_true rfl) (by first|decide|exact Nat.le_of_ble_eq_true rfl) ?_
 refine wk 5 (ct @As cz) ?_
 intro b44
 refine Bl (l:=[0,1,1,1]) 0 rfl (n:=4) rfl (fun z hz=>Fk (by decide) z hz) (by omega) ?_
 refine C5 0 0 rfl rfl (by decide) ?_
 simp only [List.eraseIdx_cons_zero]
 refine wk 1 cz ?_
 intro b45
 refine Cg (E:=(Aj (Ai))) (n:=1) [[Value.slice (some { block:=b44,off:=0 }) 4 4]] [[0,1,1,1]] 0 (fun w A hG=>(Az (A1 (hG _ (Af (n:=0) rfl))) Bf)) rfl rfl rfl rfl (by first|decide|exact Nat.le_of_ble_eq_true rfl) (by first|decide|exact Nat.le_of_ble_eq_true rfl) ?_
 refine wk 3 (ct @As cz) ?_
 exact ge
section
variable {p m N nm cm n c nw cw:Nat}{pm ps pw:Option Addr}{md w:List Int}{rows:List (List Int)}
end
open Go Go.Fw
set_option maxRecDepth 100000
set_option linter.unusedVariables false
set_option linter.unusedSimpArgs false
set_option maxHeartbeats 0
section
variable {P M:Int}{n c nm cm nu cu:Nat}{pm ps pu:Option Addr}{md:List Int}{rows:List (List Int)}
end
set_option maxRecDepth 100000
set_option linter.unusedVariables false
set_option linter.unusedSimpArgs false
section
variable {q:Nat}{A M:Int→Int→Int}{N V:Int→Int}(O:FO q A M N V)
include O
end
set_option maxRecDepth 100000
set_option linter.unusedVariables false
set_option linter.unusedSimpArgs false
section
variable {q:Nat}{A M:Int→Int→Int}{N V:Int→Int}(O:FO q A M N V)
include O
end
open Go Go.Fw
set_option maxRecDepth 100000
set_option linter.unusedVariables false
set_option linter.unusedSimpArgs false
set_option maxHeartbeats 0
section
variable {q:Nat}{A M:Int→Int→Int}{N V:Int→Int}(O:FO q A M N V)
include O
end
open Go Go.Fw
set_option maxRecDepth 100000
set_option linter.unusedVariables false
set_option linter.unusedSimpArgs false
set_option maxHeartbeats 0
section
variable {q:Nat}{A M:Int→Int→Int}{N V:Int→Int}(O:FO q A M N V)
include O
end
open Go Go.Fw
set_option maxRecDepth 100000
set_option linter.unusedVariables false
set_option linter.unusedSimpArgs false
set_option maxHeartbeats 0
section
variable {p m N b bp nm cm ns cs ny cy nt ct:Nat}{pm ps py pt:Option Addr}{co:Bool}{Mo w ap:Int}{md:List Int}{rows:List (List Int)}
end
open Go Go.Fw
set_option maxRecDepth 100000
set_option linter.unusedVariables false
set_option linter.unusedSimpArgs false
set_option maxHeartbeats 0
section
variable {P:Program}{C:Cx}{σ:Fr}{β:List A2}{Γ:List Fact}{ty:TypeId}
end
section
variable {p m N b bp nm cm ns cs ny cy nt ct:Nat}{pm ps py pt:Option Addr}{co:Bool}{Mo w:Int}{md:List Int}{rows sets:List (List Int)}
end
open Go Go.Fw
set_option maxRecDepth 100000
set_option linter.unusedVariables false
set_option linter.unusedSimpArgs false
set_option maxHeartbeats 0
section
variable {p m N b bp nm cm ns cs ny cy nt ct:Nat}{pm ps py pt:Option Addr}{Mo w:Int}{md:List Int}{rows sets:List (List Int)}
end
open Go Go.Fw
set_option maxRecDepth 100000
set_option linter.unusedVariables false
set_option linter.unusedSimpArgs false
set_option maxHeartbeats 0
section
variable {p m N b bp nm cm ns cs ny cy nt ct:Nat}{pm ps py pt:Option Addr}{Mo:Int}{d:Nat}{md:List Int}{rows sets:List (List Int)}
end
open Go Go.Fw
set_option maxRecDepth 100000
set_option linter.unusedVariables false
set_option linter.unusedSimpArgs false
set_option maxHeartbeats 0
section
variable {p m N n c nm cm ny cy k:Nat}{pm ps py:Option Addr}{Mo w:Int}{md:List Int}{rows:List (List Int)}
end
open Go Go.Fw
set_option maxRecDepth 100000
set_option linter.unusedVariables false
set_option linter.unusedSimpArgs false
set_option maxHeartbeats 0
section
variable {P M:Int}{p m n c nm cm ns cs':Nat}{pm ps pt:Option Addr}{md set:List Int}{rows:List (List Int)}
end
open Go Go.Fw
set_option maxRecDepth 100000
set_option linter.unusedVariables false
set_option linter.unusedSimpArgs false
set_option maxHeartbeats 0
section
variable {p m n c nm cm ns cs' N:Nat}{P M:Int}{pm ps pt:Option Addr}{md set:List Int}{rows:List (List Int)}
end
open Go Go.Fw
set_option maxRecDepth 100000
set_option linter.unusedVariables false
set_option linter.unusedSimpArgs false
set_option maxHeartbeats 0
section
variable {P M:Int}{n c nm cm ns cs':Nat}{pm ps pt:Option Addr}{md set:List Int}{rows:List (List Int)}
end
open Go Go.Fw
set_option maxRecDepth 100000
set_option linter.unusedVariables false
set_option linter.unusedSimpArgs false
set_option maxHeartbeats 0
section
variable {P M:Int}{p m n c nm cm ns cs':Nat}{pm ps pt:Option Addr}{md set:List Int}{rows:List (List Int)}
end
open Go Go.Fw
set_option maxRecDepth 100000
set_option linter.unusedVariables false
set_option linter.unusedSimpArgs false
set_option maxHeartbeats 0
section
variable {P M N:Int}{n c nm cm:Nat}{pm ps:Option Addr}{md:List Int}{rows:List (List Int)}
theorem AHa (P M:Int):0≤Hw P M∧Hw P M≤256:=by
 rw [Hw]
 split
 ·rename_i h
  have:=h.2.2.2
  omega
 ·omega
theorem AGy {P M N:Int}{md:List Int}{rows:List (List Int)}{n c nm cm n2 c2 nm2 cm2:Nat}{pm ps pm2 p2:Option Addr}:Bs Tryz.prog 17 [.agg #[.int .i64 P,.int .i64 M,.slice pm nm cm,.int .i64 N,.slice ps n c],.agg #[.int .i64 P,.int .i64 M,.slice pm2 nm2 cm2,.int .i64 N,.slice p2 n2 c2]] [] [Ap Ai pm nm cm md,Ap (Aj Ai) ps n c rows,Ap Ai pm2 nm2 cm2 md,Ap (Aj Ai) p2 n2 c2 rows] (Rv (.bool true) []) :=
 Pf (by simp)
end
open Go Go.Fw
set_option maxRecDepth 100000
set_option linter.unusedVariables false
set_option linter.unusedSimpArgs false
set_option maxHeartbeats 0
section
variable {ps:Option Addr}{n cs:Nat}{data:List Int}
end
open Go Go.Fw
set_option maxRecDepth 100000
set_option linter.unusedVariables false
set_option linter.unusedSimpArgs false
set_option maxHeartbeats 0
section
variable {P M:Int}{n c nm cm ns cs':Nat}{pm ps pt:Option Addr}{md l:List Int}{rows:List (List Int)}
end
open Go Go.Fw
set_option maxRecDepth 100000
set_option linter.unusedVariables false
set_option linter.unusedSimpArgs false
set_option maxHeartbeats 0
section
variable {P M:Int}{p m n c nm cm ns cs':Nat}{pm ps pt:Option Addr}{md set:List Int}{rows:List (List Int)}
end
open Go Go.Fw
set_option maxRecDepth 100000
set_option linter.unusedVariables false
set_option linter.unusedSimpArgs false
set_option maxHeartbeats 0
section
variable {P M:Int}{n c nm cm ns cs':Nat}{pm ps pt:Option Addr}{md l:List Int}{rows:List (List Int)}
end
open Go Go.Fw
set_option maxRecDepth 100000
set_option linter.unusedVariables false
set_option linter.unusedSimpArgs false
set_option maxHeartbeats 0
section
variable {P M N:Int}{n c nm cm ns cs':Nat}{pm ps pt:Option Addr}{md l:List Int}{rows:List (List Int)}
def AF6 (P M N:Int) (rows:List (List Int)):Bool:=AEf rows 120 && (decide (N≤16∨64<N) && decide (Hw P M≤64))
theorem Q1 {res:Bool}(hr:AF6 P M N rows=res) (hN:Bv .i64 N):Bs Tryz.prog 14 [.agg #[.int .i64 P,.int .i64 M,.slice pm nm cm,.int .i64 N,.slice ps n c]] [] [Ap (Aj Ai) ps n c rows] (Rv (.bool res) []):=by
 subst hr
 refine Ab (F:=Q4) rfl fun C=>?_
 have E9:=fun {P M N:Int}{n c nm cm:Nat}{pm ps:Option Addr}{res:Bool}(hr:AEf rows 120=res)=>Q6 (P:=P) (M:=M) (N:=N) (n:=n) (c:=c) (nm:=nm) (cm:=cm) (pm:=pm) (ps:=ps) (k:=120) (by decide) (by decide) hr
 have Dl:=fun {pm:Option Addr}{n c:Nat}=>Bo (P:=P) (M:=M) (pm:=pm) (n:=n) (c:=c) rfl
 have ho:=AHa P M
 rw [AF6]
 generalize Hw P M=o at *
 cases hf:AEf rows 120 with
 | false =>
  refine wk 7 (ct @E9 cz) ?_
  intro b1
  refine D8 rfl rfl ?_
  refine D8 rfl rfl ?_
  refine D8 rfl rfl ?_
  refine wk 2 cz ?_
  exact ge
 | true =>
  by_cases h16:N≤16
  ·rw [Bool.true_and,decide_eq_true (show N≤16∨64<N from .inl h16),Bool.true_and]
   refine wk 18 (ct @E9 (ct @Dl cz)) ?_
   intro b1 h1
   exact ge
  ·by_cases h64:64<N
   ·rw [Bool.true_and,decide_eq_true (show N≤16∨64<N from .inr h64),Bool.true_and]
    refine wk 24 (ct @E9 (ct @Dl cz)) ?_
    intro b1 h1 h2
    exact ge
   ·rw [Bool.true_and,decide_eq_false (show ¬ (N≤16∨64<N) by omega),Bool.false_and]
    refine wk 21 (ct @E9 cz) ?_
    intro b1 h1 h2
    exact ge
end
open Go Go.Fw
set_option maxRecDepth 100000
set_option linter.unusedVariables false
set_option linter.unusedSimpArgs false
set_option maxHeartbeats 0
theorem ACL {P:Program}{C:Cx}{ty:TypeId}{σ:Fr}{β:List A2}{Γ:List Fact}{K:Value→List A2→List Fact→Prop}{x y:Operand}{t u:TypeId}{m:Int}(a:Nat) (hx:ev σ x=some (.int .u32 m)) (hy:ev σ y=some (.int .u32 1)) (hm:m=a) (ha:a<4294967296)
  (h:K (.int .u32 ((a % 2:Nat):Int)) β Γ):Fc P C (.binOp .and t x y u) ty σ β Γ K :=
 Ev (fun w ρ hρ=>by
  subst hm
  have e:(BitVec.ofNat 32 a &&& BitVec.ofInt 32 1).toNat=a % 2:=by
   rw [BitVec.toNat_and,BitVec.toNat_ofNat,Nat.mod_eq_of_lt (by omega),show (BitVec.ofInt 32 1).toNat=1 from rfl,Nat.and_one_is_mod]
  have h2:IntKind.wrap .u32 ((a % 2:Nat):Int)=((a % 2:Nat):Int):=K0 (by simp only [Bv];omega)
  simp only [execOp,C7,hρ _ _ hx,hρ _ _ hy,eqGuard,Go.binOp,Op.intBits]
  simp [IntKind.bits]
  exact (congrArg (fun z:Nat=>IntKind.wrap .u32 (z:Int)) e).trans h2) h
abbrev spL (bits n:Nat):List Int:=C8 n fun i=>decide (bits / 2 ^ i % 2=1)
theorem AH9 {bits i:Nat}:spL bits (i+1)=if bits / 2 ^ i % 2=1 then spL bits i++[(i:Int)] else spL bits i:=by
 rw [spL,spL,C8,C8,List.range_succ,List.filter_append]
 by_cases h:bits / 2 ^ i % 2=1
 ·rw [if_pos h];simp [h]
 ·rw [if_neg h];simp [h]
theorem AEV {bits i:Nat}:(spL bits i).length≤i:=by
 rw [spL,C8,List.length_map]
 exact Nat.le_trans (List.length_filter_le _ _) (by simp)
theorem AKG {bits n:Nat}:Uc n (spL bits n):=by
 refine ⟨fun x hx=>?_,?_⟩
 ·obtain ⟨i,hi,_,rfl⟩:=Oa.1 hx;omega
 ·rw [List.pairwise_map]
  exact (List.pairwise_lt_range.sublist List.filter_sublist).imp fun h=>by omega
theorem O4 {bits n:Nat}(hb:bits<4294967296) (hn:n≤20):Bs Tryz.prog 39 [.int .u32 bits,.int .i64 n] [] [] (RwI (spL bits n).length (spL bits n)):=by
 refine Ab (F:=Ot) rfl fun C=>?_
 refine wk 7 cz ?_
 refine Fz Ai 3 ?_
 refine Ah (X:=Nat×Row) [0,1,4] [0] (fun z=>[(6,.int .i64 (z.1:Int)),(5,.slice (ad z.2.bo) (spL bits z.1).length z.2.cap)]) (fun z=>[(z.2.bo,3,z.2.cs)]) (fun z=>[A6 Ai z.2 (spL bits z.1).length (spL bits z.1)]) (fun z=>z.1≤n) (fun z=>n-z.1) (0,⟨none,0,[]⟩) [0] rfl rfl rfl (Nat.zero_le _) (by repeat (first|exact Fr.sub_nil _|refine Fr.sub_cons rfl ?_)) rfl rfl ?_
 rintro ⟨i,r⟩ hi ih
 simp only [List.cons_append,List.nil_append] at hi ih ⊢
 have hl:=AEV (bits:=bits) (i:=i)
 by_cases hin:i<n
 ·have ih':=fun r=>ih (i+1,r) (by dsimp only;omega) (by dsimp only;omega)
  dsimp only at ih'
  rw [AH9] at ih'
  clear ih
  have hbi:bits / 2 ^ i<4294967296:=Nat.lt_of_le_of_lt (Nat.div_le_self _ _) hb
  generalize spL bits i=L at *
  refine Am [_,_,_,_,_,_] rfl ?_
  refine Ae it 4 rfl (by simp) ?_
  refine Bw (t:=10) rfl (fun h1=>?_) (fun h1=>by exfalso;omega)
  refine Ae it 3 rfl (by simp) ?_
  refine Am [_,_,_,_,_] rfl ?_
  refine Kj rfl rfl (fun h2=>?_) (fun h2=>by exfalso;omega)
  refine Am [_,_,_,_,_,_,_] rfl ?_
  refine Ae it 2 rfl (by simp) ?_
  refine Aa rfl (AFX (bits) (i) rfl rfl (by first | rfl | omega) (by first | rfl | omega) (by first | decide | (simp only [IntKind.bits];omega)) ?_) --ok
  refine Aa rfl (ACL (bits / 2 ^ i) rfl rfl rfl hbi ?_)
  by_cases h1:bits / 2 ^ i % 2=1
  ·rw [if_pos h1,List.length_append,List.length_singleton] at ih'
   rw [h1]
   refine wk 6 cz ?_
   intro h3 b1
   refine Aa rfl (F1 (z:=(↑i:Int)) 1 0 0 rfl rfl rfl rfl rfl Cb Er rfl (fun w A hG=>(Dh (by first|(simp only [Bv];omega)|(simp [Bv];done)))) (by omega) _ Hf (by omega) fun r1=>?_)
   refine wk 4 cz ?_ --ok
   simp only [List.eraseIdx_cons_succ,List.eraseIdx_cons_zero]
   refine Nj [0] rfl rfl ?_
   exact tw (ih' r1)
  ·rw [if_neg h1] at ih'
   have h2:bits / 2 ^ i % 2=0:=by omega
   rw [h2]
   refine wk 6 cz ?_
   intro h3
   exact tw (ih' r)
 ·obtain rfl:i=n:=by omega
  clear ih
  refine wk 12 cz ?_
  intro h1
  refine Dx 1 [0] [0] rfl (.tmp rfl .nil) rfl rfl rfl ⟨r,rfl,rfl,rfl⟩
section
variable {p m n N nm cm nm2 cm2 ns c ns2 c2 nt ct:Nat}{pm ps pm2 p2 pt:Option Addr}{md set:List Int}{rows:List (List Int)}
abbrev puR (p m:Nat) (md:List Int) (n:Nat) (rows:List (List Int)) (set:List Int):List (List Int):=(Dm p m md (Cj n [set]).length (rows.map fun r=>Pd r (Cj n [set]))).1
abbrev shR (p m:Nat) (md:List Int) (n:Nat) (rows:List (List Int)) (set:List Int):List (List Int):=(Dm p m md (Cj n [set]).length ((wiP p m md n rows set).map fun r=>Pd r (Cj n [set]))).1
theorem AJZ (CC:Cok p m md n rows) (hs:Uc n set) (hl:set.length≠n):psE p m md n rows set=0:=by
 rw [psE,if_neg (fun e=>e CC.ck),if_neg (fun e=>e hs),if_neg (by omega)]
theorem AKT (CC:Cok p m md n rows) (hs:Uc n set) (hl:set.length≠n):Bs Tryz.prog 15 [.agg #[.int .i64 p,.int .i64 m,.slice pm nm cm,.int .i64 n,.slice ps ns c],.slice pt nt ct] [] [Ap Ai pm nm cm md,Ap (Aj Ai) ps ns c rows,Ap Ai pt nt ct set] (Y0 p m ((Cj n [set]).length:Nat) md (puR p m md n rows set) 0):=by
 have hN:=CC.n64
 have h:=Nc (P:=p) (M:=m) (pm:=pm) (nm:=nm) (cm:=cm) (ps:=ps) (n:=ns) (c:=c) (pt:=pt) (ns:=nt) (cs':=ct) (md:=md) (rows:=rows) (set:=set) (N:=n) (by simp only [Bv];omega)
 rw [AEo (AJZ CC hs hl)] at h
 exact h
theorem AKr (CC:Cok p m md n rows) (hs:Uc n set) (hl:set.length≠n):Bs Tryz.prog 18 [.agg #[.int .i64 p,.int .i64 m,.slice pm nm cm,.int .i64 n,.slice ps ns c],.slice pt nt ct] [] [Ap Ai pm nm cm md,Ap (Aj Ai) ps ns c rows,Ap Ai pt nt ct set] (Y0 p m ((Cj n [set]).length:Nat) md (shR p m md n rows set) 0):=by
 have hN:=CC.n64
 have h:=Oz (P:=p) (M:=m) (pm:=pm) (nm:=nm) (cm:=cm) (ps:=ps) (n:=ns) (c:=c) (pt:=pt) (ns:=nt) (cs':=ct) (md:=md) (rows:=rows) (set:=set) (N:=n) (by simp only [Bv];omega)
 rw [AEl (AJZ CC hs hl)] at h
 exact h
theorem AFh (hs:Uc n set) (hl:set.length≠n):1≤(Cj n [set]).length∧(Cj n [set]).length≤n:=by
 have:=Yy hs
 omega
theorem AKO (CC:Cok p m md n rows) (hs:Uc n set) (hl:set.length≠n):Cok p m md (Cj n [set]).length (puR p m md n rows set):=by
 obtain ⟨h1,h2⟩:=AFh hs hl
 have:=CC.n64
 exact Cok.cn CC.K h1 (by omega) ((Dc CC.K).pk_mat CC.mat _)
theorem AKm (CC:Cok p m md n rows) (hs:Uc n set) (hl:set.length≠n):Cok p m md (Cj n [set]).length (shR p m md n rows set):=by
 obtain ⟨h1,h2⟩:=AFh hs hl
 have:=CC.n64
 exact Cok.cn CC.K h1 (by omega) ((Dc CC.K).pk_mat (AHW CC).1 _)
theorem AFe (hs:Uc n set):(∀ j,j<n→(Th [set] j=false↔j∈set.map Int.toNat))∧∀ j∈set.map Int.toNat,j<n:=by
 constructor
 ·intro j hj
  have h1:Th [set] j=true↔(j:Int)∈Cj n [set]:=by
   constructor
   ·intro h;exact List.mem_map.2 ⟨j,List.mem_filter.2 ⟨List.mem_range.2 hj,h⟩,rfl⟩
   ·intro h
    obtain ⟨i,hi,e⟩:=List.mem_map.1 h
    obtain rfl:i=j:=by omega
    exact (List.mem_filter.1 hi).2
  rw [Bool.eq_false_iff,ne_eq,h1,Lv]
  constructor
  ·intro h
   refine Classical.byContradiction fun hn=>h ⟨⟨by omega,by omega⟩,fun l hl hm=>hn ?_⟩
   rw [List.mem_singleton.1 hl] at hm
   exact List.mem_map.2 ⟨_,hm,by omega⟩
  ·intro h h2
   obtain ⟨x,hx,e⟩:=List.mem_map.1 h
   have:=hs.1 x hx
   refine h2.2 _ (.head _) ?_
   rw [show (j:Int)=x by omega];exact hx
 ·intro j hj
  obtain ⟨x,hx,rfl⟩:=List.mem_map.1 hj
  have:=hs.1 x hx
  omega
theorem nu_pu (CC:Cok p m md n rows) (hs:Uc n set):Kt p m md (Cj n [set]).length (puR p m md n rows set)=shR p m md n (Kt p m md n rows) set:=by
 obtain ⟨h1,h2⟩:=AFe hs
 have h:=(Dc CC.K).nu_pu CC.mat h1 h2
 rw [List.map_map] at h
 exact h
theorem nu_sh (CC:Cok p m md n rows) (hs:Uc n set):Kt p m md (Cj n [set]).length (shR p m md n rows set)=puR p m md n (Kt p m md n rows) set:=by
 obtain ⟨h1,h2⟩:=AFe hs
 have h:=(Dc CC.K).nu_sh CC.mat CC.can h1 h2
 rw [List.map_map] at h
 exact h
theorem ALr {P M:Int}{n:Nat}(h:AF6 P M n rows=true) (h64:n≤64):n≤16:=by
 rw [AF6,Bool.and_eq_true,Bool.and_eq_true] at h
 have:=of_decide_eq_true h.2.1
 omega
theorem Ke {P M N:Int}{bits:Nat}(hN:Bv .i64 N) (hb:bits<4294967296):Bs Tryz.prog 6 [.agg #[.int .i64 P,.int .i64 M,.slice pm nm cm,.int .i64 N,.slice ps ns c],.int .u32 bits] [] [Ap Ai pm nm cm md,Ap (Aj Ai) ps ns c rows] (Rv (.bool true) []):=by
 refine Ab (F:=Kr) rfl fun C=>?_
 have hr:=Pt P M md N rows
 have Cw:=Pc
 have E5:=fun {n c nm cm:Nat}{pm ps:Option Addr}{res:Bool}(hr:AF6 P M N rows=res)=>Q1 (n:=n) (c:=c) (nm:=nm) (cm:=cm) (pm:=pm) (ps:=ps) hr hN
 have Em:=fun {pm ps:Option Addr}{nm cm n c:Nat}=>O6 (P:=P) (M:=M) (pm:=pm) (ps:=ps) (nm:=nm) (cm:=cm) (n:=n) (c:=c) (md:=md) (rows:=rows) (N:=N) hN rfl
 cases hf:AF6 P M N rows with
 | false =>
  refine wk 15 (ct @Cw (ct @E5 (ct @Cw cz))) ?_
  intro b1
  exact ge
 | true =>
  by_cases h0:Pe P M md N rows=0
  ·obtain ⟨p,m,n',rfl,rfl,rfl,CC⟩:=AAa h0
   rw [h0] at Em
   have h64:=CC.n64
   have h16:=ALr hf h64
   have hsl:=AEV (bits:=bits) (i:=n')
   have hst:=AKG (bits:=bits) (n:=n')
   have Im:=(O4 (n:=n') hb (by omega)).pubR (by show (spL bits n').length*8≤140737488355328;omega)
   generalize spL bits n'=set at *
   by_cases hln:set.length=n'
   ·refine wk 31 (ct @Cw (ct @E5 (ct @Em (ct @Im cz)))) ?_
    intro b1 h1 pa1 ca1 h2
    exact ge
   ·have CN:=CC.nu
    have CP:=AKO CC hst hln
    have CS:=AKm CC hst hln
    have e1:=nu_pu CC hst
    have e2:=nu_sh CC hst
    have Fs:=fun {N:Nat}{rows:List (List Int)}{pm ps:Option Addr}{nm cm n c:Nat}(CC:Cok p m md N rows)=>Iw (pm:=pm) (ps:=ps) (nm:=nm) (cm:=cm) (n:=n) (c:=c) CC
    have G2:=fun {rows:List (List Int)}{pm ps pt:Option Addr}{nm cm ns c nt ct:Nat}(CC:Cok p m md n' rows)=>AKT (pm:=pm) (nm:=nm) (cm:=cm) (ps:=ps) (ns:=ns) (c:=c) (pt:=pt) (nt:=nt) (ct:=ct) CC hst hln
    have Hl:=fun {rows:List (List Int)}{pm ps pt:Option Addr}{nm cm ns c nt ct:Nat}(CC:Cok p m md n' rows)=>AKr (pm:=pm) (nm:=nm) (cm:=cm) (ps:=ps) (ns:=ns) (c:=c) (pt:=pt) (nt:=nt) (ct:=ct) CC hst hln
    have I0:=fun {P M N:Int}{md:List Int}{rows:List (List Int)}{n c nm cm n2 c2 nm2 cm2:Nat}{pm ps pm2 p2:Option Addr}=>AGy (P:=P) (M:=M) (N:=N) (md:=md) (rows:=rows) (n:=n) (c:=c) (nm:=nm) (cm:=cm) (n2:=n2) (c2:=c2) (nm2:=nm2) (cm2:=cm2) (pm:=pm) (ps:=ps) (pm2:=pm2) (p2:=p2)
    refine Am [_,_] rfl ?_
    refine Aa rfl (Cm rfl fun b1=>?_)
    refine Ae it 1 rfl (by simp) ?_
    refine Am [_,_,_] rfl ?_
    refine Aa rfl (Aw [] rfl (Cw) rfl ?_)
    rintro _ _ _ ⟨rfl,rfl,rfl⟩
    simp only [List.cons_append,List.nil_append]
    refine Ae it 2 rfl (by simp) ?_
    refine Bt rfl rfl (A5 0 rfl rfl Cs rfl ?_)
    refine Bt rfl rfl (Aw [1] rfl (E5 (by omega)) rfl ?_)
    rintro _ _ _ ⟨rfl,rfl,rfl⟩
    simp only [List.cons_append,List.nil_append]
    refine Ae it 3 rfl (by simp) ?_
    refine Bt rfl rfl (A5 0 rfl rfl Cs rfl ?_)
    refine Bt rfl rfl (Aw [0,1] rfl (Em) rfl ?_)
    rintro _ _ _ ⟨rfl,rfl,rfl⟩
    simp only [List.cons_append,List.nil_append]
    refine Ae it 2 rfl (by simp) ?_
    refine Am [_,_] rfl ?_
    refine Kw rfl rfl (fun h1=>by exfalso;omega) (fun h1=>?_)
    refine Am [_,_] rfl ?_
    refine Ae it 1 rfl (by simp) ?_
    refine Aa rfl (Aq rfl Jj ?_)
    refine Aa rfl (Bm 0 rfl rfl Ci rfl ?_)
    refine Aa rfl (Aw [] rfl (Im) rfl ?_)
    rintro _ _ _ ⟨pa1,ca1,rfl,rfl,rfl⟩
    simp only [List.cons_append,List.nil_append]
    simp only [decide_true]
    refine Ae it 1 rfl (by simp) ?_
    refine Am [_,_,_] rfl ?_
    refine Ae it 1 rfl (by simp) ?_
    refine Aa rfl (G6 Cb rfl ?_)
    refine Aa rfl (Aq rfl Jj ?_)
    refine Aa rfl (Bm 0 rfl rfl Ci rfl ?_)
    refine Ae it 1 rfl (by simp) ?_
    refine Am [_,_] rfl ?_
    refine Kj rfl rfl (fun h2=>by exfalso;omega) (fun h2=>?_)
    refine Am [_,_] rfl ?_
    refine Aa rfl (A5 0 rfl rfl Cs rfl ?_)
    refine Aa rfl (Aw [1,2] rfl (Fs (by omega)) rfl ?_)
    rintro _ _ _ ⟨pb1,pc1,nb1,cb1,nc1,cc1,rfl,rfl,rfl⟩
    simp only [List.cons_append,List.nil_append]
    refine Ae it 3 rfl (by simp) ?_
    refine Aa rfl (Bk Ni fun b2=>?_)
    refine Aa rfl (A7 0 rfl rfl rfl Cs rfl rfl (by simp [Value.oneCell']) ?_)
    refine Ae it 1 rfl (by simp) ?_
    refine Am [_,_] rfl ?_
    refine Aa rfl (A5 1 rfl rfl Cs rfl ?_)
    refine Ae it 1 rfl (by simp) ?_
    refine Aa rfl (Aw [3,4,2] rfl (G2 (by omega)) rfl ?_)
    rintro _ _ _ ⟨pb2,pc2,nb2,cb2,nc2,cc2,rfl,rfl,rfl⟩
    simp only [List.cons_append,List.nil_append]
    refine Ae it 3 rfl (by simp) ?_
    refine Aa rfl (Bk Ni fun b3=>?_)
    refine Aa rfl (A7 0 rfl rfl rfl Cs rfl rfl (by simp [Value.oneCell']) ?_)
    refine Ae it 1 rfl (by simp) ?_
    refine Am [_,_] rfl ?_
    refine Aa rfl (A5 2 rfl rfl Cs rfl ?_)
    refine Ae it 1 rfl (by simp) ?_
    refine Aa rfl (Aw [5,6,4] rfl (Hl (by omega)) rfl ?_)
    rintro _ _ _ ⟨pb3,pc3,nb3,cb3,nc3,cc3,rfl,rfl,rfl⟩
    simp only [List.cons_append,List.nil_append]
    refine Ae it 3 rfl (by simp) ?_
    refine Aa rfl (Bk Ni fun b4=>?_)
    refine Aa rfl (A7 0 rfl rfl rfl Cs rfl rfl (by simp [Value.oneCell']) ?_)
    refine Ae it 1 rfl (by simp) ?_
    refine Am [_,_,_] rfl ?_
    refine Ae it 10 rfl (by simp) ?_
    refine Am [_,_] rfl ?_
    refine Kw rfl rfl (fun h3=>by exfalso;omega) (fun h3=>?_)
    refine Am [_,_] rfl ?_
    refine Aa rfl (A5 1 rfl rfl Cs rfl ?_)
    refine Aa rfl (Aw [2,3] rfl (Fs (by omega)) rfl ?_)
    rintro _ _ _ ⟨pb4,pc4,nb4,cb4,nc4,cc4,rfl,rfl,rfl⟩
    simp only [List.cons_append,List.nil_append]
    simp only [decide_true]
    refine Ae it 3 rfl (by simp) ?_
    refine Aa rfl (Bk Ni fun b5=>?_)
    refine Aa rfl (A7 0 rfl rfl rfl Cs rfl rfl (by simp [Value.oneCell']) ?_)
    refine Ae it 1 rfl (by simp) ?_
    refine Am [_,_] rfl ?_
    refine Aa rfl (A5 3 rfl rfl Cs rfl ?_)
    refine Ae it 1 rfl (by simp) ?_
    refine Aa rfl (Aw [6,7,8] rfl (Hl (by omega)) rfl ?_)
    rintro _ _ _ ⟨pb5,pc5,nb5,cb5,nc5,cc5,rfl,rfl,rfl⟩
    simp only [List.cons_append,List.nil_append]
    refine Ae it 3 rfl (by simp) ?_
    refine Aa rfl (Bk Ni fun b6=>?_)
    refine Aa rfl (A7 0 rfl rfl rfl Cs rfl rfl (by simp [Value.oneCell']) ?_)
    refine Ae it 1 rfl (by simp) ?_
    refine Am [_,_] rfl ?_
    refine Aa rfl (A5 2 rfl rfl Cs rfl ?_)
    refine Aa rfl (Aw [4,5] rfl (Fs (by omega)) rfl ?_)
    rintro _ _ _ ⟨pb6,pc6,nb6,cb6,nc6,cc6,rfl,rfl,rfl⟩
    simp only [List.cons_append,List.nil_append]
    refine Ae it 3 rfl (by simp) ?_
    refine Aa rfl (Bk Ni fun b7=>?_)
    refine Aa rfl (A7 0 rfl rfl rfl Cs rfl rfl (by simp [Value.oneCell']) ?_)
    refine Ae it 1 rfl (by simp) ?_
    refine Am [_,_] rfl ?_
    refine Aa rfl (A5 5 rfl rfl Cs rfl ?_)
    refine Ae it 1 rfl (by simp) ?_
    refine Aa rfl (Aw [10,11,12] rfl (G2 (by omega)) rfl ?_)
    rintro _ _ _ ⟨pb7,pc7,nb7,cb7,nc7,cc7,rfl,rfl,rfl⟩
    simp only [List.cons_append,List.nil_append]
    refine Ae it 3 rfl (by simp) ?_
    refine Aa rfl (Bk Ni fun b8=>?_)
    refine Aa rfl (A7 0 rfl rfl rfl Cs rfl rfl (by simp [Value.oneCell']) ?_)
    refine Ae it 1 rfl (by simp) ?_
    refine Am [_,_] rfl ?_
    refine Ae it 15 rfl (by simp) ?_
    refine Bw (t:=102) rfl (fun h4=>?_) (fun h4=>by exfalso;omega)
    refine Bt rfl rfl (A5 3 rfl rfl Cs rfl ?_)
    refine Bt rfl rfl (A5 2 rfl rfl Cs rfl ?_) --ok
    rw [e1,e2]
    refine wk 7 (ct @I0 (ct @I0 cz)) ?_
    exact ge
  ·generalize Pe P M md N rows=e at *
   refine wk 18 (ct @Cw (ct @E5 (ct @Em (ct @Cw cz)))) ?_
   intro b1 h1
   exact ge
end
end Go.Proofs.YtpienolhkccpnaaGreat
