/-
Two spaces: what is left of the rows of one, sums, intersections. Intersections; two codes, their sum and what they share. Sets of positions, and codes without them. Punctured and shortened codes. The word of ones. Expurgated and augmented codes, subcodes. Extended codes. Codes that are the same; codes small enough. Binary digits; powers by squaring; binomial coefficients. Equations with their right hand sides, and their solution by places. The program's test whether a word is in a space, or in a code. The program's test whether a word is in a code. The branches of a node of a hitting tree, in the program and in the document. Hitting trees: what the program's walk through one answers, and what an accepted one shows. The program's walk through a hitting tree. The program's judgement on a hitting tree. The program's CheckProof. The law's function RepairSound: an accepted tree, and what the document says. Sets with one more position; branches, in the document. The hunt for a smallest set of helpers, in plain words. Short lists are put in order, in the library. Insertion, in the library. A round of a range over a function. The values of a slice, collected. Sorted lists of values, for short lists. Permuted codes. Powers of the characteristic, behind a pointer to a field. Solving a square system, in place. The system of the conjugates. Bases of a field. The elements of a field, one by one; normal elements. Values of polynomials. The roots of a polynomial.
-/
import Derived.Test.YtpienolhkccpnaaGreatXC6
set_option linter.unusedVariables false
set_option linter.unusedSimpArgs false
namespace Go.Proofs.YtpienolhkccpnaaGreat
open Go Go.Fw
set_option maxRecDepth 100000
set_option linter.unusedVariables false
set_option linter.unusedSimpArgs false
set_option maxHeartbeats 0
noncomputable abbrev rsR (p m:Nat) (md:List Int) (P:List Nat) (rows B:List (List Int)):List (List Int):=B.map (rpF (Ad (fA p m)) (Ad (fM p (Ax m md))) (Cz p m) P rows)
theorem Ti {p m b ng cg ce cl n c k cp nx cx N:Nat}{pg pe pl ps pp px:Option Addr}{md:List Int}{rows B:List (List Int)}{P:List Nat}(K:Fok p m md) (hR:Red (p ^ m) N rows P) (hlen:rows.length=P.length) (hN1:1≤N) (hN:N≤1000000) (hPl:P.length≤1000000) (hB:Cw (p ^ m) N B) :
  Bt Tryz.prog 160 [.agg #[.pointer (some ⟨b,0,none⟩),.int .i64 N,.slice ps n c,.slice pp k cp],.agg #[.int .i64 N,.slice px nx cx]] [] [Jc b p m (p ^ m) pg ng cg pe (p ^ m-1) ce pl (p ^ m) cl,Ap Ai pe (p ^ m-1) ce (Jh p m md),Ap Ai pl (p ^ m) cl (Jk p m md),Ap (Aj Ai) ps n c rows,Ap Ai pp k cp (Bb P),Ap (Aj Ai) px nx cx B]
   (fun v Φ β=>∃ (pr:Option Addr) (cr:Nat),v = .agg #[.int .i64 N,.slice pr nx cr]∧Φ=[Ap (Aj Ai) pr nx cr (rsR p m md P rows B)]∧β=[]):=by
 refine Ab (F:=Tk) rfl fun C=>?_
 refine Ba 5 rfl fun hn hb _=>?_
 subst hn
 have hb':B.length*24≤140737488355328:=hb
 have hq:=K.q
 have O:=C1 K
 have Rz:=fun {b ng cg ce cl n c k cp nx cx:Nat}{pg pe pl ps pp px:Option Addr}{x:List Int}(h:Wd (p ^ m) N x)=>Ri (b:=b) (ng:=ng) (cg:=cg) (ce:=ce) (cl:=cl) (n:=n) (c:=c) (k:=k) (cp:=cp) (nx:=nx) (cx:=cx) (pg:=pg) (pe:=pe) (pl:=pl) (ps:=ps) (pp:=pp) (px:=px) K hR hlen hN1 hN hPl h
 refine Am [_,_] rfl ?_
 refine Aa rfl (Cv rfl fun b1=>?_)
 refine Aa rfl (Cv rfl fun b2=>?_)
 refine Aa rfl (Bl G9 fun b3=>?_)
 refine Am [_,_] rfl ?_
 refine Aa rfl (Aq rfl I4 ?_)
 refine Aa rfl (Bm 1 rfl rfl Ci rfl ?_)
 refine Aa rfl (Dn (cs:=[Value.int IntKind.i64 ↑N,Value.slice none 0 0]) Uz G9 rfl rfl ?_)
 refine Aa rfl (Bl G9 fun b4=>?_)
 refine Aa rfl (A8 0 rfl rfl rfl F6 rfl rfl (by simp [Value.oneCell']) ?_)
 refine Am [_,_,_] rfl ?_
 refine Aa rfl (Aq rfl Hw ?_)
 refine Aa rfl (Bm 2 rfl rfl H7 rfl ?_)
 refine Aa rfl (Hf D5 rfl ?_)
 refine Ae it 1 rfl (by simp) ?_
 refine Am [_,_,_] rfl ?_
 refine F3 (Aj Ai) 22 ?_
 simp only [Cf,De,setB,List.take_succ_cons,List.cons_append,List.nil_append,List.take_zero,List.drop_succ_cons,List.drop_zero,List.length_singleton,Nat.zero_add]
 refine Ah (X:=Nat×Row) [2,4,5,14,15] [0,1,2,3,4,5,6] (fun z=>[(16,.int .i64 (z.1:Int))]) (fun z=>(z.2.bo,22,z.2.cs)::(some b4,62,[.int .i64 N,.slice (ad z.2.bo) z.1 z.2.cap])::_) (fun z=>[A7 (Aj Ai) z.2 z.1 (rsR p m md P rows (B.take z.1))]) (fun z=>z.1≤B.length) (fun z=>B.length-z.1) (0,⟨none,0,[]⟩) [0] rfl rfl rfl (Nat.zero_le _) (by repeat (first|exact Fr.sub_nil _|refine Fr.sub_cons rfl ?_)) rfl rfl ?_
 rintro ⟨i,r⟩ hi ih
 simp only [List.cons_append,List.nil_append] at hi ih ⊢
 by_cases hil:i<B.length
 ·obtain ⟨u,at_u⟩:∃ u,B[i]?=some u:=⟨_,List.getElem?_eq_getElem hil⟩
  have hu:=hB u (List.mem_of_getElem? at_u)
  have ih1:=fun r=>ih (i+1,r) (by dsimp only;omega) (by dsimp only;omega)
  dsimp only at ih1
  rw [rsR,List.take_add_one (l:=B),at_u,Option.toList_some,List.map_append,List.map_cons,List.map_nil] at ih1
  have hw:=O.rp_wd (P:=P) hR.mat hu
  have hwl:=hw.1
  clear ih
  refine wk 18 (ct @Rz cz) ?_
  intro h1 b5 o1 hz1 pa1 ca1 r1 pt1 kt1 ct1 b6
  refine D2 1 0 rfl rfl (by show (N)*8≤140737488355328;omega) ?_
  refine Aa rfl (Ga (z:=rpF (Ad (fA p m)) (Ad (fM p (Ax m md))) (Cz p m) P rows u) 1 0 4 rfl rfl rfl rfl rfl D5 I6 rfl (fun w A hG=>(A2 (hG _ (Af (n:=0) rfl)))) (by omega) _ M7 (by omega) fun r2=>?_)
  refine wk 5 cz ?_
  refine Kx [true,false,true,true,true,true] [0,6,7,8,9,10,11,12] (by exact Uy rfl) rfl rfl (ih1 r2)
 ·obtain rfl:i=B.length:=by omega
  clear ih
  rw [List.take_length]
  refine D2 0 0 rfl rfl (by show B.length*24≤140737488355328;omega) ?_
  simp only [List.eraseIdx_cons_zero,List.eraseIdx_cons_succ]
  refine wk 8 cz ?_
  intro h1
  refine Bj [0] rfl (.agg 1 rfl rfl F6 rfl .nil) rfl ⟨_,_,rfl,rfl,rfl⟩
section
variable {p m n c nm cm n2 c2 N:Nat}{pm ps p2:Option Addr}{md:List Int}{rows B:List (List Int)}
theorem Qh (CC:Cok p m md N rows) (CB:Cok p m md N B) :
  Bt Tryz.prog 159 [.agg #[.int .i64 p,.int .i64 m,.slice pm nm cm],.agg #[.int .i64 N,.slice ps n c],.agg #[.int .i64 N,.slice p2 n2 c2]] [] [Ap Ai pm nm cm md,Ap (Aj Ai) ps n c rows,Ap (Aj Ai) p2 n2 c2 B]
   (fun v Φ β=>∃ (b b':Nat) (pg:Option Addr) (cg:Nat) (pe:Option Addr) (ce:Nat) (pl:Option Addr) (cl:Nat) (pp pp':Option Addr) (cp cp':Nat),
    v = .tuple #[.agg #[.pointer (some ⟨b,0,none⟩),.int .i64 N,.slice ps rows.length c,.slice pp (Dh p m md N rows).2.length cp],.agg #[.pointer (some ⟨b',0,none⟩),.int .i64 N,.slice p2 B.length c2,.slice pp' (Dh p m md N B).2.length cp'],.int .i64 0]
    ∧ Φ=Ap Ai pp (Dh p m md N rows).2.length cp (Bb (Dh p m md N rows).2)::gfL p m md b pg cg pe ce pl cl∧β=[]):=by
 refine Ab (F:=ABG) rfl fun C=>?_
 have h64:=CC.n64
 have hl1:=CC.len
 have hl2:=CB.len
 have D9:=fun {pm ps:Option Addr}{nm cm n c:Nat}{rows:List (List Int)}(h:Cok p m md N rows)=>Kj (pm:=pm) (nm:=nm) (cm:=cm) (ps:=ps) (n:=n) (c:=c) (rows:=rows) h.K (show N≤256 by omega) (by have:=h.len;omega) h.mat h.can
 refine wk 38 (ct @D9 (ct @D9 cz)) ?_
 intro b1 b2 b3 b4 b5 b6 pg1 cg1 pe1 ce1 pl1 cl1 pp1 cp1 h1 b7 pg2 cg2 pe2 ce2 pl2 cl2 pp2 cp2 h2 h3
 refine Bj [5,6,7,8,9] rfl (.agg 1 rfl rfl Zd rfl (.agg 0 rfl rfl Zd rfl (.tmp rfl .nil))) rfl ⟨_,_,_,_,_,_,_,_,_,_,_,_,rfl,rfl,rfl⟩
theorem R2 (CC:Cok p m md N rows) (CB:Cok p m md N B) :
  Bt Tryz.prog 125 [.agg #[.int .i64 p,.int .i64 m,.slice pm nm cm],.agg #[.int .i64 N,.slice ps n c],.agg #[.int .i64 N,.slice p2 n2 c2]] [] [Ap Ai pm nm cm md,Ap (Aj Ai) ps n c rows,Ap (Aj Ai) p2 n2 c2 B]
   (fun v Φ β=>∃ (pb:Option Addr) (nb cb:Nat),v = .tuple #[.agg #[.int .i64 N,.slice pb nb cb],.int .i64 0]∧Φ=[Ap (Aj Ai) pb nb cb (Dh p m md N (rows++B)).1]∧β=[]):=by
 refine Ab (F:=ACW) rfl fun C=>?_
 refine Ba 1 rfl fun hn _ _=>?_
 subst hn
 refine Ba 2 rfl fun hn _ _=>?_
 subst hn
 have K:=CC.K
 have O:=C1 K
 have h64:=CC.n64
 have h1:=CC.n1
 have hl1:=CC.len
 have hl2:=CB.len
 obtain ⟨hR,hRl⟩:=CC.red
 have hPl:=hR.piv_le
 have hRM:Cw (p ^ m) N (rsR p m md (Dh p m md N rows).2 rows B):=O.rests_mat CC.mat CB.mat
 have hRL:(rsR p m md (Dh p m md N rows).2 rows B).length=B.length:=List.length_map _
 have hC1:Cw (p ^ m) N (Dh p m md N (rsR p m md (Dh p m md N rows).2 rows B)).1:=(O.cn hRM).1.mat
 obtain ⟨hC2,hC3⟩:=Wc K hRM
 have hS:Dh p m md N ((Dh p m md N (rsR p m md (Dh p m md N rows).2 rows B)).1++rows)=Dh p m md N (rows++B):=O.sum_rests CC.mat CB.mat
 have hSM:=H8 hC1 CC.mat
 rw [← hS]
 have Pt:=fun {pm ps p2:Option Addr}{nm cm n c n2 c2:Nat}=>Qh (pm:=pm) (nm:=nm) (cm:=cm) (ps:=ps) (n:=n) (c:=c) (p2:=p2) (n2:=n2) (c2:=c2) CC CB
 have Tm:=fun {b ng cg ce cl n c k cp nx cx:Nat}{pg pe pl ps pp px:Option Addr}=>Ti (b:=b) (ng:=ng) (cg:=cg) (ce:=ce) (cl:=cl) (n:=n) (c:=c) (k:=k) (cp:=cp) (nx:=nx) (cx:=cx) (pg:=pg) (pe:=pe) (pl:=pl) (ps:=ps) (pp:=pp) (px:=px) K hR hRl h1 (show N≤1000000 by omega) (by omega) CB.mat
 have Br:=fun {pm ps:Option Addr}{nm cm n c:Nat}{rows:List (List Int)}(hl:rows.length≤256) (hM:Cw (p ^ m) N rows)=>Tl (pm:=pm) (ps:=ps) (nm:=nm) (cm:=cm) (n:=n) (c:=c) (rows:=rows) K (show N≤256 by omega) hl hM
 generalize hP:(Dh p m md N rows).2=P at *
 generalize hr:rsR p m md P rows B=rs at *
 refine wk 22 (ct @Pt cz) ?_
 intro b1 b2 b3 b4 b5 b'1 pg1 cg1 pe1 ce1 pl1 cl1 pp1 pp'1 cp1 cp'1 b6 b7 h2
 (apply AG9 (x0:=none) it mx 0 10 [7,8,11] 2;(· rfl);(· rfl);(· rfl);(· decide))
 (apply Ac;(· rfl);(· exact Cy 5 rfl rfl Hy rfl))
 (apply Ac;(· rfl);(· exact Cy 1 rfl rfl Zd rfl))
 (apply Ac;(· rfl);(· exact Cy 3 rfl rfl F6 rfl))
 (apply Iz (val:=(fun g=>Value.agg #[Value.int IntKind.i64 ↑N,Value.slice (g 0).fst B.length (g 1).snd.fst])) (f:=(fun g=>[Ap (Aj Ai) (g 0).fst B.length (g 1).snd.fst rs]));(· rfl);(· exact Cg fun _=>Aw [1,3,4,6,0,7] rfl (Tm) rfl (by rintro _ _ _ ⟨prg0,crg1,rfl,rfl,rfl⟩;exact fun _ _ _ hG=>⟨(fun|0=>(prg0,0,0,[])|1=>(none,crg1,0,[])|_=>default),rfl,fun g hg=>Ey (hG _ (List.mem_append_left _ hg))⟩));intro g1;dsimp only [List.map_cons,List.map_nil])
 (apply Iz (val:=(fun g=>Value.tuple #[Value.agg #[Value.int IntKind.i64 ↑N,Value.slice (g 0).fst (Dh p m md N rs).snd.length (Dh p m md N rs).snd.length],Value.slice (g 1).fst (Dh p m md N rs).snd.length (g 2).snd.fst,Value.int IntKind.i64 0])) (f:=(fun g=>[Ap (Aj Ai) (g 0).fst (Dh p m md N rs).snd.length (Dh p m md N rs).snd.length (Dh p m md N rs).fst,Ap Ai (g 1).fst (Dh p m md N rs).snd.length (g 2).snd.fst (Bb (Dh p m md N rs).snd)]));(· rfl);(· exact Cg fun _=>Aw [6,0] rfl (Br (by omega) (by omega)) rfl (by rintro _ _ _ ⟨pbg0,ppg1,cpg2,rfl,rfl,rfl⟩;exact fun _ _ _ hG=>⟨(fun|0=>(pbg0,0,0,[])|1=>(ppg1,0,0,[])|2=>(none,cpg2,0,[])|_=>default),rfl,fun g hg=>Ey (hG _ (List.mem_append_left _ hg))⟩));intro g2;dsimp only [List.map_cons,List.map_nil])
 (apply G1 [32] (fun vs=>vs.getD 0 undef) (v:=Value.tuple #[Value.agg #[Value.int IntKind.i64 ↑N,Value.slice (g2 0).fst (Dh p m md N rs).snd.length (Dh p m md N rs).snd.length],Value.slice (g2 1).fst (Dh p m md N rs).snd.length (g2 2).snd.fst,Value.int IntKind.i64 0]);(· rfl);(· rfl);(· rfl);(· rfl);(· exact Cg fun _=>Kc it rfl (by trivial) An))
 (apply G1 [27] (fun vs=>match vs.getD 0 undef with | .tuple a=>a.getD 0 undef|_=>undef) (v:=Value.agg #[Value.int IntKind.i64 ↑N,Value.slice (g2 0).fst (Dh p m md N rs).snd.length (Dh p m md N rs).snd.length]);(· rfl);(· rfl);(· rfl);(· rfl);(· exact Cg fun _=>Kc it rfl (by trivial) An))
 (apply G1 [27] (fun vs=>match vs.getD 0 undef with | .tuple a=>a.getD 1 undef|_=>undef) (v:=Value.slice (g2 1).fst (Dh p m md N rs).snd.length (g2 2).snd.fst);(· rfl);(· rfl);(· rfl);(· rfl);(· exact Cg fun _=>Kc it rfl (by trivial) An))
 (apply Ac;(· rfl);(· exact Cg fun _=>Kc it rfl (by trivial) An))
 (apply Hj;(· rfl);(· exact G9);intro b8)
 refine Fo rfl ?_
 (rotate_left;rfl;rotate_right)
 simp only [List.map_cons,List.map_nil,List.cons_append,List.nil_append]
 refine Gr it rfl rfl ⟨⟨_,_,_,_,rfl,rfl,rfl,rfl,rfl,rfl,(by first|trivial|(repeat' first|exact trivial|apply And.intro|omega))⟩,⟨⟨_,_,_,_,rfl,rfl,rfl,rfl,rfl,rfl,(by first|trivial|(repeat' first|exact trivial|apply And.intro|omega))⟩,trivial⟩⟩ (A8 0 rfl rfl rfl F6 rfl rfl (by simp [Value.oneCell']) ?_)
 refine AED it rfl rfl rfl rfl rfl (by trivial) ?_ ⟨⟨_,_,_,_,rfl,rfl,rfl,rfl,rfl,rfl,(by first|trivial|(repeat' first|exact trivial|apply And.intro|omega))⟩,⟨⟨_,_,_,_,rfl,rfl,rfl,rfl,rfl,rfl,(by first|trivial|(repeat' first|exact trivial|apply And.intro|omega))⟩,trivial⟩⟩
 refine Ib it ⟨⟨_,_,_,_,rfl,rfl,rfl,rfl,rfl,rfl,(by first|trivial|(repeat' first|exact trivial|apply And.intro|omega))⟩,⟨⟨_,_,_,_,rfl,rfl,rfl,rfl,rfl,rfl,(by first|trivial|(repeat' first|exact trivial|apply And.intro|omega))⟩,⟨⟨_,_,_,_,rfl,rfl,rfl,rfl,rfl,rfl,(by first|trivial|(repeat' first|exact trivial|apply And.intro|omega))⟩,trivial⟩⟩⟩ ?_
 refine wk 10 cz ?_
 intro h3
 refine Aa rfl (AKe 0 9 rfl rfl rfl rfl D5 I6 rfl (by omega) _ M7 (by omega) (by first|omega|(show _*24≤_;omega)|(show _*8≤_;omega)) fun pr1 cr1=>?_)
 refine wk 5 cz ?_
 refine Aa rfl (Aw [9,0] rfl (Br (by simp;omega) (by omega)) rfl ?_)
 rintro _ _ _ ⟨pb1,pp2,cp2,rfl,rfl,rfl⟩
 simp only [List.cons_append,List.nil_append]
 simp only [decide_true]
 refine wk 10 cz ?_
 intro b9
 refine Bj [0] rfl (.agg 4 rfl rfl F6 rfl (.tmp rfl .nil)) rfl ⟨_,_,_,rfl,rfl,rfl⟩
end
open Go Go.Fw
set_option maxRecDepth 100000
set_option linter.unusedVariables false
set_option linter.unusedSimpArgs false
set_option maxHeartbeats 0
theorem Cok.nu {p m N:Nat}{md:List Int}{rows:List (List Int)}(CC:Cok p m md N rows):Cok p m md N (Li p m md N rows):=by
 have O:=C1 CC.K
 refine ⟨CC.K,CC.n1,CC.n64,(O.nu CC.mat).1,?_⟩
 have h:Dh p m md N (Li p m md N rows)=_:=O.cn_nu CC.mat
 rw [h];rfl
theorem Cok.cn {p m N:Nat}{md:List Int}{rows:List (List Int)}(K:Fok p m md) (h1:1≤N) (h2:N≤64) (hM:Cw (p ^ m) N rows):Cok p m md N (Dh p m md N rows).1:=by
 have O:=C1 K
 refine ⟨K,h1,h2,(O.cn hM).1.mat,?_⟩
 have h:Dh p m md N (Dh p m md N rows).1=_:=O.cn_cn hM
 rw [h]
section
variable {p m n c nm cm n2 c2 nm2 cm2 N:Nat}{pm ps p2 pm2:Option Addr}{md:List Int}{rows B:List (List Int)}
theorem Ya (CC:Cok p m md N rows) (CB:Cok p m md N B) :
  Bt Tryz.prog 124 [.agg #[.int .i64 p,.int .i64 m,.slice pm nm cm],.agg #[.int .i64 N,.slice ps n c],.agg #[.int .i64 N,.slice p2 n2 c2]] [] [Ap Ai pm nm cm md,Ap (Aj Ai) ps n c rows,Ap (Aj Ai) p2 n2 c2 B]
   (fun v Φ β=>∃ (pb:Option Addr) (nb cb:Nat),v = .tuple #[.agg #[.int .i64 N,.slice pb nb cb],.int .i64 0]∧Φ=[Ap (Aj Ai) pb nb cb (Li p m md N (Li p m md N rows++Li p m md N B))]∧β=[]):=by
 refine Ab (F:=ACk) rfl fun C=>?_
 refine Ba 1 rfl fun hn _ _=>?_
 subst hn
 refine Ba 2 rfl fun hn _ _=>?_
 subst hn
 have K:=CC.K
 have O:=C1 K
 have h64:=CC.n64
 have h1:=CC.n1
 have hNN:=H8 (CC.nu).mat (CB.nu).mat
 have hS:Li p m md N (Dh p m md N (Li p m md N rows++Li p m md N B)).1=Li p m md N (Li p m md N rows++Li p m md N B):=O.nu_cn hNN
 have CS:=Cok.cn K h1 h64 hNN
 have CN1:=CC.nu
 have CN2:=CB.nu
 rw [← hS]
 have Pt:=fun {pm ps p2:Option Addr}{nm cm n c n2 c2:Nat}=>Qh (pm:=pm) (nm:=nm) (cm:=cm) (ps:=ps) (n:=n) (c:=c) (p2:=p2) (n2:=n2) (c2:=c2) CC CB
 have En:=fun {pm ps:Option Addr}{nm cm n c:Nat}{rows:List (List Int)}(h:Cok p m md N rows)=>Ii (pm:=pm) (ps:=ps) (nm:=nm) (cm:=cm) (n:=n) (c:=c) (rows:=rows) K (show N≤256 by omega) (by have:=h.len;omega) h.mat
 have Rn:=fun {pm ps p2:Option Addr}{nm cm n c n2 c2:Nat}{rows B:List (List Int)}(h:Cok p m md N rows) (h2:Cok p m md N B)=>R2 (pm:=pm) (nm:=nm) (cm:=cm) (ps:=ps) (n:=n) (c:=c) (p2:=p2) (n2:=n2) (c2:=c2) (rows:=rows) (B:=B) h h2
 refine wk 58 (ct @Pt (ct @En (ct @En (ct @Rn (ct @En cz))))) ?_
 intro b1 b2 b3 b4 b5 b'1 pg1 cg1 pe1 ce1 pl1 cl1 pp1 pp'1 cp1 cp'1 b6 b7 h2 pb1 cb1 b8 pb2 cb2 b9 pb3 nb1 cb3 b10 h3 pb4 cb4
 refine Bj [0] rfl (.agg 5 rfl rfl F6 rfl (.tmp rfl .nil)) rfl ⟨_,_,_,rfl,rfl,rfl⟩
theorem T5 (CC:Cok p m md N rows) (CB:Cok p m md N B):Bt Tryz.prog 123 [.agg #[.int .i64 p,.int .i64 m,.slice pm nm cm,.int .i64 N,.slice ps n c],.agg #[.int .i64 p,.int .i64 m,.slice pm2 nm2 cm2,.int .i64 N,.slice p2 n2 c2]] [] [Ap Ai pm nm cm md,Ap (Aj Ai) ps n c rows,Ap Ai pm2 nm2 cm2 md,Ap (Aj Ai) p2 n2 c2 B] (Rv (.int .i64 0) []):=by
 refine Ab (F:=ADW) rfl fun C=>?_
 have h64:=CC.n64
 have Au:=fun {pm ps:Option Addr}{nm cm n c:Nat}{rows:List (List Int)}(h:Cok p m md N rows)=>Ds (P:=p) (M:=m) (pm:=pm) (ps:=ps) (nm:=nm) (cm:=cm) (n:=n) (c:=c) (md:=md) (rows:=rows) (N:=N) (by simp only [Bv];omega) h.ck
 have AB2:=fun {pm p2:Option Addr}{nm cm n2 c2:Nat}=>ACJ (P:=p) (M:=m) (P2:=p) (M2:=m) (md:=md) (md2:=md) (pm:=pm) (p2:=p2) (nm:=nm) (cm:=cm) (n2:=n2) (c2:=c2) (res:=true) (decide_eq_true ⟨rfl,rfl,rfl⟩)
 refine wk 35 (ct @Au (ct @Au (ct @AB2 cz))) ?_
 intro b1 b2 h1 h2 h3
 exact ge
theorem To (CC:Cok p m md N rows) (CB:Cok p m md N B):Bt Tryz.prog 83 [.agg #[.int .i64 p,.int .i64 m,.slice pm nm cm,.int .i64 N,.slice ps n c],.agg #[.int .i64 p,.int .i64 m,.slice pm2 nm2 cm2,.int .i64 N,.slice p2 n2 c2]] [] [Ap Ai pm nm cm md,Ap (Aj Ai) ps n c rows,Ap Ai pm2 nm2 cm2 md,Ap (Aj Ai) p2 n2 c2 B] (Xc p m N md (Dh p m md N (rows++B)).1 0):=by
 refine Ab (F:=AEo) rfl fun C=>?_
 have h8:=CC.K.md8
 have Uq:=fun {pm ps p2 pm2:Option Addr}{nm cm n c n2 c2 nm2 cm2:Nat}=>T5 (pm:=pm) (nm:=nm) (cm:=cm) (ps:=ps) (n:=n) (c:=c) (p2:=p2) (n2:=n2) (c2:=c2) (pm2:=pm2) (nm2:=nm2) (cm2:=cm2) CC CB
 have Ik:=fun {P M N:Int}{pm ps:Option Addr}{nm cm n c:Nat}=>Qa (P:=P) (M:=M) (N:=N) (pm:=pm) (ps:=ps) (nm:=nm) (cm:=cm) (n:=n) (c:=c)
 have Rn:=fun {pm ps p2:Option Addr}{nm cm n c n2 c2:Nat}=>R2 (pm:=pm) (nm:=nm) (cm:=cm) (ps:=ps) (n:=n) (c:=c) (p2:=p2) (n2:=n2) (c2:=c2) (rows:=rows) (B:=B) CC CB
 have Jo:=fun {pm ps:Option Addr}{nm cm n c:Nat}{rows:List (List Int)}=>K6 (P:=p) (M:=m) (N:=N) (pm:=pm) (ps:=ps) (nm:=nm) (cm:=cm) (n:=n) (c:=c) (md:=md) (rows:=rows) (by omega)
 generalize (Dh p m md N (rows++B)).1=R at *
 refine wk 15 (ct @Uq cz) ?_
 intro b1 b2 b3 h1
 (apply Fz (x0:=none) it mx 0 11 [9] 1;(· rfl);(· rfl);(· rfl);(· decide))
 simp only [List.drop_zero]
 (apply Ac;(· rfl);(· exact Cg fun _=>Aq rfl Ug An))
 (apply Ac;(· rfl);(· exact Ji 2 rfl rfl Hy rfl rfl))
 (apply Ac;(· rfl);(· exact Cy 2 rfl rfl Cs rfl))
 (apply Ac;(· rfl);(· exact Cg fun _=>Aw [] rfl (Ik) rfl (by rintro _ _ _ ⟨rfl,rfl,rfl⟩;exact An)))
 (apply Ac;(· rfl);(· exact Cy 1 rfl rfl Cs rfl))
 (apply Ac;(· rfl);(· exact Cg fun _=>Aw [] rfl (Ik) rfl (by rintro _ _ _ ⟨rfl,rfl,rfl⟩;exact An)))
 (apply Iz (val:=(fun g=>Value.tuple #[Value.agg #[Value.int IntKind.i64 ↑N,Value.slice (g 0).fst (g 1).snd.fst (g 2).snd.fst],Value.int IntKind.i64 0])) (f:=(fun g=>[Ap (Aj Ai) (g 0).fst (g 1).snd.fst (g 2).snd.fst R]));(· rfl);(· exact Cg fun _=>Aw [0,1,3] rfl (Rn) rfl (by rintro _ _ _ ⟨pbg0,nbg1,cbg2,rfl,rfl,rfl⟩;exact fun _ _ _ hG=>⟨(fun|0=>(pbg0,0,0,[])|1=>(none,nbg1,0,[])|2=>(none,cbg2,0,[])|_=>default),rfl,fun g hg=>Ey (hG _ (List.mem_append_left _ hg))⟩));intro g1;dsimp only [List.map_cons,List.map_nil])
 (apply G1 [23] (fun vs=>vs.getD 0 undef) (v:=Value.tuple #[Value.agg #[Value.int IntKind.i64 ↑N,Value.slice (g1 0).fst (g1 1).snd.fst (g1 2).snd.fst],Value.int IntKind.i64 0]);(· rfl);(· rfl);(· rfl);(· rfl);(· exact Cg fun _=>Kc it rfl (by trivial) An))
 (apply G1 [16] (fun vs=>match vs.getD 0 undef with | .tuple a=>a.getD 0 undef|_=>undef) (v:=Value.agg #[Value.int IntKind.i64 ↑N,Value.slice (g1 0).fst (g1 1).snd.fst (g1 2).snd.fst]);(· rfl);(· rfl);(· rfl);(· rfl);(· exact Cg fun _=>Kc it rfl (by trivial) An))
 (apply Ac;(· rfl);(· exact Cg fun _=>Kc it rfl (by trivial) An))
 (apply Hj;(· rfl);(· exact G9);intro b4)
 refine Fo rfl ?_
 (rotate_left;rfl;rotate_right)
 simp only [List.map_cons,List.map_nil,List.cons_append,List.nil_append]
 refine Gr it rfl rfl ⟨⟨_,_,_,_,rfl,rfl,rfl,rfl,rfl,rfl,(by first|trivial|(repeat' first|exact trivial|apply And.intro|omega))⟩,trivial⟩ (A8 0 rfl rfl rfl F6 rfl rfl (by simp [Value.oneCell']) ?_)
 refine Ib it ⟨⟨_,_,_,_,rfl,rfl,rfl,rfl,rfl,rfl,(by first|trivial|(repeat' first|exact trivial|apply And.intro|omega))⟩,trivial⟩ ?_
 refine wk 11 (ct @Jo cz) ?_
 intro pb1 pc1 nb1 cb1 nc1 cc1
 refine Bj [0,1] rfl (.agg 1 rfl rfl Cs rfl (.tmp rfl .nil)) rfl ⟨_,_,_,_,_,_,rfl,rfl,rfl⟩
theorem AAd (CC:Cok p m md N rows) (CB:Cok p m md N B):Bt Tryz.prog 79 [.agg #[.int .i64 p,.int .i64 m,.slice pm nm cm,.int .i64 N,.slice ps n c],.agg #[.int .i64 p,.int .i64 m,.slice pm2 nm2 cm2,.int .i64 N,.slice p2 n2 c2]] [] [Ap Ai pm nm cm md,Ap (Aj Ai) ps n c rows,Ap Ai pm2 nm2 cm2 md,Ap (Aj Ai) p2 n2 c2 B] (Xc p m N md (Li p m md N (Li p m md N rows++Li p m md N B)) 0):=by
 refine Ab (F:=ACM) rfl fun C=>?_
 have h8:=CC.K.md8
 have Uq:=fun {pm ps p2 pm2:Option Addr}{nm cm n c n2 c2 nm2 cm2:Nat}=>T5 (pm:=pm) (nm:=nm) (cm:=cm) (ps:=ps) (n:=n) (c:=c) (p2:=p2) (n2:=n2) (c2:=c2) (pm2:=pm2) (nm2:=nm2) (cm2:=cm2) CC CB
 have Ik:=fun {P M N:Int}{pm ps:Option Addr}{nm cm n c:Nat}=>Qa (P:=P) (M:=M) (N:=N) (pm:=pm) (ps:=ps) (nm:=nm) (cm:=cm) (n:=n) (c:=c)
 have ABC:=fun {pm ps p2:Option Addr}{nm cm n c n2 c2:Nat}=>Ya (pm:=pm) (nm:=nm) (cm:=cm) (ps:=ps) (n:=n) (c:=c) (p2:=p2) (n2:=n2) (c2:=c2) (rows:=rows) (B:=B) CC CB
 have Jo:=fun {pm ps:Option Addr}{nm cm n c:Nat}{rows:List (List Int)}=>K6 (P:=p) (M:=m) (N:=N) (pm:=pm) (ps:=ps) (nm:=nm) (cm:=cm) (n:=n) (c:=c) (md:=md) (rows:=rows) (by omega)
 generalize Li p m md N (Li p m md N rows++Li p m md N B)=R at *
 refine wk 15 (ct @Uq cz) ?_
 intro b1 b2 b3 h1
 (apply Fz (x0:=none) it mx 0 11 [9] 1;(· rfl);(· rfl);(· rfl);(· decide))
 simp only [List.drop_zero]
 (apply Ac;(· rfl);(· exact Cg fun _=>Aq rfl Ug An))
 (apply Ac;(· rfl);(· exact Ji 2 rfl rfl Hy rfl rfl))
 (apply Ac;(· rfl);(· exact Cy 2 rfl rfl Cs rfl))
 (apply Ac;(· rfl);(· exact Cg fun _=>Aw [] rfl (Ik) rfl (by rintro _ _ _ ⟨rfl,rfl,rfl⟩;exact An)))
 (apply Ac;(· rfl);(· exact Cy 1 rfl rfl Cs rfl))
 (apply Ac;(· rfl);(· exact Cg fun _=>Aw [] rfl (Ik) rfl (by rintro _ _ _ ⟨rfl,rfl,rfl⟩;exact An)))
 (apply Iz (val:=(fun g=>Value.tuple #[Value.agg #[Value.int IntKind.i64 ↑N,Value.slice (g 0).fst (g 1).snd.fst (g 2).snd.fst],Value.int IntKind.i64 0])) (f:=(fun g=>[Ap (Aj Ai) (g 0).fst (g 1).snd.fst (g 2).snd.fst R]));(· rfl);(· exact Cg fun _=>Aw [0,1,3] rfl (ABC) rfl (by rintro _ _ _ ⟨pbg0,nbg1,cbg2,rfl,rfl,rfl⟩;exact fun _ _ _ hG=>⟨(fun|0=>(pbg0,0,0,[])|1=>(none,nbg1,0,[])|2=>(none,cbg2,0,[])|_=>default),rfl,fun g hg=>Ey (hG _ (List.mem_append_left _ hg))⟩));intro g1;dsimp only [List.map_cons,List.map_nil])
 (apply G1 [23] (fun vs=>vs.getD 0 undef) (v:=Value.tuple #[Value.agg #[Value.int IntKind.i64 ↑N,Value.slice (g1 0).fst (g1 1).snd.fst (g1 2).snd.fst],Value.int IntKind.i64 0]);(· rfl);(· rfl);(· rfl);(· rfl);(· exact Cg fun _=>Kc it rfl (by trivial) An))
 (apply G1 [16] (fun vs=>match vs.getD 0 undef with | .tuple a=>a.getD 0 undef|_=>undef) (v:=Value.agg #[Value.int IntKind.i64 ↑N,Value.slice (g1 0).fst (g1 1).snd.fst (g1 2).snd.fst]);(· rfl);(· rfl);(· rfl);(· rfl);(· exact Cg fun _=>Kc it rfl (by trivial) An))
 (apply Ac;(· rfl);(· exact Cg fun _=>Kc it rfl (by trivial) An))
 (apply Hj;(· rfl);(· exact G9);intro b4)
 refine Fo rfl ?_
 (rotate_left;rfl;rotate_right)
 simp only [List.map_cons,List.map_nil,List.cons_append,List.nil_append]
 refine Gr it rfl rfl ⟨⟨_,_,_,_,rfl,rfl,rfl,rfl,rfl,rfl,(by first|trivial|(repeat' first|exact trivial|apply And.intro|omega))⟩,trivial⟩ (A8 0 rfl rfl rfl F6 rfl rfl (by simp [Value.oneCell']) ?_)
 refine Ib it ⟨⟨_,_,_,_,rfl,rfl,rfl,rfl,rfl,rfl,(by first|trivial|(repeat' first|exact trivial|apply And.intro|omega))⟩,trivial⟩ ?_
 refine wk 11 (ct @Jo cz) ?_
 intro pb1 pc1 nb1 cb1 nc1 cc1
 refine Bj [0,1] rfl (.agg 1 rfl rfl Cs rfl (.tmp rfl .nil)) rfl ⟨_,_,_,_,_,_,rfl,rfl,rfl⟩
end
open Go Go.Fw
set_option maxRecDepth 100000
set_option linter.unusedVariables false
set_option linter.unusedSimpArgs false
set_option maxHeartbeats 0
theorem ACg {n:Nat}{set:List Int}(h:Yk n set):(Co n [set]).length+set.length=n:=by
 have e:set.map Int.toNat=(List.range n).filter fun i:Nat=>decide ((i:Int)∈set):=by
  refine Yt ?_ ?_ fun x=>?_
  ·rw [List.pairwise_map]
   refine List.Pairwise.imp_of_mem (fun {a b} ha hb hab=>?_) h.2
   have:=h.1 a ha;have:=h.1 b hb;omega
  ·exact List.Pairwise.sublist List.filter_sublist List.pairwise_lt_range
  ·rw [List.mem_map,List.mem_filter,List.mem_range,decide_eq_true_eq]
   constructor
   ·rintro ⟨y,hy,rfl⟩
    have:=h.1 y hy
    rw [Int.toNat_of_nonneg this.1]
    exact ⟨by omega,hy⟩
   ·rintro ⟨_,h2⟩;exact ⟨_,h2,Int.toNat_natCast x⟩
 have e2:set.length=((List.range n).filter fun i:Nat=>decide ((i:Int)∈set)).length:=by rw [← e,List.length_map]
 have e3:=List.length_eq_countP_add_countP (fun i:Nat=>decide ((i:Int)∈set)) (l:=List.range n)
 rw [List.length_range,List.countP_eq_length_filter,List.countP_eq_length_filter] at e3
 have e4:((List.range n).filter (Rd [set])).length=((List.range n).filter fun a:Nat=>decide (¬ decide ((a:Int)∈set)=true)).length:=by
  congr 1
  refine List.filter_congr fun i _=>?_
  simp [Rd]
 rw [Co,List.length_map,e4]
 omega
noncomputable def psE (P M:Int) (md:List Int) (N:Int) (rows:List (List Int)) (set:List Int):Int :=
 if Pg P M md N rows≠0 then Pg P M md N rows else if ¬ Yk N set then 6 else if (set.length:Int)=N then 4 else 0
theorem AJK {P M N:Int}{md set:List Int}{rows:List (List Int)}(h:psE P M md N rows set=0):∃ p m n:Nat,P=p∧M=m∧N=n∧Cok p m md n rows∧Yk n set∧set.length≠n:=by
 rw [psE] at h
 by_cases h0:Pg P M md N rows=0
 ·obtain ⟨p,m,n,rfl,rfl,rfl,CC⟩:=Z4 h0
  rw [if_neg (fun e=>e h0)] at h
  by_cases h1:Yk n set
  ·rw [if_neg (fun e=>e h1)] at h
   by_cases h2:set.length=n
   ·rw [if_pos (by omega)] at h;omega
   ·exact ⟨p,m,n,rfl,rfl,rfl,CC,h1,h2⟩
  ·rw [if_pos h1] at h;omega
 ·rw [if_pos h0] at h;exact absurd h h0
theorem AFx (P M:Int) (md:List Int) (N:Int) (rows:List (List Int)) (set:List Int):0≤psE P M md N rows set∧psE P M md N rows set≤6:=by
 have:=Pv P M md N rows
 rw [psE];(repeat' split) <;> omega
theorem Gm {ps:Option Addr}{nn c:Nat}{n:Int}{l:List Int}{res:Bool}(hr:decide (Yk n l)=res):Bt Tryz.prog 65 [.slice ps nn c,.int .i64 n] [] [Ap Ai ps nn c l] (Rv (.bool res) []):=by
 refine Ab (F:=AB1) rfl fun C=>?_
 subst hr
 refine Ba 0 rfl fun hn hb _=>?_
 subst hn
 have hb':l.length*8≤140737488355328:=hb
 refine wk 7 cz ?_
 refine Ah (X:=Nat) [0,1,7,8] [0] (fun i=>[(9,.int .i64 (i:Int))]) (fun _=>[]) (fun _=>[]) (fun i=>i≤l.length∧∀ j,j<i→stA n l j) (fun i=>l.length-i) 0 [] rfl rfl rfl ⟨Nat.zero_le _,fun j h=>by omega⟩ (by repeat (first|exact Fr.sub_nil _|refine Fr.sub_cons rfl ?_)) rfl rfl ?_
 rintro i ⟨hi,hno⟩ ih
 simp only [List.cons_append,List.nil_append] at hi ih ⊢
 by_cases h9:i<l.length
 ·obtain ⟨x,at_x⟩:∃ x,l[i]?=some x:=⟨_,List.getElem?_eq_getElem h9⟩
  have bad:∀ P:Prop,¬ stA n l i→decide (Yk n l)=false:=fun _ h=>decide_eq_false (ALa h9 h)
  have good:stA n l i→∀ j,j<i+1→stA n l j:=fun h j hj=>by
   rcases Nat.lt_succ_iff_lt_or_eq.1 hj with h1|rfl
   ·exact hno j h1
   ·exact h
  by_cases a0:x<0
  ·rw [bad True fun h=>by have:=(h x at_x).1;omega]
   refine Am [_,_,_,_,_] rfl ?_
   refine Ae it 1 rfl (by simp) ?_
   refine Am [_,_,_,_,_] rfl ?_
   refine Lc rfl rfl (fun h1=>?_) (fun h1=>by exfalso;omega)
   refine Am [_,_,_,_,_,_,_] rfl ?_
   refine Ae it 1 rfl (by simp) ?_
   refine Aa rfl (Iw 0 (i) rfl rfl rfl Ce rfl (by omega) fun z1 hz1 b1 o1=>?_)
   obtain rfl:_=z1:=Option.some.inj (at_x.symm.trans hz1)
   refine Aa rfl (Av 0 rfl rfl Ci fun ⟨r1,r2⟩=>?_)
   refine Ae it 2 rfl (by simp) ?_
   refine Am [_,_,_,_,_,_,_] rfl ?_
   refine Ae it 3 rfl (by simp) ?_
   refine By (t:=16) rfl (fun h2=>?_) (fun h2=>by exfalso;omega)
   refine Ae it 8 rfl (by simp) ?_
   refine D7 rfl rfl ?_
   refine D7 rfl rfl ?_
   refine D7 rfl rfl ?_
   refine D7 rfl rfl ?_
   refine D7 rfl rfl ?_
   refine D7 rfl rfl ?_
   refine D7 rfl rfl ?_
   refine Ae it 2 rfl (by simp) ?_
   refine Am [_,_,_,_,_,_] rfl ?_
   refine So rfl rfl ?_
   refine Am [_,_,_,_,_,_,_] rfl ?_
   refine Ae it 1 rfl (by simp) ?_
   refine Am [_,_,_,_,_,_] rfl ?_
   exact ge
  ·by_cases a1:n≤x
   ·rw [bad True fun h=>by have:=(h x at_x).1;omega]
    refine Am [_,_,_,_,_] rfl ?_
    refine Ae it 1 rfl (by simp) ?_
    refine Am [_,_,_,_,_] rfl ?_
    refine Lc rfl rfl (fun h1=>?_) (fun h1=>by exfalso;omega)
    refine Am [_,_,_,_,_,_,_] rfl ?_
    refine Ae it 1 rfl (by simp) ?_
    refine Aa rfl (Iw 0 (i) rfl rfl rfl Ce rfl (by omega) fun z1 hz1 b1 o1=>?_)
    obtain rfl:_=z1:=Option.some.inj (at_x.symm.trans hz1)
    refine Aa rfl (Av 0 rfl rfl Ci fun ⟨r1,r2⟩=>?_)
    refine Ae it 2 rfl (by simp) ?_
    refine Am [_,_,_,_,_,_,_] rfl ?_
    refine Ae it 3 rfl (by simp) ?_
    refine By (t:=16) rfl (fun h2=>by exfalso;omega) (fun h2=>?_)
    refine Ae it 5 rfl (by simp) ?_
    refine By (t:=21) rfl (fun h3=>?_) (fun h3=>by exfalso;omega)
    refine Ae it 3 rfl (by simp) ?_
    refine D7 rfl rfl ?_
    refine D7 rfl rfl ?_
    refine D7 rfl rfl ?_
    refine D7 rfl rfl ?_
    refine D7 rfl rfl ?_
    refine D7 rfl rfl ?_
    refine D7 rfl rfl ?_
    refine Ae it 2 rfl (by simp) ?_
    refine Am [_,_,_,_,_,_] rfl ?_
    refine So rfl rfl ?_
    refine Am [_,_,_,_,_,_,_] rfl ?_
    refine Ae it 1 rfl (by simp) ?_
    refine Am [_,_,_,_,_,_] rfl ?_
    exact ge
   ·rcases Nat.eq_zero_or_pos i with hi0|hi0
    ·subst hi0
     refine wk 20 cz ?_
     intro h1 b1 o1 hz1 _ r1 r2 h2
     refine By (t:=21) rfl (fun h3=>by exfalso;omega) (fun h3=>?_)
     refine wk 6 cz ?_
     exact tw (ih 1 (by omega) ⟨by omega,good fun z hz=>by
      rw [at_x] at hz;obtain rfl:=Option.some.inj hz
      exact ⟨by omega,fun y h=>by omega⟩⟩)
    ·obtain ⟨k,rfl⟩:∃ k,i=k+1:=⟨i-1,by omega⟩
     obtain ⟨y,at_y⟩:∃ y,l[k]?=some y:=⟨_,List.getElem?_eq_getElem (by omega)⟩
     by_cases a2:x≤y
     ·rw [bad True fun h=>by have:=(h x at_x).2 y (by omega) at_y;omega]
      refine Am [_,_,_,_,_] rfl ?_
      refine Ae it 1 rfl (by simp) ?_
      refine Am [_,_,_,_,_] rfl ?_
      refine Lc rfl rfl (fun h1=>?_) (fun h1=>by exfalso;omega)
      refine Am [_,_,_,_,_,_,_] rfl ?_
      refine Ae it 1 rfl (by simp) ?_
      refine Aa rfl (Iw 0 (k+1) rfl rfl rfl Ce rfl (by omega) fun z1 hz1 b1 o1=>?_)
      obtain rfl:_=z1:=Option.some.inj (at_x.symm.trans hz1)
      refine Aa rfl (Av 0 rfl rfl Ci fun ⟨r1,r2⟩=>?_)
      refine Ae it 2 rfl (by simp) ?_
      refine Am [_,_,_,_,_,_,_] rfl ?_
      refine Ae it 3 rfl (by simp) ?_
      refine By (t:=16) rfl (fun h2=>by exfalso;omega) (fun h2=>?_)
      refine Ae it 5 rfl (by simp) ?_
      refine By (t:=21) rfl (fun h3=>by exfalso;omega) (fun h3=>?_)
      refine Ae it 3 rfl (by simp) ?_
      refine By (t:=24) rfl (fun h4=>?_) (fun h4=>by exfalso;omega)
      refine Ae it 4 rfl ⟨⟨by omega,by omega⟩,trivial,trivial,trivial,trivial⟩ ?_
      refine Bp rfl rfl (Iw 1 ((k+1)-1) rfl rfl rfl Ce (by omega) (by omega) fun z1 hz2 b2 o2=>?_)
      obtain rfl:_=z1:=Option.some.inj (at_y.symm.trans hz2)
      refine Bp rfl rfl (Av 0 rfl rfl Ci fun ⟨r3,r4⟩=>?_)
      refine Ae it 3 rfl (by simp) ?_
      refine Am [_,_,_,_,_,_] rfl ?_
      refine Lc rfl rfl (fun h5=>?_) (fun h5=>by exfalso;omega)
      refine Am [_,_,_,_,_,_,_] rfl ?_
      refine Ae it 1 rfl (by simp) ?_
      refine Am [_,_,_,_,_,_] rfl ?_
      exact ge
     ·refine Am [_,_,_,_,_] rfl ?_
      refine Ae it 1 rfl (by simp) ?_
      refine Am [_,_,_,_,_] rfl ?_
      refine Lc rfl rfl (fun h1=>?_) (fun h1=>by exfalso;omega)
      refine Am [_,_,_,_,_,_,_] rfl ?_
      refine Ae it 1 rfl (by simp) ?_
      refine Aa rfl (Iw 0 (k+1) rfl rfl rfl Ce rfl (by omega) fun z1 hz1 b1 o1=>?_)
      obtain rfl:_=z1:=Option.some.inj (at_x.symm.trans hz1)
      refine Aa rfl (Av 0 rfl rfl Ci fun ⟨r1,r2⟩=>?_)
      refine Ae it 2 rfl (by simp) ?_
      refine Am [_,_,_,_,_,_,_] rfl ?_
      refine Ae it 3 rfl (by simp) ?_
      refine By (t:=16) rfl (fun h2=>by exfalso;omega) (fun h2=>?_)
      refine Ae it 5 rfl (by simp) ?_
      refine By (t:=21) rfl (fun h3=>by exfalso;omega) (fun h3=>?_)
      refine Ae it 3 rfl (by simp) ?_
      refine By (t:=24) rfl (fun h4=>?_) (fun h4=>by exfalso;omega)
      refine Ae it 4 rfl ⟨⟨by omega,by omega⟩,trivial,trivial,trivial,trivial⟩ ?_
      refine Bp rfl rfl (Iw 1 ((k+1)-1) rfl rfl rfl Ce (by omega) (by omega) fun z1 hz2 b2 o2=>?_)
      obtain rfl:_=z1:=Option.some.inj (at_y.symm.trans hz2)
      refine Bp rfl rfl (Av 0 rfl rfl Ci fun ⟨r3,r4⟩=>?_)
      refine Ae it 3 rfl (by simp) ?_
      refine Am [_,_,_,_,_,_] rfl ?_
      refine Lc rfl rfl (fun h5=>by exfalso;omega) (fun h5=>?_)
      refine Am [_,_,_,_] rfl ?_
      refine Ae it 2 rfl ⟨trivial,⟨by omega,by omega⟩,trivial⟩ ?_
      refine Xx 1 [.lp [1,0,1,0,0],.blk 0,.c [1,1]] rfl ?_
      exact tw (ih (k+2) (by omega) ⟨by omega,good fun z hz=>by
       rw [at_x] at hz;obtain rfl:=Option.some.inj hz
       exact ⟨by omega,fun z h hz=>by
        rw [show k+1-1=k by omega,at_y] at hz;obtain rfl:=Option.some.inj hz;omega⟩⟩)
 ·rw [decide_eq_true (ABN.2 fun j hj=>hno j (by omega))]
  refine wk 7 cz ?_
  intro h1
  exact ge
theorem Tv {ps:Option Addr}{nn c n:Nat}{l:List Int}(hn:n≤1000000):Bt Tryz.prog 62 [.slice ps nn c,.int .i64 n] [] [Ap Ai ps nn c l] (RwI (Co n [l]).length (Co n [l])):=by
 refine Ab (F:=AAG) rfl fun C=>?_
 have hle:=fun k=>ADt k [l]
 have B1:=fun {x:Int}{res:Bool}(h:decide (x∈l)=res)=>Ck (pl:=ps) (nl:=nn) (cl:=c) (l:=l) (x:=x) (res:=res) h
 refine wk 7 cz ?_
 refine F3 Ai 3 ?_
 refine Ah (X:=Nat×Row) [0,4,7] [0,1] (fun x=>[(8,.int .i64 (x.1:Int)),(5,.slice (ad x.2.bo) (Co x.1 [l]).length x.2.cap)]) (fun x=>[(x.2.bo,3,x.2.cs)]) (fun x=>[A7 Ai x.2 (Co x.1 [l]).length (Co x.1 [l])]) (fun x=>x.1≤n) (fun x=>n-x.1) (0,⟨none,0,[]⟩) [0] rfl rfl rfl (Nat.zero_le _) (by repeat (first|exact Fr.sub_nil _|refine Fr.sub_cons rfl ?_)) rfl rfl ?_
 rintro ⟨k,r⟩ hk ih
 simp only [List.cons_append,List.nil_append] at hk ih ⊢
 by_cases h9:k<n
 ·have hk1:=hle k
  have ih':=fun r=>ih (k+1,r) (by dsimp only;omega) (by dsimp only;omega)
  simp only [ABc] at ih'
  clear ih
  by_cases hm:(k:Int)∈l
  ·have B1:=B1 (x:=(k:Int)) (decide_eq_true hm)
   rw [show Rd [l] k=false by simp [Rd,hm],if_neg (by simp),List.append_nil] at ih'
   refine wk 15 (ct @B1 cz) ?_
   intro h1
   exact tw (ih' r)
  ·have B1:=B1 (x:=(k:Int)) (decide_eq_false hm)
   rw [show Rd [l] k=true by simp [Rd,hm],if_pos rfl] at ih'
   simp only [List.length_append,List.length_singleton] at ih'
   refine wk 15 (ct @B1 cz) ?_
   intro h1 b1
   refine Aa rfl (Ga (z:=(↑k:Int)) 1 0 0 rfl rfl rfl rfl rfl Ce Ep rfl (fun w A hG=>(Dq (by first|(simp only [Bv];omega)|(simp [Bv];done)))) (by omega) _ Hu (by omega) fun r1=>?_)
   refine wk 4 cz ?_
   refine Kx [true,false] [0,2,3] (by exact Uy rfl) rfl rfl (ih' r1)
 ·obtain rfl:k=n:=by omega
  clear ih
  refine wk 7 cz ?_
  intro h1
  refine D4 1 [0] [0] rfl (.tmp rfl .nil) rfl rfl rfl ⟨r,rfl,rfl,rfl⟩
theorem Vi {P M N:Int}{pm ps:Option Addr}{nm cm n c:Nat}:Bt Tryz.prog 56 [.agg #[.int .i64 P,.int .i64 M,.slice pm nm cm,.int .i64 N,.slice ps n c]] [] [] (Rv (.agg #[.int .i64 N,.slice ps n c]) []):=by
 refine Ab (F:=ABZ) rfl fun C=>?_
 refine Am [_,_] rfl ?_
 refine Aa rfl (Cv rfl fun b1=>?_)
 refine Aa rfl (Bl G9 fun b2=>?_)
 refine Am [_,_] rfl ?_
 refine Aa rfl (Aq rfl Kt ?_)
 refine Aa rfl (Bm 1 rfl rfl Ci rfl ?_)
 refine Aa rfl (Aq rfl R9 ?_)
 refine Aa rfl (Bm 1 rfl rfl H7 rfl ?_)
 refine Aa rfl (Dn (cs:=[Value.int IntKind.i64 N,Value.slice ps n c]) Uz G9 rfl rfl ?_)
 refine Aa rfl (A8 0 rfl rfl rfl F6 rfl rfl (by simp [Value.oneCell']) ?_)
 refine Am [_] rfl ?_
 refine Bj [] rfl (.agg 0 rfl rfl F6 rfl .nil) rfl ⟨rfl,rfl,rfl⟩
section
variable {P M:Int}{p m n c nm cm ns cs':Nat}{pm ps pt:Option Addr}{md set:List Int}{rows:List (List Int)}
theorem L7 {N e:Int}(hN:Bv .i64 N) (h:psE P M md N rows set=e):Bt Tryz.prog 54 [.agg #[.int .i64 P,.int .i64 M,.slice pm nm cm,.int .i64 N,.slice ps n c],.slice pt ns cs'] [] [Ap Ai pm nm cm md,Ap (Aj Ai) ps n c rows,Ap Ai pt ns cs' set] (Rv (.int .i64 e) []):=by
 refine Ab (F:=Uj) rfl fun C=>?_
 refine Ba 2 rfl fun hn hb _=>?_
 subst hn
 have hb':set.length*8≤140737488355328:=hb
 rw [psE] at h
 have Au:=fun {pm ps:Option Addr}{nm cm n c:Nat}=>Ds (P:=P) (M:=M) (pm:=pm) (ps:=ps) (nm:=nm) (cm:=cm) (n:=n) (c:=c) (md:=md) (rows:=rows) (N:=N) hN rfl
 by_cases h0:Pg P M md N rows=0
 ·rw [if_neg (fun e=>e h0)] at h
  rw [h0] at Au
  by_cases h1:Yk N set
  ·rw [if_neg (fun e=>e h1)] at h
   have C5:=fun {ps:Option Addr}{nn c:Nat}=>Gm (ps:=ps) (nn:=nn) (c:=c) (n:=N) (l:=set) (decide_eq_true h1)
   by_cases h2:(set.length:Int)=N
   ·rw [if_pos h2] at h
    subst h
    refine wk 30 (ct @Au (ct @C5 cz)) ?_
    intro b1 h3 h4
    exact ge
   ·rw [if_neg h2] at h
    subst h
    refine wk 30 (ct @Au (ct @C5 cz)) ?_
    intro b1 h3 h4
    exact ge
  ·rw [if_pos h1] at h
   subst h
   have C5:=fun {ps:Option Addr}{nn c:Nat}=>Gm (ps:=ps) (nn:=nn) (c:=c) (n:=N) (l:=set) (decide_eq_false h1)
   refine wk 22 (ct @Au (ct @C5 cz)) ?_
   intro b1 h2
   exact ge
 ·rw [if_pos h0] at h
  subst h
  refine wk 14 (ct @Au cz) ?_
  intro b1 h1
  exact ge
theorem Tx {N:Nat}(K:Fok p m md) (hN:N≤64) (hl:rows.length≤256) (hM:Cw (p ^ m) N rows) (hst:Yk N set) (hne:set.length≠N) :
  Bt Tryz.prog 55 [.agg #[.int .i64 p,.int .i64 m,.slice pm nm cm],.agg #[.int .i64 N,.slice ps n c],.slice pt ns cs'] [] [Ap Ai pm nm cm md,Ap (Aj Ai) ps n c rows,Ap Ai pt ns cs' set]
   (Xc p m ((Co N [set]).length:Nat) md (Dh p m md (Co N [set]).length (rows.map fun r=>Tc r (Co N [set]))).1 0):=by
 refine Ab (F:=AAB) rfl fun C=>?_
 have O:=C1 K
 have hol:=ACg hst
 have ho64:(Co N [set]).length≤64:=by omega
 have ho1:1≤(Co N [set]).length:=by omega
 have hor:∀ x∈Co N [set],0≤x∧x<(N:Int):=(Y1 N [set]).1
 have hPM:Cw (p ^ m) (Co N [set]).length (rows.map fun r=>Tc r (Co N [set])):=O.pk_mat hM _
 have hRl:(rows.map fun r=>Tc r (Co N [set])).length≤256:=by rw [List.length_map];exact hl
 have Nn:=fun {ps:Option Addr}{nn c:Nat}=>(Tv (ps:=ps) (nn:=nn) (c:=c) (n:=N) (l:=set) (by omega)).pubR (by show _*8≤140737488355328;omega)
 have Jj:=fun {pm ps pt:Option Addr}{nm cm n c ns cs':Nat}=>Ky (pm:=pm) (ps:=ps) (pt:=pt) (nm:=nm) (cm:=cm) (n:=n) (c:=c) (ns:=ns) (cs':=cs') K (show N≤256 by omega) hl hM (show (Co N [set]).length≤256 by omega) hor
 have Df:=fun {pm ps:Option Addr}{nm cm n c:Nat}=>Io (pm:=pm) (ps:=ps) (nm:=nm) (cm:=cm) (n:=n) (c:=c) (N:=(Co N [set]).length) (rows:=rows.map fun r=>Tc r (Co N [set])) K ho1 ho64 hRl hPM
 generalize (rows.map fun r=>Tc r (Co N [set]))=R at *
 generalize Co N [set]=T at *
 refine wk 6 cz ?_
 intro b1 b2 b3
 (apply Fz (x0:=none) it mx 0 10 [9] 1;(· rfl);(· rfl);(· rfl);(· decide))
 simp only [List.drop_zero]
 (apply Ac;(· rfl);(· exact Cy 2 rfl rfl Hy rfl))
 (apply Ac;(· rfl);(· exact Cy 1 rfl rfl F6 rfl))
 (apply A3 1;(· rfl);(· simp))
 (apply Ac;(· rfl);(· exact Cg fun _=>Aq rfl I4 An))
 (apply Ac;(· rfl);(· exact Ca 1 rfl rfl Ci rfl))
 (apply Ih;(· rfl);(· exact Cg fun _=>Aw [2] rfl (Nn) rfl (by rintro _ _ _ ⟨pa1,ca1,rfl,rfl,rfl⟩;exact (Lq 0 rfl)));intro pa1 ca1)
 (apply Iz (val:=(fun g=>Value.tuple #[Value.agg #[Value.int IntKind.i64 ↑T.length,Value.slice (g 0).fst rows.length (g 1).snd.fst],Value.int IntKind.i64 0])) (f:=(fun g=>[Ap (Aj Ai) (g 0).fst rows.length (g 1).snd.fst R]));(· rfl);(· exact Cg fun _=>Aw [1,2,0] rfl (Jj) rfl (by rintro _ _ _ ⟨pbg0,cbg1,rfl,rfl,rfl⟩;exact fun _ _ _ hG=>⟨(fun|0=>(pbg0,0,0,[])|1=>(none,cbg1,0,[])|_=>default),rfl,fun g hg=>Ey (hG _ (List.mem_append_left _ hg))⟩));intro g1;dsimp only [List.map_cons,List.map_nil])
 (apply G1 [16] (fun vs=>vs.getD 0 undef) (v:=Value.tuple #[Value.agg #[Value.int IntKind.i64 ↑T.length,Value.slice (g1 0).fst rows.length (g1 1).snd.fst],Value.int IntKind.i64 0]);(· rfl);(· rfl);(· rfl);(· rfl);(· exact Cg fun _=>Kc it rfl (by trivial) An))
 (apply G1 [9] (fun vs=>match vs.getD 0 undef with | .tuple a=>a.getD 0 undef|_=>undef) (v:=Value.agg #[Value.int IntKind.i64 ↑T.length,Value.slice (g1 0).fst rows.length (g1 1).snd.fst]);(· rfl);(· rfl);(· rfl);(· rfl);(· exact Cg fun _=>Kc it rfl (by trivial) An))
 (apply Ac;(· rfl);(· exact Cg fun _=>Kc it rfl (by trivial) An))
 refine Fo rfl ?_
 (rotate_left;rfl;rotate_right)
 simp only [List.map_cons,List.map_nil,List.cons_append,List.nil_append]
 refine Gr it rfl rfl ⟨⟨_,_,_,_,rfl,rfl,rfl,rfl,rfl,rfl,(by first|trivial|(repeat' first|exact trivial|apply And.intro|omega))⟩,trivial⟩ (A8 1 rfl rfl rfl F6 rfl rfl (by simp [Value.oneCell']) ?_)
 refine Ib it ⟨⟨_,_,_,_,rfl,rfl,rfl,rfl,rfl,rfl,(by first|trivial|(repeat' first|exact trivial|apply And.intro|omega))⟩,trivial⟩ ?_
 refine wk 13 (ct @Df cz) ?_
 intro h1 pb1 pc1 nb1 cb1 nc1 cc1
 refine Bj [0,1] rfl (.agg 0 rfl rfl Cs rfl (.tmp rfl .nil)) rfl ⟨_,_,_,_,_,_,rfl,rfl,rfl⟩
end
open Go Go.Fw
set_option maxRecDepth 100000
set_option linter.unusedVariables false
set_option linter.unusedSimpArgs false
set_option maxHeartbeats 0
structure CR where
 P:Int
 M:Int
 N:Int
 md:List Int
 rows:List (List Int)
 e:Int
abbrev CdX (x:CR):Value→List Fact→List A4→Prop:=Xc x.P x.M x.N x.md x.rows x.e
abbrev zeR (e:Int):CR:=⟨0,0,0,[],[],e⟩
theorem AHF {n:Nat}{set:List Int}(h:Yk n set):Co n [Co n [set]]=set:=by
 have e:(Co n [Co n [set]]).map Int.toNat=set.map Int.toNat:=by
  refine Yt ?_ ?_ fun x=>?_
  ·rw [List.pairwise_map]
   have h2:=Y1 n [Co n [set]]
   refine List.Pairwise.imp_of_mem (fun {a b} ha hb hab=>?_) h2.2
   have:=h2.1 a ha;have:=h2.1 b hb;omega
  ·rw [List.pairwise_map]
   refine List.Pairwise.imp_of_mem (fun {a b} ha hb hab=>?_) h.2
   have:=h.1 a ha;have:=h.1 b hb;omega
  ·rw [List.mem_map,List.mem_map]
   constructor
   ·rintro ⟨y,hy,rfl⟩
    obtain ⟨⟨h0,h1⟩,h2⟩:=N5.1 hy
    have h3:=h2 _ (.head _)
    refine ⟨y,Classical.byContradiction fun hn=>h3 (N5.2 ⟨⟨h0,h1⟩,fun l hl=>?_⟩),rfl⟩
    rw [List.mem_singleton.1 hl];exact hn
   ·rintro ⟨y,hy,rfl⟩
    refine ⟨y,N5.2 ⟨h.1 y hy,fun l hl hm=>?_⟩,rfl⟩
    rw [List.mem_singleton.1 hl] at hm
    exact (N5.1 hm).2 _ (.head _) hy
 have hb:=fun (l:List Int) (hl:∀ x∈l,0≤x)=>show (l.map Int.toNat).map (fun i:Nat=>(i:Int))=l by
  rw [List.map_map]
  conv=>rhs;rw [← List.map_id l]
  exact List.map_congr_left fun x hx=>Int.toNat_of_nonneg (hl x hx)
 rw [← hb (Co n [Co n [set]]) fun x hx=>((Y1 _ _).1 x hx).1,e,hb set fun x hx=>(h.1 x hx).1]
noncomputable def puX (P M:Int) (md:List Int) (N:Int) (rows:List (List Int)) (set:List Int):CR :=
 if psE P M md N rows set=0 then ⟨P,M,((Co N.toNat [set]).length:Nat),md,(Dh P.toNat M.toNat md (Co N.toNat [set]).length (rows.map fun r=>Tc r (Co N.toNat [set]))).1,0⟩ else zeR (psE P M md N rows set)
noncomputable def shX (P M:Int) (md:List Int) (N:Int) (rows:List (List Int)) (set:List Int):CR :=
 if psE P M md N rows set=0 then ⟨P,M,((Co N.toNat [set]).length:Nat),md,(Dh P.toNat M.toNat md (Co N.toNat [set]).length ((wiP P.toNat M.toNat md N.toNat rows set).map fun r=>Tc r (Co N.toNat [set]))).1,0⟩ else zeR (psE P M md N rows set)
theorem AD5 {p m n:Nat}{md set:List Int}{rows:List (List Int)}(h:psE p m md n rows set=0):puX p m md n rows set=⟨p,m,((Co n [set]).length:Nat),md,(Dh p m md (Co n [set]).length (rows.map fun r=>Tc r (Co n [set]))).1,0⟩:=by
 rw [puX,if_pos h];simp only [Int.toNat_natCast]
theorem ADP {p m n:Nat}{md set:List Int}{rows:List (List Int)}(h:psE p m md n rows set=0):shX p m md n rows set=⟨p,m,((Co n [set]).length:Nat),md,(Dh p m md (Co n [set]).length ((wiP p m md n rows set).map fun r=>Tc r (Co n [set]))).1,0⟩:=by
 rw [shX,if_pos h];simp only [Int.toNat_natCast]
theorem AKC {p m n:Nat}{md set:List Int}{rows:List (List Int)}(CC:Cok p m md n rows):Cw (p ^ m) n (wiP p m md n rows set)∧(wiP p m md n rows set).length≤n:=by
 have O:=C1 CC.K
 have hc:Cw (p ^ m) rows.length (set.map fun j=>Ft rows j.toNat):=fun r hr=>by
  obtain ⟨j,_,rfl⟩:=List.mem_map.1 hr
  exact Jt (by have:=O.q2;omega) CC.mat _
 obtain ⟨h1,h2⟩:=Wc CC.K (O.wo_mat CC.mat hc)
 exact ⟨(O.wi CC.mat hc).1,Nat.le_trans (Nat.le_of_eq h1) h2⟩
section
variable {P M:Int}{n c nm cm ns cs':Nat}{pm ps pt:Option Addr}{md set:List Int}{rows:List (List Int)}
theorem Nh {N:Int}(hN:Bv .i64 N):Bt Tryz.prog 15 [.agg #[.int .i64 P,.int .i64 M,.slice pm nm cm,.int .i64 N,.slice ps n c],.slice pt ns cs'] [] [Ap Ai pm nm cm md,Ap (Aj Ai) ps n c rows,Ap Ai pt ns cs' set] (CdX (puX P M md N rows set)):=by
 refine Ab (F:=V4) rfl fun C=>?_
 have hr:=AFx P M md N rows set
 have Dg:=fun {pm ps pt:Option Addr}{nm cm n c ns cs':Nat}=>L7 (P:=P) (M:=M) (pm:=pm) (ps:=ps) (pt:=pt) (nm:=nm) (cm:=cm) (n:=n) (c:=c) (ns:=ns) (cs':=cs') (md:=md) (set:=set) (rows:=rows) hN rfl
 by_cases h0:psE P M md N rows set=0
 ·obtain ⟨p,m,n',rfl,rfl,rfl,CC,hst,hne⟩:=AJK h0
  rw [h0] at Dg
  rw [AD5 h0]
  have h64:=CC.n64
  have P8:=fun {P M N:Int}{pm ps:Option Addr}{nm cm n c:Nat}=>Vi (P:=P) (M:=M) (N:=N) (pm:=pm) (ps:=ps) (nm:=nm) (cm:=cm) (n:=n) (c:=c)
  have Nq:=fun {pm ps pt:Option Addr}{nm cm n c ns cs':Nat}=>Tx (pm:=pm) (ps:=ps) (pt:=pt) (nm:=nm) (cm:=cm) (n:=n) (c:=c) (ns:=ns) (cs':=cs') CC.K h64 (by have:=CC.len;omega) CC.mat hst hne
  refine wk 14 (ct @Dg cz) ?_
  intro b1 b2 h1
  (apply E5 it mx 8;(· rfl);(· rfl))
  (apply Ac;(· rfl);(· exact Cg fun _=>Aq rfl Ug An))
  (apply Ac;(· rfl);(· exact Ji 1 rfl rfl Hy rfl rfl))
  (apply Ac;(· rfl);(· exact Cy 1 rfl rfl Cs rfl))
  (apply Ac;(· rfl);(· exact Cg fun _=>Aw [] rfl (P8) rfl (by rintro _ _ _ ⟨rfl,rfl,rfl⟩;exact An)))
  (apply A3 1;(· rfl);(· simp))
  (apply Iz (val:=(fun g=>Value.tuple #[Value.agg #[Value.int IntKind.i64 ↑p,Value.int IntKind.i64 ↑m,Value.slice (g 0).fst (g 2).snd.fst (g 3).snd.fst,Value.int IntKind.i64 ↑(Co n' [set]).length,Value.slice (g 1).fst (g 4).snd.fst (g 5).snd.fst],Value.int IntKind.i64 0])) (f:=(fun g=>[Ap Ai (g 0).fst (g 2).snd.fst (g 3).snd.fst md,Ap (Aj Ai) (g 1).fst (g 4).snd.fst (g 5).snd.fst (Dh p m md (Co n' [set]).length (List.map (fun r=>Tc r (Co n' [set])) rows)).fst]));(· rfl);(· exact Cg fun _=>Aw [0,1,2] rfl (Nq) rfl (by rintro _ _ _ ⟨pbg0,pcg1,nbg2,cbg3,ncg4,ccg5,rfl,rfl,rfl⟩;exact fun _ _ _ hG=>⟨(fun|0=>(pbg0,0,0,[])|1=>(pcg1,0,0,[])|2=>(none,nbg2,0,[])|3=>(none,cbg3,0,[])|4=>(none,ncg4,0,[])|5=>(none,ccg5,0,[])|_=>default),rfl,fun g hg=>Ey (hG _ (List.mem_append_left _ hg))⟩));intro g1;dsimp only [List.map_cons,List.map_nil])
  (apply G1 [19] (fun vs=>match vs.getD 0 undef with | .tuple a=>a.getD 0 undef|_=>undef) (v:=Value.agg #[Value.int IntKind.i64 ↑p,Value.int IntKind.i64 ↑m,Value.slice (g1 0).fst (g1 2).snd.fst (g1 3).snd.fst,Value.int IntKind.i64 ↑(Co n' [set]).length,Value.slice (g1 1).fst (g1 4).snd.fst (g1 5).snd.fst]);(· rfl);(· rfl);(· rfl);(· rfl);(· exact Cg fun _=>Kc it rfl (by trivial) An))
  (apply Ac;(· rfl);(· exact Cg fun _=>Kc it rfl (by trivial) An))
  refine Et rfl ?_
  simp only [List.map_cons,List.map_nil,List.cons_append,List.nil_append]
  refine wk 3 cz ?_
  refine Bj [0,1] rfl (.agg 0 rfl rfl Cs rfl (.tmp rfl .nil)) rfl ⟨_,_,_,_,_,_,rfl,rfl,rfl⟩
 ·rw [puX,if_neg h0]
  generalize psE P M md N rows set=e at *
  refine Eh (Ap Ai none 0 0 []) (fun w A _=>Do _ w A none 0) ?_
  refine Eh (Ap (Aj Ai) none 0 0 []) (fun w A _=>Do _ w A none 0) ?_
  refine wk 19 (ct @Dg cz) ?_
  intro b1 b2 h1
  refine Bj [1,0] rfl (.agg 0 rfl rfl Cs rfl (.tmp rfl .nil)) rfl ⟨_,_,_,_,_,_,rfl,rfl,rfl⟩
theorem Of {N:Int}(hN:Bv .i64 N):Bt Tryz.prog 18 [.agg #[.int .i64 P,.int .i64 M,.slice pm nm cm,.int .i64 N,.slice ps n c],.slice pt ns cs'] [] [Ap Ai pm nm cm md,Ap (Aj Ai) ps n c rows,Ap Ai pt ns cs' set] (CdX (shX P M md N rows set)):=by
 refine Ab (F:=Ws) rfl fun C=>?_
 have hr:=AFx P M md N rows set
 have Dg:=fun {pm ps pt:Option Addr}{nm cm n c ns cs':Nat}=>L7 (P:=P) (M:=M) (pm:=pm) (ps:=ps) (pt:=pt) (nm:=nm) (cm:=cm) (n:=n) (c:=c) (ns:=ns) (cs':=cs') (md:=md) (set:=set) (rows:=rows) hN rfl
 by_cases h0:psE P M md N rows set=0
 ·obtain ⟨p,m,n',rfl,rfl,rfl,CC,hst,hne⟩:=AJK h0
  rw [h0] at Dg
  rw [ADP h0]
  have h64:=CC.n64
  have hol:=ACg hst
  obtain ⟨hWM,hWl⟩:=AKC (set:=set) CC
  have P8:=fun {P M N:Int}{pm ps:Option Addr}{nm cm n c:Nat}=>Vi (P:=P) (M:=M) (N:=N) (pm:=pm) (ps:=ps) (nm:=nm) (cm:=cm) (n:=n) (c:=c)
  have Nn:=fun {ps:Option Addr}{nn c:Nat}=>(Tv (ps:=ps) (nn:=nn) (c:=c) (n:=n') (l:=set) (by omega)).pubR (by show _*8≤140737488355328;omega)
  have M6:=fun {pm ps pt:Option Addr}{nm cm n c ns cs':Nat}=>Rq (pm:=pm) (ps:=ps) (pt:=pt) (nm:=nm) (cm:=cm) (n:=n) (c:=c) (ns:=ns) (cs':=cs') CC (Y1 n' [set])
  rw [AHF hst] at M6
  have Nq:=fun {pm ps pt:Option Addr}{nm cm n c ns cs':Nat}=>Tx (pm:=pm) (ps:=ps) (pt:=pt) (nm:=nm) (cm:=cm) (n:=n) (c:=c) (ns:=ns) (cs':=cs') CC.K h64 (by omega) hWM hst hne
  generalize wiP p m md n' rows set=W at *
  refine wk 14 (ct @Dg cz) ?_
  intro b1 b2 h1
  (apply Fz (x0:=none) it mx 0 13 [11] 1;(· rfl);(· rfl);(· rfl);(· decide))
  simp only [List.drop_zero]
  (apply Ac;(· rfl);(· exact Cg fun _=>Aq rfl Ug An))
  (apply Ac;(· rfl);(· exact Ji 1 rfl rfl Hy rfl rfl))
  (apply Ac;(· rfl);(· exact Cy 1 rfl rfl Cs rfl))
  (apply Ac;(· rfl);(· exact Cg fun _=>Aw [] rfl (P8) rfl (by rintro _ _ _ ⟨rfl,rfl,rfl⟩;exact An)))
  (apply A3 1;(· rfl);(· simp))
  (apply Ac;(· rfl);(· exact Cg fun _=>Aq rfl Kt An))
  (apply Ac;(· rfl);(· exact Ca 1 rfl rfl Ci rfl))
  (apply Ih;(· rfl);(· exact Cg fun _=>Aw [2] rfl (Nn) rfl (by rintro _ _ _ ⟨pa1,ca1,rfl,rfl,rfl⟩;exact (Lq 0 rfl)));intro pa1 ca1)
  (apply Iz (val:=(fun g=>Value.tuple #[Value.agg #[Value.int IntKind.i64 ↑n',Value.slice (g 0).fst W.length (g 1).snd.fst],Value.int IntKind.i64 0])) (f:=(fun g=>[Ap (Aj Ai) (g 0).fst W.length (g 1).snd.fst W]));(· rfl);(· exact Cg fun _=>Aw [1,2,0] rfl (M6) rfl (by rintro _ _ _ ⟨pbg0,cbg1,rfl,rfl,rfl⟩;exact fun _ _ _ hG=>⟨(fun|0=>(pbg0,0,0,[])|1=>(none,cbg1,0,[])|_=>default),rfl,fun g hg=>Ey (hG _ (List.mem_append_left _ hg))⟩));intro g1;dsimp only [List.map_cons,List.map_nil])
  (apply G1 [25] (fun vs=>vs.getD 0 undef) (v:=Value.tuple #[Value.agg #[Value.int IntKind.i64 ↑n',Value.slice (g1 0).fst W.length (g1 1).snd.fst],Value.int IntKind.i64 0]);(· rfl);(· rfl);(· rfl);(· rfl);(· exact Cg fun _=>Kc it rfl (by trivial) An))
  (apply G1 [16] (fun vs=>match vs.getD 0 undef with | .tuple a=>a.getD 0 undef|_=>undef) (v:=Value.agg #[Value.int IntKind.i64 ↑n',Value.slice (g1 0).fst W.length (g1 1).snd.fst]);(· rfl);(· rfl);(· rfl);(· rfl);(· exact Cg fun _=>Kc it rfl (by trivial) An))
  (apply Ac;(· rfl);(· exact Cg fun _=>Kc it rfl (by trivial) An))
  (apply Hj;(· rfl);(· exact G9);intro b3)
  refine Fo rfl ?_
  (rotate_left;rfl;rotate_right)
  simp only [List.map_cons,List.map_nil,List.cons_append,List.nil_append]
  refine Gr it rfl rfl ⟨⟨_,_,_,_,rfl,rfl,rfl,rfl,rfl,rfl,(by first|trivial|(repeat' first|exact trivial|apply And.intro|omega))⟩,trivial⟩ (A8 0 rfl rfl rfl F6 rfl rfl (by simp [Value.oneCell']) ?_)
  refine Ib it ⟨⟨_,_,_,_,rfl,rfl,rfl,rfl,rfl,rfl,(by first|trivial|(repeat' first|exact trivial|apply And.intro|omega))⟩,trivial⟩ ?_
  refine wk 15 (ct @Nq cz) ?_
  intro h2 pb1 pc1 nb1 cb1 nc1 cc1
  refine Bj [0,1] rfl (.agg 1 rfl rfl Cs rfl (.tmp rfl .nil)) rfl ⟨_,_,_,_,_,_,rfl,rfl,rfl⟩
 ·rw [shX,if_neg h0]
  generalize psE P M md N rows set=e at *
  refine Eh (Ap Ai none 0 0 []) (fun w A _=>Do _ w A none 0) ?_
  refine Eh (Ap (Aj Ai) none 0 0 []) (fun w A _=>Do _ w A none 0) ?_
  refine wk 19 (ct @Dg cz) ?_
  intro b1 b2 h1
  refine Bj [1,0] rfl (.agg 0 rfl rfl Cs rfl (.tmp rfl .nil)) rfl ⟨_,_,_,_,_,_,rfl,rfl,rfl⟩
end
open Go Go.Fw
set_option maxRecDepth 100000
set_option linter.unusedVariables false
set_option linter.unusedSimpArgs false
set_option maxHeartbeats 0
abbrev onW (n:Nat):List Int:=List.replicate n 1
theorem on_wd {p m:Nat}{md:List Int}(K:Fok p m md) (n:Nat):Wd (p ^ m) n (onW n):=⟨List.length_replicate,fun x hx=>by rw [List.eq_of_mem_replicate hx];have:=K.fi.q2;omega⟩
theorem Xl {p m:Nat}{md:List Int}(K:Fok p m md) (n:Nat):Cw (p ^ m) n [onW n]:=fun r hr=>by rw [List.mem_singleton.1 hr];exact on_wd K n
noncomputable abbrev onP (p m:Nat) (md:List Int) (n:Nat):List (List Int):=(Dh p m md n [onW n]).1
section
variable {p m n c nm cm N:Nat}{P M:Int}{pm ps:Option Addr}{md:List Int}{rows:List (List Int)}
theorem Tp (K:Fok p m md) (h1:1≤N) (hN:N≤64):Bt Tryz.prog 78 [.agg #[.int .i64 p,.int .i64 m,.slice pm nm cm,.int .i64 N,.slice ps n c]] [] [Ap Ai pm nm cm md] (Xc p m N md (onP p m md N) 0):=by
 refine Ab (F:=AAU) rfl fun C=>?_
 have Df:=fun {pm ps:Option Addr}{nm cm n c:Nat}=>Io (pm:=pm) (ps:=ps) (nm:=nm) (cm:=cm) (n:=n) (c:=c) (N:=N) (rows:=[onW N]) K h1 hN (show 1≤256 by omega) (Xl K N)
 refine wk 14 cz ?_
 intro b1 b2 b3
 rw [show Ao .i64 (List.replicate N 0)=Al .i64 (List.replicate 0 1++List.replicate (N-0) 0) by simp [Ao,Al]]
 refine Ah (X:=Nat) [1,2,3,4,10] [0] (fun i=>[(11,.int .i64 (i:Int))]) (fun i=>(some b3,3,Al .i64 (List.replicate i 1++List.replicate (N-i) 0))::_) (fun _=>[]) (fun i=>i≤N) (fun i=>N-i) 0 [] rfl rfl rfl (Nat.zero_le _) (by repeat (first|exact Fr.sub_nil _|refine Fr.sub_cons rfl ?_)) rfl rfl ?_
 rintro i hi ih
 simp only [List.cons_append,List.nil_append] at hi ih ⊢
 by_cases h9:i<N
 ·have ih':=ih (i+1) (by omega) (by omega)
  have hset:(List.replicate i (1:Int)++List.replicate (N-i) 0).set i 1=List.replicate (i+1) 1++List.replicate (N-(i+1)) 0:=by
   obtain ⟨k,hk⟩:∃ k,N-i=k+1:=⟨N-i-1,by omega⟩
   rw [hk,List.replicate_succ (n:=k),List.set_append_right _ _ (by simp),List.length_replicate,Nat.sub_self,List.set_cons_zero,show N-(i+1)=k by omega,List.replicate_succ' (n:=i),List.append_assoc]
   rfl
  rw [← hset] at ih'
  have hln:(List.replicate i (1:Int)++List.replicate (N-i) 0).length=N:=by simp;omega
  generalize List.replicate i (1:Int)++List.replicate (N-i) 0=L at *
  clear ih
  refine wk 13 cz ?_
  intro h2
  exact tw (ih')
 ·obtain rfl:i=N:=by omega
  rw [Nat.sub_self,List.replicate_zero,List.append_nil]
  clear ih
  refine Bk 0 rfl (show i=(onW i).length from List.length_replicate.symm) (fun x hx=>by rw [List.eq_of_mem_replicate hx];simp only [Bv];omega) (by omega) ?_
  refine C4 0 0 rfl rfl (by show i*8≤140737488355328;omega) ?_
  simp only [List.eraseIdx_cons_zero]
  refine wk 12 cz ?_
  intro h2 b4
  refine Cb (E:=(Aj (Ai))) (n:=1) [[Value.slice (some { block:=b3,off:=0 }) i i]] [List.replicate i 1] 0 (fun w A hG=>(Az (A2 (hG _ (Af (n:=0) rfl))) Bd)) rfl rfl rfl rfl (by first|decide|exact Nat.le_of_ble_eq_true rfl) (by first|decide|exact Nat.le_of_ble_eq_true rfl) ?_
  refine wk 5 (ct @Df cz) ?_
  intro pb1 pc1 nb1 cb1 nc1 cc1
  refine Bj [0,1] rfl (.agg 0 rfl rfl Cs rfl (.tmp rfl .nil)) rfl ⟨_,_,_,_,_,_,rfl,rfl,rfl⟩
end
open Go Go.Fw
set_option maxRecDepth 100000
set_option linter.unusedVariables false
set_option linter.unusedSimpArgs false
set_option maxHeartbeats 0
noncomputable abbrev exP (p m:Nat) (md:List Int) (n:Nat) (rows:List (List Int)):List (List Int):=Li p m md n (Li p m md n rows++[onW n])
noncomputable abbrev auP (p m:Nat) (md:List Int) (n:Nat) (rows:List (List Int)):List (List Int):=(Dh p m md n (rows++[onW n])).1
theorem ABV {p m N:Nat}{md:List Int}(K:Fok p m md) (h1:1≤N) (h2:N≤64):Cok p m md N (onP p m md N):=Cok.cn K h1 h2 (Xl K N)
theorem ALF {p m N:Nat}{md:List Int}{rows:List (List Int)}(CC:Cok p m md N rows):Li p m md N (Li p m md N rows++Li p m md N (Li p m md N (onP p m md N)))=exP p m md N rows:=by
 have O:=C1 CC.K
 have CO:=ABV CC.K CC.n1 CC.n64
 have hM:=Xl CC.K N
 refine O.nu_congr (H8 CC.nu.mat CO.nu.nu.mat) (H8 CC.nu.mat hM) fun x hx=>?_
 rw [M4,M4]
 refine and_congr_right fun _=>?_
 rw [show Li p m md N (Li p m md N (onP p m md N))=(Dh p m md N (onP p m md N)).1 from O.nu_nu CO.mat,CO.can]
 exact (O.cn hM).2 x hx
theorem ALV {p m N:Nat}{md:List Int}{rows:List (List Int)}(CC:Cok p m md N rows):(Dh p m md N (rows++onP p m md N)).1=auP p m md N rows:=by
 have O:=C1 CC.K
 have CO:=ABV CC.K CC.n1 CC.n64
 have hM:=Xl CC.K N
 have:=O.cn_congr (H8 CC.mat CO.mat) (H8 CC.mat hM) fun x hx=>by
  rw [M4,M4]
  exact and_congr_right fun _=>(O.cn hM).2 x hx
 exact congrArg Prod.fst this
noncomputable def exX (P M:Int) (md:List Int) (N:Int) (rows:List (List Int)):CR:=if Pg P M md N rows=0 then ⟨P,M,N,md,exP P.toNat M.toNat md N.toNat rows,0⟩ else zeR (Pg P M md N rows)
noncomputable def auX (P M:Int) (md:List Int) (N:Int) (rows:List (List Int)):CR:=if Pg P M md N rows=0 then ⟨P,M,N,md,auP P.toNat M.toNat md N.toNat rows,0⟩ else zeR (Pg P M md N rows)
noncomputable def sbE (P M:Int) (md:List Int) (N:Int) (rows:List (List Int)) (set:List Int):Int:=if Pg P M md N rows≠0 then Pg P M md N rows else if Yk (rows.length:Nat) set then 0 else 6
noncomputable abbrev sbL (rows:List (List Int)) (set:List Int):List (List Int):=set.map fun i=>Ar rows i.toNat
noncomputable def sbX (P M:Int) (md:List Int) (N:Int) (rows:List (List Int)) (set:List Int):CR:=if sbE P M md N rows set=0 then ⟨P,M,N,md,(Dh P.toNat M.toNat md N.toNat (sbL rows set)).1,0⟩ else zeR (sbE P M md N rows set)
theorem AEp {p m n:Nat}{md:List Int}{rows:List (List Int)}(CC:Cok p m md n rows):exX p m md n rows=⟨p,m,n,md,exP p m md n rows,0⟩:=by
 rw [exX,if_pos CC.ck];simp only [Int.toNat_natCast]
theorem AEl {p m n:Nat}{md:List Int}{rows:List (List Int)}(CC:Cok p m md n rows):auX p m md n rows=⟨p,m,n,md,auP p m md n rows,0⟩:=by
 rw [auX,if_pos CC.ck];simp only [Int.toNat_natCast]
theorem AHe {p m n:Nat}{md set:List Int}{rows:List (List Int)}(CC:Cok p m md n rows) (hst:Yk (rows.length:Nat) set):sbX p m md n rows set=⟨p,m,n,md,(Dh p m md n (sbL rows set)).1,0⟩:=by
 rw [sbX,if_pos (by rw [sbE,if_neg (fun e=>e CC.ck),if_pos hst])];simp only [Int.toNat_natCast]
theorem AJ8 {p m n:Nat}{md set:List Int}{rows:List (List Int)}(CC:Cok p m md n rows) (hst:Yk (rows.length:Nat) set):Cw (p ^ m) n (sbL rows set):=fun r hr=>by
 obtain ⟨i,hi,rfl⟩:=List.mem_map.1 hr
 have:=hst.1 i hi
 exact CC.mat.row (by omega)
section
variable {P M:Int}{n c nm cm ns cs':Nat}{pm ps pt:Option Addr}{md set:List Int}{rows:List (List Int)}
theorem Lz {N:Int}(hN:Bv .i64 N):Bt Tryz.prog 28 [.agg #[.int .i64 P,.int .i64 M,.slice pm nm cm,.int .i64 N,.slice ps n c]] [] [Ap Ai pm nm cm md,Ap (Aj Ai) ps n c rows] (CdX (exX P M md N rows)):=by
 refine Ab (F:=Ul) rfl fun C=>?_
 have hr:=Pv P M md N rows
 have Au:=fun {pm ps:Option Addr}{nm cm n c:Nat}=>Ds (P:=P) (M:=M) (pm:=pm) (ps:=ps) (nm:=nm) (cm:=cm) (n:=n) (c:=c) (md:=md) (rows:=rows) (N:=N) hN rfl
 by_cases h0:Pg P M md N rows=0
 ·obtain ⟨p,m,n',rfl,rfl,rfl,CC⟩:=Z4 h0
  rw [h0] at Au
  rw [AEp CC,← ALF CC]
  have CO:=ABV CC.K CC.n1 CC.n64
  have CD:=CO.nu
  have No:=fun {pm ps:Option Addr}{nm cm n c:Nat}=>Tp (pm:=pm) (ps:=ps) (nm:=nm) (cm:=cm) (n:=n) (c:=c) CC.K CC.n1 CC.n64
  have Gc:=fun {pm ps:Option Addr}{nm cm n c:Nat}=>Jb (pm:=pm) (ps:=ps) (nm:=nm) (cm:=cm) (n:=n) (c:=c) CO
  have AC0:=fun {pm ps p2 pm2:Option Addr}{nm cm n c n2 c2 nm2 cm2:Nat}=>AAd (pm:=pm) (nm:=nm) (cm:=cm) (ps:=ps) (n:=n) (c:=c) (p2:=p2) (n2:=n2) (c2:=c2) (pm2:=pm2) (nm2:=nm2) (cm2:=cm2) CC CD
  refine wk 41 (ct @Au (ct @No (ct @Gc (ct @AC0 cz)))) ?_
  intro b1 b2 h1 pb1 pc1 nb1 cb1 nc1 cc1 b3 h2 pb2 pc2 nb2 cb2 nc2 cc2 h3 pb3 pc3 nb3 cb3 nc3 cc3
  refine Bj [0,1] rfl (.agg 1 rfl rfl Cs rfl (.tmp rfl .nil)) rfl ⟨_,_,_,_,_,_,rfl,rfl,rfl⟩
 ·rw [exX,if_neg h0]
  generalize Pg P M md N rows=e at *
  refine Eh (Ap Ai none 0 0 []) (fun w A _=>Do _ w A none 0) ?_
  refine Eh (Ap (Aj Ai) none 0 0 []) (fun w A _=>Do _ w A none 0) ?_
  refine wk 18 (ct @Au cz) ?_
  intro b1 b2 h1
  refine Bj [1,0] rfl (.agg 0 rfl rfl Cs rfl (.tmp rfl .nil)) rfl ⟨_,_,_,_,_,_,rfl,rfl,rfl⟩
theorem Pf {N:Int}(hN:Bv .i64 N):Bt Tryz.prog 30 [.agg #[.int .i64 P,.int .i64 M,.slice pm nm cm,.int .i64 N,.slice ps n c]] [] [Ap Ai pm nm cm md,Ap (Aj Ai) ps n c rows] (CdX (auX P M md N rows)):=by
 refine Ab (F:=Xf) rfl fun C=>?_
 have hr:=Pv P M md N rows
 have Au:=fun {pm ps:Option Addr}{nm cm n c:Nat}=>Ds (P:=P) (M:=M) (pm:=pm) (ps:=ps) (nm:=nm) (cm:=cm) (n:=n) (c:=c) (md:=md) (rows:=rows) (N:=N) hN rfl
 by_cases h0:Pg P M md N rows=0
 ·obtain ⟨p,m,n',rfl,rfl,rfl,CC⟩:=Z4 h0
  rw [h0] at Au
  rw [AEl CC,← ALV CC]
  have CO:=ABV CC.K CC.n1 CC.n64
  have No:=fun {pm ps:Option Addr}{nm cm n c:Nat}=>Tp (pm:=pm) (ps:=ps) (nm:=nm) (cm:=cm) (n:=n) (c:=c) CC.K CC.n1 CC.n64
  have Ua:=fun {pm ps p2 pm2:Option Addr}{nm cm n c n2 c2 nm2 cm2:Nat}=>To (pm:=pm) (nm:=nm) (cm:=cm) (ps:=ps) (n:=n) (c:=c) (p2:=p2) (n2:=n2) (c2:=c2) (pm2:=pm2) (nm2:=nm2) (cm2:=cm2) CC CO
  refine wk 31 (ct @Au (ct @No (ct @Ua cz))) ?_
  intro b1 b2 h1 pb1 pc1 nb1 cb1 nc1 cc1 b3 h2 pb2 pc2 nb2 cb2 nc2 cc2
  refine Bj [0,1] rfl (.agg 1 rfl rfl Cs rfl (.tmp rfl .nil)) rfl ⟨_,_,_,_,_,_,rfl,rfl,rfl⟩
 ·rw [auX,if_neg h0]
  generalize Pg P M md N rows=e at *
  refine Eh (Ap Ai none 0 0 []) (fun w A _=>Do _ w A none 0) ?_
  refine Eh (Ap (Aj Ai) none 0 0 []) (fun w A _=>Do _ w A none 0) ?_
  refine wk 18 (ct @Au cz) ?_
  intro b1 b2 h1
  refine Bj [1,0] rfl (.agg 0 rfl rfl Cs rfl (.tmp rfl .nil)) rfl ⟨_,_,_,_,_,_,rfl,rfl,rfl⟩
theorem Ww {N:Int}(hN:Bv .i64 N):Bt Tryz.prog 20 [.agg #[.int .i64 P,.int .i64 M,.slice pm nm cm,.int .i64 N,.slice ps n c],.slice pt ns cs'] [] [Ap Ai pm nm cm md,Ap (Aj Ai) ps n c rows,Ap Ai pt ns cs' set] (CdX (sbX P M md N rows set)):=by
 refine Ab (F:=Xp) rfl fun C=>?_
 refine Ba 1 rfl fun hn hb1 _=>?_
 subst hn
 refine Ba 2 rfl fun hn hb _=>?_
 subst hn
 have hb':set.length*8≤140737488355328:=hb
 have hr:=Pv P M md N rows
 have Au:=fun {pm ps:Option Addr}{nm cm n c:Nat}=>Ds (P:=P) (M:=M) (pm:=pm) (ps:=ps) (nm:=nm) (cm:=cm) (n:=n) (c:=c) (md:=md) (rows:=rows) (N:=N) hN rfl
 by_cases h0:Pg P M md N rows=0
 ·obtain ⟨p,m,n',rfl,rfl,rfl,CC⟩:=Z4 h0
  rw [h0] at Au
  by_cases hst:Yk (rows.length:Nat) set
  ·rw [AHe CC hst]
   have hSM:=AJ8 CC hst
   have hl:=CC.len
   have hSl:set.length≤64:=by have:=ACg hst;omega
   have hLl:(sbL rows set).length=set.length:=List.length_map _
   have C5:=fun {ps:Option Addr}{nn c:Nat}=>Gm (ps:=ps) (nn:=nn) (c:=c) (n:=(rows.length:Nat)) (l:=set) (decide_eq_true hst)
   have Df:=fun {pm ps:Option Addr}{nm cm n c:Nat}=>Io (pm:=pm) (ps:=ps) (nm:=nm) (cm:=cm) (n:=n) (c:=c) (N:=n') (rows:=sbL rows set) CC.K CC.n1 CC.n64 (by omega) hSM
   generalize hG:Dh p m md n' (sbL rows set)=G at *
   clear hG
   refine Am [_,_] rfl ?_
   refine Aa rfl (Cv rfl fun b1=>?_)
   refine Aa rfl (Bl O0 fun b2=>?_)
   refine Ae it 1 rfl (by simp) ?_
   refine Am [_,_,_] rfl ?_
   refine Aa rfl (A1 1 rfl rfl Cs rfl ?_)
   refine Aa rfl (Aw [0,1] rfl (Au) rfl ?_)
   rintro _ _ _ ⟨rfl,rfl,rfl⟩
   simp only [List.cons_append,List.nil_append]
   refine Ae it 1 rfl (by simp) ?_
   refine Am [_,_,_] rfl ?_
   refine Ae it 2 rfl (by simp) ?_
   refine Am [_,_] rfl ?_
   refine Nd rfl rfl (fun h1=>by exfalso;omega) (fun h1=>?_)
   refine Am [_,_,_] rfl ?_
   refine Ae it 1 rfl (by simp) ?_
   refine Aa rfl (Aq rfl R9 ?_)
   refine Aa rfl (Bm 1 rfl rfl H7 rfl ?_)
   refine Aa rfl (Hf D5 rfl ?_)
   refine Aa rfl (Aw [2] rfl (C5) rfl ?_)
   rintro _ _ _ ⟨rfl,rfl,rfl⟩
   simp only [List.cons_append,List.nil_append]
   simp only [decide_true]
   refine Ae it 1 rfl (by simp) ?_
   refine Am [_,_] rfl ?_
   refine K4 rfl rfl ?_
   refine Am [_,_] rfl ?_
   refine Aa rfl (Aq rfl Kt ?_)
   refine Aa rfl (Bm 1 rfl rfl Ci rfl ?_)
   refine Aa rfl (Dn (cs:=[Value.int IntKind.i64 ↑n',Value.slice none 0 0]) Uz G9 rfl rfl ?_)
   refine Aa rfl (Bl G9 fun b3=>?_)
   refine Aa rfl (A8 0 rfl rfl rfl F6 rfl rfl (by simp [Value.oneCell']) ?_)
   refine Am [_,_,_] rfl ?_
   refine Ae it 1 rfl (by simp) ?_
   refine Aa rfl (Hf Ce rfl ?_)
   refine Ae it 1 rfl (by simp) ?_
   refine Am [_,_,_] rfl ?_
   refine F3 (Aj Ai) 22 ?_
   simp only [Cf,De,setB,List.take_succ_cons,List.cons_append,List.nil_append,List.take_zero,List.drop_succ_cons,List.drop_zero,List.length_singleton,Nat.zero_add]
   refine Ah (X:=Nat×Row) [2,4,5,7,26,27] [0,1,2,3] (fun z=>[(28,.int .i64 (z.1:Int))]) (fun z=>(z.2.bo,22,z.2.cs)::(some b3,62,[.int .i64 (n':Nat),.slice (ad z.2.bo) z.1 z.2.cap])::_) (fun z=>[A7 (Aj Ai) z.2 z.1 (sbL rows (set.take z.1))]) (fun z=>z.1≤set.length) (fun z=>set.length-z.1) (0,⟨none,0,[]⟩) [0] rfl rfl rfl (Nat.zero_le _) (by repeat (first|exact Fr.sub_nil _|refine Fr.sub_cons rfl ?_)) rfl rfl ?_
   rintro ⟨i,r⟩ hi ih
   simp only [List.cons_append,List.nil_append] at hi ih ⊢
   by_cases hil:i<set.length
   ·obtain ⟨x,at_x⟩:∃ x,set[i]?=some x:=⟨_,List.getElem?_eq_getElem hil⟩
    obtain ⟨x0,x1⟩:=hst.1 x (List.mem_of_getElem? at_x)
    obtain ⟨u,at_u⟩:∃ u,rows[x.toNat]?=some u:=⟨_,List.getElem?_eq_getElem (by omega)⟩
    have ih1:=fun r=>ih (i+1,r) (by dsimp only;omega) (by dsimp only;omega)
    dsimp only at ih1
    have eu:Ar rows x.toNat=rows.getD x.toNat default:=rfl
    rw [sbL,List.take_add_one (l:=set),at_x,Option.toList_some,List.map_append,List.map_cons,List.map_nil,eu] at ih1
    clear ih
    refine wk 6 cz ?_
    intro h2 b4 o1 hz1
    refine Aa rfl (Av 0 rfl rfl Ci fun ⟨r1,r2⟩=>?_)
    refine wk 2 cz ?_
    (apply E5 it mx 8;(· rfl);(· rfl))
    (apply Ac;(· rfl);(· exact Cg fun _=>Aq rfl Hw An))
    (apply Ac;(· rfl);(· exact Ca 1 rfl rfl H7 rfl))
    (apply Ac;(· rfl);(· exact Cg fun _=>Aq rfl R9 An))
    (apply Ac;(· rfl);(· exact Ca 3 rfl rfl H7 rfl))
    (apply A3 1;(· rfl);(· simp))
    (apply AB3;(· rfl);(· exact Cg fun _=>Iw 4 ((x:Int).toNat) rfl rfl rfl D5 (by omega) (by omega) fun z1 hz2 b5 o2=>(ACy default hz2 0 rfl));intro b5 o2)
    (apply Ih;(· rfl);(· exact Cg fun _=>Y0 0 rfl rfl E7 fun pa1 ca1=>(Lq 0 rfl));intro pa1 ca1)
    (apply Ih;(· rfl);(· exact Cg fun _=>Iu D5 I6 rfl rfl rfl rfl (by decide) (by decide) rfl fun b6=>ACc (E:=(Aj (Ai))) [[Value.slice pa1 (rows.getD x.toNat default).length ca1]] [rows.getD x.toNat default] (fun w A hG=>(Az (A2 (hG _ (Af (n:=0) rfl))) Bd)) rfl rfl rfl (by first|decide|exact Nat.le_of_ble_eq_true rfl));intro pa2 ca2)
    refine Et rfl ?_
    simp only [List.map_cons,List.map_nil,List.cons_append,List.nil_append]
    refine Aa rfl (Uv 0 4 0 rfl rfl rfl rfl rfl D5 I6 rfl (by omega) _ M7 (by omega) fun r3=>?_)
    refine wk 5 cz ?_
    exact tw (ih1 r3)
   ·obtain rfl:i=set.length:=by omega
    clear ih
    rw [List.take_length]
    refine D2 0 0 rfl rfl (by show set.length*24≤140737488355328;omega) ?_
    simp only [List.eraseIdx_cons_zero,List.eraseIdx_cons_succ]
    refine wk 13 (ct @Df cz) ?_
    intro h2 pb1 pc1 nb1 cb1 nc1 cc1
    refine Bj [0,1] rfl (.agg 1 rfl rfl Cs rfl (.tmp rfl .nil)) rfl ⟨_,_,_,_,_,_,rfl,rfl,rfl⟩
  ·rw [sbX,if_neg (by rw [sbE,if_neg (fun e=>e h0),if_neg hst];omega),sbE,if_neg (fun e=>e h0),if_neg hst]
   have C5:=fun {ps:Option Addr}{nn c:Nat}=>Gm (ps:=ps) (nn:=nn) (c:=c) (n:=(rows.length:Nat)) (l:=set) (decide_eq_false hst)
   refine Eh (Ap Ai none 0 0 []) (fun w A _=>Do _ w A none 0) ?_
   refine Eh (Ap (Aj Ai) none 0 0 []) (fun w A _=>Do _ w A none 0) ?_
   refine wk 26 (ct @Au (ct @C5 cz)) ?_
   intro b1 b2 h1
   refine Bj [1,0] rfl (.agg 0 rfl rfl Cs rfl (.tmp rfl .nil)) rfl ⟨_,_,_,_,_,_,rfl,rfl,rfl⟩
 ·rw [sbX,if_neg (by rw [sbE,if_pos h0];exact h0),sbE,if_pos h0]
  generalize Pg P M md N rows=e at *
  refine Eh (Ap Ai none 0 0 []) (fun w A _=>Do _ w A none 0) ?_
  refine Eh (Ap (Aj Ai) none 0 0 []) (fun w A _=>Do _ w A none 0) ?_
  refine wk 18 (ct @Au cz) ?_
  intro b1 b2 h1
  refine Bj [1,0] rfl (.agg 0 rfl rfl Cs rfl (.tmp rfl .nil)) rfl ⟨_,_,_,_,_,_,rfl,rfl,rfl⟩
end
open Go Go.Fw
set_option maxRecDepth 100000
set_option linter.unusedVariables false
set_option linter.unusedSimpArgs false
set_option maxHeartbeats 0
noncomputable abbrev etW (p m:Nat) (r:List Int):List Int:=r++[Cz p m (S0 (Ad (fA p m)) r)]
noncomputable abbrev etL (p m:Nat) (rows:List (List Int)):List (List Int):=rows.map (etW p m)
noncomputable def etE (P M:Int) (md:List Int) (N:Int) (rows:List (List Int)):Int:=if Pg P M md N rows≠0 then Pg P M md N rows else if N=64 then 4 else 0
noncomputable def etX (P M:Int) (md:List Int) (N:Int) (rows:List (List Int)):CR:=if etE P M md N rows=0 then ⟨P,M,N+1,md,(Dh P.toNat M.toNat md (N.toNat+1) (etL P.toNat M.toNat rows)).1,0⟩ else zeR (etE P M md N rows)
theorem AEd {p m n:Nat}{md:List Int}{rows:List (List Int)}(CC:Cok p m md n rows):Cw (p ^ m) (n+1) (etL p m rows):=fun r hr=>by
 obtain ⟨s,hs,rfl⟩:=List.mem_map.1 hr
 have hw:=CC.mat s hs
 obtain ⟨s0,s1⟩:=R1 CC.K.fi s 0 (Int.le_refl 0) CC.K.fi.z hw.2
 have O:=C1 CC.K
 obtain ⟨⟨n0,n1⟩,_⟩:=O.ng _ s0 s1
 refine ⟨by rw [List.length_append,hw.1];rfl,fun x hx=>?_⟩
 rcases List.mem_append.1 hx with h|h
 ·exact hw.2 x h
 ·rw [List.mem_singleton.1 h];exact ⟨n0,n1⟩
theorem AEa {p m n:Nat}{md:List Int}{rows:List (List Int)}(CC:Cok p m md n rows) (hn:n≠64):etX p m md n rows=⟨p,m,(n+1:Nat),md,(Dh p m md (n+1) (etL p m rows)).1,0⟩:=by
 rw [etX,if_pos (by rw [etE,if_neg (fun e=>e CC.ck),if_neg (by omega)])];simp only [Int.toNat_natCast];rfl
section
variable {P M:Int}{n c nm cm:Nat}{pm ps:Option Addr}{md:List Int}{rows:List (List Int)}
theorem Qi {N:Int}(hN:Bv .i64 N):Bt Tryz.prog 26 [.agg #[.int .i64 P,.int .i64 M,.slice pm nm cm,.int .i64 N,.slice ps n c]] [] [Ap Ai pm nm cm md,Ap (Aj Ai) ps n c rows] (CdX (etX P M md N rows)):=by
 refine Ab (F:=Yj) rfl fun C=>?_
 refine Ba 1 rfl fun hn hb1 _=>?_
 subst hn
 have hr:=Pv P M md N rows
 have Au:=fun {pm ps:Option Addr}{nm cm n c:Nat}=>Ds (P:=P) (M:=M) (pm:=pm) (ps:=ps) (nm:=nm) (cm:=cm) (n:=n) (c:=c) (md:=md) (rows:=rows) (N:=N) hN rfl
 by_cases h0:Pg P M md N rows=0
 ·obtain ⟨p,m,n',rfl,rfl,rfl,CC⟩:=Z4 h0
  rw [h0] at Au
  by_cases h64:n'=64
  ·rw [etX,if_neg (by rw [etE,if_neg (fun e=>e h0),if_pos (by omega)];omega),etE,if_neg (fun e=>e h0),if_pos (by omega)]
   refine Eh (Ap Ai none 0 0 []) (fun w A _=>Do _ w A none 0) ?_
   refine Eh (Ap (Aj Ai) none 0 0 []) (fun w A _=>Do _ w A none 0) ?_
   refine wk 23 (ct @Au cz) ?_
   intro b1 b2 h1 h2
   refine Bj [1,0] rfl (.agg 0 rfl rfl Cs rfl (.tmp rfl .nil)) rfl ⟨_,_,_,_,_,_,rfl,rfl,rfl⟩
  ·rw [AEa CC h64]
   have K:=CC.K
   have hq:=K.q
   have hSM:=AEd CC
   have hl:=CC.len
   have hn64:=CC.n64
   have hLl:(etL p m rows).length=rows.length:=List.length_map _
   have D0:=fun {pm:Option Addr}{nm cm:Nat}=>Fx (pm:=pm) (nm:=nm) (cm:=cm) K
   have Df:=fun {pm ps:Option Addr}{nm cm n c:Nat}=>Io (pm:=pm) (ps:=ps) (nm:=nm) (cm:=cm) (n:=n) (c:=c) (N:=n'+1) (rows:=etL p m rows) K (by omega) (by omega) (by omega) hSM
   generalize hG:Dh p m md (n'+1) (etL p m rows)=G at *
   clear hG
   refine Am [_,_] rfl ?_
   refine Aa rfl (Cv rfl fun b1=>?_)
   refine Aa rfl (Bl O0 fun b2=>?_)
   refine Ae it 1 rfl (by simp) ?_
   refine Am [_,_,_] rfl ?_
   refine Aa rfl (A1 1 rfl rfl Cs rfl ?_)
   refine Aa rfl (Aw [0,1] rfl (Au) rfl ?_)
   rintro _ _ _ ⟨rfl,rfl,rfl⟩
   simp only [List.cons_append,List.nil_append]
   refine Ae it 1 rfl (by simp) ?_
   refine Am [_,_,_] rfl ?_
   refine Ae it 2 rfl (by simp) ?_
   refine Am [_,_] rfl ?_
   refine Nd rfl rfl (fun h1=>by exfalso;omega) (fun h1=>?_)
   refine Am [_,_,_] rfl ?_
   refine Aa rfl (Aq rfl Kt ?_)
   refine Aa rfl (Bm 1 rfl rfl Ci rfl ?_)
   refine Ae it 1 rfl (by simp) ?_
   refine Am [_,_] rfl ?_
   refine Lc rfl rfl (fun h2=>by exfalso;omega) (fun h2=>?_)
   refine Am [_,_] rfl ?_
   refine Aa rfl (Aq rfl Ug ?_)
   refine Aa rfl (S2 1 rfl rfl Hy rfl rfl ?_)
   refine Aa rfl (Aw [0] rfl (D0) rfl ?_)
   rintro _ _ _ ⟨b3,pg1,cg1,pe1,ce1,pl1,cl1,rfl,rfl,rfl⟩
   simp only [List.cons_append,List.nil_append]
   simp only [decide_true]
   refine Ae it 5 rfl (by simp) ?_
   refine Am [_,_,_] rfl ?_
   refine Ae it 2 rfl (by simp) ?_
   refine Am [_,_] rfl ?_
   refine Nd rfl rfl (fun h3=>by exfalso;omega) (fun h3=>?_)
   refine Am [_,_] rfl ?_
   refine Aa rfl (Aq rfl Kt ?_)
   refine Aa rfl (Bm 1 rfl rfl Ci rfl ?_)
   refine Ae it 1 rfl ⟨⟨by omega,by omega⟩,trivial⟩ ?_
   refine Aa rfl (Dn (cs:=[Value.int IntKind.i64 (↑n'+1),Value.slice none 0 0]) Uz G9 rfl rfl ?_)
   refine Aa rfl (Bl G9 fun b4=>?_)
   refine Aa rfl (A8 0 rfl rfl rfl F6 rfl rfl (by simp [Value.oneCell']) ?_)
   refine Am [_,_,_] rfl ?_
   refine Aa rfl (Aq rfl R9 ?_)
   refine Aa rfl (Bm 2 rfl rfl H7 rfl ?_)
   refine Aa rfl (Hf D5 rfl ?_)
   refine Ae it 1 rfl (by simp) ?_
   refine Am [_,_,_] rfl ?_
   refine F3 (Aj Ai) 22 ?_
   simp only [Cf,De,setB,List.take_succ_cons,List.cons_append,List.nil_append,List.take_zero,List.drop_succ_cons,List.drop_zero,List.length_singleton,Nat.zero_add]
   have hcl:=K.md8
   refine Ah (X:=Nat×Row) [1,2,3,5,7,35,36] [0,1,2,3,4,5,6] (fun z=>[(37,.int .i64 (z.1:Int))]) (fun z=>(z.2.bo,22,z.2.cs)::(some b4,62,[.int .i64 ((n':Int)+1),.slice (ad z.2.bo) z.1 z.2.cap])::_) (fun z=>[A7 (Aj Ai) z.2 z.1 (etL p m (rows.take z.1))]) (fun z=>z.1≤rows.length) (fun z=>rows.length-z.1) (0,⟨none,0,[]⟩) [0] rfl rfl rfl (Nat.zero_le _) (by repeat (first|exact Fr.sub_nil _|refine Fr.sub_cons rfl ?_)) rfl rfl ?_
   rintro ⟨i,r⟩ hi ih
   simp only [List.cons_append,List.nil_append] at hi ih ⊢
   by_cases hil:i<rows.length
   ·obtain ⟨u,at_u⟩:∃ u,rows[i]?=some u:=⟨_,List.getElem?_eq_getElem hil⟩
    have hu:=CC.mat u (List.mem_of_getElem? at_u)
    have hul:=hu.1
    obtain ⟨s0,s1⟩:=R1 K.fi u 0 (Int.le_refl 0) K.fi.z hu.2
    rw [← S0] at s0 s1
    obtain ⟨⟨g0,g1⟩,_⟩:=(C1 K).ng _ s0 s1
    have E8:=fun {ps:Option Addr}{n cs:Nat}=>D6 (ps:=ps) (n:=n) (cs:=cs) (l:=u)
    have Kk:=fun {b ng cg ne ce nl cl nu cu:Nat}{pg pe pl pu:Option Addr}=>Qj (b:=b) (ng:=ng) (cg:=cg) (ne:=ne) (ce:=ce) (nl:=nl) (cl:=cl) (pg:=pg) (pe:=pe) (pl:=pl) (pu:=pu) (nu:=nu) (cu:=cu) K hu.2
    have ih1:=fun r=>ih (i+1,r) (by dsimp only;omega) (by dsimp only;omega)
    dsimp only at ih1
    rw [etL,List.take_add_one (l:=rows),at_u,Option.toList_some,List.map_append,List.map_cons,List.map_nil,etW] at ih1
    clear ih
    have D1:=fun {b ng cg ne ce nl cl:Nat}{pg pe pl:Option Addr}=>Gt (b:=b) (ng:=ng) (cg:=cg) (ne:=ne) (ce:=ce) (nl:=nl) (cl:=cl) (pg:=pg) (pe:=pe) (pl:=pl) K.p2 K.m1 hq s0 s1
    have g2:0≤Cz p m (S0 (Ad (fA p m)) u)∧Cz p m (S0 (Ad (fA p m)) u)<((p ^ m:Nat):Int):=⟨g0,g1⟩
    clear g0 g1
    generalize S0 (Ad (fA p m)) u=s at *
    generalize hy:Cz p m s=y at *
    have hy2:((nP p m s.toNat:Nat):Int)=y:=hy
    simp only [hy2] at D1
    refine wk 9 cz ?_
    intro h4 b5 o1 hz1 pa1 ca1
    (apply Vd it mx 0 12;(· rfl);(· rfl);(· rfl))
    (apply Ac;(· rfl);(· exact Cg fun _=>Aq rfl Hw An))
    (apply Ac;(· rfl);(· exact Ca 1 rfl rfl H7 rfl))
    (apply A3 1;(· rfl);(· simp))
    (apply AFY [0];(· rfl);(· rfl);(· exact E8);(· rfl);(· first|omega|(show _*8≤_;omega));intro pa2 cap1 b6 cs1)
    (apply A3 3;(· rfl);(· simp))
    (apply Ac;(· rfl);(· exact Cg fun _=>Aw [5,1] rfl (Kk) rfl (by rintro _ _ _ ⟨rfl,rfl,rfl⟩;exact An)))
    (apply Ac;(· rfl);(· exact Cg fun _=>Aw [5] rfl (D1) rfl (by rintro _ _ _ ⟨rfl,rfl,rfl⟩;exact An)))
    (apply Ih;(· rfl);(· exact Cg fun _=>Iu Ce Ep rfl rfl rfl rfl (by decide) (by decide) rfl fun b7=>ACc (E:=Ai) [[Value.int IntKind.i64 y]] [y] (fun w A hG=>(Az ⟨rfl,by first|assumption|(simp only [Bv];omega)⟩ Bd)) rfl rfl rfl (by first|decide|exact Nat.le_of_ble_eq_true rfl));intro pa3 ca2)
    (apply AHu 1 0;(· rfl);(· rfl);(· rfl);(· rfl);(· rfl);(· exact Ce);(· exact Ep);(· rfl);(· (first|omega|(simp only [List.length_cons,List.length_nil];omega)));(· exact Hu);(· (first|omega|(simp only [List.length_cons,List.length_nil];omega)));intro pa4 cap2 b7 cs2)
    (apply AH4 0;(· rfl);(· rfl);(· exact D5);(· exact I6);(· rfl);(· rfl);(· rfl);(· decide);(· decide);intro pa5 cap3 b8 cs3 b9)
    refine Zm rfl ?_
    (rotate_left;rfl;rotate_right)
    (rotate_left;rfl;rotate_right)
    (rotate_left;rfl;rotate_right)
    simp only [List.append_nil,List.append_assoc,List.map_cons,List.map_nil,List.cons_append,List.nil_append,List.drop_zero]
    (refine AD1 1 0 (by first|rfl|exact (List.append_nil _).symm) rfl (by show (u.length+1)*8≤140737488355328;omega) ?_;simp only [List.take_succ_cons,List.take_zero,List.cons_append,List.nil_append,List.append_nil])
    refine Aa rfl (Ga (z:=u++[y]) 1 0 7 rfl rfl rfl rfl rfl D5 I6 rfl (fun w A hG=>(A2 (hG _ (Af (n:=0) rfl)))) (by omega) _ M7 (by omega) fun r1=>?_)
    refine wk 5 cz ?_
    refine Kx [true,false,true,true,true] [0,9,10,11,12,13,14,15] (by exact Uy rfl) rfl rfl (ih1 r1)
   ·obtain rfl:i=rows.length:=by omega
    clear ih
    rw [List.take_length]
    refine D2 0 0 rfl rfl (by show rows.length*24≤140737488355328;omega) ?_
    simp only [List.eraseIdx_cons_zero,List.eraseIdx_cons_succ]
    refine wk 13 (ct @Df cz) ?_
    intro h4 pb1 pc1 nb1 cb1 nc1 cc1
    refine Bj [0,1] rfl (.agg 1 rfl rfl Cs rfl (.tmp rfl .nil)) rfl ⟨_,_,_,_,_,_,rfl,rfl,rfl⟩
 ·rw [etX,if_neg (by rw [etE,if_pos h0];exact h0),etE,if_pos h0]
  generalize Pg P M md N rows=e at *
  refine Eh (Ap Ai none 0 0 []) (fun w A _=>Do _ w A none 0) ?_
  refine Eh (Ap (Aj Ai) none 0 0 []) (fun w A _=>Do _ w A none 0) ?_
  refine wk 18 (ct @Au cz) ?_
  intro b1 b2 h1
  refine Bj [1,0] rfl (.agg 0 rfl rfl Cs rfl (.tmp rfl .nil)) rfl ⟨_,_,_,_,_,_,rfl,rfl,rfl⟩
end
open Go Go.Fw
set_option maxRecDepth 100000
set_option linter.unusedVariables false
set_option linter.unusedSimpArgs false
set_option maxHeartbeats 0
theorem Pm {P M P2 M2:Int}{pm p2:Option Addr}{nm cm n2 c2:Nat}{md md2:List Int}{res:Bool}(hr:decide (P=P2∧M=M2∧md=md2)=res):Bt Tryz.prog 60 [.agg #[.int .i64 P,.int .i64 M,.slice pm nm cm],.agg #[.int .i64 P2,.int .i64 M2,.slice p2 n2 c2]] [] [Ap Ai pm nm cm md,Ap Ai p2 n2 c2 md2] (Rv (.bool res) []):=by
 refine Ab (F:=Pz) rfl fun C=>?_
 refine Ba 0 rfl fun hn hb _=>?_
 subst hn
 refine Ba 1 rfl fun hn hb2 _=>?_
 subst hn
 have hb':md.length*8≤140737488355328:=hb
 have hb2':md2.length*8≤140737488355328:=hb2
 by_cases h1:P=P2∧M=M2∧md.length=md2.length
 ·obtain ⟨rfl,rfl,hl⟩:=h1
  simp only [true_and] at hr
  refine wk 32 cz ?_
  intro b1 b2 h1 h2 h3
  refine Ah (X:=Nat) [2,3] [0,1] (fun i=>[(5,.int .i64 (i:Int))]) (fun _=>_) (fun _=>[]) (fun i=>i≤md.length∧∀ j,j<i→md[j]?=md2[j]?) (fun i=>md.length-i) 0 [] rfl rfl rfl ⟨Nat.zero_le _,fun j hj=>by omega⟩ (by repeat (first|exact Fr.sub_nil _|refine Fr.sub_cons rfl ?_)) rfl rfl ?_
  rintro i ⟨hi,hj⟩ ih
  simp only [List.cons_append,List.nil_append] at ih ⊢
  by_cases h9:i<md.length
  ·obtain ⟨x,at_x⟩:∃ x,md[i]?=some x:=⟨_,List.getElem?_eq_getElem h9⟩
   obtain ⟨y,at_y⟩:∃ y,md2[i]?=some y:=⟨_,List.getElem?_eq_getElem (by omega)⟩
   have ex:md.getD i default=x:=by rw [List.getD_eq_getElem?_getD,at_x];rfl
   have ey:md2.getD i default=y:=by rw [List.getD_eq_getElem?_getD,at_y];rfl
   by_cases hxy:md.getD i default=md2.getD i default
   ·have hxy2:x=y:=by rw [← ex,← ey];exact hxy
    have ih':=ih (i+1) (by omega) ⟨by omega,fun j h=>by
     by_cases e:j=i
     ·rw [e,at_x,at_y,hxy2]
     ·exact hj j (by omega)⟩
    clear ih
    refine wk 15 cz ?_
    intro h4 b3 o1 b4 o2 h5
    exact tw (ih')
   ·have e:res=false:=by
     rw [← hr]
     refine decide_eq_false fun e=>hxy ?_
     rw [e]
    subst e
    clear ih
    refine wk 15 cz ?_
    intro h4 b3 o1 b4 o2 h5
    exact ge
  ·have e:res=true:=by
    rw [← hr]
    refine decide_eq_true (List.ext_getElem? fun j=>?_)
    by_cases h:j<md.length
    ·exact hj j (by omega)
    ·rw [List.getElem?_eq_none (by omega),List.getElem?_eq_none (by omega)]
   subst e
   clear ih
   refine wk 11 cz ?_
   intro h4
   exact ge
 ·have e:res=false:=by
   rw [← hr]
   exact decide_eq_false fun ⟨a,b,d⟩=>h1 ⟨a,b,by rw [d]⟩
  subst e
  by_cases hP:P=P2
  ·by_cases hM:M=M2
   ·have hl:md.length≠md2.length:=fun e=>h1 ⟨hP,hM,e⟩
    refine wk 32 cz ?_
    intro b1 b2 h2 h3 h4
    exact ge
   ·refine wk 26 cz ?_
    intro b1 b2 h2 h3
    exact ge
  ·refine wk 18 cz ?_
   intro b1 b2 h2
   exact ge
section
variable {P M N P2 M2 N2:Int}{n c nm cm n2 c2 nm2 cm2:Nat}{pm ps pm2 p2:Option Addr}{md md2:List Int}{rows rows2:List (List Int)}
theorem Qc {res:Bool}(hr:decide ((P=P2∧M=M2∧md=md2)∧N=N2∧rows=rows2)=res):Bt Tryz.prog 17 [.agg #[.int .i64 P,.int .i64 M,.slice pm nm cm,.int .i64 N,.slice ps n c],.agg #[.int .i64 P2,.int .i64 M2,.slice pm2 nm2 cm2,.int .i64 N2,.slice p2 n2 c2]] [] [Ap Ai pm nm cm md,Ap (Aj Ai) ps n c rows,Ap Ai pm2 nm2 cm2 md2,Ap (Aj Ai) p2 n2 c2 rows2] (Rv (.bool res) []):=by
 refine Ab (F:=Pu) rfl fun C=>?_
 have B5:=fun {pm p2:Option Addr}{nm cm n2 c2:Nat}{res:Bool}(h:decide (P=P2∧M=M2∧md=md2)=res)=>Pm (pm:=pm) (p2:=p2) (nm:=nm) (cm:=cm) (n2:=n2) (c2:=c2) h
 have As:=fun {pl pk:Option Addr}{nl cl nk ck:Nat}{res:Bool}(h:decide (rows=rows2)=res)=>Dv (pl:=pl) (pk:=pk) (nl:=nl) (cl:=cl) (nk:=nk) (ck:=ck) h
 by_cases h1:P=P2∧M=M2∧md=md2
 ·have B5:=fun {pm p2:Option Addr}{nm cm n2 c2:Nat}=>B5 (pm:=pm) (p2:=p2) (nm:=nm) (cm:=cm) (n2:=n2) (c2:=c2) (decide_eq_true h1)
  by_cases h2:N=N2
  ·by_cases h3:rows=rows2
   ·have As:=fun {pl pk:Option Addr}{nl cl nk ck:Nat}=>As (pl:=pl) (pk:=pk) (nl:=nl) (cl:=cl) (nk:=nk) (ck:=ck) (decide_eq_true h3)
    rw [decide_eq_true ⟨h1,h2,h3⟩] at hr
    subst hr
    refine wk 26 (ct @B5 (ct @As cz)) ?_
    intro b1 b2 h4
    exact ge
   ·have As:=fun {pl pk:Option Addr}{nl cl nk ck:Nat}=>As (pl:=pl) (pk:=pk) (nl:=nl) (cl:=cl) (nk:=nk) (ck:=ck) (decide_eq_false h3)
    rw [decide_eq_false fun h=>h3 h.2.2] at hr
    subst hr
    refine wk 26 (ct @B5 (ct @As cz)) ?_
    intro b1 b2 h4
    exact ge
  ·rw [decide_eq_false fun h=>h2 h.2.1] at hr
   subst hr
   refine wk 21 (ct @B5 cz) ?_
   intro b1 b2 h3
   exact ge
 ·have B5:=fun {pm p2:Option Addr}{nm cm n2 c2:Nat}=>B5 (pm:=pm) (p2:=p2) (nm:=nm) (cm:=cm) (n2:=n2) (c2:=c2) (decide_eq_false h1)
  rw [decide_eq_false fun h=>h1 h.1] at hr
  subst hr
  refine wk 12 (ct @B5 cz) ?_
  intro b1 b2
  exact ge
def fwB (n:Int):List (List Int)→Int→Bool
 | [],_=>true
 | r::rs,left=>if left<(r.length:Int) then false else fwB n rs (left-r.length)
abbrev AEK (rows:List (List Int)) (n:Int):Bool:=if n<(rows.length:Int) then false else fwB n rows (n-rows.length)
theorem Qr {k:Int}(hk:k≤1000) (hk0:0≤k) {res:Bool}(hr:AEK rows k=res):Bt Tryz.prog 71 [.agg #[.int .i64 0,.slice ps n c],.int .i64 k] [] [Ap (Aj Ai) ps n c rows] (Rv (.bool res) []):=by
 refine Ab (F:=Qx) rfl fun C=>?_
 refine Ba 0 rfl fun hn hb _=>?_
 subst hn
 by_cases h1:k<(rows.length:Int)
 ·rw [AEK,if_pos h1] at hr
  subst hr
  refine wk 17 cz ?_
  intro b1 h2 h3
  exact ge
 ·rw [AEK,if_neg h1] at hr
  refine wk 23 cz ?_
  intro b1 h2 h3
  refine Ah (X:=Nat×Int) [2] [0] (fun z=>[(6,.int .i64 (z.1:Int)),(5,.int .i64 z.2)]) (fun _=>_) (fun _=>[]) (fun z=>z.1≤rows.length∧0≤z.2∧z.2≤1000∧fwB k (rows.drop z.1) z.2=res) (fun z=>rows.length-z.1) (0,k-rows.length) [] rfl rfl rfl ⟨Nat.zero_le _,by dsimp only;omega,by dsimp only;omega,hr⟩ (by repeat (first|exact Fr.sub_nil _|refine Fr.sub_cons rfl ?_)) rfl rfl ?_
  rintro ⟨i,left⟩ ⟨hi,hl0,hl1,hf⟩ ih
  simp only [List.cons_append,List.nil_append] at hi hl0 hl1 hf ih ⊢
  by_cases h9:i<rows.length
  ·obtain ⟨u,at_u⟩:∃ u,rows[i]?=some u:=⟨_,List.getElem?_eq_getElem h9⟩
   rw [List.drop_eq_getElem_cons h9,(List.getElem?_eq_some_iff.1 at_u).2,fwB] at hf
   by_cases h2:left<(u.length:Int)
   ·rw [if_pos h2] at hf
    subst hf
    clear ih
    refine wk 21 cz ?_
    intro h4 b2 o1 hz1 pa1 ca1 h5
    exact ge
   ·rw [if_neg h2] at hf
    have ih':=ih (i+1,left-u.length) (by dsimp only;omega) ⟨by dsimp only;omega,by dsimp only;omega,by dsimp only;omega,hf⟩
    dsimp only at ih'
    clear ih
    refine wk 30 cz ?_
    intro h4 b2 o1 hz1 pa1 ca1 h5 b3 o2 hz2 pa2 ca2
    exact tw (ih')
  ·rw [List.drop_of_length_le (by omega),fwB] at hf
   subst hf
   clear ih
   refine wk 11 cz ?_
   intro h4
   exact ge
theorem Q3 {k:Int}(hk:k≤1000) (hk0:0≤k) {res:Bool}(hr:AEK rows k=res):Bt Tryz.prog 24 [.agg #[.int .i64 P,.int .i64 M,.slice pm nm cm,.int .i64 N,.slice ps n c],.int .i64 k] [] [Ap (Aj Ai) ps n c rows] (Rv (.bool res) []):=by
 refine Ab (F:=Q5) rfl fun C=>?_
 have Qy:=fun {ps:Option Addr}{n c:Nat}=>Qr (rows:=rows) (ps:=ps) (n:=n) (c:=c) hk hk0 hr
 refine wk 11 (ct @Qy cz) ?_
 intro b1
 exact ge
end
set_option maxRecDepth 100000
set_option linter.unusedVariables false
set_option linter.unusedSimpArgs false
def Tg (n:Nat):Nat:=if _h:n=0 then 0 else Tg (n / 2)+1
termination_by n
decreasing_by omega
theorem S3:Tg 0=0:=by rw [Tg];rfl
theorem ACV {n:Nat}(h:n≠0):Tg n=Tg (n / 2)+1:=by rw [Tg,dif_neg h]
def AFa:Nat→Nat→Nat
 | 0,_=>0
 | f+1,n=>if n=0 then 0 else AFa f (n / 2)+1
theorem AHj (f:Nat):∀ n,n<2 ^ f→AFa f n=Tg n:=by
 induction f with
 | zero => intro n h; have : n = 0 := by simpa using h
           subst this; rw [S3]; rfl
 | succ f ih =>
  intro n h
  rw [AFa]
  by_cases h0:n=0
  ·subst h0;rw [if_pos rfl,S3]
  ·rw [if_neg h0,ACV h0,ih _ (by rw [Nat.pow_succ] at h;omega)]
theorem ACt {n k:Nat}(h:n<2 ^ k):Tg n≤k:=by
 induction k generalizing n with
 | zero => have : n = 0 := by simpa using h
           subst this; rw [S3]; omega
 | succ k ih =>
  by_cases h0:n=0
  ·subst h0;rw [S3];omega
  ·rw [ACV h0];have:=ih (n:=n / 2) (by rw [Nat.pow_succ] at h;omega);omega
def AJ4 (s:ByteArray):Bool:=(List.range 256).all fun n=>match s[n]? with
 | some b=>b.toNat == AFa 8 n
 | none=>false
theorem AIS {s:ByteArray}(h:AJ4 s=true) {n:Nat}(hn:n<256):s[n]?=some (UInt8.ofNat (Tg n)):=by
 unfold AJ4 at h
 have:=List.all_eq_true.1 h n (List.mem_range.2 hn)
 cases hs:s[n]? with
 | none=>rw [hs] at this;simp at this
 | some b =>
  rw [hs] at this
  simp only [beq_iff_eq] at this
  rw [AHj 8 n (by simpa using hn)] at this
  rw [← this];simp
open Go Go.Fw
set_option maxHeartbeats 0
section
variable {p m N b ng cg ce cl n c k cp nx cx:Nat}{pg pe pl ps pp px:Option Addr}{md x:List Int}{rows:List (List Int)}
end
open Go Go.Fw
set_option maxRecDepth 100000
set_option linter.unusedVariables false
set_option linter.unusedSimpArgs false
set_option maxHeartbeats 0
section
variable {p m N n c nm cm nx cx:Nat}{pm ps px:Option Addr}{md x:List Int}{rows:List (List Int)}
end
open Go Go.Fw
set_option maxRecDepth 100000
set_option linter.unusedVariables false
set_option linter.unusedSimpArgs false
set_option maxHeartbeats 0
section
variable {pw pl pa pz:Option Addr}{nw cw nl cl na ca nz cz':Nat}{w lost away z:List Int}
end
open Go Go.Fw
set_option maxRecDepth 100000
set_option linter.unusedVariables false
set_option linter.unusedSimpArgs false
set_option maxHeartbeats 0
section
variable {p m N:Nat}{md lost away:List Int}{rows:List (List Int)}
end
open Go Go.Fw
set_option maxRecDepth 100000
set_option linter.unusedVariables false
set_option linter.unusedSimpArgs false
set_option maxHeartbeats 0
section
variable {p m N:Nat}{md lost away:List Int}{rows:List (List Int)}
end
open Go Go.Fw
set_option maxRecDepth 100000
set_option linter.unusedVariables false
set_option linter.unusedSimpArgs false
set_option maxHeartbeats 0
section
variable {p m N nm cm n c nl cl na ca nt ct:Nat}{md lost away:List Int}{rows t:List (List Int)}{pm ps pl pa pt:Option Addr}{w:Int}
end
open Go Go.Fw
set_option maxRecDepth 100000
set_option linter.unusedVariables false
set_option linter.unusedSimpArgs false
set_option maxHeartbeats 0
section
variable {P M N w e:Int}{nm cm n c nl cl na ca nt ct:Nat}{md lost away:List Int}{rows t:List (List Int)}{pm ps pl pa pt:Option Addr}
end
open Go Go.Fw
set_option maxRecDepth 100000
set_option linter.unusedVariables false
set_option linter.unusedSimpArgs false
set_option maxHeartbeats 0
section
variable {P M N w:Int}{n c nm cm nl cl na ca nh ch nt ct:Nat}{pm ps pl pa ph pt:Option Addr}{md lost away hs:List Int}{rows t:List (List Int)}
end
open Go Go.Fw
set_option maxRecDepth 100000
set_option linter.unusedVariables false
set_option linter.unusedSimpArgs false
set_option maxHeartbeats 0
section
variable {ps:Option Addr}{n c:Nat}{s:List Int}{y:Int}
end
section
variable {pw pl pa pz:Option Addr}{nw cw nl cl na ca nz cz':Nat}{w lost away z:List Int}
end
open Go Go.Fw
set_option maxRecDepth 100000
set_option linter.unusedVariables false
set_option linter.unusedSimpArgs false
set_option maxHeartbeats 0
section
variable {n:Int}{wt:List Int→Option (List Int)}{br:List Int→List Int→List Int}
end
open Go Go.Fw
set_option maxRecDepth 100000
set_option linter.unusedVariables false
set_option linter.unusedSimpArgs false
set_option maxHeartbeats 0
theorem W9 {x:Int}:Bt Tryz.prog 214 [.int .i64 x] [] [] (Rv (.bool false) []):=by
 refine Ab (F:=W5) rfl fun C=>?_
 have hd:(!decide (x=x))=false:=by simp
 refine wk 5 cz ?_
 rw [hd]
 exact ge
theorem Ql {x y:Int}:Bt Tryz.prog 189 [.int .i64 x,.int .i64 y] [] [] (Rv (.bool (decide (x<y))) []):=by
 refine Ab (F:=X2) rfl fun C=>?_
 refine wk 7 (ct @W9 cz) ?_
 exact ge
theorem ACu {x:Nat}(hx:x<256):Bt Tryz.prog 193 [.int .u64 x] [] [] (Rv (.int .i64 (Tg x)) []):=by
 refine Ab (F:=ABX) rfl fun C=>?_
 refine Am [_,_] rfl ?_
 refine Ae it 1 rfl (by simp) ?_
 refine Am [_,_,_] rfl ?_
 refine Ae it 2 rfl (by simp) ?_
 refine Am [_,_] rfl ?_
 refine Lc rfl rfl (fun h1=>by exfalso;omega) (fun h1=>?_)
 refine Am [_,_,_] rfl ?_
 refine Ae it 2 rfl (by simp) ?_
 refine Am [_,_] rfl ?_
 refine Lc rfl rfl (fun h2=>by exfalso;omega) (fun h2=>?_)
 refine Am [_,_,_] rfl ?_
 refine Ae it 2 rfl (by simp) ?_
 refine Am [_,_] rfl ?_
 refine Lc rfl rfl (fun h3=>by exfalso;omega) (fun h3=>?_)
 refine Am [_,_] rfl ?_
 refine Ae it 3 rfl ⟨⟨by omega,by omega⟩,trivial,trivial,trivial⟩ ?_ --ok
 refine Aa rfl (AKa x rfl rfl rfl rfl (AIS (by decide +kernel) hx) ?_)
 have h8:=ACt (n:=x) (k:=8) (by simpa using hx)
 have e:(UInt8.ofNat (Tg x)).toNat=Tg x:=by
  simp only [UInt8.toNat_ofNat'];omega
 rw [e]
 refine wk 2 cz ?_
 rw [show (0:Int)+((Tg x:Nat):Int)=((Tg x:Nat):Int) by omega]
 exact ge
theorem AAv {x:Nat}(hx:x<256):Bt Tryz.prog 154 [.int .u64 x] [] [] (Rv (.int .i64 (Tg x)) []):=by
 refine Ab (F:=AD3) rfl fun C=>?_
 refine wk 9 (ct @ACu cz) ?_
 exact ge
section
variable {b cap n:Nat}{cs:List Value}{l K:List Int}
end
open Go Go.Fw
set_option maxRecDepth 100000
set_option linter.unusedVariables false
set_option linter.unusedSimpArgs false
set_option maxHeartbeats 0
abbrev AJw (b cap n:Nat) (P:List Int→Prop):Value→List Fact→List A4→Prop:=fun v Φ β=>∃ cs' L,P L∧v = .tuple #[]∧Φ=[A7 Ai ⟨some b,cap,cs'⟩ n L]∧β=[(some b,3,cs')]
section
variable {b cap n a e:Nat}{cs:List Value}{l:List Int}
theorem Og (hn:n≤1000000) (hr:∀ x∈l,Bv .i64 x) (hl:l.length=n) (hae:a≤e) (he:e≤n) :
  Bt Tryz.prog 183 [.slice (some ⟨b,0,none⟩) n cap,.int .i64 a,.int .i64 e] [(some b,3,cs)] [A7 Ai ⟨some b,cap,cs⟩ n l] (AJw b cap n fun L=>Seg a e l L∧Ko L a e):=by
 refine Ab (F:=Ez) rfl fun C=>?_
 refine wk 3 cz ?_
 refine Ah (X:=Nat×List Value×List Int) [0,1,2] [0] (fun x=>[(6,.int .i64 (x.1:Int))]) (fun x=>[(some b,3,x.2.1)]) (fun x=>[A7 Ai ⟨some b,cap,x.2.1⟩ n x.2.2]) (fun x=>a+1≤x.1∧(x.1≤e∨x.1=a+1)∧Seg a e l x.2.2∧Ko x.2.2 a x.1) (fun x=>e-x.1) (a+1,cs,l) [0] rfl rfl rfl ⟨Nat.le_refl _,.inr rfl,.refl,.short (Nat.le_refl _)⟩ (by repeat (first|exact Fr.sub_nil _|refine Fr.sub_cons rfl ?_)) rfl rfl ?_
 rintro ⟨i,cs,L⟩ ⟨hi1,hi,hS,ho⟩ ih
 simp only [List.cons_append,List.nil_append] at hi1 hi hS ho ih ⊢
 by_cases hin:i<e
 ·refine wk 7 cz ?_
  intro h1
  refine Ah (X:=Nat×List Value×List Int) [0,1,2,6,10,11,12,15] [0,1] (fun x=>[(7,.int .i64 (x.1:Int))]) (fun x=>[(some b,3,x.2.1)]) (fun x=>[A7 Ai ⟨some b,cap,x.2.1⟩ n x.2.2]) (fun x=>x.1≤i∧a≤x.1∧Seg a e l x.2.2∧AGU x.2.2 a i x.1) (fun x=>x.1) (i,cs,L) [0] rfl rfl rfl ⟨Nat.le_refl _,by omega,hS,AFG ho⟩ (by repeat (first|exact Fr.sub_nil _|refine Fr.sub_cons rfl ?_)) rfl rfl ?_
  rintro ⟨j,cs,L⟩ ⟨hji,haj,hS,ho⟩ ihj
  simp only [List.cons_append,List.nil_append] at hji haj hS ho ihj ⊢
  have hLl:L.length=n:=hS.len.trans hl
  by_cases hj0:a<j
  ·have at_u:=gt0 (L:=L) (i:=j) (by omega)
   have at_v:=gt0 (L:=L) (i:=j-1) (by omega)
   have hu:=AHr (hS.inR hr) (i:=j) (by omega)
   have hv:=AHr (hS.inR hr) (i:=j-1) (by omega)
   simp only [Bv] at hu hv
   by_cases hx:Bf L j<Bf L (j-1)
   ·have ihj':=fun cs=>ihj (j-1,cs,sw L j (j-1)) (by dsimp only;omega) ⟨by dsimp only;omega,by dsimp only;omega,hS.trans (AAu (by omega) (by omega) (by omega) (by omega) (by omega)),AHq ho hj0 (by omega) hji hx⟩
    dsimp only at ihj'
    rw [sw] at ihj'
    generalize Bf L j=u at *
    generalize Bf L (j-1)=v at *
    refine wk 5 (ct @Ql cz) ?_
    intro h2
    (apply Fz (x0:=none) it mx 0 15 [2,3,4] 1;(· rfl);(· rfl);(· rfl);(· decide))
    simp only [List.drop_zero]
    (apply A3 5;(· rfl);(· exact ⟨⟨by omega,by omega⟩,trivial,trivial,trivial,trivial,trivial⟩))
    (apply A3 2;(· rfl);(· simp))
    (apply Ac (v:=Value.int IntKind.i64 ((((j)-1:Nat)):Int));(· rfl);(· exact Cg fun _=>ADl it _ rfl ⟨by omega,by omega⟩ (by omega) An))
    simp only [Nat.add_sub_cancel]
    (apply Ac;(· rfl);(· exact Cg fun _=>Be (j-1) (j-1) rfl rfl Ce rfl (by omega) (Nat.mul_one _) An))
    (apply Ac;(· rfl);(· exact Hk 0 0 (j-1) rfl rfl rfl Ci rfl (by assumption)))
    (apply A3 2;(· rfl);(· simp))
    (apply Ac;(· rfl);(· exact Cg fun _=>Be (j) (j) rfl rfl Ce rfl (by omega) (Nat.mul_one _) An))
    (apply Ac;(· rfl);(· exact Hk 0 0 (j) rfl rfl rfl Ci rfl (by assumption)))
    (apply Ac;(· rfl);(· exact Cg fun _=>Be (j) (j) rfl rfl Ce rfl (by omega) (Nat.mul_one _) An)) --ok
    refine Fo rfl ?_
    rotate_left
    rfl
    simp only [List.map_nil,List.nil_append]
    refine Gr it rfl rfl ⟨⟨_,_,_,_,rfl,rfl,rfl,rfl,rfl,rfl,(by first|trivial|(repeat' first|exact trivial|apply And.intro|omega))⟩,⟨⟨_,_,_,_,rfl,rfl,rfl,rfl,rfl,rfl,(by first|trivial|(repeat' first|exact trivial|apply And.intro|omega))⟩,⟨⟨_,_,_,_,rfl,rfl,rfl,rfl,rfl,rfl,(by first|trivial|(repeat' first|exact trivial|apply And.intro|omega))⟩,trivial⟩⟩⟩ (G7 (vs:=[Value.int IntKind.i64 v]) (z:=(v:Int)) 0 0 (j) rfl rfl rfl rfl rfl Ci (Nat.mul_one _).symm (by omega) (fun w A hG=>(Dq (by first|(simp only [Bv];omega)|(simp [Bv];done)))) fun cs1=>?_)
    refine Ib it ⟨⟨_,_,_,_,rfl,rfl,rfl,rfl,rfl,rfl,(by first|trivial|(repeat' first|exact trivial|apply And.intro|omega))⟩,⟨⟨_,_,_,_,rfl,rfl,rfl,rfl,rfl,rfl,(by first|trivial|(repeat' first|exact trivial|apply And.intro|omega))⟩,⟨⟨_,_,_,_,rfl,rfl,rfl,rfl,rfl,rfl,(by first|trivial|(repeat' first|exact trivial|apply And.intro|omega))⟩,trivial⟩⟩⟩ ?_
    refine wk 1 cz ?_
    refine Aa rfl (G7 (vs:=[Value.int IntKind.i64 u]) (z:=(u:Int)) 0 0 (j-1) rfl rfl rfl rfl rfl Ci (Nat.mul_one _).symm (by omega) (fun w A hG=>(Dq (by first|(simp only [Bv];omega)|(simp [Bv];done)))) fun cs2=>?_)
    refine wk 3 cz ?_
    exact tw (ihj' cs2)
   ·have stop':=ADi ho haj (.inr hx)
    generalize Bf L j=u at *
    generalize Bf L (j-1)=v at *
    refine wk 7 (ct @Ql cz) ?_
    intro h2
    exact tw (ih (i+1,cs,L) (by dsimp only;omega) ⟨by dsimp only;omega,.inl (by dsimp only;omega),hS,stop'⟩)
  ·refine wk 7 cz ?_
   exact tw (ih (i+1,cs,L) (by dsimp only;omega) ⟨by dsimp only;omega,.inl (by dsimp only;omega),hS,ADi ho haj (.inl (by omega))⟩)
 ·clear ih
  refine wk 5 cz ?_
  intro h1
  refine Cm [0] rfl rfl ⟨cs,L,⟨hS,fun u v h1 h2 h3=>ho u v h1 h2 (by omega)⟩,rfl,rfl,rfl⟩
end
open Go Go.Fw
set_option maxRecDepth 100000
set_option linter.unusedVariables false
set_option linter.unusedSimpArgs false
set_option maxHeartbeats 0
abbrev AIG {X:Type}(st:X→List A4) (gf:X→Fact) (I:Nat→X→Prop) (i:Nat) (Qs:List Nat→List Fact→List A4→Prop):Value→List Fact→List A4→Prop:=fun v Φ β =>
 (v=jv none∧∃ x,I (i+1) x∧Φ=[gf x]∧β=st x)∨∃ q,v=jv (some q)∧Qs q Φ β
theorem AGQ {X:Type}{st:X→List A4}{gf:X→Fact}{I:Nat→X→Prop}{i:Nat}{Qs:List Nat→List Fact→List A4→Prop}{Φ:List Fact}{β:List A4}(h:AIG st gf I i Qs (jv none) Φ β):∃ x,I (i+1) x∧Φ=[gf x]∧β=st x:=by
 rcases h with ⟨_,h⟩|⟨q,e,_⟩
 ·exact h
 ·exact absurd (AEs e) (by simp)
theorem ACN {X:Type}{st:X→List A4}{gf:X→Fact}{I:Nat→X→Prop}{i:Nat}{Qs:List Nat→List Fact→List A4→Prop}{q:List Nat}{Φ:List Fact}{β:List A4}(h:AIG st gf I i Qs (jv (some q)) Φ β):Qs q Φ β:=by
 rcases h with ⟨e,_⟩|⟨q',e,h⟩
 ·exact absurd (AEs e) (by simp)
 ·obtain rfl:=Option.some.inj (AEs e)
  exact h
section
variable {ps:Option Addr}{n cs:Nat}{data:List Int}
theorem Mi:Bt Tryz.prog 69 [.slice ps n cs] [] []
  (fun v Φ β=>∃ b2,v = .func (.func 117) #[] #[.pointer (some ⟨b2,0,none⟩)]∧Φ=[Ja b2 [.slice ps n cs]]∧β=[]):=by
 refine Ab (F:=Lt) rfl fun C=>?_
 refine wk 7 cz ?_
 intro b1 --ok
 refine Uk 0 rfl ?_
 simp only [List.eraseIdx_cons_zero]
 exact Va [0] rfl rfl rfl ⟨_,rfl,rfl,rfl⟩
theorem AEb {b2 l:Nat}{r:Loop}{B:Code}{X:Type}{st:X→List A4}{gf:X→Fact}{I:Nat→X→Prop}{Qs:List Nat→List Fact→List A4→Prop}(x0:X) (h0:I 0 x0) (hr:Rdy r)
  (hY:∀ i x v,I i x→data[i]?=some v→Bv .i64 v→AFF Tryz.prog l r B [.int .i64 v] (st x) [gf x] (AIG st gf I i Qs)) :
  AJe Tryz.prog 117 [.func (.yield l) #[] #[],.pointer (some ⟨b2,0,none⟩)] l r B (st x0) [Ja b2 [.slice ps n cs],Ap Ai ps n cs data,gf x0]
   (fun Φ β=>∃ x,I data.length x∧Φ=[gf x]∧β=st x) Qs:=by
 refine ABs (F:=Kw) rfl fun C hoff=>?_
 refine Ba 1 rfl fun hn hb _=>?_
 subst hn
 have hb':data.length*8≤140737488355328:=hb
 refine wk 5 cz ?_ --ok
 refine Ah (X:=Nat×X) [0,5,6] [0,1,2] (fun z=>[(7,.int .i64 (z.1:Int))]) (fun z=>st z.2) (fun z=>[gf z.2]) (fun z=>I z.1 z.2∧z.1≤data.length) (fun z=>data.length-z.1) (0,x0) [2] rfl rfl rfl ⟨h0,Nat.zero_le _⟩ (by repeat (first|exact Fr.sub_nil _|refine Fr.sub_cons rfl ?_)) rfl rfl ?_
 rintro ⟨i,x⟩ ⟨hi,hi2⟩ ih
 simp only [List.cons_append,List.nil_append] at hi hi2 ih ⊢
 by_cases hl:i<data.length
 ·obtain ⟨v,at_v⟩:∃ v,data[i]?=some v:=⟨_,List.getElem?_eq_getElem hl⟩
  refine Am [_,_,_,_] rfl ?_
  refine Ae it 1 rfl (by simp) ?_
  refine Am [_,_,_,_] rfl ?_
  refine Lc rfl rfl (fun h1=>?_) (fun h1=>by exfalso;omega)
  refine Am [_,_,_,_,_,_] rfl ?_
  refine Aa rfl (Iw 2 (i) rfl rfl rfl Ce rfl (by omega) fun z1 hz1 b1 o1=>?_)
  obtain rfl:_=z1:=Option.some.inj (at_v.symm.trans hz1)
  refine Aa rfl (Av 0 rfl rfl Ci fun ⟨r1,r2⟩=>?_)
  refine Ae it 1 rfl (by simp) ?_
  refine Am [_,_,_,_,_,_] rfl ?_
  refine Ae it 2 rfl (by simp) ?_ --ok
  refine AE6 (n:=(st x).length) [1] hoff hr rfl rfl rfl (by rw [List.take_length];exact hY i x v hi at_v (by simp only [Bv];omega)) rfl ?_ ?_
  ·intro Φ β' hq
   obtain ⟨x',hx',rfl,rfl⟩:=AGQ hq
   rw [List.drop_length,List.append_nil]
   have ih':=ih (i+1,x') (by dsimp only;omega) ⟨hx',by dsimp only;omega⟩
   dsimp only at ih'
   clear ih
   refine wk 6 cz ?_
   exact tw (ih')
  ·intro q Φ β' C' hq
   have hq:=ACN hq
   rw [List.drop_length,List.append_nil]
   refine Ae it 1 rfl (by simp) ?_
   refine Am [_,_,_,_,_] rfl ?_
   refine So rfl rfl ?_ --ok
   exact AC4 rfl rfl hq fun g hg=>List.mem_append_left _ hg
 ·obtain rfl:i=data.length:=by omega
  clear ih
  refine wk 5 cz ?_
  intro h1 --ok
  refine AJN hoff hr ?_
  exact Cm [0] rfl rfl ⟨x,hi,rfl,rfl⟩
theorem Uu {b2:Nat}(hl:data.length≤1000000):Bt Tryz.prog 152 [.slice none 0 0,.func (.func 117) #[] #[.pointer (some ⟨b2,0,none⟩)]] [] [Ja b2 [.slice ps n cs],Ap Ai ps n cs data] (RwI data.length data):=by
 refine Ab (F:=J8) rfl fun C=>?_
 refine Am [_,_] rfl ?_
 refine Aa rfl (Pe rfl rfl fun b1=>?_)
 refine Ae it 1 rfl (by simp) ?_
 refine Am [_,_,_] rfl ?_
 refine Ae it 1 rfl (by simp) ?_
 refine Am [_,_,_] rfl ?_ --ok
 refine F3 Ai 3 ?_
 refine Zq (n:=2) (Γ1:=[Ja b2 [.slice ps n cs],Ap Ai ps n cs data,A7 Ai ⟨none,0,[]⟩ 0 []]) (Qs:=fun _ _ _=>False) [1,2,0] rfl rfl rfl rfl
  (fun l r hr hY=>AEb (X:=Nat×Row) (data:=data) (st:=fun x=>[(x.2.bo,3,x.2.cs),(some b1,22,[.slice (ad x.2.bo) x.1 x.2.cap])]) (gf:=fun x=>A7 Ai x.2 x.1 (data.take x.1)) (I:=fun i x=>x.1=i) (0,⟨none,0,[]⟩) rfl hr fun i x v hi at_v hv=>hY _ _ _ _ rfl fun C hoff=>?_) ?_ (fun _ _ _ _ _ h=>h.elim)
 ·obtain ⟨i',r1⟩:=x
  obtain rfl:i'=i:=hi
  have hil:i'<data.length:=(List.getElem?_eq_some_iff.1 at_v).1
  simp only [Bv] at hv
  obtain ⟨v0,v1⟩:=hv
  refine T1 (σ':=[(7,.int .i64 v),(2,.pointer (some ⟨b1,0,none⟩))]) (Uy rfl) ?_
  refine Am [_,_,_] rfl ?_
  refine Ae it 1 rfl (by simp) ?_
  refine Am [_,_] rfl ?_ --ok
  refine AKF hoff hr.1 fun C'=>?_
  simp only [List.cons_append,List.nil_append]
  refine wk 4 cz ?_
  intro b3
  refine Aa rfl (Ga (z:=(v:Int)) 1 0 0 rfl rfl rfl rfl rfl Ce Ep rfl (fun w A hG=>(Dq (by first|(simp only [Bv];omega)|(simp [Bv];done)))) (by omega) _ Hu (by omega) fun r2=>?_)
  refine wk 2 cz ?_ --ok
  refine Py [0,2] rfl rfl ?_
  refine ABM [0] rfl (.inl ⟨rfl,(i'+1,r2),rfl,?_,rfl⟩)
  dsimp only
  rw [List.take_add_one,at_v];rfl
 ·rintro Φ β' D C' ⟨⟨i',r1⟩,hi,rfl,rfl⟩
  obtain rfl:i'=data.length:=hi
  simp only [List.cons_append,List.nil_append]
  rw [List.take_length]
  refine wk 4 cz ?_ --ok
  simp only [List.drop_succ_cons,List.drop_zero,List.drop_nil]
  refine D4 2 [0] [0] rfl (.tmp rfl .nil) rfl rfl rfl ⟨r1,rfl,rfl,rfl⟩
theorem Q6 {b2:Nat}(hl:data.length≤1000000):Bt Tryz.prog 115 [.func (.func 117) #[] #[.pointer (some ⟨b2,0,none⟩)]] [] [Ja b2 [.slice ps n cs],Ap Ai ps n cs data] (RwI data.length data):=by
 refine Ab (F:=Rc) rfl fun C=>?_
 have J3:=fun {b2:Nat}=>Uu (ps:=ps) (n:=n) (cs:=cs) (data:=data) (b2:=b2) hl
 refine wk 7 (ct @J3 cz) ?_
 intro r1
 refine D4 1 [0] [0] rfl (.tmp rfl .nil) rfl rfl rfl ⟨r1,rfl,rfl,rfl⟩
end
open Go Go.Fw
set_option maxRecDepth 100000
set_option linter.unusedVariables false
set_option linter.unusedSimpArgs false
set_option maxHeartbeats 0
theorem AA1:Bt Tryz.prog 183 [.slice none 0 0,.int .i64 0,.int .i64 0] [] [] (Rv (.tuple #[]) []):=by
 refine Ab (F:=Ez) rfl fun C=>?_
 refine wk 3 cz ?_
 refine Ah (X:=Unit) [0,1,2] [] (fun _=>[(6,.int .i64 1)]) (fun _=>[]) (fun _=>[]) (fun _=>True) (fun _=>0) () [] rfl rfl rfl trivial (by repeat (first|exact Fr.sub_nil _|refine Fr.sub_cons rfl ?_)) rfl rfl ?_
 rintro ⟨⟩-ih
 simp only [List.cons_append,List.nil_append] at ih ⊢
 clear ih
 refine wk 5 cz ?_
 intro h1 --ok
 exact Cm [] rfl rfl ⟨rfl,rfl,rfl⟩
theorem AGc {k:Nat}(hk:k≤1000):Bt Tryz.prog 153 [.slice none 0 0,.int .i64 0,.int .i64 0,.int .i64 k] [] [] (Rv (.tuple #[]) []):=by
 refine Ab (F:=Gq) rfl fun C=>?_
 have Dd:=AA1
 refine wk 5 cz ?_
 refine Ah (X:=Unit) [0] [] (fun _=>[(1,.int .i64 0),(2,.int .i64 0)]) (fun _=>[]) (fun _=>[]) (fun _=>True) (fun _=>0) () [] rfl rfl rfl trivial (by repeat (first|exact Fr.sub_nil _|refine Fr.sub_cons rfl ?_)) rfl rfl ?_
 rintro ⟨⟩-ih
 simp only [List.cons_append,List.nil_append] at ih ⊢
 clear ih
 refine wk 10 (ct @Dd cz) ?_
 intro h1 --ok
 exact Va [] rfl rfl rfl ⟨rfl,rfl,rfl⟩
theorem AEL:Bt Tryz.prog 116 [.slice none 0 0] [] [] (Rv (.tuple #[]) []):=by
 refine Ab (F:=H2) rfl fun C=>?_
 have h8:=ACt (n:=0) (k:=8) (by simp)
 have Em:=AGc (k:=Tg 0) (by omega)
 refine wk 9 (ct @AAv (ct @Em cz)) ?_ --ok
 exact Cm [] rfl rfl ⟨rfl,rfl,rfl⟩
section
variable {b cap n:Nat}{cs:List Value}{l:List Int}{k:Int}
theorem ACR (hn:n≤12) (hr:∀ x∈l,Bv .i64 x) (hl:l.length=n) :
  Bt Tryz.prog 153 [.slice (some ⟨b,0,none⟩) n cap,.int .i64 0,.int .i64 n,.int .i64 k] [(some b,3,cs)] [A7 Ai ⟨some b,cap,cs⟩ n l] (AJw b cap n fun L=>Seg 0 n l L∧Ko L 0 n):=by
 refine Ab (F:=Gq) rfl fun C=>?_
 have Dd:=fun {cs:List Value}=>Og (b:=b) (cap:=cap) (n:=n) (cs:=cs) (l:=l) (a:=0) (e:=n) (by omega) hr hl (Nat.zero_le _) (Nat.le_refl _)
 refine wk 5 cz ?_
 refine Ah (X:=Nat) [0] [0] (fun _=>[(1,.int .i64 0),(2,.int .i64 n)]) (fun _=>_) (fun _=>[]) (fun _=>True) (fun i=>i) 0 [] rfl rfl rfl trivial (by repeat (first|exact Fr.sub_nil _|refine Fr.sub_cons rfl ?_)) rfl rfl ?_
 rintro i hi ih
 simp only [List.cons_append,List.nil_append] at hi ih ⊢
 refine wk 8 cz ?_
 intro h1
 refine Aa rfl (Ys 0 [0] rfl rfl (Dd) rfl ?_)
 rintro _ _ _ ⟨cs'1,L1,h2,h3,rfl,rfl,rfl⟩
 simp only [List.cons_append,List.nil_append]
 refine wk 1 cz ?_
 refine Va [0] rfl rfl rfl ⟨_,_,‹Seg 0 n l _∧Ko _ 0 n›,rfl,rfl,rfl⟩
theorem AB6 (hn:n≤12) (hr:∀ x∈l,Bv .i64 x) (hl:l.length=n) :
  Bt Tryz.prog 116 [.slice (some ⟨b,0,none⟩) n cap] [(some b,3,cs)] [A7 Ai ⟨some b,cap,cs⟩ n l] (AJw b cap n fun L=>Seg 0 n l L∧Ko L 0 n):=by
 refine Ab (F:=H2) rfl fun C=>?_
 have h8:=ACt (n:=n) (k:=8) (by simpa using (show n<256 by omega))
 have Em:=fun {k:Int}=>ACR (b:=b) (cap:=cap) (n:=n) (cs:=cs) (l:=l) (k:=k) hn hr hl
 refine wk 7 (ct @AAv cz) ?_
 refine Aa rfl (Ys 0 [0] rfl rfl (Em) rfl ?_)
 rintro _ _ _ ⟨cs'1,L1,h1,h2,rfl,rfl,rfl⟩
 simp only [List.cons_append,List.nil_append]
 refine wk 1 cz ?_ --ok
 refine Cm [0] rfl rfl ⟨_,_,‹Seg 0 n l _∧Ko _ 0 n›,rfl,rfl,rfl⟩
end
section
variable {ps:Option Addr}{n cs:Nat}{data:List Int}
theorem AGe {b2:Nat}(hl:data.length≤255) (hS:∀ {b cap:Nat}{cs:List Value},Bt Tryz.prog 116 [.slice (some ⟨b,0,none⟩) data.length cap] [(some b,3,cs)] [A7 Ai ⟨some b,cap,cs⟩ data.length data] (AJw b cap data.length fun L=>Seg 0 data.length data L∧Ko L 0 data.length)):Bt Tryz.prog 68 [.func (.func 117) #[] #[.pointer (some ⟨b2,0,none⟩)]] [] [Ja b2 [.slice ps n cs],Ap Ai ps n cs data]
  (fun v Φ β=>∃ (r:Row) (L:List Int),v = .slice (ad r.bo) data.length r.cap∧Φ=[A7 Ai r data.length L]∧β=[(r.bo,3,r.cs)]∧Seg 0 data.length data L∧Ko L 0 data.length):=by
 refine Ab (F:=Sp) rfl fun C=>?_
 have Q4:=fun {b2:Nat}=>Q6 (ps:=ps) (n:=n) (cs:=cs) (data:=data) (b2:=b2) (by omega)
 refine wk 5 (ct @Q4 cz) ?_
 intro r1
 simp only [List.cons_append,List.nil_append,List.append_nil]
 obtain ⟨bo,cap,cs1⟩:=r1
 cases bo with
 | none =>
  refine AAk (q:=data.length=0∧cap=0) (fun w A hG=>by
   obtain ⟨_,h2,_⟩:=hG _ (Af (n:=0) rfl)
   rcases h2 with ⟨_,h3,h4,_⟩|⟨b,h3,_⟩
   ·exact ⟨h3,h4⟩
   ·cases h3) fun ⟨h1,h2⟩=>?_
  obtain rfl:data=[]:=List.eq_nil_of_length_eq_zero h1
  subst h2
  have Fu:=AEL
  simp only [ad,List.length_nil]
  refine wk 7 (ct @Fu cz) ?_ --ok
  refine D4 1 [0] [0] rfl (.tmp rfl .nil) rfl rfl rfl ⟨⟨none,0,cs1⟩,[],rfl,rfl,rfl,Seg.refl,.short (by simp)⟩
 | some b =>
  have Fu:=fun {cs:List Value}=>hS (b:=b) (cap:=cap) (cs:=cs)
  simp only [ad]
  refine wk 3 cz ?_
  refine Aa rfl (Ys 0 [0] rfl rfl (Fu) rfl ?_)
  rintro _ _ _ ⟨cs'1,L1,h1,h2,rfl,rfl,rfl⟩
  simp only [List.cons_append,List.nil_append]
  refine wk 3 cz ?_ --ok
  refine D4 1 [0] [0] rfl (.tmp rfl .nil) rfl rfl rfl ⟨⟨some b,cap,cs'1⟩,L1,rfl,rfl,rfl,h1.1,h1.2⟩
theorem Zh {b2:Nat}(hl:data.length≤12) (hr:∀ x∈data,Bv .i64 x):Bt Tryz.prog 68 [.func (.func 117) #[] #[.pointer (some ⟨b2,0,none⟩)]] [] [Ja b2 [.slice ps n cs],Ap Ai ps n cs data]
  (fun v Φ β=>∃ (r:Row) (L:List Int),v = .slice (ad r.bo) data.length r.cap∧Φ=[A7 Ai r data.length L]∧β=[(r.bo,3,r.cs)]∧Seg 0 data.length data L∧Ko L 0 data.length):=AGe (by omega) fun {b cap cs}=>AB6 (b:=b) (cap:=cap) (cs:=cs) hl hr rfl
end
open Go Go.Fw
set_option maxRecDepth 100000
set_option linter.unusedVariables false
set_option linter.unusedSimpArgs false
set_option maxHeartbeats 0
def mvK (n:Nat) (v l:List Int) (i:Nat):List Int:=(List.range n).map fun j:Nat=>if l.idxOf (j:Int)<i then Bf v (l.idxOf (j:Int)) else 0
theorem AIf (n:Nat) (v l:List Int):mvK n v l 0=List.replicate n 0:=by
 rw [mvK]
 refine List.ext_getElem (by simp) fun i h1 h2=>?_
 simp
theorem AIk {n:Nat}{v l:List Int}(h:PmOk n l):mvK n v l n=mvI n v l:=by
 rw [mvK,mvI,Tc,AGA,List.map_map]
 refine List.map_congr_left fun j hj=>?_
 have h1:=List.idxOf_lt_length_iff.2 (h.mem (List.mem_range.1 hj))
 rw [h.len] at h1
 simp [h1]
theorem AI5 {n i:Nat}{v l:List Int}:(mvK n v l i).length=n:=by simp [mvK]
theorem AJq {n i:Nat}{v l:List Int}{p:Int}(h:PmOk n l) (hp:l[i]?=some p):(mvK n v l i).set p.toNat (Bf v i)=mvK n v l (i+1):=by
 have hi:i<l.length:=(List.getElem?_eq_some_iff.1 hp).1
 have hpe:l[i]=p:=(List.getElem?_eq_some_iff.1 hp).2
 obtain ⟨p0,p1⟩:=h.rng p (List.mem_of_getElem? hp)
 have hix:l.idxOf p=i:=by rw [← hpe];exact AIF h.nd hi
 refine List.ext_getElem (by simp [mvK]) fun j h1 h2=>?_
 rw [List.getElem_set]
 have hjn:j<n:=by simpa [mvK] using h2
 simp only [mvK,List.getElem_map,List.getElem_range]
 by_cases e:p.toNat=j
 ·rw [if_pos e]
  have ej:(j:Int)=p:=by omega
  rw [ej,hix,if_pos (by omega)]
 ·rw [if_neg e]
  have hne:l.idxOf (j:Int)≠i:=fun h3=>by
   have h4:=List.idxOf_lt_length_iff.2 (h.mem hjn)
   have h5:=List.getElem_idxOf h4
   simp only [h3] at h5
   omega
  by_cases h3:l.idxOf (j:Int)<i
  ·rw [if_pos h3,if_pos (by omega)]
  ·rw [if_neg h3,if_neg (by omega)]
theorem AIB {n k:Nat}{l L:List Int}(hs:Seg 0 k l L) (ho:Ko L 0 k) (hl:l.length=k):(k=n∧Yk n L)↔PmOk n l:=by
 have hp:=hs.perm
 have hLl:L.length=k:=by rw [hp.length_eq,hl]
 constructor
 ·rintro ⟨rfl,h1,h2⟩
  exact ⟨hl,hp.nodup_iff.1 (h2.imp fun h=>by omega),fun x hx=>h1 x (hp.mem_iff.2 hx)⟩
 ·intro h
  have hkn:k=n:=by rw [← hl];exact h.len
  refine ⟨hkn,fun x hx=>h.rng x (hp.mem_iff.1 hx),?_⟩
  have hnd:L.Nodup:=hp.nodup_iff.2 h.nd
  refine List.pairwise_iff_getElem.2 fun i j hi hj hij=>?_
  have h1:=ho i j (Nat.zero_le _) hij (by omega)
  rw [AFU hi,AFU hj] at h1
  have h2:L[i]≠L[j]:=fun e=>by
   have:=(List.getElem_inj hnd).1 e
   omega
  omega
noncomputable def pmE (P M:Int) (md:List Int) (N:Int) (rows:List (List Int)) (l:List Int):Int:=open Classical in if Pg P M md N rows≠0 then Pg P M md N rows else if PmOk N.toNat l then 0 else 6
noncomputable def pmX (P M:Int) (md:List Int) (N:Int) (rows:List (List Int)) (l:List Int):CR:=if pmE P M md N rows l=0 then ⟨P,M,N,md,(Dh P.toNat M.toNat md N.toNat (rows.map fun r=>mvI N.toNat r l)).1,0⟩ else zeR (pmE P M md N rows l)
theorem AGH {p m n:Nat}{md l:List Int}{rows:List (List Int)}(CC:Cok p m md n rows) (h:PmOk n l):pmX p m md n rows l=⟨p,m,n,md,(Dh p m md n (rows.map fun r=>mvI n r l)).1,0⟩:=by
 rw [pmX,if_pos (by rw [pmE,if_neg (fun e=>e CC.ck),Int.toNat_natCast,if_pos h])];simp only [Int.toNat_natCast]
theorem ALe {p m n:Nat}{md l:List Int}{rows:List (List Int)}(CC:Cok p m md n rows) (h:¬ PmOk n l):pmX p m md n rows l=zeR 6:=by
 have:pmE p m md n rows l=6:=by rw [pmE,if_neg (fun e=>e CC.ck),Int.toNat_natCast,if_neg h]
 rw [pmX,if_neg (by omega),this]
theorem AK3 {P M N:Int}{md l:List Int}{rows:List (List Int)}(h:Pg P M md N rows≠0):pmX P M md N rows l=zeR (Pg P M md N rows):=by
 have:pmE P M md N rows l=Pg P M md N rows:=by rw [pmE,if_pos h]
 rw [pmX,this,if_neg h]
theorem AJQ {q n:Nat}(hq:0<q) {v l:List Int}(hv:Wd q n v):Wd q n (mvI n v l):=by
 have:=AIb hq hv (AGA n l)
 rwa [show (AGA n l).length=n by simp [AGA]] at this
theorem AKU {q n:Nat}(hq:0<q) {rows:List (List Int)}{l:List Int}(hM:Cw q n rows):Cw q n (rows.map fun r=>mvI n r l):=fun r hr=>by
 obtain ⟨s,hs,rfl⟩:=List.mem_map.1 hr
 exact AJQ hq (hM s hs)
section
variable {P M:Int}{n c nm cm ns cs':Nat}{pm ps pt:Option Addr}{md l:List Int}{rows:List (List Int)}
theorem Vl {N:Int}(hN:Bv .i64 N) (hll:l.length≤255) (hS:(∀ x∈l,Bv .i64 x)→∀ {b2 n cs:Nat}{ps:Option Addr},Bt Tryz.prog 68 [.func (.func 117) #[] #[.pointer (some ⟨b2,0,none⟩)]] [] [Ja b2 [.slice ps n cs],Ap Ai ps n cs l] (fun v Φ β=>∃ (r:Row) (L:List Int),v = .slice (ad r.bo) l.length r.cap∧Φ=[A7 Ai r l.length L]∧β=[(r.bo,3,r.cs)]∧Seg 0 l.length l L∧Ko L 0 l.length)):Bt Tryz.prog 22 [.agg #[.int .i64 P,.int .i64 M,.slice pm nm cm,.int .i64 N,.slice ps n c],.slice pt ns cs'] [] [Ap Ai pm nm cm md,Ap (Aj Ai) ps n c rows,Ap Ai pt ns cs' l] (CdX (pmX P M md N rows l)):=by
 refine Ab (F:=W4) rfl fun C=>?_
 refine Ba 1 rfl fun hn hb1 _=>?_
 subst hn
 refine Ba 2 rfl fun hn hb _=>?_
 subst hn
 refine ALy 2 rfl fun hrl=>?_
 have hb':l.length*8≤140737488355328:=hb
 have hr:=Pv P M md N rows
 have Au:=fun {pm ps:Option Addr}{nm cm n c:Nat}=>Ds (P:=P) (M:=M) (pm:=pm) (ps:=ps) (nm:=nm) (cm:=cm) (n:=n) (c:=c) (md:=md) (rows:=rows) (N:=N) hN rfl
 by_cases h0:Pg P M md N rows=0
 ·obtain ⟨p,m,n',rfl,rfl,rfl,CC⟩:=Z4 h0
  rw [h0] at Au
  have Mg:=fun {ps:Option Addr}{n cs:Nat}=>Mi (ps:=ps) (n:=n) (cs:=cs)
  have Ru:=fun {ps:Option Addr}{n cs b2:Nat}=>hS hrl (ps:=ps) (n:=n) (cs:=cs) (b2:=b2)
  have C5:=fun {L:List Int}{ps:Option Addr}{nn c:Nat}{res:Bool}(h:decide (Yk (n':Int) L)=res)=>Gm (ps:=ps) (nn:=nn) (c:=c) (n:=(n':Int)) (l:=L) h
  refine wk 15 (ct @Au (ct @Mg cz)) ?_
  intro b1 b2 h1 b21
  refine Aa rfl (Aw [0,3] rfl (Ru) rfl ?_)
  rintro _ _ _ ⟨r1,L1,rfl,rfl,rfl,h2,h3⟩
  simp only [List.cons_append,List.nil_append]
  refine wk 4 cz ?_
  have hsg:=‹Seg 0 l.length l L1›
  have hso:=‹Ko L1 0 l.length›
  refine D2 0 0 rfl rfl (by show l.length*8≤140737488355328;omega) ?_
  simp only [List.eraseIdx_cons_zero]
  have hiff:=AIB (n:=n') hsg hso rfl
  refine Eh (Ap Ai none 0 0 []) (fun w A _=>Do _ w A none 0) ?_
  refine Eh (Ap (Aj Ai) none 0 0 []) (fun w A _=>Do _ w A none 0) ?_
  by_cases hp:PmOk n' l
  ·obtain ⟨hln,hst⟩:=hiff.2 hp
   rw [AGH CC hp]
   have K:=CC.K
   have hq:=K.q
   have q2:=(C1 K).q2
   have hl:=CC.len
   have h64:=CC.n64
   have hSM:Cw (p ^ m) n' (rows.map fun r=>mvI n' r l):=AKU (by omega) CC.mat
   have hRl:(rows.map fun r=>mvI n' r l).length=rows.length:=List.length_map _
   have C5:=fun {ps:Option Addr}{nn c:Nat}=>Gm (ps:=ps) (nn:=nn) (c:=c) (n:=(n':Int)) (l:=L1) (decide_eq_true hst)
   have Df:=fun {pm ps:Option Addr}{nm cm n c:Nat}=>Io (pm:=pm) (ps:=ps) (nm:=nm) (cm:=cm) (n:=n) (c:=c) (N:=n') (rows:=rows.map fun r=>mvI n' r l) K CC.n1 CC.n64 (by omega) hSM
   generalize hG:Dh p m md n' (rows.map fun r=>mvI n' r l)=G at *
   clear hG
   refine Aa rfl (Aq rfl Kt ?_)
   refine Aa rfl (Bm 1 rfl rfl Ci rfl ?_)
   refine Ae it 2 rfl (by simp) ?_
   refine K7 (t:=28) rfl (fun h4=>by exfalso;omega) (fun h4=>?_)
   refine Ae it 1 rfl (by simp) ?_
   refine Bp rfl rfl (Aq rfl Kt ?_)
   refine Bp rfl rfl (Bm 1 rfl rfl Ci rfl ?_)
   refine Bp rfl rfl (Aw [2] rfl (C5) rfl ?_)
   rintro _ _ _ ⟨rfl,rfl,rfl⟩
   simp only [List.cons_append,List.nil_append]
   simp only [decide_true]
   refine Ae it 2 rfl (by simp) ?_
   refine Am [_,_] rfl ?_
   refine K4 rfl rfl ?_
   refine Am [_,_] rfl ?_
   refine Aa rfl (Aq rfl Kt ?_)
   refine Aa rfl (Bm 1 rfl rfl Ci rfl ?_)
   refine Aa rfl (Dn (cs:=[Value.int IntKind.i64 ↑n',Value.slice none 0 0]) Uz G9 rfl rfl ?_)
   refine Aa rfl (Bl G9 fun b3=>?_)
   refine Aa rfl (A8 0 rfl rfl rfl F6 rfl rfl (by simp [Value.oneCell']) ?_)
   refine Am [_,_,_] rfl ?_
   refine Aa rfl (Aq rfl R9 ?_)
   refine Aa rfl (Bm 2 rfl rfl H7 rfl ?_)
   refine Aa rfl (Hf D5 rfl ?_)
   refine Ae it 1 rfl (by simp) ?_
   refine Am [_,_,_] rfl ?_
   refine F3 (Aj Ai) 22 ?_
   simp only [Cf,De,setB,List.take_succ_cons,List.cons_append,List.nil_append,List.take_zero,List.drop_succ_cons,List.drop_zero,List.length_singleton,Nat.zero_add]
   refine Ah (X:=Nat×Row) [1,2,4,5,8,40,41] [0,1,2,3,4,5,6,7,8] (fun z=>[(42,.int .i64 (z.1:Int))]) (fun z=>(z.2.bo,22,z.2.cs)::(some b3,62,[.int .i64 (n':Nat),.slice (ad z.2.bo) z.1 z.2.cap])::_) (fun z=>[A7 (Aj Ai) z.2 z.1 ((rows.take z.1).map fun r=>mvI n' r l)]) (fun z=>z.1≤rows.length) (fun z=>rows.length-z.1) (0,⟨none,0,[]⟩) [0] rfl rfl rfl (Nat.zero_le _) (by repeat (first|exact Fr.sub_nil _|refine Fr.sub_cons rfl ?_)) rfl rfl ?_
   rintro ⟨i,r⟩ hi ih
   simp only [List.cons_append,List.nil_append] at hi ih ⊢
   by_cases hil:i<rows.length
   ·obtain ⟨u,at_u⟩:∃ u,rows[i]?=some u:=⟨_,List.getElem?_eq_getElem hil⟩
    have hu:=CC.mat u (List.mem_of_getElem? at_u)
    have hul:=hu.1
    have ih1:=fun r=>ih (i+1,r) (by dsimp only;omega) (by dsimp only;omega)
    dsimp only at ih1
    rw [List.take_add_one (l:=rows),at_u,Option.toList_some,List.map_append,List.map_cons,List.map_nil] at ih1
    clear ih
    refine wk 18 cz ?_
    intro h5 b4 o1 hz1 pa1 ca1 b5
    rw [show Ao .i64 (List.replicate n' 0)=Al .i64 (mvK n' u l 0) by rw [AIf];simp [Ao,Al]]
    simp only [List.cons_append,List.nil_append]
    refine Ah (X:=Nat) [1,2,4,5,8,10,11,40,41,42,43,44,45,46,47,48,49,50] [0,1,2,3,4,5,6,7,8,9,10,11] (fun t=>[(51,.int .i64 (t:Int))]) (fun t=>(some b5,3,Al .i64 (mvK n' u l t))::_) (fun _=>[]) (fun t=>t≤l.length) (fun t=>l.length-t) 0 [] rfl rfl rfl (Nat.zero_le _) (by repeat (first|exact Fr.sub_nil _|refine Fr.sub_cons rfl ?_)) rfl rfl ?_
    rintro t ht ih
    simp only [List.cons_append,List.nil_append] at ht ih ⊢
    by_cases htl:t<l.length
    ·obtain ⟨x,at_x⟩:∃ x,l[t]?=some x:=⟨_,List.getElem?_eq_getElem htl⟩
     obtain ⟨x0,x1⟩:=hp.rng x (List.mem_of_getElem? at_x)
     have at_y:u[t]?=some (Bf u t):=by rw [Bf,List.getD_eq_getElem?_getD,List.getElem?_eq_getElem (by omega)];rfl
     have hyr:=Bh (show 0<p ^ m by omega) hu t
     have ih':=ih (t+1) (by omega) (by omega)
     rw [← AJq hp at_x] at ih'
     have hKl:=AI5 (n:=n') (i:=t) (v:=u) (l:=l)
     generalize mvK n' u l t=T at *
     clear ih
     refine wk 7 cz ?_
     intro h6 b6 o2 hz2
     refine Aa rfl (Av 0 rfl rfl Ci fun ⟨r2,r3⟩=>?_)
     refine wk 4 cz ?_
     intro b7 o3 hz3
     refine Aa rfl (Av 0 rfl rfl Ci fun ⟨r4,r5⟩=>?_)
     refine wk 5 cz ?_
     exact tw (ih')
    ·obtain rfl:t=l.length:=by omega
     clear ih
     have hmv:=AJQ (l:=l) (show 0<p ^ m by omega) hu
     rw [show mvK n' u l l.length=mvI n' u l by rw [hln];exact AIk hp]
     have hmr:∀ z∈mvI n' u l,Bv .i64 z:=fun z hz=>by have:=hmv.2 z hz;simp only [Bv];omega
     have hml:=hmv.1
     generalize mvI n' u l=T at *
     refine Bk 0 rfl hml.symm hmr (by omega) ?_
     refine wk 9 cz ?_
     intro h6 b6
     refine C4 1 0 rfl rfl (by show (n')*8≤140737488355328;omega) ?_
     refine Aa rfl (Ga (z:=T) 1 0 4 rfl rfl rfl rfl rfl D5 I6 rfl (fun w A hG=>(A2 (hG _ (Af (n:=0) rfl)))) (by omega) _ M7 (by omega) fun r2=>?_)
     refine wk 5 cz ?_
     refine Kx [true,false,true,true,true] [0,6,7,8,9,10,11,12,13,14] (by exact Uy rfl) rfl rfl (ih1 r2)
   ·obtain rfl:i=rows.length:=by omega
    clear ih
    rw [List.take_length]
    refine D2 0 0 rfl rfl (by show rows.length*24≤140737488355328;omega) ?_
    simp only [List.eraseIdx_cons_zero,List.eraseIdx_cons_succ]
    refine wk 13 (ct @Df cz) ?_
    intro h5 pb1 pc1 nb1 cb1 nc1 cc1
    refine Bj [0,1] rfl (.agg 1 rfl rfl Cs rfl (.tmp rfl .nil)) rfl ⟨_,_,_,_,_,_,rfl,rfl,rfl⟩
  ·rw [ALe CC hp]
   by_cases hln:l.length=n'
   ·have C5:=fun {ps:Option Addr}{nn c:Nat}=>Gm (ps:=ps) (nn:=nn) (c:=c) (n:=(n':Int)) (l:=L1) (decide_eq_false fun h=>hp (hiff.1 ⟨hln,h⟩))
    refine wk 17 (ct @C5 cz) ?_
    intro h4
    refine Bj [1,0] rfl (.agg 0 rfl rfl Cs rfl (.tmp rfl .nil)) rfl ⟨_,_,_,_,_,_,rfl,rfl,rfl⟩
   ·refine wk 13 cz ?_
    intro h4
    refine Bj [1,0] rfl (.agg 0 rfl rfl Cs rfl (.tmp rfl .nil)) rfl ⟨_,_,_,_,_,_,rfl,rfl,rfl⟩
 ·rw [AK3 h0]
  generalize Pg P M md N rows=e at *
  refine Eh (Ap Ai none 0 0 []) (fun w A _=>Do _ w A none 0) ?_
  refine Eh (Ap (Aj Ai) none 0 0 []) (fun w A _=>Do _ w A none 0) ?_
  refine wk 18 (ct @Au cz) ?_
  intro b1 b2 h1
  refine Bj [1,0] rfl (.agg 0 rfl rfl Cs rfl (.tmp rfl .nil)) rfl ⟨_,_,_,_,_,_,rfl,rfl,rfl⟩
end
open Go Go.Fw
set_option maxRecDepth 100000
set_option linter.unusedVariables false
set_option linter.unusedSimpArgs false
set_option maxHeartbeats 0
def Mp (M:Nat→Nat→Nat) (p:Nat):Nat→Nat→Nat
 | 0,x=>x
 | k+1,x=>B2 M (Mp M p k x) p
def Nc (f:Nat→Nat):Nat→Nat→Nat
 | 0,x=>x
 | k+1,x=>f (Nc f k x)
def R4 (M:Nat→Nat→Nat) (p m d x:Nat):List Nat:=(List.range (m / d)).map fun i=>Nc (Mp M p (d % m)) i x
def dgB (m d:Nat):Bool:=decide (d≤m∧m % d=0)
theorem AKP {p m:Nat}{md:List Int}(K:Fok p m md) {x:Nat}(hx:x<p ^ m) (k:Nat):B2 (fM p (Ax m md)) x k<p ^ m:=K.rng'.pw_lt hx k
theorem Nw {p m:Nat}{md:List Int}(K:Fok p m md) {x:Nat}(hx:x<p ^ m):∀ k,Mp (fM p (Ax m md)) p k x<p ^ m
 | 0=>hx
 | k+1=>AKP K (Nw K hx k) p
theorem P6 {q:Nat}{f:Nat→Nat}(hf:∀ x,x<q→f x<q) {x:Nat}(hx:x<q):∀ k,Nc f k x<q
 | 0=>hx
 | k+1=>hf _ (P6 hf hx k)
theorem AGK {p m:Nat}{md:List Int}(K:Fok p m md) {x:Nat}(hx:x<p ^ m):Ad (fA p m) (x:Int) 0=(x:Int):=K.fi.a0 _ (by omega) (by exact_mod_cast hx)
section
variable {p m b ng cg ce cl:Nat}{pg pe pl:Option Addr}{md:List Int}
theorem Jz {ne nl cg:Nat}(K:Fok p m md):Bt Tryz.prog 161 [.pointer (some ⟨b,0,none⟩)] [] [Jc b p m (p ^ m) pg md.length cg pe ne ce pl nl cl,Ap Ai pg md.length cg md] (Rv (.tuple #[.int .i64 p,.int .i64 m]) []):=by
 refine Ab (F:=AAz) rfl fun C=>?_
 have h8:md.length≤8:=by
  by_cases h:m=1
  ·rw [K.one h];exact Nat.zero_le _
  ·rw [K.len h];exact K.m8
 have hp:=K.p256
 have hm:=K.m8
 have Vn:=fun {b q ne ce nl cl:Nat}{pg pe pl:Option Addr}{cg:Nat}=>Vo (p:=p) (m:=m) (q:=q) (b:=b) (ne:=ne) (ce:=ce) (nl:=nl) (cl:=cl) (pg:=pg) (pe:=pe) (pl:=pl) (md:=md) (cg:=cg) h8 hp hm
 refine wk 11 (ct @Vn cz) ?_
 intro pb1 nb1 cb1 b1
 exact ge
theorem F5 {ne nl cg d:Nat}(K:Fok p m md) (d1:1≤d) (d8:d≤8):Bt Tryz.prog 162 [.pointer (some ⟨b,0,none⟩),.int .i64 (d:Int)] [] [Jc b p m (p ^ m) pg md.length cg pe ne ce pl nl cl,Ap Ai pg md.length cg md] (Rv (.bool (dgB m d)) []):=by
 refine Ab (F:=W8) rfl fun C=>?_
 have hm:=K.m8
 have D8:=fun {b ne ce nl cl cg:Nat}{pg pe pl:Option Addr}=>Jz (b:=b) (ne:=ne) (ce:=ce) (nl:=nl) (cl:=cl) (cg:=cg) (pg:=pg) (pe:=pe) (pl:=pl) K
 have hr0:0≤(m:Int) % (d:Int):=Int.emod_nonneg _ (by omega)
 have hr1:(m:Int) % (d:Int)<(d:Int):=Int.emod_lt_of_pos _ (by omega)
 by_cases h1:d≤m
 ·have e:dgB m d=decide ((m:Int) % (d:Int)=0):=by
   rw [dgB,decide_eq_decide]
   constructor
   ·intro h;have:=h.2;omega
   ·intro h;exact ⟨h1,by omega⟩
  rw [e]
  refine wk 19 (ct @D8 cz) ?_
  intro h2 h3
  exact ge
 ·have e:dgB m d=false:=decide_eq_false fun h=>h1 h.1
  rw [e]
  refine wk 19 (ct @D8 cz) ?_
  intro h2 h3
  exact ge
theorem Nf {cg x k:Nat}(K:Fok p m md) (hx:x<p ^ m) (hk:k≤64):Bt Tryz.prog 171 [.pointer (some ⟨b,0,none⟩),.int .i64 (x:Int),.int .i64 (k:Int)] [] [Jc b p m (p ^ m) pg md.length cg pe (p ^ m-1) ce pl (p ^ m) cl,Ap Ai pg md.length cg md,Ap Ai pe (p ^ m-1) ce (Jh p m md),Ap Ai pl (p ^ m) cl (Jk p m md)] (Rv (.int .i64 ((Mp (fM p (Ax m md)) p (k % m) x:Nat):Int)) []):=by
 refine Ab (F:=Wl) rfl fun C=>?_
 have hm:=K.m8
 have hm1:=K.m1
 have hp:=K.p256
 have hp2:=K.p2
 have hq:=K.q
 have D8:=fun {b ne ce nl cl cg:Nat}{pg pe pl:Option Addr}=>Jz (b:=b) (ne:=ne) (ce:=ce) (nl:=nl) (cl:=cl) (cg:=cg) (pg:=pg) (pe:=pe) (pl:=pl) K
 have X5:=fun {b ng cg ce cl:Nat}{pg pe pl:Option Addr}{a:Nat}(h:a<p ^ m)=>X9 (b:=b) (ng:=ng) (cg:=cg) (ce:=ce) (cl:=cl) (pg:=pg) (pe:=pe) (pl:=pl) (a:=a) (k:=p) K h (by omega) hp
 have Bq:=fun {b ng cg ne ce nl cl:Nat}{pg pe pl:Option Addr}{x y:Int}=>Dc (p:=p) (m:=m) (b:=b) (ng:=ng) (cg:=cg) (ne:=ne) (ce:=ce) (nl:=nl) (cl:=cl) (pg:=pg) (pe:=pe) (pl:=pl) (x:=x) (y:=y) K.p2 K.m1 hq
 have hlt:=Nw K hx
 have haz:=fun y (h:y<p ^ m)=>AGK K h
 generalize Jh p m md=ex at *
 generalize Jk p m md=lg at *
 generalize fM p (Ax m md)=M at *
 generalize Ad (fA p m)=A at *
 generalize p ^ m=q at *
 have hr0:0≤(k:Int) % (m:Int):=Int.emod_nonneg _ (by omega)
 have hr1:(k:Int) % (m:Int)<(m:Int):=Int.emod_lt_of_pos _ (by omega)
 have hs:((k:Int) % (m:Int)+(m:Int)) % (m:Int)=((k % m:Nat):Int):=by rw [Int.add_emod_right,Int.emod_emod,Int.natCast_emod]
 have hs1:k % m<m:=Nat.mod_lt _ (by omega)
 have hs0:((k:Int) % (m:Int)+(m:Int)) % (m:Int)≤8∧0≤((k:Int) % (m:Int)+(m:Int)) % (m:Int):=by omega
 refine wk 9 (ct @D8 cz) ?_
 simp only [hs]
 refine Ah (X:=Nat) [0,6,7,20] [0,1,2,3] (fun i=>[(21,.int .i64 (i:Int)),(1,.int .i64 ((Mp M p i x:Nat):Int))]) (fun _=>_) (fun _=>[]) (fun i=>i≤k % m) (fun i=>k % m-i) 0 [] rfl rfl rfl (Nat.zero_le _) (by repeat (first|exact Fr.sub_nil _|refine Fr.sub_cons rfl ?_)) rfl rfl ?_
 rintro i hi ih
 simp only [List.cons_append,List.nil_append] at hi ih ⊢
 have hli:=hlt i
 by_cases h9:i<k % m
 ·have ih':=ih (i+1) (by omega) (by omega)
  rw [Mp] at ih'
  have hl2:=hlt (i+1)
  rw [Mp] at hl2
  generalize Mp M p i x=y at *
  refine wk 11 (ct @X5 cz) ?_
  intro h1
  exact tw (ih')
 ·obtain rfl:i=k % m:=by omega
  clear ih
  have e:=haz _ hli
  generalize Mp M p (k % m) x=y at *
  refine wk 9 (ct @Bq cz) ?_
  intro h1
  rw [e]
  exact ge
theorem ABF {M:Nat→Nat→Nat}{d x:Nat}:(R4 M p m d x).length=m / d:=by simp [R4]
theorem AKp {M:Nat→Nat→Nat}{d x i:Nat}(hi:i<m / d):(R4 M p m d x)[i]?=some (Nc (Mp M p (d % m)) i x):=by
 rw [R4,List.getElem?_map,List.getElem?_range hi];rfl
theorem K3 {cg x d:Nat}(K:Fok p m md) (hx:x<p ^ m) (d1:1≤d) (d8:d≤8):Bt Tryz.prog 170 [.pointer (some ⟨b,0,none⟩),.int .i64 (x:Int),.int .i64 (d:Int)] [] [Jc b p m (p ^ m) pg md.length cg pe (p ^ m-1) ce pl (p ^ m) cl,Ap Ai pg md.length cg md,Ap Ai pe (p ^ m-1) ce (Jh p m md),Ap Ai pl (p ^ m) cl (Jk p m md)] (RwI (m / d) (Bb (R4 (fM p (Ax m md)) p m d x))):=by
 refine Ab (F:=ACI) rfl fun C=>?_
 have hm:=K.m8
 have hq:=K.q
 have D8:=fun {b ne ce nl cl cg:Nat}{pg pe pl:Option Addr}=>Jz (b:=b) (ne:=ne) (ce:=ce) (nl:=nl) (cl:=cl) (cg:=cg) (pg:=pg) (pe:=pe) (pl:=pl) K
 have Bq:=fun {b ng cg ne ce nl cl:Nat}{pg pe pl:Option Addr}{x y:Int}=>Dc (p:=p) (m:=m) (b:=b) (ng:=ng) (cg:=cg) (ne:=ne) (ce:=ce) (nl:=nl) (cl:=cl) (pg:=pg) (pe:=pe) (pl:=pl) (x:=x) (y:=y) K.p2 K.m1 hq
 have G5:=fun {b cg ce cl x k:Nat}{pg pe pl:Option Addr}=>Nf (b:=b) (cg:=cg) (ce:=ce) (cl:=cl) (pg:=pg) (pe:=pe) (pl:=pl) (x:=x) (k:=k) K
 have hlt:=fun i=>P6 (f:=Mp (fM p (Ax m md)) p (d % m)) (fun y hy=>Nw K hy (d % m)) hx i
 have haz:=AGK K hx
 have hdv:m / d≤8:=Nat.le_trans (Nat.div_le_self m d) hm
 have hdi:(m:Int) / (d:Int)=((m / d:Nat):Int):=(Int.natCast_ediv m d).symm
 have hLl:=ABF (p:=p) (m:=m) (M:=fM p (Ax m md)) (d:=d) (x:=x)
 have hLa:=fun i (h:i<m / d)=>AKp (p:=p) (m:=m) (M:=fM p (Ax m md)) (d:=d) (x:=x) h
 generalize hL:R4 (fM p (Ax m md)) p m d x=L at *
 generalize Jh p m md=ex at *
 generalize Jk p m md=lg at *
 generalize fM p (Ax m md)=M at *
 generalize Ad (fA p m)=A at *
 generalize p ^ m=q at *
 clear hL
 have h0:0≤(m:Int) / (d:Int)∧(m:Int) / (d:Int)≤8:=by omega
 refine wk 19 (ct @D8 (ct @Bq cz)) ?_
 intro b1
 simp only [hdi,Int.toNat_natCast]
 rw [haz,show Ao .i64 (List.replicate (m / d) 0)=Al .i64 ((Bb L).take 0++List.replicate (m / d-0) 0) by simp [Ao,Al]]
 refine Ah (X:=Nat) [0,2,6,9,25] [0,1,2,3] (fun i=>[(26,.int .i64 (i:Int)),(10,.int .i64 ((Nc (Mp M p (d % m)) i x:Nat):Int))]) (fun i=>[(some b1,3,Al .i64 ((Bb L).take i++List.replicate (m / d-i) 0))]) (fun _=>[]) (fun i=>i≤m / d) (fun i=>m / d-i) 0 [] rfl rfl rfl (Nat.zero_le _) (by repeat (first|exact Fr.sub_nil _|refine Fr.sub_cons rfl ?_)) rfl rfl ?_
 rintro i hi ih
 simp only [List.cons_append,List.nil_append] at hi ih ⊢
 have hli:=hlt i
 by_cases h9:i<m / d
 ·have ih':=ih (i+1) (by omega) (by omega)
  have eT:(Bb L)[i]?=some ((Nc (Mp M p (d % m)) i x:Nat):Int):=by rw [Bb,List.getElem?_map,hLa i h9];rfl
  have hl2:=hlt (i+1)
  rw [Nc] at ih' hl2
  rw [← take_set eT h9] at ih'
  have hln:((Bb L).take i++List.replicate (m / d-i) 0).length=m / d:=by simp [Bb];omega
  generalize (Bb L).take i++List.replicate (m / d-i) 0=T at *
  generalize Nc (Mp M p (d % m)) i x=y at *
  clear ih
  refine wk 17 (ct @G5 cz) ?_
  intro h1
  exact tw (ih')
 ·obtain rfl:i=m / d:=by omega
  have hTl:(Bb L).length=m / d:=by rw [Bb,List.length_map];exact hLl
  rw [Nat.sub_self,List.replicate_zero,List.append_nil,List.take_of_length_le (by omega)]
  clear ih
  refine wk 7 cz ?_
  intro h1
  have hall:∀ z∈Bb L,Bv .i64 z:=fun z hz=>by
   obtain ⟨j,hj⟩:=List.getElem?_of_mem hz
   have hj':j<m / d:=by have:=(List.getElem?_eq_some_iff.1 hj).1;omega
   rw [Bb,List.getElem?_map,hLa j hj'] at hj
   have:=hlt j
   have e:((Nc (Mp M p (d % m)) j x:Nat):Int)=z:=Option.some.inj hj
   simp only [Bv];omega
  generalize Bb L=T at *
  refine Bk 0 rfl hTl.symm hall (by omega) ?_
  refine D4 1 [0] [0] rfl (.tmp rfl .nil) rfl rfl rfl ⟨⟨some b1,m / d,Al .i64 T⟩,rfl,rfl,rfl⟩
theorem AGC {d x:Nat}(K:Fok p m md) (hx:x<p ^ m):∀ z∈Bb (R4 (fM p (Ax m md)) p m d x),0≤z∧z<((p ^ m:Nat):Int):=fun z hz=>by
 obtain ⟨y,hy,rfl⟩:=List.mem_map.1 hz
 obtain ⟨i,_,rfl⟩:=List.mem_map.1 hy
 have:=P6 (f:=Mp (fM p (Ax m md)) p (d % m)) (fun y hy=>Nw K hy (d % m)) hx i
 omega
theorem AAW {cg x d:Nat}(K:Fok p m md) (hx:x<p ^ m) (d1:1≤d) (d8:d≤8) (hd:dgB m d=true):Bt Tryz.prog 130 [.pointer (some ⟨b,0,none⟩),.int .i64 (x:Int),.int .i64 (d:Int)] [] [Jc b p m (p ^ m) pg md.length cg pe (p ^ m-1) ce pl (p ^ m) cl,Ap Ai pg md.length cg md,Ap Ai pe (p ^ m-1) ce (Jh p m md),Ap Ai pl (p ^ m) cl (Jk p m md)] (Rv (.tuple #[.int .i64 (S0 (Ad (fA p m)) (Bb (R4 (fM p (Ax m md)) p m d x))),.int .i64 0]) []):=by
 refine Ab (F:=AAP) rfl fun C=>?_
 have hm:=K.m8
 have hdv:m / d≤8:=Nat.le_trans (Nat.div_le_self m d) hm
 have Bg:=fun {b ne ce nl cl cg:Nat}{pg pe pl:Option Addr}=>F5 (b:=b) (ne:=ne) (ce:=ce) (nl:=nl) (cl:=cl) (cg:=cg) (pg:=pg) (pe:=pe) (pl:=pl) K d1 d8
 have Cp:=fun {b cg ce cl:Nat}{pg pe pl:Option Addr}=>(K3 (b:=b) (cg:=cg) (ce:=ce) (cl:=cl) (pg:=pg) (pe:=pe) (pl:=pl) K hx d1 d8).pubR (by show m / d*8≤140737488355328;omega)
 have Kk:=fun {b ng cg ne ce nl cl nu cu:Nat}{pg pe pl pu:Option Addr}=>Qj (b:=b) (ng:=ng) (cg:=cg) (ne:=ne) (ce:=ce) (nl:=nl) (cl:=cl) (pg:=pg) (pe:=pe) (pl:=pl) (pu:=pu) (nu:=nu) (cu:=cu) K (AGC (d:=d) K hx)
 rw [hd] at Bg
 generalize Bb (R4 (fM p (Ax m md)) p m d x)=T at *
 refine wk 14 (ct @Bg (ct @Cp (ct @Kk cz))) ?_
 intro pa1 ca1
 exact ge
theorem Un {cg x d:Nat}(K:Fok p m md) (hx:x<p ^ m) (d1:1≤d) (d8:d≤8) (hd:dgB m d=true) (hc:Nc (Mp (fM p (Ax m md)) p (d % m)) (m / d) x=x):Bt Tryz.prog 128 [.pointer (some ⟨b,0,none⟩),.int .i64 (x:Int),.int .i64 (d:Int)] [] [Jc b p m (p ^ m) pg md.length cg pe (p ^ m-1) ce pl (p ^ m) cl,Ap Ai pg md.length cg md,Ap Ai pe (p ^ m-1) ce (Jh p m md),Ap Ai pl (p ^ m) cl (Jk p m md)]
  (fun v Φ β=>∃ (r:Row) (k:Nat),v = .tuple #[.slice (ad r.bo) k r.cap,.int .i64 0]∧Φ=[A7 Ai r k (Bb ((List.range k).map fun i=>Nc (Mp (fM p (Ax m md)) p (d % m)) i x))]∧β=[(r.bo,3,r.cs)]∧1≤k∧k≤m / d∧Nc (Mp (fM p (Ax m md)) p (d % m)) k x=x∧∀ i,1≤i→i<k→Nc (Mp (fM p (Ax m md)) p (d % m)) i x≠x):=by
 refine Ab (F:=Us) rfl fun C=>?_
 have hm:=K.m8
 have hq:=K.q
 have hdv:m / d≤8:=Nat.le_trans (Nat.div_le_self m d) hm
 have hdv1:1≤m / d:=Nat.div_pos (of_decide_eq_true hd).1 d1
 have Bg:=fun {b ne ce nl cl cg:Nat}{pg pe pl:Option Addr}=>F5 (b:=b) (ne:=ne) (ce:=ce) (nl:=nl) (cl:=cl) (cg:=cg) (pg:=pg) (pe:=pe) (pl:=pl) K d1 d8
 rw [hd] at Bg
 have Bq:=fun {b ng cg ne ce nl cl:Nat}{pg pe pl:Option Addr}{x y:Int}=>Dc (p:=p) (m:=m) (b:=b) (ng:=ng) (cg:=cg) (ne:=ne) (ce:=ce) (nl:=nl) (cl:=cl) (pg:=pg) (pe:=pe) (pl:=pl) (x:=x) (y:=y) K.p2 K.m1 hq
 have G5:=fun {b cg ce cl x k:Nat}{pg pe pl:Option Addr}=>Nf (b:=b) (cg:=cg) (ce:=ce) (cl:=cl) (pg:=pg) (pe:=pe) (pl:=pl) (x:=x) (k:=k) K
 have hlt:=fun i=>P6 (f:=Mp (fM p (Ax m md)) p (d % m)) (fun y hy=>Nw K hy (d % m)) hx i
 have haz:=AGK K hx
 generalize Jh p m md=ex at *
 generalize Jk p m md=lg at *
 generalize fM p (Ax m md)=M at *
 generalize Ad (fA p m)=A at *
 generalize p ^ m=q at *
 have hh1:=hlt 1
 refine wk 17 (ct @Bg (ct @Bq cz)) ?_
 intro b1
 simp only [haz,List.nil_append,List.append_nil]
 (apply Ly (E:=Ai) (n:=1) [[.int .i64 (x:Int)]] [(x:Int)] 0 (fun w A hG=>⟨rfl,fun i vs y hv hy=>by
  cases i with
  | zero=>cases hv;cases hy;exact ⟨rfl,by simp only [Bv];omega⟩
  | succ i=>simp at hv⟩);(· rfl);(· rfl);(· rfl);(· rfl);(· decide))
 refine wk 4 (ct @G5 cz) ?_
 generalize hf:Mp M p (d % m)=f at *
 have hfs:∀ y,Mp M p (d % m) y=f y:=fun y=>by rw [hf]
 simp only [List.cons_append,List.nil_append]
 refine Ah (X:=Nat×Row) [0,1,2,6,7] [0,1,2,3,4] (fun z=>[(9,.int .i64 ((Nc f z.1 x:Nat):Int)),(8,.slice (ad z.2.bo) z.1 z.2.cap)]) (fun z=>[(z.2.bo,3,z.2.cs)]) (fun z=>[A7 Ai z.2 z.1 (Bb ((List.range z.1).map fun i=>Nc f i x))]) (fun z=>1≤z.1∧z.1≤m / d∧∀ i,1≤i→i<z.1→Nc f i x≠x) (fun z=>m / d-z.1) (1,⟨some b1,1,[.int .i64 (x:Int)]⟩) [0] rfl rfl rfl ⟨Nat.le_refl 1,hdv1,fun i h1 h2=>by dsimp only at h2;omega⟩ (by repeat (first|exact Fr.sub_nil _|refine Fr.sub_cons rfl ?_)) rfl rfl ?_
 rintro ⟨j,r⟩ hj ih
 simp only [List.cons_append,List.nil_append] at hj ih ⊢
 obtain ⟨hj1,hj2,hj3⟩:=hj
 have hlj:=hlt j
 have hls:=hlt (j+1)
 rw [Nc] at hls
 by_cases hx0:Nc f j x=x
 ·clear ih
  generalize hT:Bb ((List.range j).map fun i=>Nc f i x)=T at *
  have hd0:((Nc f j x:Nat):Int)=(x:Int):=by omega
  refine wk 7 cz ?_
  intro h1
  refine D4 1 [0] [0] rfl (.tmp rfl (.tmp rfl .nil)) rfl rfl rfl ⟨r,j,rfl,by rw [← hT],rfl,hj1,hj2,hx0,hj3⟩
 ·have hd0:((Nc f j x:Nat):Int)≠(x:Int):=by omega
  have hjm:j≠m / d:=fun e=>hx0 (by rw [e];exact hc)
  have ih':=fun r=>ih (j+1,r) (by dsimp only;omega) ⟨by dsimp only;omega,by dsimp only;omega,fun i h1 h2=>by
   dsimp only at h2
   by_cases e:i=j
   ·rw [e];exact hx0
   ·exact hj3 i h1 (by omega)⟩
  dsimp only at ih'
  have hTs:Bb ((List.range (j+1)).map fun i=>Nc f i x)=Bb ((List.range j).map fun i=>Nc f i x)++[((Nc f j x:Nat):Int)]:=by simp [Bb,List.range_succ]
  rw [hTs,Nc] at ih'
  generalize Bb ((List.range j).map fun i=>Nc f i x)=T at *
  generalize Nc f j x=y at *
  clear ih
  refine wk 7 cz ?_
  intro h1 b2
  refine Aa rfl (Ga (z:=(↑y:Int)) 1 0 0 rfl rfl rfl rfl rfl Ce Ep rfl (fun w A hG=>(Dq (by first|(simp only [Bv];omega)|(simp [Bv];done)))) (by omega) _ Hu (by omega) fun r1=>?_)
  refine wk 6 (ct @G5 cz) ?_
  rw [hf]
  refine Kx [true,false] [0,2,3,4,5,6] (by exact Uy rfl) rfl rfl (ih' r1)
end
open Go Go.Fw
set_option maxRecDepth 100000
set_option linter.unusedVariables false
set_option linter.unusedSimpArgs false
set_option maxHeartbeats 0
theorem AAf {A M:Int→Int→Int}{N V:Int→Int}:∀ (n c t:Nat) (rows:List (List Int)),(Dr A M N V n c t rows).2.length≤n
 | 0,_,_,_=>Nat.le_refl _
 | n+1,c,t,rows=>by
  rw [Dr]
  cases Hr rows t c with
  | none=>exact Nat.le_succ_of_le (AAf n (c+1) t rows)
  | some k=>exact Nat.succ_le_succ (AAf n (c+1) (t+1) _)
theorem FO.nml {q:Nat}{A M:Int→Int→Int}{N V:Int→Int}(O:FO q A M N V) {z y:Int}(z0:0≤z) (z1:z<q) (y0:0≤y) (y1:y<q):N (M z y)=M (N z) y:=by
 have F:=O.fi
 obtain ⟨⟨n0,n1⟩,nz⟩:=O.ng z z0 z1
 have h1:=F.ml z y z0 z1 y0 y1
 obtain ⟨⟨k0,k1⟩,nk⟩:=O.ng _ h1.1 h1.2
 have h2:=F.ml (N z) y n0 n1 y0 y1
 refine F.cancel (x:=M z y) h1.1 h1.2 k0 k1 h2.1 h2.2 ?_
 rw [nk,F.mc z y z0 z1 y0 y1,F.mc (N z) y n0 n1 y0 y1,← F.md y z (N z) y0 y1 z0 z1 n0 n1,nz,F.m0 y0 y1]
def axK (A M:Int→Int→Int) (a:Int) (r u:List Int) (j:Nat):List Int:=(Eo A M a r u).take j++u.drop j
theorem AJg {A M:Int→Int→Int}{a:Int}{r u:List Int}{n j:Nat}(hr:r.length=n) (hu:u.length=n):(axK A M a r u j).length=n:=by
 simp only [axK,Eo,List.length_append,List.length_take,List.length_zipWith,List.length_drop,hr,hu];omega
theorem AGV {A M:Int→Int→Int}{a:Int}{r u:List Int}:axK A M a r u 0=u:=by simp [axK]
theorem AIE {A M:Int→Int→Int}{a:Int}{r u:List Int}{n:Nat}(hr:r.length=n) (hu:u.length=n):axK A M a r u n=Eo A M a r u:=by
 rw [axK,List.take_of_length_le (by simp only [Eo,List.length_zipWith,hr,hu];omega),List.drop_of_length_le (by omega),List.append_nil]
theorem ALb {A M:Int→Int→Int}{a:Int}{r u:List Int}{n j:Nat}(hr:r.length=n) (hu:u.length=n) (hj:j<n):(axK A M a r u j)[j]?=some (Bf u j):=by
 have h1:((Eo A M a r u).take j).length=j:=by simp only [Eo,List.length_take,List.length_zipWith,hr,hu];omega
 rw [axK,List.getElem?_append_right (by omega),h1,Nat.sub_self,List.getElem?_drop,Nat.add_zero,Bf,List.getD_eq_getElem?_getD,List.getElem?_eq_getElem (by omega)];rfl
theorem AIs {A M:Int→Int→Int}{a:Int}{r u:List Int}{n j:Nat}(hr:r.length=n) (hu:u.length=n) (hj:j<n):(axK A M a r u j).set j (A (Bf u j) (M a (Bf r j)))=axK A M a r u (j+1):=by
 have hl:(Eo A M a r u).length=n:=by simp only [Eo,List.length_zipWith,hr,hu];omega
 have h1:((Eo A M a r u).take j).length=j:=by rw [List.length_take];omega
 rw [axK,axK,List.take_succ_eq_append_getElem (by omega),List.drop_eq_getElem_cons (by omega),List.set_append_right _ _ (by omega),h1,Nat.sub_self,List.set_cons_zero,List.append_assoc,List.singleton_append]
 congr 2
 simp only [Eo,List.getElem_zipWith,Bf,List.getD_eq_getElem?_getD]
 rw [List.getElem?_eq_getElem (by omega),List.getElem?_eq_getElem (by omega)];rfl
section
variable {b p m n W ng cg ce cl:Nat}{pg pe pl:Option Addr}{rh:Row}{hd:Nat→Hd}{cs:Nat→List Value}{rows:List (List Int)}{md:List Int}
abbrev ALT (ok:Bool):Value→List Fact→List A4→Prop:=fun v Φ β=>∃ (pa:Option Addr) (k c:Nat),v = .tuple #[.slice pa k c,.bool ok]∧Φ=[]∧β=[]
theorem AAN (K:Fok p m md) (hn0:0<n) (hn:n≤64) (hl:rows.length=n) (hM:Cw (p ^ m) (n+1) rows) :
  Bt Tryz.prog 216 [.pointer (some ⟨b,0,none⟩),.slice (ad rh.bo) n rh.cap] ((rh.bo,22,rh.cs)::C8 3 hd cs n [])
   [Jc b p m (p ^ m) pg ng cg pe (p ^ m-1) ce pl (p ^ m) cl,Ap Ai pe (p ^ m-1) ce (Jh p m md),Ap Ai pl (p ^ m) cl (Jk p m md),A7 Sl rh n (Iy hd n),Ei Ai hd cs (Ar rows) n []]
   (ALT (decide ((J9 p m md n 0 0 rows).2.length=n))):=by
 refine Ab (F:=Tq) rfl fun C=>?_
 have O:=C1 K
 have q2:=O.q2
 have hq:=K.q
 have FF:=K.fi
 generalize hEE:(J9 p m md n 0 0 rows).2.length=EE
 refine Dt 3 rfl hn0 fun bh caph csh hr=>?_
 subst hr
 dsimp only
 refine wk 9 cz ?_
 refine Ah (X:=Nat×List Value×(Nat→Hd)×(Nat→List Value)×List (List Int)) [0,1,6,19] [0,1,2] (fun x=>[(20,.int .i64 (x.1:Int))])
  (fun x=>(some bh,22,x.2.1)::C8 3 x.2.2.1 x.2.2.2.1 n [])
  (fun x=>[A7 Sl ⟨some bh,caph,x.2.1⟩ n (Iy x.2.2.1 n),Ei Ai x.2.2.1 x.2.2.2.1 (Ar x.2.2.2.2) n []])
  (fun x=>x.1≤n∧x.2.2.2.2.length=n∧Cw (p ^ m) (n+1) x.2.2.2.2∧(J9 p m md (n-x.1) x.1 x.1 x.2.2.2.2).2.length+x.1=EE) (fun x=>n-x.1)
  (0,csh,hd,cs,rows) [3,4] rfl rfl rfl ⟨Nat.zero_le _,hl,hM,by dsimp only;rw [Nat.sub_zero];exact hEE⟩ (by repeat (first|exact Fr.sub_nil _|refine Fr.sub_cons rfl ?_)) rfl rfl ?_
 clear hl hM hEE rows
 rintro ⟨c,ch,hd,cs,rws⟩ ⟨hcN,hl,hM,hE⟩ ih
 simp only [List.cons_append,List.nil_append] at hcN hl hM hE ih ⊢
 by_cases hcl:c<n
 ·have hrl:∀ k,k<n→(Ar rws k).length=n+1:=fun k hk=>(hM.row (by omega)).1
  have hre:∀ k,k<n→(Ar rws k)[c]?=some (en rws k c):=fun k hk=>by
   rw [en,Bf,List.getD_eq_getElem?_getD,List.getElem?_eq_getElem (by rw [hrl k hk];omega)];rfl
  have hen:∀ k,k<n→0≤en rws k c∧en rws k c<((p ^ m:Nat):Int):=fun k hk=>Bh (by omega) (hM.row (by omega)) c
  refine wk 9 cz ?_
  intro h1
  refine Ah (X:=Nat×(Nat→List Value)) [0,1,6,7,19,20,21,22,23] [0,2,3,4] (fun k=>[(8,.int .i64 (k.1:Int))]) (fun k=>(some bh,22,ch)::C8 3 hd k.2 n []) (fun k=>[Ei Ai hd k.2 (Ar rws) n []]) (fun k=>c≤k.1∧k.1≤n∧∀ j,c≤j→j<k.1→en rws j c=0) (fun k=>n-k.1) (c,cs) [1] rfl rfl rfl ⟨Nat.le_refl _,hcN,fun j h1 h2=>by dsimp only at h2;omega⟩ (by repeat (first|exact Fr.sub_nil _|refine Fr.sub_cons rfl ?_)) rfl rfl ?_
  rintro ⟨k,cs⟩ ⟨hk1,hk2,hk3⟩ ihk
  simp only [List.cons_append,List.nil_append] at hk1 hk2 hk3 ihk ⊢
  by_cases hkn:k<n
  ·refine G3 0 rfl fun hlen=>?_
   have hhd:∀ k,k<n→(hd k).2.1=n+1:=fun k hk=>by rw [hlen k hk rfl];exact hrl k hk
   have hhk:=hhd k hkn
   have hz:=hre k hkn
   have hrk:=hrl k hkn
   refine Dj 1 (k) 0 (n+1) rfl rfl (by first|assumption|omega) (by first|rfl|assumption|(simp [Ag,Bc];done)|(simp [Ag,Bc];omega)) (by first|assumption|omega) fun r1 hr1=>?_
   simp only [List.take_succ_cons,List.take_zero,List.cons_append,List.nil_append]
   by_cases hz0:en rws k c=0
   ·refine wk 10 cz ?_
    intro h2
    refine Dt 0 rfl (by omega) fun b1 cap1 cs1 hr2=>?_
    subst hr2
    dsimp only
    refine wk 8 cz ?_
    intro hr2 h3
    refine Bu 1 (k) 0 0 1 rfl rfl rfl rfl (by first|assumption|omega) (by first|rfl|assumption|(simp [Ag,Bc];done)|(simp [Ag,Bc];omega)) ?_
    simp only [List.eraseIdx_cons_zero,List.eraseIdx_cons_succ,List.take_succ_cons,List.take_zero,List.cons_append,List.nil_append]
    rw [D3 (Fq hr1 hkn),show Ek (Ar rws) k (Ar rws k)=Ar rws from D3 rfl]
    exact tw (ihk (k+1,Ek cs k cs1) (by dsimp only;omega) ⟨by dsimp only;omega,by dsimp only;omega,fun j h1 h2=>by
     dsimp only at h2
     rcases Nat.lt_succ_iff_lt_or_eq.1 h2 with h|rfl
     ·exact hk3 j h1 h
     ·exact hz0⟩)
   ·clear ihk
    have hkne:¬ k=n:=by omega
    refine wk 10 cz ?_
    intro h2
    refine Dt 0 rfl (by omega) fun b1 cap1 cs1 hr2=>?_
    subst hr2
    dsimp only
    refine wk 6 cz ?_
    intro hr2 h3
    refine Bu 1 (k) 0 0 1 rfl rfl rfl rfl (by first|assumption|omega) (by first|rfl|assumption|(simp [Ag,Bc];done)|(simp [Ag,Bc];omega)) ?_
    simp only [List.eraseIdx_cons_zero,List.eraseIdx_cons_succ,List.take_succ_cons,List.take_zero,List.cons_append,List.nil_append]
    rw [D3 (Fq hr1 hkn),show Ek (Ar rws) k (Ar rws k)=Ar rws from D3 rfl]
    have z1:(Iy hd n)[k]?=some ((hd k).1,(hd k).2.1,(hd k).2.2):=Ld hkn
    have z2:(Iy hd n)[c]?=some ((hd c).1,(hd c).2.1,(hd c).2.2):=Ld hcl
    have key:∀ (ch':List Value) (hd':Nat→Hd) (cs':Nat→List Value),J Tq C [It.c (pL 59807),It.blk 1,It.c (pL 935),It.lp (pL 116),It.blk 0,It.c [1,1,1]]
      [(0,.pointer (some ⟨b,0,none⟩)),(1,.slice (ad (some bh)) n caph),(6,.int .i64 n),(7,.int .i64 c),(19,.int .i64 n),(20,.int .i64 c)]
      ((some bh,22,ch')::C8 3 hd' cs' n [])
      [Ei Ai hd' cs' (Ar (Cc rws c k)) n [],A7 Sl ⟨some bh,caph,ch'⟩ n (Iy hd' n),Jc b p m (p ^ m) pg ng cg pe (p ^ m-1) ce pl (p ^ m) cl,Ap Ai pe (p ^ m-1) ce (Jh p m md),Ap Ai pl (p ^ m) cl (Jk p m md)] (Fg C (ALT (decide (EE=n)))):=by
     clear hz hrk hlen hhd hhk hr1 z1 z2
     intro ch' hd' cs'
     have hsl:(Cc rws c k).length=n:=by rw [Cc,List.length_set,List.length_set,hl]
     have hsW:∀ i,i<n→Wd (p ^ m) (n+1) (Ar (Cc rws c k) i):=fun i hi=>L0 hM (by omega) (by omega) (by omega)
     have hsrl:∀ i,i<n→(Ar (Cc rws c k) i).length=n+1:=fun i hi=>(hsW i hi).1
     have hsre:∀ i,i<n→(Ar (Cc rws c k) i)[c]?=some (en (Cc rws c k) i c):=fun i hi=>by
      rw [en,Bf,List.getD_eq_getElem?_getD,List.getElem?_eq_getElem (by rw [hsrl i hi];omega)];rfl
     have hsen:∀ i,i<n→0≤en (Cc rws c k) i c∧en (Cc rws c k) i c<((p ^ m:Nat):Int):=fun i hi=>Bh (by omega) (hsW i hi) c
     have het:en (Cc rws c k) c c=en rws k c:=by
      rw [en,E0 (by omega) (by omega)]
      split
      ·rename_i e;rw [← e]
      ·rw [if_pos rfl]
     obtain ⟨a0,a1⟩:=hen k hkn
     refine G3 0 rfl fun hlen=>?_
     have hht:(hd' c).2.1=n+1:=by rw [hlen _ hcl rfl];exact hsrl _ hcl
     have hzt:=hsre _ hcl
     rw [het] at hzt
     have hrt:=hsrl _ hcl
     have Fc:=fun {b ng cg ce cl:Nat}{pg pe pl:Option Addr}{x:Int}=>Qo (b:=b) (ng:=ng) (cg:=cg) (ce:=ce) (cl:=cl) (pg:=pg) (pe:=pe) (pl:=pl) (x:=x) K
     have hap:0<en rws k c:=by omega
     obtain ⟨⟨v0,v1⟩,hiv⟩:=O.iv _ a0 a1 hz0
     have wt:=hsW c hcl
     refine Dj 1 (c) 0 (n+1) rfl rfl (by first|assumption|omega) (by first|rfl|assumption|(simp [Ag,Bc];done)|(simp [Ag,Bc];omega)) (by first|assumption|omega) fun r1 hr1=>?_
     simp only [List.take_succ_cons,List.take_zero,List.cons_append,List.nil_append]
     have El:=fun {b ng cg ce cl b9 cap9:Nat}{cs9:List Value}{pg pe pl:Option Addr}=>Ls (b:=b) (ng:=ng) (cg:=cg) (ce:=ce) (cl:=cl) (pg:=pg) (pe:=pe) (pl:=pl) (r:=⟨some b9,cap9,cs9⟩) K v0 v1 wt (by omega)
     refine wk 5 cz ?_
     refine Dt 0 rfl (by omega) fun b2 cap2 cs2 hr3=>?_
     subst hr3
     dsimp only
     refine wk 10 (ct @Fc (ct @El cz)) ?_
     intro hr3 r'1
     refine Aa rfl (G7 (vs:=[Value.slice (ad r'1.bo) (n+1) r'1.cap]) (z:=(r'1.bo,n+1,r'1.cap)) 1 4 (c) rfl rfl rfl rfl rfl E7 (Nat.mul_one _).symm (by omega) (fun w A hG=>(T2 _ _ _)) fun cs3=>?_)
     refine wk 5 cz ?_
     simp only [setB,List.set_cons_succ,List.set_cons_zero]
     rw [K0]
     refine Bu 1 (c) 0 1 3 rfl rfl rfl rfl (by first|assumption|omega) (by first|rfl|assumption|(simp [Ag,Bc];done)|(simp [Ag,Bc];omega)) ?_
     simp only [List.eraseIdx_cons_zero,List.eraseIdx_cons_succ,List.take_succ_cons,List.take_zero,List.cons_append,List.nil_append]
     have hprW:=O.scl_wd v0 v1 (hsW _ hcl)
     generalize hpr:Ct (Ad (fM p (Ax m md))) ((iF (p ^ m) (fM p (Ax m md)) (en rws k c).toNat:Nat):Int) (Ar (Cc rws c k) c)=pr at *
     let clr:Nat→Nat→List Int:=fun i j=>if j=c then pr else if j<i then Eo (Ad (fA p m)) (Ad (fM p (Ax m md))) (Cz p m (en (Cc rws c k) j c)) pr (Ar (Cc rws c k) j) else Ar (Cc rws c k) j
     have hclW:∀ i j,j<n→Wd (p ^ m) (n+1) (clr i j):=fun i j hj=>by
      show Wd _ _ (if _ then _ else if _ then _ else _)
      split
      ·exact hprW
      ·split
       ·obtain ⟨x0,x1⟩:=hsen j hj
        have:=AC7 (show 0<p by have:=K.p2;omega) m (en (Cc rws c k) j c).toNat
        exact FF.axw (Int.natCast_nonneg _) (Int.ofNat_lt.2 this) hprW (hsW j hj)
       ·exact hsW j hj
     refine Bs (clr 0) 0 rfl (fun g hg=>by
      show _=if _ then _ else if _ then _ else _
      by_cases e:g=c
      ·subst e;rw [Bo,if_pos rfl]
      ·rw [C0 e,if_neg e,if_neg (Nat.not_lt_zero g)]) ?_
     simp only [setB,List.set_cons_succ,List.set_cons_zero,List.eraseIdx_cons_zero,List.take_succ_cons,List.take_zero,List.cons_append,List.nil_append]
     clear hlen hht hzt hrt wt Fc El hr3 hr1
     generalize Ek hd' c (r'1.bo,n+1,r'1.cap)=hd2 at *
     generalize Ek cs' c r'1.cs=cs2 at *
     refine Ah (X:=Nat×(Nat→List Value)) [0,1,6,7,19,20,79] [2,8,9,10] (fun x=>[(80,.int .i64 (x.1:Int))]) (fun x=>(some bh,22,cs3)::C8 3 hd2 x.2 n []) (fun x=>[Ei Ai hd2 x.2 (clr x.1) n []]) (fun x=>x.1≤n) (fun x=>n-x.1) (0,cs2) [0] rfl rfl rfl (Nat.zero_le _) (by repeat (first|exact Fr.sub_nil _|refine Fr.sub_cons rfl ?_)) rfl rfl ?_
     rintro ⟨i,cs2⟩ hi ihi
     simp only [List.cons_append,List.nil_append] at hi ihi ⊢
     by_cases hin:i<n
     ·refine G3 0 rfl fun hlen=>?_
      have hhi:(hd2 i).2.1=n+1:=by rw [hlen i hin rfl];exact (hclW i i hin).1
      have hhc:(hd2 c).2.1=n+1:=by rw [hlen c hcl rfl];exact (hclW i c hcl).1
      have hli:=(hclW i i hin).1
      obtain ⟨z,at_z⟩:∃ z,(clr i i)[c]?=some z:=⟨_,List.getElem?_eq_getElem (by rw [hli];omega)⟩
      have nxt:∀ j,j<n→j≠i→clr (i+1) j=clr i j:=fun j hj hji=>by
       show (if _ then _ else if _ then _ else _)=(if _ then _ else if _ then _ else _)
       by_cases g1:j<i
       ·rw [if_pos g1,if_pos (show j<i+1 by omega)]
       ·rw [if_neg g1,if_neg (show ¬ j<i+1 by omega)]
      by_cases hit:i=c
      ·have nxi:clr (i+1) i=clr i i:=by
        show (if _ then _ else if _ then _ else _)=(if _ then _ else if _ then _ else _)
        rw [if_pos hit,if_pos hit]
       clear_value clr
       refine Dj 1 (i) 0 (n+1) rfl rfl (by first|assumption|omega) (by first|rfl|assumption|(simp [Ag,Bc];done)|(simp [Ag,Bc];omega)) (by first|assumption|omega) fun r1 hr1=>?_
       simp only [List.take_succ_cons,List.take_zero,List.cons_append,List.nil_append]
       refine wk 11 cz ?_
       intro h4
       refine Dt 0 rfl (by omega) fun b3 cap3 cs4 hr3=>?_
       subst hr3
       dsimp only
       refine wk 15 cz ?_
       intro hr3 h5
       refine Bu 1 (i) 0 0 1 rfl rfl rfl rfl (by first|assumption|omega) (by first|rfl|assumption|(simp [Ag,Bc];done)|(simp [Ag,Bc];omega)) ?_
       simp only [List.eraseIdx_cons_zero,List.eraseIdx_cons_succ,List.take_succ_cons,List.take_zero,List.cons_append,List.nil_append]
       rw [D3 (Fq (by assumption) hin)]
       refine Bs (clr (i+1)) 0 rfl (fun g hg=>by
        by_cases e:g=i
        ·subst e;rw [Bo,nxi]
        ·rw [C0 e,nxt g hg e]) ?_
       exact tw (ihi (i+1,Ek cs2 i cs4) (by dsimp only;omega) (by dsimp only;omega))
      ·have cli:clr i i=Ar (Cc rws c k) i:=by
        show (if _ then _ else if _ then _ else _)=_
        rw [if_neg hit,if_neg (Nat.lt_irrefl i)]
       have nxi:clr (i+1) i=Eo (Ad (fA p m)) (Ad (fM p (Ax m md))) (Cz p m (en (Cc rws c k) i c)) pr (Ar (Cc rws c k) i):=by
        show (if _ then _ else if _ then _ else _)=_
        rw [if_neg hit,if_pos (Nat.lt_succ_self i)]
       have clt:clr i c=pr:=if_pos rfl
       have ez:z=en (Cc rws c k) i c:=by
        rw [cli,hsre i hin] at at_z;exact (Option.some.inj at_z).symm
       obtain ⟨z0,z1⟩:=hsen i hin
       rw [← ez] at nxi z0 z1
       have clL:=(hclW i c hcl).1
       have hprL:=hprW.1
       clear_value clr
       by_cases hz9:z=0
       ·rw [hz9,show Cz p m 0=0 by rw [Cz];exact congrArg Int.ofNat (AJp p m),ADV FF hprW (hsW i hin),← cli] at nxi
        refine Dj 1 (i) 0 (n+1) rfl rfl (by first|assumption|omega) (by first|rfl|assumption|(simp [Ag,Bc];done)|(simp [Ag,Bc];omega)) (by first|assumption|omega) fun r1 hr1=>?_
        simp only [List.take_succ_cons,List.take_zero,List.cons_append,List.nil_append]
        refine wk 11 cz ?_
        intro h4
        refine Dt 0 rfl (by omega) fun b3 cap3 cs4 hr3=>?_
        subst hr3
        dsimp only
        refine wk 15 cz ?_
        intro hr3 h5 h6
        refine Bu 1 (i) 0 0 1 rfl rfl rfl rfl (by first|assumption|omega) (by first|rfl|assumption|(simp [Ag,Bc];done)|(simp [Ag,Bc];omega)) ?_
        simp only [List.eraseIdx_cons_zero,List.eraseIdx_cons_succ,List.take_succ_cons,List.take_zero,List.cons_append,List.nil_append]
        rw [D3 (Fq (by assumption) hin)]
        refine Bs (clr (i+1)) 0 rfl (fun g hg=>by
         by_cases e:g=i
         ·subst e;rw [Bo,nxi]
         ·rw [C0 e,nxt g hg e]) ?_
        exact tw (ihi (i+1,Ek cs2 i cs4) (by dsimp only;omega) (by dsimp only;omega))
       ·have hmb:Bc c [i]=false:=by
         rw [Ag,decide_eq_false (fun e=>hit e.symm)];rfl
        refine Dj 1 (i) 0 (n+1) rfl rfl (by first|assumption|omega) (by first|rfl|assumption|(simp [Ag,Bc];done)|(simp [Ag,Bc];omega)) (by first|assumption|omega) fun r1 hr1=>?_
        simp only [List.take_succ_cons,List.take_zero,List.cons_append,List.nil_append]
        refine Dj 2 (c) 1 (n+1) rfl rfl (by first|assumption|omega) (by first|rfl|assumption|(simp [Ag,Bc];done)|(simp [Ag,Bc];omega)) (by first|assumption|omega) fun r2 hr3=>?_
        simp only [List.take_succ_cons,List.take_zero,List.cons_append,List.nil_append]
        refine wk 11 cz ?_
        intro h4
        refine Dt 2 rfl (by omega) fun b3 cap3 cs4 hr4=>?_
        subst hr4
        dsimp only
        refine wk 19 cz ?_
        intro hr4 h5 h6
        have eqi:=Fq (by assumption) hin
        have eqc:=Fq (by assumption) hcl
        rw [show clr i i=axK (Ad (fA p m)) (Ad (fM p (Ax m md))) (Cz p m z) pr (clr i i) 0 from AGV.symm]
        refine Ah (X:=Nat×List Value) [0,1,6,7,11,12,19,20,79,80,100,101] [0,1,5,6,7,8] (fun x=>[(102,.int .i64 (x.1:Int))]) (fun x=>(r2.bo,3,r2.cs)::(some b3,3,x.2)::(some bh,22,cs3)::C8 3 hd2 cs2 n [c,i]) (fun x=>[A7 Ai ⟨some b3,cap3,x.2⟩ (n+1) (axK (Ad (fA p m)) (Ad (fM p (Ax m md))) (Cz p m z) pr (clr i i) x.1)]) (fun x=>x.1≤n+1) (fun x=>n+1-x.1) (0,cs4) [2] rfl rfl rfl (Nat.zero_le _) (by repeat (first|exact Fr.sub_nil _|refine Fr.sub_cons rfl ?_)) rfl rfl ?_
        rintro ⟨j,cs5⟩ hj ihj
        simp only [List.cons_append,List.nil_append] at hj ihj ⊢
        have hKl:=AJg (A:=Ad (fA p m)) (M:=Ad (fM p (Ax m md))) (a:=Cz p m z) (j:=j) hprL hli
        by_cases hjn:j<n+1
        ·have at_x:=ALb (A:=Ad (fA p m)) (M:=Ad (fM p (Ax m md))) (a:=Cz p m z) hprL hli hjn
         have at_y:(clr i c)[j]?=some (Bf pr j):=by rw [clt,Bf,List.getD_eq_getElem?_getD,List.getElem?_eq_getElem (by omega)];rfl
         obtain ⟨x0,x1⟩:=Bh (show 0<p ^ m by omega) (hclW i i hin) j
         obtain ⟨y0,y1⟩:=Bh (show 0<p ^ m by omega) hprW j
         obtain ⟨p0,p1⟩:=FF.ml z (Bf pr j) z0 z1 y0 y1
         have ih':=fun cs=>ihj (j+1,cs) (by dsimp only;omega) (by dsimp only;omega)
         dsimp only at ih'
         rw [← AIs hprL hli hjn,← FO.nml O z0 z1 y0 y1] at ih'
         obtain ⟨⟨v0',v1'⟩,_⟩:=O.ng _ p0 p1
         obtain ⟨s0,s1⟩:=FF.al (Bf (clr i i) j) _ x0 x1 v0' v1'
         have A6:=fun {b ng cg ce cl:Nat}{pg pe pl:Option Addr}=>C3 (b:=b) (ng:=ng) (cg:=cg) (ce:=ce) (cl:=cl) (pg:=pg) (pe:=pe) (pl:=pl) (x:=z) (y:=Bf pr j) K z0 z1 y0 y1
         have Kl:=fun {b ng cg ne ce nl cl:Nat}{pg pe pl:Option Addr}=>Qf (b:=b) (ng:=ng) (cg:=cg) (ne:=ne) (ce:=ce) (nl:=nl) (cl:=cl) (pg:=pg) (pe:=pe) (pl:=pl) (x:=Bf (clr i i) j) (y:=Ad (fM p (Ax m md)) z (Bf pr j)) K x0 x1 p0 p1
         generalize Ad (fM p (Ax m md)) z (Bf pr j)=v at *
         generalize Bf pr j=y at *
         generalize axK (Ad (fA p m)) (Ad (fM p (Ax m md))) (Cz p m z) pr (clr i i) j=L at *
         generalize Bf (clr i i) j=x at *
         generalize hs9:Ad (fA p m) x (Cz p m v)=s9 at *
         refine wk 6 cz ?_
         intro h7
         refine Dt 1 rfl (by omega) fun b4 cap4 cs6 hr5=>?_
         subst hr5
         dsimp only
         refine wk 6 (ct @A6 (ct @Kl cz)) ?_
         intro hr5
         refine Aa rfl (G7 (vs:=[Value.int IntKind.i64 s9]) (z:=(s9:Int)) 1 0 (j) rfl rfl rfl rfl rfl Ci (Nat.mul_one _).symm (by omega) (fun w A hG=>(Dq (by first|(simp only [Bv];omega)|(simp [Bv];done)))) fun cs7=>?_)
         refine wk 3 cz ?_
         exact tw (ih' cs7)
        ·obtain rfl:j=n+1:=by omega
         rw [AIE hprL hli]
         clear ihj
         refine wk 7 cz ?_
         intro h7
         refine Bu 2 (c) 0 1 2 rfl rfl rfl rfl (by first|assumption|omega) (by first|rfl|assumption|(simp [Ag,Bc];done)|(simp [Ag,Bc];omega)) ?_
         simp only [List.eraseIdx_cons_zero,List.eraseIdx_cons_succ,List.take_succ_cons,List.take_zero,List.cons_append,List.nil_append]
         refine Bu 1 (i) 0 1 0 rfl rfl rfl rfl (by first|assumption|omega) (by first|rfl|assumption|(simp [Ag,Bc];done)|(simp [Ag,Bc];omega)) ?_
         simp only [List.eraseIdx_cons_zero,List.eraseIdx_cons_succ,List.take_succ_cons,List.take_zero,List.cons_append,List.nil_append]
         rw [← eqc,D3 rfl,← clt,D3 rfl,D3 eqi]
         refine Bs (clr (i+1)) 0 rfl (fun g hg=>by
          by_cases e:g=i
          ·subst e;rw [Bo,nxi,clt,cli]
          ·rw [C0 e,nxt g hg e]) ?_
         exact tw (ihi (i+1,Ek (Ek cs2 c r2.cs) i cs5) (by dsimp only;omega) (by dsimp only;omega))
     ·obtain rfl:i=n:=by omega
      have eF:Hr rws c c=some k:=Ze hk1 (by omega) hz0 hk3
      have eC:i-c=i-(c+1)+1:=by omega
      rw [eC,J9,Dr,eF] at hE
      dsimp only at hE
      rw [List.length_cons] at hE
      refine Bs (Ar (J1 (Ad (fA p m)) (Ad (fM p (Ax m md))) (Cz p m) (Hn p m md) c k c rws)) 0 rfl (fun g hg=>by
       rw [M8 (by omega)]
       show (if _ then _ else if _ then _ else _)=_
       have hcc:Ar (Cc rws c k) c=Ar rws k:=by
        rw [E0 (by omega) (by omega)]
        split
        ·rename_i e;rw [← e]
        ·rw [if_pos rfl]
       by_cases e:g=c
       ·rw [if_pos e,if_pos e,← hpr,hcc]
       ·rw [if_neg e,if_neg e,if_pos hg,← hpr,hcc]) ?_
      have hpw:=O.piv_wd hM (t:=c) (k:=k) (c:=c) (by omega) (by omega) hz0
      have ih':=ih (c+1,cs3,hd2,cs2,J1 (Ad (fA p m)) (Ad (fM p (Ax m md))) (Cz p m) (Hn p m md) c k c rws) (by dsimp only;omega) ⟨by dsimp only;omega,by dsimp only;rw [Hc];exact hl,hpw,by dsimp only;rw [J9];omega⟩
      clear ihi ih
      refine wk 7 cz ?_
      intro h4
      exact tw (ih')
    refine wk 4 cz ?_
    intro h4
    (apply Fz (x0:=none) it mx 0 13 [2,3] 1;(· rfl);(· rfl);(· rfl);(· decide))
    simp only [List.drop_zero]
    (apply A3 6;(· rfl);(· simp))
    (apply Ac;(· rfl);(· exact Cg fun _=>Be (k) (k) rfl rfl D5 rfl (by omega) (Nat.mul_one _) An))
    (apply Ac;(· rfl);(· exact Fy 0 4 (k) rfl rfl rfl E7 rfl (by assumption)))
    dsimp only
    (apply A3 2;(· rfl);(· simp))
    (apply Ac;(· rfl);(· exact Cg fun _=>Be (c) (c) rfl rfl D5 rfl (by omega) (Nat.mul_one _) An))
    (apply Ac;(· rfl);(· exact Fy 0 4 (c) rfl rfl rfl E7 rfl (by assumption)))
    dsimp only
    (apply Ac;(· rfl);(· exact Cg fun _=>Be (c) (c) rfl rfl D5 rfl (by omega) (Nat.mul_one _) An))
    refine Fo rfl ?_
    (rotate_left;rfl;rotate_right)
    simp only [List.map_cons,List.map_nil,List.cons_append,List.nil_append]
    refine Gr it rfl rfl ⟨⟨_,_,_,_,rfl,rfl,rfl,rfl,rfl,rfl,(by first|trivial|(repeat' first|exact trivial|apply And.intro|omega))⟩,⟨⟨_,_,_,_,rfl,rfl,rfl,rfl,rfl,rfl,(by first|trivial|(repeat' first|exact trivial|apply And.intro|omega))⟩,trivial⟩⟩ (G7 (vs:=[Value.slice (ad (hd k).fst) (hd k).snd.fst (hd k).snd.snd]) (z:=((hd k).fst,(hd k).snd.fst,(hd k).snd.snd)) 0 4 (c) rfl rfl rfl rfl rfl E7 (Nat.mul_one _).symm (by omega) (fun w A hG=>(T2 _ _ _)) fun cs2=>?_)
    refine Ib it ⟨⟨_,_,_,_,rfl,rfl,rfl,rfl,rfl,rfl,(by first|trivial|(repeat' first|exact trivial|apply And.intro|omega))⟩,⟨⟨_,_,_,_,rfl,rfl,rfl,rfl,rfl,rfl,(by first|trivial|(repeat' first|exact trivial|apply And.intro|omega))⟩,trivial⟩⟩ ?_
    refine wk 1 cz ?_
    refine Aa rfl (G7 (vs:=[Value.slice (ad (hd c).fst) (hd c).snd.fst (hd c).snd.snd]) (z:=((hd c).fst,(hd c).snd.fst,(hd c).snd.snd)) 0 0 (k) rfl rfl rfl rfl rfl E7 (Nat.mul_one _).symm (by omega) (fun w A hG=>(T2 _ _ _)) fun cs3=>?_)
    refine Xx 1 [.c (pL 59807),.blk 1,.c (pL 935),.lp (pL 116),.blk 0,.c [1,1,1]] rfl ?_
    simp only [setB,List.set_cons_succ,List.set_cons_zero]
    rw [K0,K0]
    by_cases hkt:k=c
    ·refine Bs (Ar (Cc rws c k)) 2 rfl (fun g hg=>by
      rw [E0 (by omega) (by omega),hkt]
      split
      ·rename_i e;rw [e]
      ·rfl) ?_
     rw [show Ek (Ek hd c ((hd k).1,(hd k).2.1,(hd k).2.2)) k ((hd c).1,(hd c).2.1,(hd c).2.2)=hd from by
      subst hkt;exact (D3 (f:=Ek hd k _) (Bo ..)).trans (D3 rfl)]
     exact tw (key cs3 hd (Ek cs k cs1))
    ·have hht:=hhd c hcl
     have hmb:Bc k [c]=false:=by
      rw [Ag,decide_eq_false hkt];rfl
     refine Dj 1 (c) 2 (n+1) rfl rfl (by first|assumption|omega) (by first|rfl|assumption|(simp [Ag,Bc];done)|(simp [Ag,Bc];omega)) (by first|assumption|omega) fun r1 hr3=>?_
     simp only [List.take_succ_cons,List.take_zero,List.cons_append,List.nil_append]
     refine Dj 2 (k) 1 (n+1) rfl rfl (by first|assumption|omega) (by first|rfl|assumption|(simp [Ag,Bc];done)|(simp [Ag,Bc];omega)) (by first|assumption|omega) fun r2 hr4=>?_
     simp only [List.take_succ_cons,List.take_zero,List.cons_append,List.nil_append]
     refine Bu 2 k 1 2 1 rfl rfl rfl rfl hkn hmb ?_
     simp only [List.eraseIdx_cons_zero,List.eraseIdx_cons_succ,List.take_succ_cons,List.take_zero,List.cons_append,List.nil_append]
     refine Bu 1 c 0 1 0 rfl rfl rfl rfl hcl rfl ?_
     simp only [List.eraseIdx_cons_zero,List.eraseIdx_cons_succ,List.take_succ_cons,List.take_zero,List.cons_append,List.nil_append]
     have e1:hd c=(r1.bo,n+1,r1.cap):=Fq (by assumption) hcl
     have e2:hd k=(r2.bo,n+1,r2.cap):=Fq (by assumption) hkn
     rw [show Ek (Ek hd k (r1.bo,n+1,r1.cap)) c (r2.bo,n+1,r2.cap)=Ek (Ek hd c ((hd k).1,(hd k).2.1,(hd k).2.2)) k ((hd c).1,(hd c).2.1,(hd c).2.2) from by
      show Ek (Ek hd k (r1.bo,n+1,r1.cap)) c (r2.bo,n+1,r2.cap)=Ek (Ek hd c (hd k)) k (hd c)
      rw [← e1,← e2]
      funext j
      by_cases g1:j=k
      ·subst g1
       rw [Bo,C0 hkt,Bo]
      ·rw [C0 g1]
       by_cases g2:j=c
       ·rw [g2,Bo,Bo]
       ·rw [C0 g2,C0 g2,C0 g1]]
     refine Bs (Ar (Cc rws c k)) 0 rfl (fun g hg=>by
      rw [E0 (by omega) (by omega)]
      by_cases g1:g=k
      ·subst g1
       rw [if_pos rfl,C0 hkt,Bo]
      ·rw [if_neg g1]
       by_cases g2:g=c
       ·rw [if_pos g2,g2,Bo]
       ·rw [if_neg g2,C0 g2,C0 g1]) ?_
     exact tw (key cs3 (Ek (Ek hd c ((hd k).1,(hd k).2.1,(hd k).2.2)) k ((hd c).1,(hd c).2.1,(hd c).2.2)) (Ek (Ek (Ek cs k cs1) k r1.cs) c r2.cs))
  ·obtain rfl:k=n:=by omega
   have hF:Hr rws c c=none:=Zp fun j h1 h2=>hk3 j h1 (by omega)
   have hne:¬ EE=k:=by
    have h1:k-c=(k-c-1)+1:=by omega
    rw [h1,J9,Dr,hF] at hE
    have:=AAf (A:=Ad (fA p m)) (M:=Ad (fM p (Ax m md))) (N:=Cz p m) (V:=Hn p m md) (k-c-1) (c+1) c rws
    dsimp only at hE
    omega
   rw [decide_eq_false hne]
   clear ihk ih
   refine wk 16 cz ?_
   intro h2 h3
   refine Bj [] rfl (.tmp rfl (.tmp rfl .nil)) rfl ⟨none,0,0,rfl,rfl,rfl⟩
 ·obtain rfl:c=n:=by omega
  have:EE=c:=by rw [Nat.sub_self] at hE;rw [← hE,J9,Dr];simp
  rw [decide_eq_true this]
  clear ih
  refine wk 13 cz ?_
  intro h1 b1
  rw [show Ao .i64 (List.replicate c 0)=Al .i64 (List.replicate c 0) by simp [Ao,Al]]
  refine Ah (X:=Nat×(Nat→List Value)×List Int) [0,1,6,15,131,132] [0,2,3,4] (fun x=>[(133,.int .i64 (x.1:Int))]) (fun x=>(some b1,3,Al .i64 x.2.2)::(some bh,22,ch)::C8 3 hd x.2.1 c []) (fun x=>[Ei Ai hd x.2.1 (Ar rws) c []]) (fun x=>x.1≤c∧x.2.2.length=c) (fun x=>c-x.1) (0,cs,List.replicate c 0) [1] rfl rfl rfl ⟨Nat.zero_le _,by simp⟩ (by repeat (first|exact Fr.sub_nil _|refine Fr.sub_cons rfl ?_)) rfl rfl ?_
  rintro ⟨i,cs,L⟩ ⟨hi,hLl⟩ ih
  simp only [List.cons_append,List.nil_append] at hi hLl ih ⊢
  by_cases hin:i<c
  ·refine G3 0 rfl fun hlen=>?_
   have hrw:=hM.row (i:=i) (by omega)
   have hhi:(hd i).2.1=c+1:=by rw [hlen i hin rfl];exact hrw.1
   have hrl:=hrw.1
   have at_z:(Ar rws i)[c]?=some (en rws i c):=by
    rw [en,Bf,List.getD_eq_getElem?_getD,List.getElem?_eq_getElem (by omega)];rfl
   obtain ⟨z0,z1⟩:=Bh (by omega) hrw c
   have ih':=fun cs'=>ih (i+1,cs',L.set i (en rws i c)) (by dsimp only;omega) ⟨by dsimp only;omega,by dsimp only;rw [List.length_set];exact hLl⟩
   clear ih
   generalize en rws i c=z at *
   refine Dj 2 (i) 0 (c+1) rfl rfl (by first|assumption|omega) (by first|rfl|assumption|(simp [Ag,Bc];done)|(simp [Ag,Bc];omega)) (by first|assumption|omega) fun r1 hr1=>?_
   simp only [List.take_succ_cons,List.take_zero,List.cons_append,List.nil_append]
   refine wk 11 cz ?_
   intro h2
   refine Dt 0 rfl (by omega) fun b2 cap1 cs1 hr2=>?_
   subst hr2
   dsimp only
   refine wk 7 cz ?_
   intro hr2
   refine Bu 2 (i) 0 0 1 rfl rfl rfl rfl (by first|assumption|omega) (by first|rfl|assumption|(simp [Ag,Bc];done)|(simp [Ag,Bc];omega)) ?_
   simp only [List.eraseIdx_cons_zero,List.eraseIdx_cons_succ,List.take_succ_cons,List.take_zero,List.cons_append,List.nil_append]
   simp only [setB,List.set_cons_succ,List.set_cons_zero,List.eraseIdx_cons_zero,List.take_succ_cons,List.take_zero,List.cons_append,List.nil_append]
   rw [D3 (Fq (by assumption) hin),show Ek (Ar rws) i (Ar rws i)=Ar rws from D3 rfl]
   exact tw (ih' (Ek cs i cs1))
  ·obtain rfl:i=c:=by omega
   clear ih
   refine wk 7 cz ?_
   intro h2
   refine Bj [] rfl (.tmp rfl (.tmp rfl .nil)) rfl ⟨_,_,_,rfl,rfl,rfl⟩
end
open Go Go.Fw
set_option maxRecDepth 100000
set_option linter.unusedVariables false
set_option linter.unusedSimpArgs false
set_option maxHeartbeats 0
def syL (M:Nat→Nat→Nat) (p m d:Nat) (l:List Nat) (r:List Int):List (List Int):=(List.range (m / d)).map fun i=>(l.map fun x=>((Nc (Mp M p (d % m)) i x:Nat):Int))++[Bf r i]
def Z8 (T:List Int) (k j:Nat):List Int:=T.take j++(List.replicate (k-j) 0++T.drop k)
theorem AFw {T:List Int}{k j:Nat}(hT:T.length=k+1) (hj:j≤k):(Z8 T k j).length=k+1:=by
 simp only [Z8,List.length_append,List.length_take,List.length_replicate,List.length_drop,hT];omega
theorem AJd {T:List Int}{k:Nat}:Z8 T k k=T:=by rw [Z8,Nat.sub_self,List.replicate_zero,List.nil_append,List.take_append_drop]
theorem AG8 {T:List Int}{k:Nat}{z:Int}(hT:T.length=k+1) (hz:T[k]?=some z):(List.replicate (k+1) (0:Int)).set k z=Z8 T k 0:=by
 rw [Z8,List.take_zero,List.nil_append,Nat.sub_zero,List.replicate_succ',List.set_append_right _ _ (by simp),List.length_replicate,Nat.sub_self,List.set_cons_zero]
 congr 1
 rw [List.drop_eq_getElem_cons (by omega),List.drop_of_length_le (by omega)]
 rw [List.getElem?_eq_getElem (by omega)] at hz
 rw [Option.some.inj hz]
theorem AIt {T:List Int}{k j:Nat}{y:Int}(hT:T.length=k+1) (hj:j<k) (hy:T[j]?=some y):(Z8 T k j).set j y=Z8 T k (j+1):=by
 have h1:(T.take j).length=j:=by rw [List.length_take];omega
 obtain ⟨e,he⟩:∃ e,k-j=e+1:=⟨k-j-1,by omega⟩
 rw [Z8,Z8,List.set_append_right _ _ (by omega),h1,Nat.sub_self,he,List.replicate_succ,List.cons_append,List.set_cons_zero,show k-(j+1)=e by omega,List.take_succ_eq_append_getElem (by omega),List.append_assoc,List.singleton_append]
 rw [List.getElem?_eq_getElem (by omega)] at hy
 rw [Option.some.inj hy]
theorem AIy {T:List Int}{k j:Nat}(hT:∀ z∈T,Bv .i64 z):∀ z∈Z8 T k j,Bv .i64 z:=fun z hz=>by
 rcases List.mem_append.1 hz with hz|hz
 ·exact hT z (List.mem_of_mem_take hz)
 rcases List.mem_append.1 hz with hz|hz
 ·rw [(List.mem_replicate.1 hz).2];simp [Bv]
 ·exact hT z (List.mem_of_mem_drop hz)
section
variable {b p m n k ng cg ce cl d cL cR:Nat}{pg pe pl pX0 pR:Option Addr}{l:List Nat}{r md:List Int}
theorem AAn (K:Fok p m md) (d1:1≤d) (d8:d≤8) (hn:m / d=n) (hn0:0<n) (hlk:l.length=k) (hk:k≤64) (hlq:∀ x∈l,x<p ^ m) (hrl:r.length=n) (hrr:∀ z∈r,Bv .i64 z) :
  Bt Tryz.prog 217 [.pointer (some ⟨b,0,none⟩),.slice pX0 k cL,.int .i64 (d:Int),.slice pR n cR] []
   [Jc b p m (p ^ m) pg md.length cg pe (p ^ m-1) ce pl (p ^ m) cl,Ap Ai pg md.length cg md,Ap Ai pe (p ^ m-1) ce (Jh p m md),Ap Ai pl (p ^ m) cl (Jk p m md),Ap Ai pX0 k cL (Bb l),Ap Ai pR n cR r]
   (fun v Φ β=>∃ (rh:Row) (hd:Nat→Hd) (cs:Nat→List Value),v = .slice (ad rh.bo) n rh.cap∧Φ=[A7 Sl rh n (Iy hd n),Ei Ai hd cs (Ar (syL (fM p (Ax m md)) p m d l r)) n []]∧β=(rh.bo,22,rh.cs)::C8 3 hd cs n []):=by
 refine Ab (F:=Z3) rfl fun C=>?_
 have hm:=K.m8
 have hn8:n≤8:=by have:=Nat.div_le_self m d;omega
 have hq:=K.q
 have hTl:∀ i,i<n→(Ar (syL (fM p (Ax m md)) p m d l r) i).length=k+1:=fun i hi=>by
  rw [Ar,syL,List.getD_eq_getElem?_getD,List.getElem?_map,List.getElem?_range (by omega)];simp [hlk]
 have hTk:∀ i,i<n→(Ar (syL (fM p (Ax m md)) p m d l r) i)[k]?=some (Bf r i):=fun i hi=>by
  rw [Ar,syL,List.getD_eq_getElem?_getD,List.getElem?_map,List.getElem?_range (by omega)]
  show (_++[Bf r i])[k]?=_
  rw [List.getElem?_append_right (by simp [hlk]),List.length_map,hlk,Nat.sub_self];rfl
 have hTj:∀ i,i<n→∀ (j x:Nat),l[j]?=some x→(Ar (syL (fM p (Ax m md)) p m d l r) i)[j]?=some ((Nc (Mp (fM p (Ax m md)) p (d % m)) i x:Nat):Int):=fun i hi j x hx=>by
  rw [Ar,syL,List.getD_eq_getElem?_getD,List.getElem?_map,List.getElem?_range (by omega)]
  show (_++[Bf r i])[j]?=_
  have:=(List.getElem?_eq_some_iff.1 hx).1
  rw [List.getElem?_append_left (by rw [List.length_map];exact this),List.getElem?_map,hx];rfl
 have hTr:∀ i,i<n→∀ z∈Ar (syL (fM p (Ax m md)) p m d l r) i,Bv .i64 z:=fun i hi z hz=>by
  rw [Ar,syL,List.getD_eq_getElem?_getD,List.getElem?_map,List.getElem?_range (by omega)] at hz
  rcases List.mem_append.1 hz with hz|hz
  ·obtain ⟨x,hx,rfl⟩:=List.mem_map.1 hz
   have:=P6 (f:=Mp (fM p (Ax m md)) p (d % m)) (fun y hy=>Nw K hy (d % m)) (hlq x hx) i
   simp only [Bv];omega
  ·rw [List.mem_singleton.1 hz,Bf,List.getD_eq_getElem?_getD,List.getElem?_eq_getElem (by omega)]
   exact hrr _ (List.getElem_mem _)
 have Cp:=fun {b cg ce cl x:Nat}{pg pe pl:Option Addr}(hx:x<p ^ m)=>(K3 (b:=b) (cg:=cg) (ce:=ce) (cl:=cl) (pg:=pg) (pe:=pe) (pl:=pl) K hx d1 d8).pubR (by show m / d*8≤140737488355328;omega)
 have hE:∀ x,R4 (fM p (Ax m md)) p m d x=(List.range n).map fun i=>Nc (Mp (fM p (Ax m md)) p (d % m)) i x:=fun x=>by rw [R4,hn]
 rw [hn] at Cp
 generalize syL (fM p (Ax m md)) p m d l r=T at *
 have hk1:(k+1:Int).toNat=k+1:=by omega
 refine wk 5 cz ?_
 refine Aa rfl (ACx (n) _ rfl rfl D5 I6 rfl rfl M7 (by omega) (by omega) (by omega) fun b1=>?_)
 refine wk 6 cz ?_
 refine AH9 0 rfl (by omega) fun csA=>?_
 refine Zv Ai 3 0 ?_
 simp only [setB,List.cons_append,List.nil_append]
 refine Bs (fun i=>Z8 (Ar T i) k 0) 0 rfl (fun g hg=>absurd hg (Nat.not_lt_zero g)) ?_
 refine Ah (X:=Nat×List Value×(Nat→Hd)×(Nat→List Value)) [0,1,2,3,8,9,19] [3,4,5,6,7,8] (fun x=>[(20,.int .i64 (x.1:Int))])
  (fun x=>(some b1,22,x.2.1)::C8 3 x.2.2.1 x.2.2.2 x.1 [])
  (fun x=>[A7 Sl ⟨some b1,n,x.2.1⟩ n (Iy x.2.2.1 n),Ei Ai x.2.2.1 x.2.2.2 (fun i=>Z8 (Ar T i) k 0) x.1 []])
  (fun x=>x.1≤n) (fun x=>n-x.1) (0,csA,fun _=>(none,0,0),fun _=>[]) [2,0] rfl rfl rfl (Nat.zero_le _) (by repeat (first|exact Fr.sub_nil _|refine Fr.sub_cons rfl ?_)) rfl rfl ?_
 rintro ⟨i,ch,hd,cs⟩ hi ih
 simp only [List.cons_append,List.nil_append] at hi ih ⊢
 by_cases hil:i<n
 ·have at_y:r[i]?=some (Bf r i):=by
   rw [Bf,List.getD_eq_getElem?_getD,List.getElem?_eq_getElem (by omega)];rfl
  refine wk 12 cz ?_
  intro h1 b2
  refine Aa rfl (G7 (vs:=[Value.slice (some { block:=b2,off:=0 }) (k+1) (k+1)]) (z:=(some b2,k+1,k+1)) 1 0 (i) rfl rfl rfl rfl rfl E7 (Nat.mul_one _).symm (by omega) (fun w A hG=>(T2 (some _) _ _)) fun cs1=>?_)
  refine wk 1 cz ?_
  simp only [setB]
  rw [K0]
  have hz:(Iy (Ek hd i (some b2,k+1,k+1)) n)[i]?=some (some b2,k+1,k+1):=by
   rw [Iy,List.getElem?_map,List.getElem?_range hil,Option.map_some,Bo]
  rw [show Ao .i64 (List.replicate (k+1) 0)=Al .i64 (List.replicate (k+1) 0) by simp [Ao,Al]]
  have hrl2:(List.replicate (k+1) (0:Int)).length=k+1:=List.length_replicate
  have hs0:(List.replicate (k+1) (0:Int)).set k (r.getD i default)=Z8 (Ar T i) k 0:=AG8 (hTl i hil) (hTk i hil)
  have hsl:=AFw (hTl i hil) (Nat.zero_le k)
  have hsr:=AIy (k:=k) (j:=0) (hTr i hil)
  generalize List.replicate (k+1) (0:Int)=Z at *
  (apply E5 it mx 10;(· rfl);(· rfl))
  (apply A3 2;(· rfl);(· simp))
  (apply Ac;(· rfl);(· exact Cg fun _=>Be (i) (i) rfl rfl D5 rfl (by omega) (Nat.mul_one _) An))
  (apply Ac;(· rfl);(· exact Fy 1 0 (i) rfl rfl rfl E7 rfl (by assumption)))
  dsimp only
  (apply A3 1;(· rfl);(· simp))
  (apply Ac;(· rfl);(· exact Cg fun _=>Hf Ce rfl An))
  (apply A3 2;(· rfl);(· simp))
  (apply AB3;(· rfl);(· exact Cg fun _=>Iw 8 (i) rfl rfl rfl Ce rfl (by omega) fun z1 hz1 b3 o1=>(ACy default hz1 0 rfl));intro b3 o1)
  (apply Ac;(· rfl);(· exact Cg fun _=>Av 0 rfl rfl Ci fun ⟨r1,r2⟩=>An))
  refine Et rfl ?_
  simp only [List.map_cons,List.map_nil,List.cons_append,List.nil_append]
  refine Aa rfl (Be (k) (k) rfl rfl Ce rfl (by omega) (Nat.mul_one _) ?_)
  refine Aa rfl (Xr 0 rfl rfl rfl Ci (by first|omega|(simp;omega)) ?_)
  refine Am [_,_,_,_] rfl ?_
  refine Ae it 2 rfl ⟨trivial,⟨by omega,by omega⟩,trivial⟩ ?_
  refine Xx 1 [.lp (pL 116),.blk 0,.c [1,1,1]] rfl ?_
  simp only [setB,List.set_cons_zero]
  rw [hs0]
  refine Bk 0 rfl hsl.symm hsr (by omega) ?_
  refine ADR 1 0 0 4 rfl rfl rfl rfl ?_
  simp only [List.eraseIdx_cons_zero,List.eraseIdx_cons_succ,List.take_succ_cons,List.take_zero,List.cons_append,List.nil_append]
  refine Bs (fun i=>Z8 (Ar T i) k 0) 0 rfl (fun g hg=>by
   by_cases e:g=i
   ·subst e
    rw [Bo]
   ·rw [C0 e]) ?_
  exact tw (ih (i+1,cs1,Ek hd i (some b2,k+1,k+1),Ek cs i (Al .i64 (Z8 (Ar T i) k 0))) (by dsimp only;omega) (by dsimp only;omega))
 ·obtain rfl:i=n:=by omega
  clear ih
  refine wk 9 cz ?_
  intro h1
  refine Ah (X:=Nat×(Nat→List Value)) [0,2,8,9,42,43] [0,2,3,4,5,6,7] (fun x=>[(44,.int .i64 (x.1:Int))])
   (fun x=>(some b1,22,ch)::C8 3 hd x.2 i []) (fun x=>[Ei Ai hd x.2 (fun g=>Z8 (Ar T g) k x.1) i []])
   (fun x=>x.1≤k) (fun x=>k-x.1) (0,cs) [1] rfl rfl rfl (Nat.zero_le _) (by repeat (first|exact Fr.sub_nil _|refine Fr.sub_cons rfl ?_)) rfl rfl ?_
  rintro ⟨j,cs⟩ hj ih
  simp only [List.cons_append,List.nil_append] at hj ih ⊢
  by_cases hjk:j<k
  ·obtain ⟨x,hx⟩:∃ x,l[j]?=some x:=⟨_,List.getElem?_eq_getElem (by omega)⟩
   have at_x:(Bb l)[j]?=some ((x:Nat):Int):=by rw [Bb,List.getElem?_map,hx];rfl
   have hxq:=hlq x (List.mem_of_getElem? hx)
   have Cp:=fun {b cg ce cl:Nat}{pg pe pl:Option Addr}=>Cp (b:=b) (cg:=cg) (ce:=ce) (cl:=cl) (pg:=pg) (pe:=pe) (pl:=pl) hxq
   have hEL:(R4 (fM p (Ax m md)) p m d x).length=i:=by rw [hE];simp
   have hEa:∀ g,g<i→(Bb (R4 (fM p (Ax m md)) p m d x))[g]?=some ((Nc (Mp (fM p (Ax m md)) p (d % m)) g x:Nat):Int):=fun g hg=>by
    rw [hE,Bb,List.getElem?_map,List.getElem?_map,List.getElem?_range hg];rfl
   have hTx:=fun g (hg:g<i)=>hTj g hg j x hx
   have hit:=fun g=>P6 (f:=Mp (fM p (Ax m md)) p (d % m)) (fun y hy=>Nw K hy (d % m)) hxq g
   have ih':=fun cs=>ih (j+1,cs) (by dsimp only;omega) (by dsimp only;omega)
   clear ih
   generalize R4 (fM p (Ax m md)) p m d x=L at *
   refine wk 7 cz ?_
   intro h2 b2 o1 hz1
   refine Aa rfl (Av 0 rfl rfl Ci fun ⟨r1,r2⟩=>?_)
   refine wk 7 (ct @Cp cz) ?_
   intro pa1 ca1
   refine Bs (fun g=>Z8 (Ar T g) k (if g<0 then j+1 else j)) 2 rfl (fun g hg=>by rw [if_neg (Nat.not_lt_zero g)]) ?_
   simp only [List.cons_append,List.nil_append]
   refine Ah (X:=Nat×(Nat→List Value)) [0,2,8,9,11,12,42,43,44,45,46,47,48,49,50,51,52,53] [1,4,5,6,7,8,9,10] (fun x=>[(54,.int .i64 (x.1:Int))])
    (fun x=>(some b1,22,ch)::C8 3 hd x.2 i []) (fun x=>[Ei Ai hd x.2 (fun g=>Z8 (Ar T g) k (if g<x.1 then j+1 else j)) i []])
    (fun x=>x.1≤i) (fun x=>i-x.1) (0,cs) [0] rfl rfl rfl (Nat.zero_le _) (by repeat (first|exact Fr.sub_nil _|refine Fr.sub_cons rfl ?_)) rfl rfl ?_
   rintro ⟨g,cs⟩ hg ih
   simp only [List.cons_append,List.nil_append] at hg ih ⊢
   by_cases hgi:g<i
   ·refine G3 0 rfl fun hlen=>?_
    have hT1:=hTl g hgi
    have hl1:=AFw hT1 (show j≤k by omega)
    have hgg:Z8 (Ar T g) k (if g<g then j+1 else j)=Z8 (Ar T g) k j:=by rw [if_neg (Nat.lt_irrefl g)]
    have hhg:(hd g).2.1=k+1:=by rw [hlen g hgi rfl,hgg];exact hl1
    have at_y:=hEa g hgi
    have hst:=AIt hT1 hjk (hTx g hgi)
    have hyi:=hit g
    have ih2:=fun cs=>ih (g+1,cs) (by dsimp only;omega) (by dsimp only;omega)
    clear ih
    generalize Nc (Mp (fM p (Ax m md)) p (d % m)) g x=y at *
    refine Dj 1 (g) 0 (k+1) rfl rfl (by first|assumption|omega) (by first|rfl|assumption|(simp [Ag,Bc];done)|(simp [Ag,Bc];omega)) (by first|assumption|omega) fun r3 hr1=>?_
    simp only [List.take_succ_cons,List.take_zero,List.cons_append,List.nil_append]
    rw [hgg]
    refine wk 7 cz ?_
    intro h3 b3 o2 hz2
    refine Aa rfl (Av 0 rfl rfl Ci fun ⟨r4,r5⟩=>?_)
    refine wk 6 cz ?_
    refine Dt 1 rfl (by omega) fun b4 cap1 cs1 hr2=>?_
    subst hr2
    dsimp only
    refine wk 1 cz ?_
    refine Aa rfl (G7 (vs:=[Value.int IntKind.i64 ↑y]) (z:=(↑y:Int)) 0 1 (j) rfl rfl rfl rfl rfl Ci (Nat.mul_one _).symm (by omega) (fun w A hG=>(Dq (by first|(simp only [Bv];omega)|(simp [Bv];done)))) fun cs2=>?_)
    refine wk 3 cz ?_
    refine Bu 1 (g) 0 0 3 rfl rfl rfl rfl (by first|assumption|omega) (by first|rfl|assumption|(simp [Ag,Bc];done)|(simp [Ag,Bc];omega)) ?_
    simp only [List.eraseIdx_cons_zero,List.eraseIdx_cons_succ,List.take_succ_cons,List.take_zero,List.cons_append,List.nil_append]
    simp only [setB,List.set_cons_zero,List.eraseIdx_cons_zero,List.take_succ_cons,List.take_zero,List.cons_append,List.nil_append]
    rw [D3 (Fq (by assumption) hgi),hst]
    refine Bs (fun f=>Z8 (Ar T f) k (if f<g+1 then j+1 else j)) 0 rfl (fun f hf=>by
     by_cases e:f=g
     ·subst e
      rw [Bo,if_pos (by omega)]
     ·rw [C0 e]
      by_cases h9:f<g
      ·rw [if_pos h9,if_pos (by omega)]
      ·rw [if_neg h9,if_neg (by omega)]) ?_
    exact tw (ih2 (Ek cs g cs2))
   ·obtain rfl:g=i:=by omega
    clear ih
    refine Bs (fun f=>Z8 (Ar T f) k (j+1)) 0 rfl (fun f hf=>by rw [if_pos hf]) ?_
    refine wk 7 cz ?_
    intro h3
    exact tw (ih' cs)
  ·obtain rfl:j=k:=by omega
   clear ih
   refine Bs (Ar T) 0 rfl (fun f hf=>by rw [AJd]) ?_
   refine wk 7 cz ?_
   intro h2
   refine D4 1 [0] [2,0] rfl (.tmp rfl .nil) rfl rfl rfl ⟨⟨some b1,i,ch⟩,hd,cs,rfl,rfl,rfl⟩
end
open Go Go.Fw
set_option maxRecDepth 100000
set_option linter.unusedVariables false
set_option linter.unusedSimpArgs false
set_option maxHeartbeats 0
def nsB (p m d:Nat) (md:List Int) (l:List Nat):Bool:=decide ((J9 p m md (m / d) 0 0 (syL (fM p (Ax m md)) p m d l (Bb (R4 (fM p (Ax m md)) p m d 0)))).2.length=m / d)
theorem AJk {d:Nat}{l:List Nat}{r md:List Int}{p m n k:Nat}(K:Fok p m md) (hn:m / d=n) (hlk:l.length=k) (hlq:∀ x∈l,x<p ^ m) (hrl:r.length=n) (hr:∀ z∈r,0≤z∧z<((p ^ m:Nat):Int)) :
  (syL (fM p (Ax m md)) p m d l r).length=n∧Cw (p ^ m) (k+1) (syL (fM p (Ax m md)) p m d l r):=by
 refine ⟨by simp [syL,hn],fun s hs=>?_⟩
 obtain ⟨i,hi,rfl⟩:=List.mem_map.1 hs
 have hi:=List.mem_range.1 hi
 refine ⟨by simp [hlk],fun z hz=>?_⟩
 rcases List.mem_append.1 hz with hz|hz
 ·obtain ⟨x,hx,rfl⟩:=List.mem_map.1 hz
  have:=P6 (f:=Mp (fM p (Ax m md)) p (d % m)) (fun y hy=>Nw K hy (d % m)) (hlq x hx) i
  omega
 ·rw [List.mem_singleton.1 hz,Bf,List.getD_eq_getElem?_getD,List.getElem?_eq_getElem (by omega)]
  exact hr _ (List.getElem_mem _)
section
variable {b p m n ng cg ce cl d cL:Nat}{pg pe pl pX0:Option Addr}{l:List Nat}{md:List Int}
theorem AAM (K:Fok p m md) (d1:1≤d) (d8:d≤8) (hd:dgB m d=true) (hn:m / d=n) (hn0:0<n) (hlk:l.length=n) (hlq:∀ x∈l,x<p ^ m) :
  Bt Tryz.prog 200 [.pointer (some ⟨b,0,none⟩),.slice pX0 n cL,.int .i64 (d:Int)] []
   [Jc b p m (p ^ m) pg md.length cg pe (p ^ m-1) ce pl (p ^ m) cl,Ap Ai pg md.length cg md,Ap Ai pe (p ^ m-1) ce (Jh p m md),Ap Ai pl (p ^ m) cl (Jk p m md),Ap Ai pX0 n cL (Bb l)]
   (Rv (.int .i64 (if nsB p m d md l then 0 else 9)) []):=by
 refine Ab (F:=AAL) rfl fun C=>?_
 have hm:=K.m8
 have hn8:n≤8:=by have:=Nat.div_le_self m d;omega
 have hq:=K.q
 have q0:0<p ^ m:=Nat.pow_pos (by have:=K.p2;omega)
 have h0:=AGC (d:=d) K q0
 have h0l:(Bb (R4 (fM p (Ax m md)) p m d 0)).length=n:=by rw [Ch,ABF,hn]
 have hsy:=AJk K hn hlk hlq h0l h0
 have Bg:=fun {b ne ce nl cl cg:Nat}{pg pe pl:Option Addr}=>F5 (b:=b) (ne:=ne) (ce:=ce) (nl:=nl) (cl:=cl) (cg:=cg) (pg:=pg) (pe:=pe) (pl:=pl) K d1 d8
 have Cp:=fun {b cg ce cl:Nat}{pg pe pl:Option Addr}=>(K3 (b:=b) (cg:=cg) (ce:=ce) (cl:=cl) (pg:=pg) (pe:=pe) (pl:=pl) K q0 d1 d8).pubR (by show m / d*8≤140737488355328;omega)
 have Rg:=fun {b cg ce cl cL cR:Nat}{pg pe pl pX0 pR:Option Addr}=>AAn (b:=b) (cg:=cg) (ce:=ce) (cl:=cl) (cL:=cL) (cR:=cR) (pg:=pg) (pe:=pe) (pl:=pl) (pX0:=pX0) (pR:=pR) K d1 d8 hn hn0 hlk (by omega) hlq h0l fun z hz=>by have:=h0 z hz;simp only [Bv];omega
 have Gu:=fun {b ng cg ce cl:Nat}{pg pe pl:Option Addr}{rh:Row}{hd:Nat→Hd}{cs:Nat→List Value}=>AAN (b:=b) (ng:=ng) (cg:=cg) (ce:=ce) (cl:=cl) (pg:=pg) (pe:=pe) (pl:=pl) (rh:=rh) (hd:=hd) (cs:=cs) K hn0 (by omega) hsy.1 hsy.2
 rw [hd] at Bg
 have hns:nsB p m d md l=decide ((J9 p m md (m / d) 0 0 (syL (fM p (Ax m md)) p m d l (Bb (R4 (fM p (Ax m md)) p m d 0)))).2.length=m / d):=rfl
 rw [hn] at *
 generalize R4 (fM p (Ax m md)) p m d 0=Z at *
 have h0:((0:Nat):Int)=0:=rfl
 rw [h0] at Cp
 generalize J9 p m md n 0 0 (syL (fM p (Ax m md)) p m d l (Bb Z))=EE at *
 by_cases he:EE.2.length=n
 ·rw [decide_eq_true he] at *
  rw [hns,if_pos rfl]
  refine wk 23 (ct @Bg (ct @Cp (ct @Rg cz))) ?_
  intro pa1 ca1 h1 rh1 hd1 cs1
  simp only [List.append_nil]
  have Gu:=fun {b ng cg ce cl:Nat}{pg pe pl:Option Addr}=>Gu (b:=b) (ng:=ng) (cg:=cg) (ce:=ce) (cl:=cl) (pg:=pg) (pe:=pe) (pl:=pl) (rh:=rh1) (hd:=hd1) (cs:=cs1)
  refine Aa rfl (Na 0 [3,5,6,0,1] rfl rfl (Gu) rfl ?_)
  rintro _ _ _ ⟨pa2,k1,c1,rfl,rfl,rfl⟩
  simp only [List.cons_append,List.nil_append]
  simp only [decide_true]
  refine wk 8 cz ?_
  exact ge
 ·rw [decide_eq_false he] at *
  rw [hns,if_neg Bool.false_ne_true]
  refine wk 23 (ct @Bg (ct @Cp (ct @Rg cz))) ?_
  intro pa1 ca1 h1 rh1 hd1 cs1
  simp only [List.append_nil]
  have Gu:=fun {b ng cg ce cl:Nat}{pg pe pl:Option Addr}=>Gu (b:=b) (ng:=ng) (cg:=cg) (ce:=ce) (cl:=cl) (pg:=pg) (pe:=pe) (pl:=pl) (rh:=rh1) (hd:=hd1) (cs:=cs1)
  refine Aa rfl (Na 0 [3,5,6,0,1] rfl rfl (Gu) rfl ?_)
  rintro _ _ _ ⟨pa2,k1,c1,rfl,rfl,rfl⟩
  simp only [List.cons_append,List.nil_append]
  simp only [decide_true]
  refine wk 8 cz ?_
  exact ge
theorem X0 (K:Fok p m md) (d1:1≤d) (d8:d≤8) (hd:dgB m d=true) (hn:m / d=n) (hn0:0<n) (hlk:l.length=n) (hlq:∀ x∈l,x<p ^ m) :
  Bt Tryz.prog 169 [.pointer (some ⟨b,0,none⟩),.slice pX0 n cL,.int .i64 (d:Int)] []
   [Jc b p m (p ^ m) pg md.length cg pe (p ^ m-1) ce pl (p ^ m) cl,Ap Ai pg md.length cg md,Ap Ai pe (p ^ m-1) ce (Jh p m md),Ap Ai pl (p ^ m) cl (Jk p m md),Ap Ai pX0 n cL (Bb l)]
   (Rv (.bool (nsB p m d md l)) []):=by
 refine Ab (F:=Yg) rfl fun C=>?_
 have hm:=K.m8
 have Jx:=fun {b cg ce cl cL:Nat}{pg pe pl pX0:Option Addr}=>AAM (b:=b) (cg:=cg) (ce:=ce) (cl:=cl) (cL:=cL) (pg:=pg) (pe:=pe) (pl:=pl) (pX0:=pX0) K d1 d8 hd hn hn0 hlk hlq
 cases he:nsB p m d md l with
 | true =>
  rw [he,if_pos rfl] at Jx
  refine wk 7 (ct @Jx cz) ?_
  exact ge
 | false =>
  rw [he,if_neg Bool.false_ne_true] at Jx
  refine wk 7 (ct @Jx cz) ?_
  exact ge
end
open Go Go.Fw
set_option maxRecDepth 100000
set_option linter.unusedVariables false
set_option linter.unusedSimpArgs false
set_option maxHeartbeats 0
section
variable {b p m q ng cg ne ce nl cl:Nat}{pg pe pl:Option Addr}
theorem J4:Bt Tryz.prog 168 [.pointer (some ⟨b,0,none⟩)] [] []
  (fun v Φ β=>∃ b2,v = .func (.func 199) #[] #[.pointer (some ⟨b2,0,none⟩)]∧Φ=[Ja b2 [.pointer (some ⟨b,0,none⟩)]]∧β=[]):=by
 refine Ab (F:=Si) rfl fun C=>?_
 refine wk 7 cz ?_
 intro b1 --ok
 refine Uk 0 rfl ?_
 simp only [List.eraseIdx_cons_zero]
 exact Va [0] rfl rfl rfl ⟨_,rfl,rfl,rfl⟩
theorem Ve {b2 l:Nat}{r:Loop}{B:Code}{X:Type}{st:X→List A4}{gf:X→Fact}{I:Nat→X→Prop}{Qs:List Nat→List Fact→List A4→Prop}(x0:X) (h0:I 0 x0) (hq:q≤256) (hr:Rdy r)
  (hY:∀ i x,I i x→i<q→AFF Tryz.prog l r B [.int .i64 (i:Int)] (st x) [gf x] (AIG st gf I i Qs)) :
  AJe Tryz.prog 199 [.func (.yield l) #[] #[],.pointer (some ⟨b2,0,none⟩)] l r B (st x0) [Ja b2 [.pointer (some ⟨b,0,none⟩)],Jc b p m q pg ng cg pe ne ce pl nl cl,gf x0]
   (fun Φ β=>∃ x,I q x∧Φ=[gf x]∧β=st x) Qs:=by
 refine ABs (F:=Ph) rfl fun C hoff=>?_
 refine wk 7 cz ?_ --ok
 refine Ah (X:=Nat×X) [0,7] [0,1,2] (fun z=>[(8,.int .i64 (z.1:Int))]) (fun z=>st z.2) (fun z=>[gf z.2]) (fun z=>I z.1 z.2∧z.1≤q) (fun z=>q-z.1) (0,x0) [2] rfl rfl rfl ⟨h0,Nat.zero_le _⟩ (by repeat (first|exact Fr.sub_nil _|refine Fr.sub_cons rfl ?_)) rfl rfl ?_
 rintro ⟨i,x⟩ ⟨hi,hi2⟩ ih
 simp only [List.cons_append,List.nil_append] at hi hi2 ih ⊢
 by_cases hl:i<q
 ·refine Am [_,_,_,_] rfl ?_
  refine Ae it 1 rfl (by simp) ?_
  refine Am [_,_,_,_] rfl ?_
  refine Lc rfl rfl (fun h1=>?_) (fun h1=>by exfalso;omega)
  refine Am [_,_,_,_,_,_] rfl ?_
  refine Ae it 2 rfl (by simp) ?_
  refine Am [_,_,_,_,_,_] rfl ?_
  refine Ae it 2 rfl (by simp) ?_ --ok
  refine AE6 (n:=(st x).length) [0] hoff hr rfl rfl rfl (by rw [List.take_length];exact hY i x hi hl) rfl ?_ ?_
  ·intro Φ β' hq
   obtain ⟨x',hx',rfl,rfl⟩:=AGQ hq
   rw [List.drop_length,List.append_nil]
   have ih':=ih (i+1,x') (by dsimp only;omega) ⟨hx',by dsimp only;omega⟩
   dsimp only at ih'
   clear ih
   refine wk 6 cz ?_
   exact tw (ih')
  ·intro q Φ β' C' hq
   have hq:=ACN hq
   rw [List.drop_length,List.append_nil]
   refine Ae it 1 rfl (by simp) ?_
   refine Am [_,_,_,_,_] rfl ?_
   refine So rfl rfl ?_ --ok
   exact AC4 rfl rfl hq fun g hg=>List.mem_append_left _ hg
 ·obtain rfl:i=q:=by omega
  clear ih
  refine wk 5 cz ?_
  intro h1 --ok
  refine AJN hoff hr ?_
  exact Cm [0] rfl rfl ⟨x,hi,rfl,rfl⟩
theorem AJy {d x:Nat}{md:List Int}(K:Fok p m md) (hx:x<p ^ m):∀ z∈R4 (fM p (Ax m md)) p m d x,z<p ^ m:=fun z hz=>by
 obtain ⟨i,_,rfl⟩:=List.mem_map.1 hz
 exact P6 (f:=Mp (fM p (Ax m md)) p (d % m)) (fun y hy=>Nw K hy (d % m)) hx i
theorem Zb {x0 d n:Nat}{md:List Int}(K:Fok p m md) (d1:1≤d) (d8:d≤8) (hd:dgB m d=true) (hn:m / d=n) (hn0:0<n) (hx0:x0<p ^ m) (hN:nsB p m d md (R4 (fM p (Ax m md)) p m d x0)=true) (hmin:∀ y,y<x0→nsB p m d md (R4 (fM p (Ax m md)) p m d y)=false) :
  Bt Tryz.prog 127 [.pointer (some ⟨b,0,none⟩),.int .i64 (d:Int)] []
   [Jc b p m (p ^ m) pg md.length cg pe (p ^ m-1) ce pl (p ^ m) cl,Ap Ai pg md.length cg md,Ap Ai pe (p ^ m-1) ce (Jh p m md),Ap Ai pl (p ^ m) cl (Jk p m md)]
   (Rv (.tuple #[.int .i64 (x0:Int),.int .i64 0]) []):=by
 refine Ab (F:=Se) rfl fun C=>?_
 have hm:=K.m8
 have hn8:n≤8:=by have:=Nat.div_le_self m d;omega
 have hq:=K.q
 have Bg:=fun {b ne ce nl cl cg:Nat}{pg pe pl:Option Addr}=>F5 (b:=b) (ne:=ne) (ce:=ce) (nl:=nl) (cl:=cl) (cg:=cg) (pg:=pg) (pe:=pe) (pl:=pl) K d1 d8
 rw [hd] at Bg
 refine Am [_,_] rfl ?_
 refine Aa rfl (Pe rfl rfl fun b1=>?_)
 refine Aa rfl (Pe rfl rfl fun b2=>?_)
 refine Aa rfl (Bl zo3 fun b3=>?_)
 refine Aa rfl (Bl AMM fun b4=>?_)
 refine Am [_,_,_] rfl ?_
 refine Aa rfl (Bm 3 rfl rfl Xs rfl ?_)
 refine Aa rfl (Bm 2 rfl rfl Ci rfl ?_)
 refine Aa rfl (Aw [0,1] rfl (Bg) rfl ?_)
 rintro _ _ _ ⟨rfl,rfl,rfl⟩
 simp only [List.cons_append,List.nil_append]
 refine Ae it 1 rfl (by simp) ?_
 refine Am [_,_] rfl ?_
 refine K4 rfl rfl ?_
 refine Am [_,_,_] rfl ?_
 refine Aa rfl (Bm 3 rfl rfl Xs rfl ?_)
 refine Aa rfl (Aw [] rfl (J4) rfl ?_)
 rintro _ _ _ ⟨b21,rfl,rfl,rfl⟩
 simp only [List.cons_append,List.nil_append]
 refine Am [_,_,_] rfl ?_ --ok
 refine Uk 3 rfl ?_
 simp only [List.eraseIdx_cons_succ,List.eraseIdx_cons_zero]
 refine Uk 2 rfl ?_
 simp only [List.eraseIdx_cons_succ,List.eraseIdx_cons_zero]
 refine ACp [0,1,3,4,5,6] rfl ?_
 refine Zq (n:=2) (Γ1:=[Ja b21 [.pointer (some ⟨b,0,none⟩)],Jc b p m (p ^ m) pg md.length cg pe (p ^ m-1) ce pl (p ^ m) cl,Zy [Ja b2 [.int .i64 (d:Int)],Ja b1 [.pointer (some ⟨b,0,none⟩)],Jc b p m (p ^ m) pg md.length cg pe (p ^ m-1) ce pl (p ^ m) cl,Ap Ai pg md.length cg md,Ap Ai pe (p ^ m-1) ce (Jh p m md),Ap Ai pl (p ^ m) cl (Jk p m md)]])
  (Qs:=fun q Φ β=>L6 Se.B q=true∧Φ=[]∧β=[(some b4,30,[.int .i64 0]),(some b3,3,[.int .i64 (x0:Int)])]) [3,4,0] rfl rfl rfl rfl
  (fun l r hr hY=>Ve (X:=Unit) (st:=fun _=>[(some b4,30,[.int .i64 0]),(some b3,3,[.int .i64 0])])
   (gf:=fun _=>Zy [Ja b2 [.int .i64 (d:Int)],Ja b1 [.pointer (some ⟨b,0,none⟩)],Jc b p m (p ^ m) pg md.length cg pe (p ^ m-1) ce pl (p ^ m) cl,Ap Ai pg md.length cg md,Ap Ai pe (p ^ m-1) ce (Jh p m md),Ap Ai pl (p ^ m) cl (Jk p m md)])
   (I:=fun i _=>i≤x0) () (Nat.zero_le _) hq hr fun i x hi hlt=>hY _ _ _ _ rfl fun C hoff=>?_) ?_ ?_
 ·refine T1 (σ':=[(13,.int .i64 (i:Int)),(5,.pointer (some ⟨b4,0,none⟩)),(4,.pointer (some ⟨b3,0,none⟩)),(3,.pointer (some ⟨b2,0,none⟩)),(2,.pointer (some ⟨b1,0,none⟩))]) (Uy rfl) ?_
  refine Am [_,_,_] rfl ?_
  refine Ae it 1 rfl (by simp) ?_
  refine Am [_,_] rfl ?_ --ok
  refine AKF hoff hr.1 fun C'=>?_
  refine AAh 0 rfl ?_
  simp only [List.cons_append,List.nil_append]
  have hE:=AJy (d:=d) K hlt
  have hEl:(R4 (fM p (Ax m md)) p m d i).length=n:=by rw [ABF,hn]
  have Cp:=fun {b cg ce cl:Nat}{pg pe pl:Option Addr}=>(K3 (b:=b) (cg:=cg) (ce:=ce) (cl:=cl) (pg:=pg) (pe:=pe) (pl:=pl) K hlt d1 d8).pubR (by show m / d*8≤140737488355328;omega)
  have Ic:=fun {b cg ce cl cL:Nat}{pg pe pl pX0:Option Addr}=>X0 (b:=b) (cg:=cg) (ce:=ce) (cl:=cl) (cL:=cL) (pg:=pg) (pe:=pe) (pl:=pl) (pX0:=pX0) K d1 d8 hd hn hn0 hEl hE
  rw [hn] at Cp
  have hmi:=hmin i
  by_cases he:i=x0
  ·subst he
   rw [hN] at Ic
   generalize R4 (fM p (Ax m md)) p m d i=L at *
   refine wk 9 (ct @Cp (ct @Ic cz)) ?_
   intro pa1 ca1 --ok
   simp only [setB,List.set_cons_zero,List.set_cons_succ]
   exact AK8 [] rfl rfl (.inr ⟨_,rfl,rfl,rfl,rfl⟩)
  ·rw [hmi (by omega)] at Ic
   generalize R4 (fM p (Ax m md)) p m d i=L at *
   refine wk 5 (ct @Cp (ct @Ic cz)) ?_
   intro pa1 ca1 --ok
   exact ABM [7] rfl (.inl ⟨rfl,(),show i+1≤x0 by omega,rfl,rfl⟩)
 ·rintro Φ β' D C' ⟨x,hi,rfl,rfl⟩
  omega
 ·rintro q Φ β' D C' ⟨hq,rfl,rfl⟩
  simp only [List.cons_append,List.nil_append]
  exact Bj [] hq (.one 1 rfl rfl Ci (.one 0 rfl rfl AM3 .nil)) rfl ⟨rfl,rfl,rfl⟩
end
open Go Go.Fw
set_option maxRecDepth 100000
set_option linter.unusedVariables false
set_option linter.unusedSimpArgs false
set_option maxHeartbeats 0
def hoE (A M:Int→Int→Int) (x:Int) (l:List Int):Int:=l.foldr (fun c y=>A (M y x) c) 0
theorem AE8 {q:Nat}{A M:Int→Int→Int}(F:FI q A M) {x:Int}(x0:0≤x) (x1:x<q):∀ (l:List Int),(∀ c∈l,0≤c∧c<(q:Int))→0≤hoE A M x l∧hoE A M x l<q
 | [],_=>⟨Int.le_refl 0,F.z⟩
 | c::l,h=>by
  have ih:=AE8 F x0 x1 l fun d hd=>h d (.tail _ hd)
  have hc:=h c (.head _)
  have h1:=F.ml _ _ ih.1 ih.2 x0 x1
  exact F.al _ _ h1.1 h1.2 hc.1 hc.2
section
variable {b p m q n c ng cg ne ce nl cl:Nat}{pg pe pl ps:Option Addr}{l md:List Int}
theorem ADw (hl:∀ x,l.getLast?=some x→x≠0):Bt Tryz.prog 215 [.slice ps n c] [] [Ap Ai ps n c l] (Rv (.slice ps n c) []):=by
 refine Ab (F:=ADk) rfl fun C=>?_
 refine Ba 0 rfl fun hn hb _=>?_
 subst hn
 have hb':l.length*8≤140737488355328:=hb
 by_cases h0:l.length=0
 ·refine wk 3 cz ?_
  refine Ah (X:=Unit) [2] [0] (fun _=>[(0,.slice ps l.length c)]) (fun _=>_) (fun _=>[]) (fun _=>True) (fun _=>0) () [] rfl rfl rfl trivial (by repeat (first|exact Fr.sub_nil _|refine Fr.sub_cons rfl ?_)) rfl rfl ?_
  rintro _ _ ih
  simp only [List.cons_append,List.nil_append] at ih ⊢
  clear ih
  refine wk 12 cz ?_
  intro h1
  exact ge
 ·obtain ⟨x,at_x⟩:∃ x,l[l.length-1]?=some x:=⟨_,List.getElem?_eq_getElem (by omega)⟩
  have hx0:=hl x (by rw [List.getLast?_eq_getElem?,at_x])
  refine wk 3 cz ?_
  refine Ah (X:=Unit) [2] [0] (fun _=>[(0,.slice ps l.length c)]) (fun _=>_) (fun _=>[]) (fun _=>True) (fun _=>0) () [] rfl rfl rfl trivial (by repeat (first|exact Fr.sub_nil _|refine Fr.sub_cons rfl ?_)) rfl rfl ?_
  rintro _ _ ih
  simp only [List.cons_append,List.nil_append] at ih ⊢
  clear ih
  refine wk 10 cz ?_
  intro h1 b1 o1 hz1
  refine Bp rfl rfl (Av 0 rfl rfl Ci fun ⟨r1,r2⟩=>?_)
  refine wk 6 cz ?_
  intro h2
  exact ge
theorem ACY {x:Int}(K:Fok p m md) (hx0:0≤x) (hx1:x<((p ^ m:Nat):Int)) (hlq:∀ c∈l,0≤c∧c<((p ^ m:Nat):Int)) :
  Bt Tryz.prog 198 [.pointer (some ⟨b,0,none⟩),.slice ps n c,.int .i64 x] [] [Jc b p m (p ^ m) pg ng cg pe (p ^ m-1) ce pl (p ^ m) cl,Ap Ai pe (p ^ m-1) ce (Jh p m md),Ap Ai pl (p ^ m) cl (Jk p m md),Ap Ai ps n c l]
   (Rv (.int .i64 (hoE (Ad (fA p m)) (Ad (fM p (Ax m md))) x l)) []):=by
 refine Ab (F:=AC9) rfl fun C=>?_
 refine Ba 3 rfl fun hn hb _=>?_
 subst hn
 have hb':l.length*8≤140737488355328:=hb
 have hq:=K.q
 have Bq:=fun {b ng cg ne ce nl cl:Nat}{pg pe pl:Option Addr}{x y:Int}=>Dc (p:=p) (m:=m) (b:=b) (ng:=ng) (cg:=cg) (ne:=ne) (ce:=ce) (nl:=nl) (cl:=cl) (pg:=pg) (pe:=pe) (pl:=pl) (x:=x) (y:=y) K.p2 K.m1 hq
 have A6:=fun {b ng cg ce cl:Nat}{pg pe pl:Option Addr}{x y:Int}=>C3 (b:=b) (ng:=ng) (cg:=cg) (ce:=ce) (cl:=cl) (pg:=pg) (pe:=pe) (pl:=pl) (x:=x) (y:=y) K
 have hr:=fun i=>AE8 K.fi hx0 hx1 (l.drop i) fun c hc=>hlq c (List.mem_of_mem_drop hc)
 have hml:=K.fi.ml
 have hes:∀ i (y:Int),l[i]?=some y→hoE (Ad (fA p m)) (Ad (fM p (Ax m md))) x (l.drop i)=Ad (fA p m) (Ad (fM p (Ax m md)) (hoE (Ad (fA p m)) (Ad (fM p (Ax m md))) x (l.drop (i+1))) x) y:=fun i y hy=>by
  have h1:=(List.getElem?_eq_some_iff.1 hy)
  rw [List.drop_eq_getElem_cons h1.1,h1.2];rfl
 generalize Ad (fM p (Ax m md))=M at *
 generalize Ad (fA p m)=A at *
 generalize Jh p m md=ex at *
 generalize Jk p m md=lg at *
 generalize p ^ m=q at *
 refine wk 9 cz ?_
 refine Ah (X:=Nat×Int) [0,1,2,6] [0,1,2,3] (fun k=>[(8,.int .i64 ((k.1:Int)-1)),(7,.int .i64 k.2)]) (fun _=>_) (fun _=>[]) (fun k=>k.1≤l.length∧k.2=hoE A M x (l.drop k.1)) (fun k=>k.1) (l.length,0) [] rfl rfl rfl ⟨Nat.le_refl _,by dsimp only;rw [List.drop_length];rfl⟩ (by repeat (first|exact Fr.sub_nil _|refine Fr.sub_cons rfl ?_)) rfl rfl ?_
 rintro ⟨k,y⟩ ⟨hk,hy⟩ ih
 simp only [List.cons_append,List.nil_append] at hk hy ih ⊢
 subst hy
 cases k with
 | zero =>
  clear ih
  refine wk 7 cz ?_
  intro h1
  exact ge
 | succ j =>
  rw [show (((j+1:Nat):Int)-1)=(j:Int) by omega]
  obtain ⟨y,at_y⟩:∃ y,l[j]?=some y:=⟨_,List.getElem?_eq_getElem (by omega)⟩
  have ey:l.getD j default=y:=by rw [List.getD_eq_getElem?_getD,at_y];rfl
  have hy:=hlq y (List.mem_of_getElem? at_y)
  have ih':=ih (j,hoE A M x (l.drop j)) (by dsimp only;omega) ⟨by dsimp only;omega,rfl⟩
  dsimp only at ih'
  rw [hes j y at_y] at ih'
  rw [← ey] at hy ih'
  have hs:=hr (j+1)
  have hmx:=hml _ _ hs.1 hs.2 hx0 hx1
  generalize hoE A M x (l.drop (j+1))=s at *
  clear ih
  obtain ⟨y0,y1⟩:=hy
  obtain ⟨s0,s1⟩:=hs
  obtain ⟨m0,m1⟩:=hmx
  refine wk 10 (ct @A6 (ct @Bq cz)) ?_
  intro h1 b1 o1
  exact tw (ih')
theorem ACb (hq:q≤256) (hlq:∀ c∈l,0≤c∧c<(q:Int)) (hl:∀ x,l.getLast?=some x→x≠0) :
  Bt Tryz.prog 197 [.pointer (some ⟨b,0,none⟩),.slice ps n c] [] [Jc b p m q pg ng cg pe ne ce pl nl cl,Ap Ai ps n c l]
   (fun v Φ β=>∃ (pa:Option Addr) (ca:Nat),v = .slice pa l.length ca∧Φ=[Ap Ai pa l.length ca l]∧β=[]):=by
 refine Ab (F:=AB5) rfl fun C=>?_
 refine Ba 1 rfl fun hn hb _=>?_
 subst hn
 have hb':l.length*8≤140737488355328:=hb
 have Lw:=fun {x:Int}{b ng cg ne ce nl cl:Nat}{pg pe pl:Option Addr}(h:decide (0≤x∧x<(q:Int))=true)=>I7 (p:=p) (m:=m) (b:=b) (ng:=ng) (cg:=cg) (ne:=ne) (ce:=ce) (nl:=nl) (cl:=cl) (pg:=pg) (pe:=pe) (pl:=pl) (x:=x) hq h
 have ADD:=fun {ps:Option Addr}{n c:Nat}=>ADw (ps:=ps) (n:=n) (c:=c) hl
 refine wk 12 cz ?_
 intro b1
 rw [show Ao .i64 (List.replicate l.length 0)=Al .i64 (l.take 0++List.replicate (l.length-0) 0) by simp [Ao,Al]]
 refine Ah (X:=Nat) [0,4,5,11,12] [0,1] (fun i=>[(13,.int .i64 (i:Int))]) (fun i=>[(some b1,3,Al .i64 (l.take i++List.replicate (l.length-i) 0))]) (fun _=>[]) (fun i=>i≤l.length) (fun i=>l.length-i) 0 [] rfl rfl rfl (Nat.zero_le _) (by repeat (first|exact Fr.sub_nil _|refine Fr.sub_cons rfl ?_)) rfl rfl ?_
 rintro i hi ih
 simp only [List.cons_append,List.nil_append] at hi ih ⊢
 by_cases h9:i<l.length
 ·obtain ⟨x,at_x⟩:∃ x,l[i]?=some x:=⟨_,List.getElem?_eq_getElem h9⟩
  have hx:=hlq x (List.mem_of_getElem? at_x)
  have Lw:=fun {b ng cg ne ce nl cl:Nat}{pg pe pl:Option Addr}=>Lw (x:=x) (b:=b) (ng:=ng) (cg:=cg) (ne:=ne) (ce:=ce) (nl:=nl) (cl:=cl) (pg:=pg) (pe:=pe) (pl:=pl) (decide_eq_true hx)
  have ih':=ih (i+1) (by omega) (by omega)
  rw [← take_set at_x h9] at ih'
  have hln:(l.take i++List.replicate (l.length-i) 0).length=l.length:=by simp;omega
  generalize l.take i++List.replicate (l.length-i) 0=T at *
  clear ih
  obtain ⟨x0,x1⟩:=hx
  refine wk 7 cz ?_
  intro h1 b2 o1 hz1
  refine Aa rfl (Av 0 rfl rfl Ci fun ⟨r1,r2⟩=>?_)
  refine wk 13 (ct @Lw cz) ?_
  exact tw (ih')
 ·obtain rfl:i=l.length:=by omega
  rw [Nat.sub_self,List.replicate_zero,List.append_nil,List.take_of_length_le (Nat.le_refl _)]
  clear ih
  have hr:∀ z∈l,Bv .i64 z:=fun z hz=>by have:=hlq z hz;simp only [Bv];omega
  refine Bk 0 rfl rfl hr (by omega) ?_
  refine C4 0 0 rfl rfl hb' ?_
  simp only [List.eraseIdx_cons_zero]
  refine wk 9 (ct @ADD cz) ?_
  intro h1
  refine Ov [0] rfl rfl rfl ⟨_,_,rfl,rfl,rfl⟩
end
open Go Go.Fw
set_option maxRecDepth 100000
set_option linter.unusedVariables false
set_option linter.unusedSimpArgs false
set_option maxHeartbeats 0
def rtP (A M:Int→Int→Int) (l:List Int) (i:Nat):List Int:=Bb ((List.range i).filter fun x=>decide (hoE A M (x:Int) l=0))
theorem AGD {A M:Int→Int→Int}{l:List Int}{i:Nat}:rtP A M l (i+1)=if hoE A M (i:Int) l=0 then rtP A M l i++[(i:Int)] else rtP A M l i:=by
 rw [rtP,rtP,List.range_succ,List.filter_append]
 by_cases h:hoE A M (i:Int) l=0
 ·rw [if_pos h];simp [Bb,h]
 ·rw [if_neg h];simp [Bb,h]
theorem AIz {A M:Int→Int→Int}{l:List Int}{i:Nat}:(rtP A M l i).length≤i:=by
 rw [rtP,Bb,List.length_map]
 exact Nat.le_trans (List.length_filter_le _ _) (by simp)
section
variable {b p m q n c ng cg ne ce nl cl:Nat}{pg pe pl ps:Option Addr}{l md:List Int}
theorem AB0 (K:Fok p m md) (hlq:∀ c∈l,0≤c∧c<((p ^ m:Nat):Int)) (hl:∀ x,l.getLast?=some x→x≠0) (hl0:0<l.length) :
  Bt Tryz.prog 163 [.pointer (some ⟨b,0,none⟩),.slice ps n c] [] [Jc b p m (p ^ m) pg ng cg pe (p ^ m-1) ce pl (p ^ m) cl,Ap Ai pe (p ^ m-1) ce (Jh p m md),Ap Ai pl (p ^ m) cl (Jk p m md),Ap Ai ps n c l]
   (fun v Φ β=>∃ (pa:Option Addr) (ca:Nat),v = .tuple #[.slice pa (rtP (Ad (fA p m)) (Ad (fM p (Ax m md))) l (p ^ m)).length ca,.int .i64 0]∧Φ=[Ap Ai pa (rtP (Ad (fA p m)) (Ad (fM p (Ax m md))) l (p ^ m)).length ca (rtP (Ad (fA p m)) (Ad (fM p (Ax m md))) l (p ^ m))]∧β=[]):=by
 refine Ab (F:=ABD) rfl fun C=>?_
 have hq:=K.q
 have AB9:=fun {b ng cg ne ce nl cl n c:Nat}{pg pe pl ps:Option Addr}=>ACb (p:=p) (m:=m) (b:=b) (ng:=ng) (cg:=cg) (ne:=ne) (ce:=ce) (nl:=nl) (cl:=cl) (pg:=pg) (pe:=pe) (pl:=pl) (ps:=ps) (n:=n) (c:=c) hq hlq hl
 have Kg:=fun {b ng cg ce cl n c x:Nat}{pg pe pl ps:Option Addr}(hx:x<p ^ m)=>ACY (b:=b) (ng:=ng) (cg:=cg) (ce:=ce) (cl:=cl) (pg:=pg) (pe:=pe) (pl:=pl) (ps:=ps) (n:=n) (c:=c) (x:=(x:Int)) K (by omega) (by omega) hlq
 have hR:=fun i=>AGD (A:=Ad (fA p m)) (M:=Ad (fM p (Ax m md))) (l:=l) (i:=i)
 have hRl:=fun i=>AIz (A:=Ad (fA p m)) (M:=Ad (fM p (Ax m md))) (l:=l) (i:=i)
 have hR0:rtP (Ad (fA p m)) (Ad (fM p (Ax m md))) l 0=[]:=rfl
 refine Am [_,_] rfl ?_
 refine Aa rfl (Pe rfl rfl fun b1=>?_)
 refine Ae it 2 rfl (by simp) ?_
 refine Am [_,_] rfl ?_
 refine Aa rfl (Bm 0 rfl rfl Xs rfl ?_)
 refine Ae it 1 rfl (by simp) ?_
 refine Aa rfl (Aw [0,3] rfl (AB9) rfl ?_)
 rintro _ _ _ ⟨pa1,ca1,rfl,rfl,rfl⟩
 simp only [List.cons_append,List.nil_append]
 refine Aa rfl (Bl ALQ fun b2=>?_)
 refine Aa rfl (Nx 0 rfl rfl rfl rfl E7 rfl (Nat.le_of_ble_eq_true rfl) ?_)
 refine Am [_,_,_] rfl ?_
 refine Aa rfl (Bm 0 rfl rfl E7 rfl ?_)
 refine Aa rfl (Hf Ce rfl ?_)
 refine Ae it 1 rfl (by simp) ?_
 refine Am [_,_] rfl ?_
 refine Lc rfl rfl (fun h1=>by exfalso;omega) (fun h1=>?_)
 refine Am [_,_] rfl ?_
 refine Aa rfl (Bl ALQ fun b3=>?_)
 refine Am [_,_,_] rfl ?_
 refine Aa rfl (Bm 2 rfl rfl Xs rfl ?_)
 refine Aa rfl (Aw [] rfl (J4) rfl ?_)
 rintro _ _ _ ⟨b21,rfl,rfl,rfl⟩
 simp only [List.cons_append,List.nil_append]
 refine Am [_,_,_] rfl ?_ --ok
 simp only [setB,List.set_cons_zero]
 refine Uk 2 rfl ?_
 simp only [List.eraseIdx_cons_succ,List.eraseIdx_cons_zero]
 refine Uk 1 rfl ?_
 simp only [List.eraseIdx_cons_succ,List.eraseIdx_cons_zero]
 refine F3 Ai 3 ?_
 refine ACp [0,1,2,5,6,7,4] rfl ?_
 refine Zq (n:=2) (Γ1:=[Ja b21 [.pointer (some ⟨b,0,none⟩)],Jc b p m (p ^ m) pg ng cg pe (p ^ m-1) ce pl (p ^ m) cl,Zy [A7 Ai ⟨none,0,[]⟩ 0 [],Ja b2 [.slice pa1 l.length ca1],Ja b1 [.pointer (some ⟨b,0,none⟩)],Jc b p m (p ^ m) pg ng cg pe (p ^ m-1) ce pl (p ^ m) cl,Ap Ai pe (p ^ m-1) ce (Jh p m md),Ap Ai pl (p ^ m) cl (Jk p m md),Ap Ai pa1 l.length ca1 l]])
  (Qs:=fun _ _ _=>False) [4,6,0] rfl rfl rfl rfl
  (fun l2 r hr hY=>Ve (X:=Nat×Row) (st:=fun x=>[(x.2.bo,3,x.2.cs),(some b3,22,[.slice (ad x.2.bo) (rtP (Ad (fA p m)) (Ad (fM p (Ax m md))) l x.1).length x.2.cap])])
   (gf:=fun x=>Zy [A7 Ai x.2 (rtP (Ad (fA p m)) (Ad (fM p (Ax m md))) l x.1).length (rtP (Ad (fA p m)) (Ad (fM p (Ax m md))) l x.1),Ja b2 [.slice pa1 l.length ca1],Ja b1 [.pointer (some ⟨b,0,none⟩)],Jc b p m (p ^ m) pg ng cg pe (p ^ m-1) ce pl (p ^ m) cl,Ap Ai pe (p ^ m-1) ce (Jh p m md),Ap Ai pl (p ^ m) cl (Jk p m md),Ap Ai pa1 l.length ca1 l])
   (I:=fun i x=>x.1=i) (0,⟨none,0,[]⟩) rfl hq hr fun i x hi hlt=>hY _ _ _ _ rfl fun C hoff=>?_) ?_ (fun _ _ _ _ _ h=>h.elim)
 ·obtain ⟨i',r1⟩:=x
  obtain rfl:i'=i:=hi
  refine T1 (σ':=[(17,.int .i64 (i':Int)),(7,.pointer (some ⟨b3,0,none⟩)),(6,.pointer (some ⟨b2,0,none⟩)),(2,.pointer (some ⟨b1,0,none⟩))]) (Uy rfl) ?_
  refine Am [_,_,_] rfl ?_
  refine Ae it 1 rfl (by simp) ?_
  refine Am [_,_] rfl ?_ --ok
  refine AKF hoff hr.1 fun C'=>?_
  refine AAh 0 rfl ?_
  simp only [List.cons_append,List.nil_append]
  have Kg:=fun {b ng cg ce cl n c:Nat}{pg pe pl ps:Option Addr}=>Kg (b:=b) (ng:=ng) (cg:=cg) (ce:=ce) (cl:=cl) (pg:=pg) (pe:=pe) (pl:=pl) (ps:=ps) (n:=n) (c:=c) hlt
  have hRi:=hR i'
  have hRn:=hRl i'
  have hRn1:=hRl (i'+1)
  by_cases he:hoE (Ad (fA p m)) (Ad (fM p (Ax m md))) (i':Int) l=0
  ·rw [he] at Kg
   rw [if_pos he] at hRi
   refine wk 12 (ct @Kg cz) ?_
   intro h2 b4
   refine Aa rfl (Ga (z:=(↑i':Int)) 1 0 0 rfl rfl rfl rfl rfl Ce Ep rfl (fun w A hG=>(Dq (by first|(simp only [Bv];omega)|(simp [Bv];done)))) (by omega) _ Hu (by omega) fun r2=>?_)
   refine wk 2 cz ?_ --ok
   simp only [setB,List.set_cons_zero,List.set_cons_succ,List.nil_append,List.eraseIdx_cons_zero,List.eraseIdx_cons_succ]
   refine Py [0,2] rfl rfl ?_
   refine ACp [0,2,3,4,5,6,7] rfl ?_
   refine ABM [0] rfl (.inl ⟨rfl,(i'+1,r2),rfl,?_,?_⟩)
   ·dsimp only
    rw [hRi,List.length_append,List.length_singleton]
   ·dsimp only
    rw [hRi,List.length_append,List.length_singleton]
  ·rw [if_neg he] at hRi
   refine wk 9 (ct @Kg cz) ?_
   intro h2 --ok
   simp only [List.nil_append]
   refine ACp [0,1,2,3,4,5,6] rfl ?_
   refine ABM [0] rfl (.inl ⟨rfl,(i'+1,r1),rfl,?_,?_⟩)
   ·dsimp only
    rw [hRi]
   ·dsimp only
    rw [hRi]
 ·rintro Φ β' D C' ⟨⟨i',r1⟩,hi,rfl,rfl⟩
  obtain rfl:i'=p ^ m:=hi
  refine AAh 0 rfl ?_
  simp only [List.cons_append,List.nil_append]
  refine wk 4 cz ?_ --ok
  simp only [List.drop_succ_cons,List.drop_zero,List.drop_nil]
  have hRn:=hRl (p ^ m)
  refine D2 0 0 rfl rfl (by show (rtP _ _ l (p ^ m)).length*8≤140737488355328;omega) ?_
  exact Bj [0] rfl (.tmp rfl (.tmp rfl .nil)) rfl ⟨_,_,rfl,rfl,rfl⟩
end
end Go.Proofs.YtpienolhkccpnaaGreat
