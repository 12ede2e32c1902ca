/-
The methods of a field behind a pointer. The negative and the inverse in the document. The library of slices. Copies of rows, checks of matrices. New refuses what is no field. The field and the matrices of a call are checked. Sums of products of two rows of fractions: bounds, steps; what is feasible, as a test. Columns of Krawtchouk numbers as rows of fractions; certificates as they are handed in. Functions of slices that are handed a function; sets of positions. A multiple of a row is added to a row in place. A matrix is copied row by row. The steps of an elimination. The clearing step of an elimination. The scaling step of an elimination. The steps of an elimination on the rows alone. Elimination over a field, in place. Reduced rows of a matrix, as handed back. Canonical matrices. The program's tests of spaces and codes. The document's tests of entries, shapes and sets; its copies. Rows of an elimination are combinations of the rows; solutions of equations. What is left of a word when the rows of a reduced matrix are taken off; words of a code that vanish at the helpers. Independent columns: a basis that grows, and the pivots of the rows. Independent columns and the pivots of the rows. Sets of positions. Columns taken as long as they are independent, in plain words. Exclusion trees in plain words. A multiple of a row is added to an own row; combinations of rows. The kernel of a matrix. Products and transposes of matrices. The words of a space that vanish outside some positions; the least witness. The least witness, and the program's answer whether helpers suffice. Whether helpers suffice: what the program answers. Columns and ranks in the document, what is enough, and the least witness. What is enough by ranks and by witnesses; the walk of RepairSuffices. Words of messages in the document; the walk of RepairDetermines. Differences in a field; the program's test of a word.
-/
import Derived.Test.YteadncphjconmaaGreatRZ4
set_option linter.unusedVariables false
set_option linter.unusedSimpArgs false
namespace Go.Proofs.YteadncphjconmaaGreat
open Go Go.Fw
set_option maxRecDepth 100000
set_option linter.unusedVariables false
set_option linter.unusedSimpArgs false
set_option maxHeartbeats 0
theorem ABk {u p:Nat}(h:u≤256):0≤(u:Int) / (p:Int)∧(u:Int) / (p:Int)≤256:=by
 rw [← Int.natCast_ediv]
 exact ⟨Int.natCast_nonneg _,by have h1:=Nat.le_trans (Nat.div_le_self u p) h;generalize u / p=z at *;omega⟩
theorem take_set {T:List Int}{i n:Nat}{v:Int}(h:T[i]?=some v) (hi:i<n):(T.take i++List.replicate (n-i) 0).set i v=T.take (i+1)++List.replicate (n-(i+1)) 0:=by
 have hl:i<T.length:=by rw [List.getElem?_eq_some_iff] at h;exact h.1
 have e1:(T.take i).length=i:=by rw [List.length_take];omega
 obtain ⟨k,hk⟩:∃ k,n-i=k+1:=⟨n-i-1,by omega⟩
 rw [hk,List.replicate_succ,List.set_append_right _ _ (by omega),e1,Nat.sub_self,List.set_cons_zero,show n-(i+1)=k by omega,List.take_add_one,h,List.append_assoc]
 rfl
abbrev RwI (n:Nat) (l:List Int):Value→List Fact→List Bb→Prop:=fun v Φ β=>∃ r:Row,v = .slice (ad r.bo) n r.cap∧Φ=[Aw Ak r n l]∧β=[(r.bo,3,r.cs)]
theorem Ow {P:Program}{F:Fun P}{C:Cx}{S:List It}{σ:Fr}{β:List Bb}{Γ:List Fact}{R:Value→World→Prop}{e:TypeId}{b n:Nat}{l:List Int}(k:Nat) (hn:A8 β k=some (some b,e,Az .i64 l)) (hl:n=l.length) (hr:∀ x∈l,Bf .i64 x) (h63:n≤9223372036854775807)
  (h:J F C S σ β (Aw Ak ⟨some b,n,Az .i64 l⟩ n l::Γ) R):J F C S σ β Γ R :=
 He (E:=Ak) (l.map fun n=>[.int .i64 n]) l k (fun w A _=>ACZ .i64 8 l hr w A) hn (Px _ _) hl (by rw [Hx];show l.length=n*1;omega) h63 h
abbrev T0 (b p m q:Nat) (pg:Option Addr) (ng cg:Nat) (pe:Option Addr) (ne ce:Nat) (pl:Option Addr) (nl cl:Nat):Fact :=
 AB8 b [.int .i64 p,.int .i64 m,.slice pg ng cg,.int .i64 (q:Int),.slice pe ne ce,.slice pl nl cl]
theorem Fok.rng' {p m:Nat}{md:List Int}(K:Fok p m md):Rng (p ^ m) (fA p m) (fM p (Cc m md)):=by
 have:=Xi K.p2 (f:=Cc m md) (by rw [K.shp.flen];exact K.shp.m1)
 rwa [K.shp.flen] at this
section
variable {p m q b ng cg ne ce nl cl:Nat}{pg pe pl:Option Addr}
theorem Mp {x:Int}{res:Bool}(hq:q≤256) (hr:decide (0≤x∧x<(q:Int))=res):Br Tryz.prog 48 [.pointer (some ⟨b,0,none⟩),.int .i64 x] [] [T0 b p m q pg ng cg pe ne ce pl nl cl] (Rv (.bool res) []):=by
 refine Ad (F:=Zw) rfl fun C=>?_
 subst hr
 by_cases h0:0≤x
 ·have e:decide (0≤x∧x<(q:Int))=decide (x<(q:Int)):=by simp [h0]
  rw [e]
  refine wk 12 cz ?_
  intro h1
  exact ge
 ·rw [decide_eq_false (show ¬(0≤x∧x<(q:Int)) from fun h=>h0 h.1)]
  refine wk 9 cz ?_
  intro h1
  exact ge
theorem Cg {x:Int}(hq:q≤256) (h0:0≤x) (h1:x<(q:Int)):Br Tryz.prog 181 [.pointer (some ⟨b,0,none⟩),.int .i64 x] [] [T0 b p m q pg ng cg pe ne ce pl nl cl] (Rv (.int .i64 x) []):=by
 refine Ad (F:=Z0) rfl fun C=>?_
 have hd:decide (0≤x∧x<(q:Int))=true:=decide_eq_true ⟨h0,h1⟩
 refine wk 10 (ct @Mp cz) ?_
 exact ge
theorem Rq {x y:Int}(hp:2≤p) (hm:1≤m) (hq:p ^ m≤256) (x0:0≤x) (x1:x<((p ^ m:Nat):Int)) (y0:0≤y) (y1:y<((p ^ m:Nat):Int)):Br Tryz.prog 180 [.pointer (some ⟨b,0,none⟩),.int .i64 x,.int .i64 y] [] [T0 b p m (p ^ m) pg ng cg pe ne ce pl nl cl] (Rv (.int .i64 (Aq (fA p m) x y)) []):=by
 refine Ad (F:=Yb) rfl fun C=>?_
 obtain ⟨a,rfl⟩:=Int.eq_ofNat_of_zero_le x0
 obtain ⟨c,rfl⟩:=Int.eq_ofNat_of_zero_le y0
 rw [Aq,Int.toNat_natCast,Int.toNat_natCast]
 clear x0 y0
 have x1:=Int.ofNat_lt.1 x1
 have y1:=Int.ofNat_lt.1 y1
 have hpp:p≤256:=by
  have:=Nat.pow_le_pow_right (n:=p) (by omega) hm
  rw [Nat.pow_one] at this
  omega
 by_cases hp2:p=2
 ·subst hp2
  rw [AHe x1 y1]
  generalize 2 ^ m=Q at *
  refine wk 18 (ct @Cg (ct @Cg cz)) ?_
  intro h1
  refine Ab rfl (AE8 (a) (c) rfl rfl (by first|rfl|omega) (by first|rfl|omega) (by omega) (by omega) ?_)
  refine wk 2 cz ?_
  exact ge
 ·generalize hQ:p ^ m=Q at *
  refine wk 19 (ct @Cg (ct @Cg cz)) ?_
  intro h1
  generalize hF:fA p m a c=F
  refine Ag (X:=Nat×Nat×Nat×Nat×Nat) [0,6] [0] (fun k=>[(1,.int .i64 (k.1:Int)),(2,.int .i64 (k.2.1:Int)),(7,.int .i64 (k.2.2.1:Int)),(8,.int .i64 (k.2.2.2.1:Int))]) (fun _=>[]) (fun _=>[])
   (fun k=>k.1<p ^ k.2.2.2.2∧k.2.1<p ^ k.2.2.2.2∧k.2.2.2.1*p ^ k.2.2.2.2=Q∧k.2.2.1<k.2.2.2.1∧k.2.2.1+k.2.2.2.1*fA p k.2.2.2.2 k.1 k.2.1=F) (fun k=>k.2.2.2.2) (a,c,0,1,m) [] rfl rfl rfl ⟨by dsimp only;omega,by dsimp only;omega,by dsimp only;omega,by dsimp only;omega,by dsimp only;omega⟩ (by repeat (first|exact Fr.sub_nil _|refine Fr.sub_cons rfl ?_)) rfl rfl ?_
  rintro ⟨u,v,r,w,k⟩ ⟨hu,hv,hw,hr,he⟩ ih
  simp only [List.cons_append,List.nil_append] at hu hv hw hr he ih ⊢
  by_cases h0:u=0∧v=0
  ·obtain ⟨rfl,rfl⟩:=h0
   rw [AIP,Nat.mul_zero,Nat.add_zero] at he
   subst he
   refine wk 7 cz ?_
   intro h2
   exact ge
  ·obtain ⟨k,rfl⟩:∃ j,k=j+1:=⟨k-1,by
    rcases k with _|k
    ·rw [Nat.pow_zero] at hu hv;omega
    ·omega⟩
   have hw1:w≤Q:=Nat.le_of_dvd (by omega) ⟨_,hw.symm⟩
   have hwp:w*p≤Q:=Nat.le_of_dvd (by omega) ⟨p ^ k,by rw [← hw,Nat.pow_succ,Nat.mul_assoc,Nat.mul_comm p]⟩
   have hd:(u % p+v % p) % p<p:=Nat.mod_lt _ (by omega)
   have hdw:(u % p+v % p) % p*w+w≤w*p:=by
    have:=Nat.mul_le_mul_right w (show (u % p+v % p) % p+1≤p by omega)
    rw [Nat.add_mul,Nat.one_mul,Nat.mul_comm p] at this
    exact this
   have hu1:=Nat.mod_lt u (show 0<p by omega)
   have hv1:=Nat.mod_lt v (show 0<p by omega)
   have ih':=ih (u / p,v / p,r+(u % p+v % p) % p*w,w*p,k) (Nat.lt_succ_self k) ⟨by dsimp only;exact Nat.div_lt_of_lt_mul (by rwa [Nat.pow_succ,Nat.mul_comm] at hu),by dsimp only;exact Nat.div_lt_of_lt_mul (by rwa [Nat.pow_succ,Nat.mul_comm] at hv),by dsimp only;rw [← hw,Nat.pow_succ,Nat.mul_assoc,Nat.mul_comm p],by dsimp only;omega,by
    dsimp only
    rw [← he,Yp,Nat.mul_add,Nat.mul_comm w (_ % p),Nat.mul_assoc,Nat.add_assoc]⟩
   simp only [Int.natCast_add,Int.natCast_mul,Int.natCast_emod,Int.natCast_ediv] at ih'
   have hm0:0≤((u:Int) % (p:Int)+(v:Int) % (p:Int)) % (p:Int)*(w:Int)∧(r:Int)+((u:Int) % (p:Int)+(v:Int) % (p:Int)) % (p:Int)*(w:Int)≤256:=by
    rw [← Int.natCast_emod,← Int.natCast_emod,← Int.natCast_add,← Int.natCast_emod,← Int.natCast_mul]
    omega
   have hm1:0≤(w:Int)*(p:Int)∧(w:Int)*(p:Int)≤256:=by
    rw [← Int.natCast_mul]
    omega
   have hp8:p ^ (k+1)≤Q:=Nat.le_of_dvd (by omega) ⟨w,by rw [← hw,Nat.mul_comm]⟩
   have hu2:=Nat.div_le_self u p
   have hv2:=Nat.div_le_self v p
   have hm2:0≤(u:Int) / (p:Int)∧(u:Int) / (p:Int)≤256:=ABk (by omega)
   have hm3:0≤(v:Int) / (p:Int)∧(v:Int) / (p:Int)≤256:=ABk (by omega)
   rcases Nat.eq_zero_or_pos u with h9|h9
   ·have h8:0<v:=by omega
    refine wk 30 cz ?_
    intro h2 h3
    exact tw (ih')
   ·refine wk 30 cz ?_
    intro h2
    exact tw (ih')
theorem Kv {x:Int}(hp:2≤p) (hm:1≤m) (hq:p ^ m≤256) (x0:0≤x) (x1:x<((p ^ m:Nat):Int)):Br Tryz.prog 165 [.pointer (some ⟨b,0,none⟩),.int .i64 x] [] [T0 b p m (p ^ m) pg ng cg pe ne ce pl nl cl] (Rv (.int .i64 ((nP p m x.toNat:Nat):Int)) []):=by
 refine Ad (F:=Yd) rfl fun C=>?_
 obtain ⟨a,rfl⟩:=Int.eq_ofNat_of_zero_le x0
 rw [Int.toNat_natCast]
 clear x0
 have x1:=Int.ofNat_lt.1 x1
 have hpp:p≤256:=by
  have:=Nat.pow_le_pow_right (n:=p) (by omega) hm
  rw [Nat.pow_one] at this
  omega
 generalize hQ:p ^ m=Q at *
 refine wk 9 (ct @Cg cz) ?_
 generalize hF:nP p m a=F
 refine Ag (X:=Nat×Nat×Nat×Nat) [0,4] [0] (fun k=>[(1,.int .i64 (k.1:Int)),(5,.int .i64 (k.2.1:Int)),(6,.int .i64 (k.2.2.1:Int))]) (fun _=>[]) (fun _=>[])
  (fun k=>k.1<p ^ k.2.2.2∧k.2.2.1*p ^ k.2.2.2=Q∧k.2.1<k.2.2.1∧k.2.1+k.2.2.1*nP p k.2.2.2 k.1=F) (fun k=>k.2.2.2) (a,0,1,m) [] rfl rfl rfl ⟨by dsimp only;omega,by dsimp only;omega,by dsimp only;omega,by dsimp only;omega⟩ (by repeat (first|exact Fr.sub_nil _|refine Fr.sub_cons rfl ?_)) rfl rfl ?_
 rintro ⟨u,r,w,k⟩ ⟨hu,hw,hr,he⟩ ih
 simp only [List.cons_append,List.nil_append] at hu hw hr he ih ⊢
 by_cases h0:u=0
 ·subst h0
  rw [AJj,Nat.mul_zero,Nat.add_zero] at he
  subst he
  refine wk 7 cz ?_
  intro h1
  exact ge
 ·obtain ⟨k,rfl⟩:∃ j,k=j+1:=⟨k-1,by
   rcases k with _|k
   ·rw [Nat.pow_zero] at hu;omega
   ·omega⟩
  have hw1:w≤Q:=Nat.le_of_dvd (by omega) ⟨_,hw.symm⟩
  have hwp:w*p≤Q:=Nat.le_of_dvd (by omega) ⟨p ^ k,by rw [← hw,Nat.pow_succ,Nat.mul_assoc,Nat.mul_comm p]⟩
  have hd:(p-u % p) % p<p:=Nat.mod_lt _ (by omega)
  have hdw:(p-u % p) % p*w+w≤w*p:=by
   have:=Nat.mul_le_mul_right w (show (p-u % p) % p+1≤p by omega)
   rw [Nat.add_mul,Nat.one_mul,Nat.mul_comm p] at this
   exact this
  have hu1:=Nat.mod_lt u (show 0<p by omega)
  have ih':=ih (u / p,r+(p-u % p) % p*w,w*p,k) (Nat.lt_succ_self k) ⟨by dsimp only;exact Nat.div_lt_of_lt_mul (by rwa [Nat.pow_succ,Nat.mul_comm] at hu),by dsimp only;rw [← hw,Nat.pow_succ,Nat.mul_assoc,Nat.mul_comm p],by dsimp only;omega,by
   dsimp only
   rw [← he,ABB,Nat.mul_add,Nat.mul_comm w (_ % p),Nat.mul_assoc,Nat.add_assoc]⟩
  simp only [Int.natCast_add,Int.natCast_mul,Int.natCast_emod,Int.natCast_ediv] at ih'
  have hm0:0≤((p-u % p:Nat):Int) % (p:Int)*(w:Int)∧(r:Int)+((p-u % p:Nat):Int) % (p:Int)*(w:Int)≤256:=by
   rw [← Int.natCast_emod,← Int.natCast_mul]
   omega
  have hm1:0≤(w:Int)*(p:Int)∧(w:Int)*(p:Int)≤256:=by
   rw [← Int.natCast_mul]
   omega
  have hp8:p ^ (k+1)≤Q:=Nat.le_of_dvd (by omega) ⟨w,by rw [← hw,Nat.mul_comm]⟩
  have hu2:=Nat.div_le_self u p
  have hm2:0≤(u:Int) / (p:Int)∧(u:Int) / (p:Int)≤256:=ABk (by omega)
  refine wk 5 cz ?_
  intro h1
  (apply Ch it mx 23;(· rfl);(· rfl))
  (apply Ae 3;(· rfl);(· simp))
  (apply Ac;(· rfl);(· exact Bi fun _=>A3 rfl ABW Af))
  (apply Ac;(· rfl);(· exact Bi fun _=>A3 rfl U9 Af))
  (apply Ac;(· rfl);(· exact AEt 0 rfl rfl Bm rfl))
  (apply Ae 3;(· rfl);(· simp))
  (apply Ac;(· rfl);(· exact Bi fun _=>A3 rfl ABW Af))
  (apply Ac;(· rfl);(· exact Bi fun _=>A3 rfl U9 Af))
  (apply Ac;(· rfl);(· exact AEt 0 rfl rfl Bm rfl))
  (apply Ae 1;(· rfl);(· exact ⟨⟨by omega,by omega⟩,trivial⟩))
  (apply Ac (v:=Value.int IntKind.i64 ((((p)-((u) % (p)):Nat)):Int));(· rfl);(· exact Bi fun _=>V0 it _ rfl ⟨by omega,by omega⟩ (by omega) Af))
  simp only [Nat.add_sub_cancel]
  (apply Ae 2;(· rfl);(· simp))
  (apply Ac;(· rfl);(· exact Bi fun _=>A3 rfl ABW Af))
  (apply Ac;(· rfl);(· exact Bi fun _=>A3 rfl U9 Af))
  (apply Ac;(· rfl);(· exact AEt 0 rfl rfl Bm rfl))
  (apply Ae 4;(· rfl);(· exact ⟨⟨by omega,by omega⟩,⟨by omega,by omega⟩,trivial,⟨by omega,by omega⟩,trivial⟩))
  refine B7 rfl ?_
  simp only [List.map_cons,List.map_nil,List.cons_append,List.nil_append]
  refine wk 14 cz ?_
  exact tw (ih')
theorem F9 {x y:Int}{md:List Int}(K:Fok p m md) (x0:0≤x) (x1:x<((p ^ m:Nat):Int)) (y0:0≤y) (y1:y<((p ^ m:Nat):Int)):Br Tryz.prog 166 [.pointer (some ⟨b,0,none⟩),.int .i64 x,.int .i64 y] [] [T0 b p m (p ^ m) pg ng cg pe (p ^ m-1) ce pl (p ^ m) cl,A2 Ak pe (p ^ m-1) ce (T8 p m md),A2 Ak pl (p ^ m) cl (Tt p m md)] (Rv (.int .i64 (Aq (fM p (Cc m md)) x y)) []):=by
 refine Ad (F:=X4) rfl fun C=>?_
 obtain ⟨a,rfl⟩:=Int.eq_ofNat_of_zero_le x0
 obtain ⟨c,rfl⟩:=Int.eq_ofNat_of_zero_le y0
 rw [Aq,Int.toNat_natCast,Int.toNat_natCast]
 clear x0 y0
 have x1:=Int.ofNat_lt.1 x1
 have y1:=Int.ofNat_lt.1 y1
 have R:=K.rng'
 have hq:=K.q
 obtain ⟨g2,g3,hgen,-⟩:=W7 ((Q6 K.shp K.pr).2 K)
 unfold T8 Tt
 generalize gnX (p ^ m) (fM p (Cc m md))=g at *
 generalize fM p (Cc m md)=M at *
 generalize p ^ m=q at *
 by_cases h0:a=0∨c=0
 ·have e:M a c=0:=by
   rcases h0 with rfl|rfl
   ·rw [R.mc _ _ x1 y1,R.m0 y1]
   ·exact R.m0 x1
  rw [e]
  rcases Nat.eq_zero_or_pos a with h9|h9
  ·refine wk 19 (ct @Cg (ct @Cg cz)) ?_
   intro h1
   exact ge
  ·have h8:c=0:=by omega
   refine wk 19 (ct @Cg (ct @Cg cz)) ?_
   intro h1 h2
   exact ge
 ·have h1:a≠0:=fun e=>h0 (.inl e)
  have h2:c≠0:=fun e=>h0 (.inr e)
  obtain ⟨i,hi,rfl⟩:=R.gen_all g3 hgen x1 h1
  obtain ⟨j,hj,rfl⟩:=R.gen_all g3 hgen y1 h2
  rw [← R.exp_mul g3 hgen]
  have ei:(Zj q M g)[Cq M g i]?=some (i:Int):=Js (by rw [List.getElem?_map,List.getElem?_range x1];show some (lgN q M g _)=_;rw [ADM hgen hi])
  have ej:(Zj q M g)[Cq M g j]?=some (j:Int):=Js (by rw [List.getElem?_map,List.getElem?_range y1];show some (lgN q M g _)=_;rw [ADM hgen hj])
  have ei':(Zj q M g).getD (Cq M g i) default=(i:Int):=by rw [List.getD_eq_getElem?_getD,ei];rfl
  have ej':(Zj q M g).getD (Cq M g j) default=(j:Int):=by rw [List.getD_eq_getElem?_getD,ej];rfl
  have hk:(i+j) % (q-1)<q-1:=Nat.mod_lt _ (by omega)
  have ek:(Yc q M g)[(i+j) % (q-1)]?=some ((Cq M g ((i+j) % (q-1)):Nat):Int):=Js (by rw [List.getElem?_map,List.getElem?_range hk];rfl)
  have en:((Zj q M g).getD (Cq M g i) default:Int).toNat+((Zj q M g).getD (Cq M g j) default:Int).toNat=i+j:=by rw [ei',ej',Int.toNat_natCast,Int.toNat_natCast]
  have em:((Zj q M g).getD (Cq M g i) default+(Zj q M g).getD (Cq M g j) default:Int) % ((q-1:Nat):Int)=(((((Zj q M g).getD (Cq M g i) default:Int).toNat+((Zj q M g).getD (Cq M g j) default:Int).toNat) % (q-1):Nat):Int):=by rw [en,ei',ej',Int.natCast_emod,Int.natCast_add]
  have eo:(((Zj q M g).getD (Cq M g i) default:Int).toNat+((Zj q M g).getD (Cq M g j) default:Int).toNat) % (q-1)<q-1:=by rw [en];exact hk
  have ek':(Yc q M g)[(((Zj q M g).getD (Cq M g i) default:Int).toNat+((Zj q M g).getD (Cq M g j) default:Int).toNat) % (q-1)]?=some ((Cq M g ((i+j) % (q-1)):Nat):Int):=by rw [en];exact ek
  have ef:(Yc q M g).getD ((((Zj q M g).getD (Cq M g i) default:Int).toNat+((Zj q M g).getD (Cq M g j) default:Int).toNat) % (q-1)) default=((Cq M g ((i+j) % (q-1)):Nat):Int):=by rw [List.getD_eq_getElem?_getD,ek'];rfl
  refine wk 20 (ct @Cg (ct @Cg cz)) ?_
  intro h3 h4 b1 o1 b2 o2 b3 o3
  try simp only [em,Int.toNat_natCast]
  rw [ef]
  exact ge
theorem Rh {x:Int}{md:List Int}(K:Fok p m md) (x0:0<x) (x1:x<((p ^ m:Nat):Int)):Br Tryz.prog 167 [.pointer (some ⟨b,0,none⟩),.int .i64 x] [] [T0 b p m (p ^ m) pg ng cg pe (p ^ m-1) ce pl (p ^ m) cl,A2 Ak pe (p ^ m-1) ce (T8 p m md),A2 Ak pl (p ^ m) cl (Tt p m md)] (Rv (.tuple #[.int .i64 ((iF (p ^ m) (fM p (Cc m md)) x.toNat:Nat):Int),.int .i64 0]) []):=by
 refine Ad (F:=Xz) rfl fun C=>?_
 obtain ⟨a,rfl⟩:=Int.eq_ofNat_of_zero_le (Int.le_of_lt x0)
 rw [Int.toNat_natCast]
 have x1:=Int.ofNat_lt.1 x1
 have h1:a≠0:=by omega
 clear x0
 have R:=K.rng'
 have hq:=K.q
 obtain ⟨g2,g3,hgen,-⟩:=W7 ((Q6 K.shp K.pr).2 K)
 unfold T8 Tt
 generalize gnX (p ^ m) (fM p (Cc m md))=g at *
 generalize fM p (Cc m md)=M at *
 generalize p ^ m=q at *
 obtain ⟨i,hi,rfl⟩:=R.gen_all g3 hgen x1 h1
 have hk:(q-1-i) % (q-1)<q-1:=Nat.mod_lt _ (by omega)
 have hin:=R.exp_inv g3 hgen hi
 have hpl:=R.pw_lt g3
 have hev:iF q M (Cq M g i)=Cq M g ((q-1-i) % (q-1)):=by
  have h0:Cq M g ((q-1-i) % (q-1))≠0:=hgen.2.1 _ hk
  obtain ⟨⟨a1,a2⟩,a3⟩:=AGp (q:=q) (M:=M) (x:=Cq M g i) ⟨_,by omega,hpl _,hin⟩
  exact R.inv_one x1 a2 (hpl _) a3 hin
 rw [hev]
 have ei:(Zj q M g)[Cq M g i]?=some (i:Int):=Js (by rw [List.getElem?_map,List.getElem?_range x1];show some (lgN q M g _)=_;rw [ADM hgen hi])
 have ei':(Zj q M g).getD (Cq M g i) default=(i:Int):=by rw [List.getD_eq_getElem?_getD,ei];rfl
 have ek:(Yc q M g)[(q-1-i) % (q-1)]?=some ((Cq M g ((q-1-i) % (q-1)):Nat):Int):=Js (by rw [List.getElem?_map,List.getElem?_range hk];rfl)
 have en:q-1-((Zj q M g).getD (Cq M g i) default:Int).toNat=q-1-i:=by rw [ei',Int.toNat_natCast]
 have eo:(q-1-((Zj q M g).getD (Cq M g i) default:Int).toNat) % (q-1)<q-1:=by rw [en];exact hk
 have ek':(Yc q M g)[(q-1-((Zj q M g).getD (Cq M g i) default:Int).toNat) % (q-1)]?=some ((Cq M g ((q-1-i) % (q-1)):Nat):Int):=by rw [en];exact ek
 have ef:(Yc q M g).getD ((q-1-((Zj q M g).getD (Cq M g i) default:Int).toNat) % (q-1)) default=((Cq M g ((q-1-i) % (q-1)):Nat):Int):=by rw [List.getD_eq_getElem?_getD,ek'];rfl
 refine wk 14 (ct @Cg cz) ?_
 intro h2 b1 o1 b2 o2
 try simp only [← Int.natCast_emod,Int.toNat_natCast]
 rw [ef]
 exact ge
theorem Vx {a:Int}{pu:Option Addr}{nu cu:Nat}{u md:List Int}(K:Fok p m md) (a0:0≤a) (a1:a<((p ^ m:Nat):Int)) (hu:∀ x∈u,0≤x∧x<((p ^ m:Nat):Int)) :
  Br Tryz.prog 169 [.pointer (some ⟨b,0,none⟩),.int .i64 a,.slice pu nu cu] [] [T0 b p m (p ^ m) pg ng cg pe (p ^ m-1) ce pl (p ^ m) cl,A2 Ak pe (p ^ m-1) ce (T8 p m md),A2 Ak pl (p ^ m) cl (Tt p m md),A2 Ak pu nu cu u] (RwI nu (B3 (Aq (fM p (Cc m md))) a u)):=by
 refine Ad (F:=Nm) rfl fun C=>?_
 refine Bd 3 rfl fun hn hb _=>?_
 subst hn
 have hb':u.length*8≤140737488355328:=hb
 have Cd:=fun {b ng cg ce cl:Nat}{pg pe pl:Option Addr}{x y:Int}=>F9 (b:=b) (ng:=ng) (cg:=cg) (ce:=ce) (cl:=cl) (pg:=pg) (pe:=pe) (pl:=pl) (x:=x) (y:=y) K
 have hml:=fun x (h:x∈u)=>K.fi.ml a x a0 a1 (hu x h).1 (hu x h).2
 have hq:=K.q
 generalize Aq (fM p (Cc m md))=M at *
 generalize T8 p m md=ex at *
 generalize Tt p m md=lg at *
 generalize p ^ m=q at *
 refine wk 12 cz ?_
 intro b1
 rw [show Ap .i64 (List.replicate u.length 0)=Az .i64 ((B3 M a u).take 0++List.replicate (u.length-0) 0) by simp [Ap,Az]]
 refine Ag (X:=Nat) [0,1,6,7,13,14] [0,1,2,3] (fun i=>[(15,.int .i64 (i:Int))]) (fun i=>[(some b1,3,Az .i64 ((B3 M a u).take i++List.replicate (u.length-i) 0))]) (fun _=>[]) (fun i=>i≤u.length) (fun i=>u.length-i) 0 [] rfl rfl rfl (Nat.zero_le _) (by repeat (first|exact Fr.sub_nil _|refine Fr.sub_cons rfl ?_)) rfl rfl ?_
 rintro i hi ih
 simp only [List.cons_append,List.nil_append] at hi ih ⊢
 by_cases h9:i<u.length
 ·obtain ⟨x,at_x⟩:∃ x,u[i]?=some x:=⟨_,List.getElem?_eq_getElem h9⟩
  have hx:=hu x (List.mem_of_getElem? at_x)
  obtain ⟨hx0,hx1⟩:=hx
  have ih':=ih (i+1) (by omega) (by omega)
  have eT:(B3 M a u)[i]?=some (M a x):=by rw [B3,List.getElem?_map,at_x];rfl
  rw [← take_set eT h9] at ih'
  have hln:((B3 M a u).take i++List.replicate (u.length-i) 0).length=u.length:=by simp [B3];omega
  generalize (B3 M a u).take i++List.replicate (u.length-i) 0=L at *
  refine wk 7 cz ?_
  intro h1 b2 o1 hz1
  refine Ab rfl (Aj 0 rfl rfl Bm fun ⟨r1,r2⟩=>?_)
  refine wk 9 (ct @Cd cz) ?_
  exact tw (ih')
 ·obtain rfl:i=u.length:=by omega
  rw [Nat.sub_self,List.replicate_zero,List.append_nil,List.take_of_length_le (by simp [B3])]
  refine wk 7 cz ?_
  intro h1
  have hall:∀ z∈B3 M a u,Bf .i64 z:=fun z hz=>by
   obtain ⟨y,hy,rfl⟩:=List.mem_map.1 hz
   have:=hml y hy
   simp only [Bf];omega
  have hln:(B3 M a u).length=u.length:=by simp [B3]
  generalize B3 M a u=L at *
  refine Ow 0 rfl hln.symm hall (by omega) ?_
  refine B0 1 [0] [0] rfl (.tmp rfl .nil) rfl rfl rfl ⟨⟨some b1,u.length,Az .i64 L⟩,rfl,rfl,rfl⟩
end
open Go Go.Fw
set_option maxRecDepth 100000
set_option linter.unusedVariables false
set_option linter.unusedSimpArgs false
set_option maxHeartbeats 0
theorem Rs {p m nm cm:Nat}{md:List Int}{pm:Option Addr}(K:Fok p m md) {x:Int}(x0:0≤x) (x1:x<((p ^ m:Nat):Int)) :
  Br Tryz.prog 155 [.agg #[.int .i64 p,.int .i64 m,.slice pm nm cm],.int .i64 x] [] [] (Rv (.int .i64 ((nP p m x.toNat:Nat):Int)) []):=by
 refine Ad (F:=Ru) rfl fun C=>?_
 have h1:=K.p2
 have h2:=K.p256
 have h3:=K.m8
 have h4:=K.q
 have lx:=Di p m x.toNat
 have lT:((Dh p m x.toNat).map fun d=>(p-d) % p).length=m:=by rw [List.length_map,lx]
 have rT:∀ d∈(Dh p m x.toNat).map fun d=>(p-d) % p,d<p:=fun d hd=>by
  obtain ⟨j,_,rfl⟩:=List.mem_map.1 hd
  exact Nat.mod_lt _ (by omega)
 have tz:∀ i,i<m→((Dh p m x.toNat).map fun d=>(p-d) % p)[i]?=some ((p-(Dh p m x.toNat).getD i 0) % p):=fun i hi=>by
  rw [List.getElem?_map,List.getD_eq_getElem?_getD,List.getElem?_eq_getElem (by omega)];rfl
 have xr:=fun d hd=>Kw (p:=p) (n:=m) (x:=x.toNat) (by omega) d hd
 unfold nP
 generalize (Dh p m x.toNat).map (fun d=>(p-d) % p)=T at *
 have ep:p ^ T.length≤1000000:=by rw [lT];omega
 refine wk 11 (ct @Dv cz) ?_
 intro b1 b2
 rw [show Ap .i64 (Dh p m x.toNat)=Ap .i64 (T.take 0++(Dh p m x.toNat).drop 0) by simp]
 refine Ag (X:=Nat) [2,4,5] [] (fun i=>[(6,.int .i64 (i:Int))]) (fun i=>[(some b2,3,Ap .i64 (T.take i++(Dh p m x.toNat).drop i)),(some b1,24,[.int .i64 p,.int .i64 m,.slice pm nm cm])]) (fun _=>[]) (fun i=>i≤m) (fun i=>m-i) 0 [] rfl rfl rfl (Nat.zero_le _) (by repeat (first|exact Fr.sub_nil _|refine Fr.sub_cons rfl ?_)) rfl rfl ?_
 rintro i hi ih
 simp only [List.cons_append,List.nil_append] at hi ih ⊢
 by_cases hil:i<m
 ·have zx:(Dh p m x.toNat)[i]?=some ((Dh p m x.toNat).getD i 0):=by rw [List.getD_eq_getElem?_getD,List.getElem?_eq_getElem (by omega)];rfl
  have zt:=tz i hil
  have bx:=xr _ (List.mem_of_getElem? zx)
  have ih':=ih (i+1) (by omega) (by omega)
  have zm:=(AF5 (T:=T) (D:=Dh p m x.toNat) lT lx hil).trans zx
  have lm:(T.take i++(Dh p m x.toNat).drop i).length=m:=by rw [List.length_append,List.length_take,List.length_drop];omega
  rw [← AEM lT lx hil zt] at ih'
  generalize (Dh p m x.toNat).getD i 0=u at *
  have em:((p-u:Nat):Int) % (p:Int)=(((p-u) % p:Nat):Int):=(Int.natCast_emod _ _).symm
  refine wk 13 cz ?_
  intro h5
  exact tw (ih')
 ·obtain rfl:i=m:=by omega
  clear ih
  rw [List.take_of_length_le (by omega),List.drop_of_length_le (by omega),List.append_nil,G1 .i64 T]
  refine wk 9 cz ?_
  intro h5
  refine Gn 8 (Bz T) 0 rfl (by rw [Cn,lT]) (Wa fun d hd=>by have:=rT d hd;omega) (by omega) (by omega) ?_
  simp only [List.eraseIdx_cons_zero,List.eraseIdx_cons_succ]
  refine wk 3 (ct @Fi cz) ?_
  exact ge
theorem R9 {p m nm cm:Nat}{md:List Int}{pm:Option Addr}(K:Fok p m md) {x:Int}(x0:0<x) (x1:x<((p ^ m:Nat):Int)) :
  Br Tryz.prog 154 [.agg #[.int .i64 p,.int .i64 m,.slice pm nm cm],.int .i64 x] [] [A2 Ak pm nm cm md] (Rv (.int .i64 ((iF (p ^ m) (fM p (Cc m md)) x.toNat:Nat):Int)) []):=by
 refine Ad (F:=Sb) rfl fun C=>?_
 obtain ⟨a,rfl⟩:=Int.eq_ofNat_of_zero_le (Int.le_of_lt x0)
 rw [Int.toNat_natCast]
 have x1:=Int.ofNat_lt.1 x1
 have h1:a≠0:=by omega
 have R:=K.rng'
 have hq:=K.q
 have hinv:∃ y,1≤y∧y<p ^ m∧fM p (Cc m md) a y=1:=by
  obtain ⟨g2,g3,hgen,-⟩:=W7 ((Q6 K.shp K.pr).2 K)
  obtain ⟨i,hi,rfl⟩:=R.gen_all g3 hgen x1 h1
  have h0:=hgen.2.1 ((p ^ m-1-i) % (p ^ m-1)) (Nat.mod_lt _ (by omega))
  exact ⟨_,by omega,R.pw_lt g3 _,R.exp_inv g3 hgen hi⟩
 obtain ⟨⟨i1,i2⟩,i3⟩:=AGp hinv
 have hno:∀ z,1≤z→z<iF (p ^ m) (fM p (Cc m md)) a→fM p (Cc m md) a z≠1:=fun z z1 z2 e=>absurd (R.inv_one x1 (by omega) i2 e i3) (by omega)
 have Cm:=fun {y:Nat}(hy:y<p ^ m)=>Gf (nm:=nm) (cm:=cm) (pm:=pm) K (x:=(a:Int)) (y:=(y:Int)) (by omega) (by omega) (by omega) (by omega)
 simp only [Aq,Int.toNat_natCast] at Cm
 have Ia:=Bu (pm:=pm) (n:=nm) (c:=cm) K.ord
 generalize iF (p ^ m) (fM p (Cc m md)) a=v at *
 generalize fM p (Cc m md)=M at *
 generalize p ^ m=q at *
 refine wk 6 cz ?_
 intro b1
 refine Ag (X:=Nat) [1,2] [0] (fun i=>[(5,.int .i64 (i:Int))]) (fun _=>[(some b1,24,[.int .i64 p,.int .i64 m,.slice pm nm cm])]) (fun _=>[]) (fun i=>1≤i∧i≤v) (fun i=>v-i) 1 [] rfl rfl rfl ⟨Nat.le_refl 1,i1⟩ (by repeat (first|exact Fr.sub_nil _|refine Fr.sub_cons rfl ?_)) rfl rfl ?_
 rintro i ⟨hi1,hi2⟩ ih
 simp only [List.cons_append,List.nil_append] at hi1 hi2 ih ⊢
 by_cases h9:i=v
 ·subst h9
  refine wk 17 (ct @Ia (ct @Cm cz)) ?_
  intro h2 h3
  exact ge
 ·have h8:=hno i hi1 (by omega)
  refine wk 17 (ct @Ia (ct @Cm cz)) ?_
  intro h2 h3
  exact tw (ih (i+1) (by omega) ⟨by omega,by omega⟩)
theorem Y3 {p m:Nat}{md:List Int}(K:Fok p m md):FO (p ^ m) (Aq (fA p m)) (Aq (fM p (Cc m md))) (fun x=>((nP p m x.toNat:Nat):Int)) (fun x=>((iF (p ^ m) (fM p (Cc m md)) x.toNat:Nat):Int)) where
 fi:=K.fi
 ng:=fun x x0 x1=>by
  have h1:=AEj (show 0<p by have:=K.p2;omega) m x.toNat
  exact ⟨⟨Int.natCast_nonneg _,Int.ofNat_lt.2 h1⟩,by rw [Aq,Int.toNat_natCast,AIQ (by have:=K.p2;omega)];rfl⟩
 iv:=fun x x0 x1 hx=>by
  have R:=K.rng'
  have hinv:∃ y,1≤y∧y<p ^ m∧fM p (Cc m md) x.toNat y=1:=by
   obtain ⟨g2,g3,hgen,-⟩:=W7 ((Q6 K.shp K.pr).2 K)
   obtain ⟨i,hi,e⟩:=R.gen_all g3 hgen (show x.toNat<p ^ m by omega) (by omega)
   have h0:=hgen.2.1 ((p ^ m-1-i) % (p ^ m-1)) (Nat.mod_lt _ (by omega))
   have:=R.exp_inv g3 hgen hi
   rw [e] at this
   exact ⟨_,by omega,R.pw_lt g3 _,this⟩
  obtain ⟨⟨i1,i2⟩,i3⟩:=AGp hinv
  exact ⟨⟨Int.natCast_nonneg _,Int.ofNat_lt.2 i2⟩,by rw [Aq,Int.toNat_natCast,i3];rfl⟩
def AAF (x:Int) (l:List Int):Int:=if x∈l then (l.idxOf x:Int) else -1
theorem AIi {x:Int}{l:List Int}{i:Nat}(h:l[i]?=some x) (hn:∀ j,j<i→l[j]?≠some x):AAF x l=i:=by
 have h1:=List.mem_of_getElem? h
 rw [AAF,if_pos h1]
 congr 1
 obtain ⟨hi,e⟩:=List.getElem?_eq_some_iff.1 h
 have h2:l.idxOf x<l.length:=List.idxOf_lt_length_of_mem h1
 have h3:l[l.idxOf x]=x:=List.getElem_idxOf h2
 rcases Nat.lt_trichotomy (l.idxOf x) i with h4|h4|h4
 ·exact absurd (by rw [List.getElem?_eq_getElem h2,h3]) (hn _ h4)
 ·exact h4
 ·exact absurd e (by have:=List.not_of_lt_findIdx (p:=(· == x)) (xs:=l) (i:=i) h4;simpa using this)
theorem AIg {x:Int}{l:List Int}(h:x∉l):AAF x l=-1:=by rw [AAF,if_neg h]
theorem Nk {pl:Option Addr}{nl cl:Nat}{l:List Int}{x:Int}:Br Tryz.prog 119 [.slice pl nl cl,.int .i64 x] [] [A2 Ak pl nl cl l] (Rv (.int .i64 (AAF x l)) []):=by
 refine Ad (F:=Nc) rfl fun C=>?_
 refine Bd 0 rfl fun hn hb _=>?_
 subst hn
 have hb':l.length*8≤140737488355328:=hb
 refine wk 7 cz ?_
 refine Ag (X:=Nat) [0,1,7] [0] (fun i=>[(8,.int .i64 (i:Int))]) (fun _=>[]) (fun _=>[]) (fun i=>i≤l.length∧∀ j,j<i→l[j]?≠some x) (fun i=>l.length-i) 0 [] rfl rfl rfl ⟨Nat.zero_le _,fun j h=>by omega⟩ (by repeat (first|exact Fr.sub_nil _|refine Fr.sub_cons rfl ?_)) rfl rfl ?_
 rintro i ⟨hi,hno⟩ ih
 simp only [List.cons_append,List.nil_append] at hi ih ⊢
 by_cases h9:i<l.length
 ·obtain ⟨y,at_y⟩:∃ y,l[i]?=some y:=⟨_,List.getElem?_eq_getElem h9⟩
  by_cases h8:x=y
  ·subst h8
   rw [AIi at_y hno]
   refine wk 9 cz ?_
   intro h1 b1 o1 hz1
   refine Ab rfl (Aj 0 rfl rfl Bm fun ⟨r1,r2⟩=>?_)
   refine wk 6 cz ?_
   intro h2
   exact ge
  ·refine wk 9 cz ?_
   intro h1 b1 o1 hz1
   refine Ab rfl (Aj 0 rfl rfl Bm fun ⟨r1,r2⟩=>?_)
   refine wk 6 cz ?_
   intro h2
   exact tw (ih (i+1) (by omega) ⟨by omega,fun j hj=>by
    rcases Nat.lt_succ_iff_lt_or_eq.1 hj with h|rfl
    ·exact hno j h
    ·rw [at_y];exact fun e=>h8 (Option.some.inj e).symm⟩)
 ·rw [AIg fun hm=>by
   obtain ⟨j,hj⟩:=List.mem_iff_getElem?.1 hm
   exact hno j (by have:=(List.getElem?_eq_some_iff.1 hj).1;omega) hj]
  refine wk 7 cz ?_
  intro h1
  exact ge
theorem By {pl:Option Addr}{nl cl:Nat}{l:List Int}{x:Int}{res:Bool}(hr:decide (x∈l)=res):Br Tryz.prog 81 [.slice pl nl cl,.int .i64 x] [] [A2 Ak pl nl cl l] (Rv (.bool res) []):=by
 refine Ad (F:=Kr) rfl fun C=>?_
 subst hr
 have e:decide (x∈l)=decide (0≤AAF x l):=by
  by_cases h:x∈l
  ·rw [AAF,if_pos h,decide_eq_true h,decide_eq_true (by omega)]
  ·rw [AAF,if_neg h,decide_eq_false h,decide_eq_false (by omega)]
 have hlo:-1≤AAF x l:=by rw [AAF];split <;> omega
 rw [e]
 refine wk 7 (ct @Nk cz) ?_
 exact ge
theorem G5 {pl pk:Option Addr}{nl cl nk ck:Nat}{l k:List Int}{res:Bool}(hr:decide (l=k)=res):Br Tryz.prog 127 [.slice pl nl cl,.slice pk nk ck] [] [A2 Ak pl nl cl l,A2 Ak pk nk ck k] (Rv (.bool res) []):=by
 refine Ad (F:=M4) rfl fun C=>?_
 subst hr
 refine Bd 0 rfl fun hn hb _=>?_
 refine Bd 1 rfl fun hn2 hb2 _=>?_
 subst hn
 subst hn2
 have hb':l.length*8≤140737488355328:=hb
 have hb2':k.length*8≤140737488355328:=hb2
 by_cases hl:l.length=k.length
 ·refine wk 15 cz ?_
  intro h1
  refine Ag (X:=Nat) [0,1,12] [0,1] (fun i=>[(13,.int .i64 (i:Int))]) (fun _=>[]) (fun _=>[]) (fun i=>i≤l.length∧∀ j,j<i→l[j]?=k[j]?) (fun i=>l.length-i) 0 [] rfl rfl rfl ⟨Nat.zero_le _,fun j h=>by omega⟩ (by repeat (first|exact Fr.sub_nil _|refine Fr.sub_cons rfl ?_)) rfl rfl ?_
  rintro i ⟨hi,hno⟩ ih
  simp only [List.cons_append,List.nil_append] at hi ih ⊢
  by_cases h9:i<l.length
  ·obtain ⟨y,hy⟩:∃ y,l[i]?=some y:=⟨_,List.getElem?_eq_getElem h9⟩
   obtain ⟨z,hz⟩:∃ z,k[i]?=some z:=⟨_,List.getElem?_eq_getElem (by omega)⟩
   have ey:l.getD i default=y:=by rw [List.getD_eq_getElem?_getD,hy];rfl
   have ez:k.getD i default=z:=by rw [List.getD_eq_getElem?_getD,hz];rfl
   by_cases h8:y=z
   ·subst h8
    refine wk 13 cz ?_
    intro h2 b1 o1 b2 o2 h3
    exact tw (ih (i+1) (by omega) ⟨by omega,fun j hj=>by
     rcases Nat.lt_succ_iff_lt_or_eq.1 hj with h|rfl
     ·exact hno j h
     ·rw [hy,hz]⟩)
   ·rw [decide_eq_false (show l≠k from fun e=>by rw [e,hz] at hy;exact h8 (Option.some.inj hy).symm)]
    refine wk 13 cz ?_
    intro h2 b1 o1 b2 o2 h3
    exact ge
  ·rw [decide_eq_true (show l=k from List.ext_getElem? fun j=>by
    by_cases h:j<i
    ·exact hno j h
    ·rw [List.getElem?_eq_none (by omega),List.getElem?_eq_none (by omega)])]
   refine wk 7 cz ?_
   intro h2
   exact ge
 ·rw [decide_eq_false (show l≠k from fun e=>hl (by rw [e]))]
  refine wk 13 cz ?_
  intro h1
  exact ge
theorem AGM {P:Program}{F:Fun P}{C:Cx}{S:List It}{σ:Fr}{β:List Bb}{Γ:List Fact}{R:Value→World→Prop}{α:Type}{E:Enc α}{n ca:Nat}{l:List α}(j:Nat) (hj:A8 Γ j=some (A2 E none n ca l)) (h:l=[]→J F C S σ β Γ R):J F C S σ β Γ R:=fun w hO hG=>by
 obtain ⟨hl,_,_,hs⟩:=hG _ (Al hj)
 rcases hs with e|⟨b,o,e,_⟩
 ·exact h e w hO hG
 ·cases e
theorem Dm {ps:Option Addr}{n cs:Nat}{l:List Int}:Br Tryz.prog 162 [.slice ps n cs] [] [A2 Ak ps n cs l] (RwI n l):=by
 refine Ad (F:=G4) rfl fun C=>?_
 refine Bd 0 rfl fun hn hb _=>?_
 subst hn
 have hb':l.length*8≤140737488355328:=hb
 cases ps with
 | none =>
  refine AGM 0 rfl fun hn=>?_
  subst hn
  refine wk 4 cz ?_
  refine Ab rfl (Za Bj rfl rfl ?_)
  refine wk 5 cz ?_
  refine Jj Ak 3 ?_
  refine B0 1 [0] [0] rfl (.tmp rfl .nil) rfl rfl rfl ⟨⟨none,0,[]⟩,rfl,rfl,rfl⟩
 | some a =>
  obtain ⟨b,o,w⟩:=a
  refine wk 4 cz ?_
  refine Ab rfl (Vu Bj rfl rfl ?_)
  refine wk 5 cz ?_
  intro b1
  (apply He (E:=Ca IntKind.i64 8) (n:=0) (cs:=[]) [] [] 0 (fun w A hG=>D5);(· rfl);(· rfl);(· rfl);(· rfl);(· decide))
  refine Ab rfl (AAg 0 0 1 rfl rfl rfl rfl rfl Bj Hb rfl (by omega) _ Iy (by omega) fun r1=>?_)
  refine wk 2 cz ?_
  rw [Nat.zero_add,List.nil_append]
  refine B0 1 [0] [0] rfl (.tmp rfl .nil) rfl rfl rfl ⟨r1,rfl,rfl,rfl⟩
def Vj (l:List Int) (q:Nat):Int:=if ∀ x∈l,0≤x∧x<(q:Int) then 0 else 2
theorem Ot {b p m q ng cg ne ce nl cl n c:Nat}{pg pe pl ps:Option Addr}{l:List Int}(hq:q≤256):Br Tryz.prog 142 [.pointer (some ⟨b,0,none⟩),.slice ps n c] [] [T0 b p m q pg ng cg pe ne ce pl nl cl,A2 Ak ps n c l] (Rv (.int .i64 (Vj l q)) []):=by
 refine Ad (F:=Wu) rfl fun C=>?_
 refine Bd 1 rfl fun hn hb _=>?_
 subst hn
 have hb':l.length*8≤140737488355328:=hb
 refine wk 7 cz ?_
 refine Ag (X:=Nat) [0,7,8] [0,1] (fun i=>[(9,.int .i64 (i:Int))]) (fun _=>[]) (fun _=>[]) (fun i=>i≤l.length∧∀ x∈l.take i,0≤x∧x<(q:Int)) (fun i=>l.length-i) 0 [] rfl rfl rfl ⟨Nat.zero_le _,fun x h=>by simp at h⟩ (by repeat (first|exact Fr.sub_nil _|refine Fr.sub_cons rfl ?_)) rfl rfl ?_
 rintro i ⟨hi,hno⟩ ih
 simp only [List.cons_append,List.nil_append] at hi ih ⊢
 by_cases h9:i<l.length
 ·obtain ⟨y,at_y⟩:∃ y,l[i]?=some y:=⟨_,List.getElem?_eq_getElem h9⟩
  by_cases h8:0≤y∧y<(q:Int)
  ·have hd:decide (0≤y∧y<(q:Int))=true:=decide_eq_true h8
   refine wk 6 cz ?_
   intro h1 b1 o1 hz1
   refine Ab rfl (Aj 0 rfl rfl Bm fun ⟨r1,r2⟩=>?_)
   refine wk 10 (ct @Mp cz) ?_
   exact tw (ih (i+1) (by omega) ⟨by omega,fun x hx=>by
    rw [List.take_add_one,at_y] at hx
    rcases List.mem_append.1 hx with hx|hx
    ·exact hno x hx
    ·rw [Option.toList_some,List.mem_singleton] at hx
     rw [hx];exact h8⟩)
  ·have hd:decide (0≤y∧y<(q:Int))=false:=decide_eq_false h8
   rw [Vj,if_neg fun h=>h8 (h y (List.mem_of_getElem? at_y))]
   refine wk 6 cz ?_
   intro h1 b1 o1 hz1
   refine Ab rfl (Aj 0 rfl rfl Bm fun ⟨r1,r2⟩=>?_)
   refine wk 10 (ct @Mp cz) ?_
   exact ge
 ·rw [Vj,if_pos fun x hx=>hno x (by rwa [List.take_of_length_le (by omega)])]
  refine wk 7 cz ?_
  intro h1
  exact ge
def Wq (N:Int) (Aa:List (List Int)) (q:Nat):Int :=
 if N<0∨256<N∨256<Aa.length then 3 else if ∃ r∈Aa,(r.length:Int)≠N then 3 else if ∀ r∈Aa,∀ x∈r,0≤x∧x<(q:Int) then 0 else 2
theorem Mc {b p m q ng cg ne ce nl cl n c:Nat}{pg pe pl ps:Option Addr}{N:Int}{Aa:List (List Int)}(hq:q≤256) (hN:Bf .i64 N):Br Tryz.prog 160 [.pointer (some ⟨b,0,none⟩),.agg #[.int .i64 N,.slice ps n c]] [] [T0 b p m q pg ng cg pe ne ce pl nl cl,A2 (Ar Ak) ps n c Aa] (Rv (.int .i64 (Wq N Aa q)) []):=by
 refine Ad (F:=Zz) rfl fun C=>?_
 refine Bd 1 rfl fun hn hb _=>?_
 subst hn
 have hb':Aa.length*24≤140737488355328:=hb
 obtain ⟨N0,N1⟩:=hN
 by_cases h1:N<0∨256<N∨256<Aa.length
 ·rw [Wq,if_pos h1]
  by_cases a1:N<0
  ·refine wk 15 cz ?_
   intro b1 h2
   exact ge
  ·by_cases a2:256<N
   ·refine wk 21 cz ?_
    intro b1 h2 h3
    exact ge
   ·have a3:256<Aa.length:=by omega
    refine wk 24 cz ?_
    intro b1 h2 h3 h4
    exact ge
 ·rw [Wq,if_neg h1]
  have a1:¬ N<0:=by omega
  have a2:¬ 256<N:=by omega
  have a3:¬ 256<Aa.length:=by omega
  have tk:∀ {P:List Int→Prop}{i:Nat}{r:List Int},Aa[i]?=some r→(∀ x∈Aa.take i,P x)→P r→∀ x∈Aa.take (i+1),P x:=fun hr h hp x hx=>by
   rw [List.take_add_one,hr] at hx
   rcases List.mem_append.1 hx with hx|hx
   ·exact h x hx
   ·rw [Option.toList_some,List.mem_singleton] at hx
    rw [hx];exact hp
  refine wk 27 cz ?_
  intro b1 h2 h3 h4
  refine Ag (X:=Nat) [0,3,25,26] [0,1] (fun i=>[(27,.int .i64 (i:Int))]) (fun _=>[(some b1,88,[.int .i64 N,.slice ps Aa.length c])]) (fun _=>[]) (fun i=>i≤Aa.length∧∀ r∈Aa.take i,(r.length:Int)=N) (fun i=>Aa.length-i) 0 [] rfl rfl rfl ⟨Nat.zero_le _,fun x h=>by simp at h⟩ (by repeat (first|exact Fr.sub_nil _|refine Fr.sub_cons rfl ?_)) rfl rfl ?_
  rintro i ⟨hi,hno⟩ ih
  simp only [List.cons_append,List.nil_append] at hi ih ⊢
  by_cases h9:i<Aa.length
  ·obtain ⟨r,at_r⟩:∃ r,Aa[i]?=some r:=⟨_,List.getElem?_eq_getElem h9⟩
   by_cases h8:(r.length:Int)=N
   ·refine wk 19 cz ?_
    intro h5 b2 o1 hz1 pa1 ca1 h6
    exact tw (ih (i+1) (by omega) ⟨by omega,tk at_r hno h8⟩)
   ·rw [if_pos ⟨r,List.mem_of_getElem? at_r,h8⟩]
    refine wk 19 cz ?_
    intro h5 b2 o1 hz1 pa1 ca1 h6
    exact ge
  ·have hlen:∀ r∈Aa,(r.length:Int)=N:=fun r hr=>hno r (by rwa [List.take_of_length_le (by omega)])
   rw [if_neg fun ⟨r,hr,h⟩=>h (hlen r hr)]
   clear ih hno hi
   refine wk 10 cz ?_
   intro h5
   refine Ag (X:=Nat) [0,38,39] [0,1] (fun i=>[(40,.int .i64 (i:Int))]) (fun _=>[(some b1,88,[.int .i64 N,.slice ps Aa.length c])]) (fun _=>[]) (fun i=>i≤Aa.length∧∀ r∈Aa.take i,∀ x∈r,0≤x∧x<(q:Int)) (fun i=>Aa.length-i) 0 [] rfl rfl rfl ⟨Nat.zero_le _,fun x h=>by simp at h⟩ (by repeat (first|exact Fr.sub_nil _|refine Fr.sub_cons rfl ?_)) rfl rfl ?_
   rintro i ⟨hi,hno⟩ ih
   simp only [List.cons_append,List.nil_append] at hi ih ⊢
   by_cases h9:i<Aa.length
   ·obtain ⟨r,at_r⟩:∃ r,Aa[i]?=some r:=⟨_,List.getElem?_eq_getElem h9⟩
    by_cases h8:∀ x∈r,0≤x∧x<(q:Int)
    ·have he:Vj r q=0:=by rw [Vj,if_pos h8]
     refine wk 19 (ct @Ot cz) ?_
     intro h6 b2 o1 hz1 pa1 ca1 h7
     exact tw (ih (i+1) (by omega) ⟨by omega,tk at_r hno h8⟩)
    ·have he:Vj r q=2:=by rw [Vj,if_neg h8]
     rw [if_neg fun h=>h8 (h r (List.mem_of_getElem? at_r)),← he]
     refine wk 19 (ct @Ot cz) ?_
     intro h6 b2 o1 hz1 pa1 ca1 h7
     exact ge
   ·rw [if_pos fun r hr=>hno r (by rwa [List.take_of_length_le (by omega)])]
    refine wk 7 cz ?_
    intro h6
    exact ge
def opE (q:Nat):List (Int×List (List Int))→Int
 | []=>0
 | z::l=>if Wq z.1 z.2 q=0 then opE q l else Wq z.1 z.2 q
theorem ACA {q i:Nat}{l:List (Int×List (List Int))}{z:Int×List (List Int)}(hz:l[i]?=some z):opE q (l.drop i)=if Wq z.1 z.2 q=0 then opE q (l.drop (i+1)) else Wq z.1 z.2 q:=by
 have hi:=(List.getElem?_eq_some_iff.1 hz).1
 have e:l.drop i=z::l.drop (i+1):=by
  rw [List.drop_eq_getElem_cons hi]
  congr 1
  exact (List.getElem?_eq_some_iff.1 hz).2
 rw [e,opE]
theorem T7 (N:Int) (Aa:List (List Int)) (q:Nat):0≤Wq N Aa q∧Wq N Aa q≤3:=by
 rw [Wq];repeat' split
 all_goals omega
theorem Xf {pm ps:Option Addr}{nm cm n c p m:Nat}{md:List Int}{Ms:List (Int×List (List Int))}(K:Fok p m md) (hR:∀ z∈Ms,Bf .i64 z.1) (h0:opE (p ^ m) Ms=0) :
  Br Tryz.prog 141 [.agg #[.int .i64 p,.int .i64 m,.slice pm nm cm],.slice ps n c] [] [A2 Ak pm nm cm md,A2 AHa ps n c Ms]
   (fun v Φ β=>∃ b pg cg pe ce pl cl,v = .tuple #[.pointer (some ⟨b,0,none⟩),.int .i64 0]∧Φ=gfL p m md b pg cg pe ce pl cl∧β=[]):=by
 refine Ad (F:=Us) rfl fun C=>?_
 have hq:=K.q
 have Gs:=fun {pm:Option Addr}{nm cm:Nat}=>I0 (pm:=pm) (nm:=nm) (cm:=cm) K
 refine Bd 1 rfl fun hn hb _=>?_
 subst hn
 have hb':Ms.length*32≤140737488355328:=hb
 refine wk 16 (ct @Gs cz) ?_
 intro b1 b2 pg1 cg1 pe1 ce1 pl1 cl1 h1
 refine Ag (X:=Nat) [6,18,19] [0,1,2,3,4,5] (fun i=>[(20,.int .i64 (i:Int))]) (fun _=>[(some b1,24,[.int .i64 p,.int .i64 m,.slice pm nm cm])]) (fun _=>[]) (fun i=>i≤Ms.length∧opE (p ^ m) (Ms.drop i)=0) (fun i=>Ms.length-i) 0 [] rfl rfl rfl ⟨Nat.zero_le _,h0⟩ (by repeat (first|exact Fr.sub_nil _|refine Fr.sub_cons rfl ?_)) rfl rfl ?_
 rintro i ⟨hi,h1⟩ ih
 simp only [List.cons_append,List.nil_append] at hi ih ⊢
 by_cases h9:i<Ms.length
 ·obtain ⟨z,at_z⟩:∃ z,Ms[i]?=some z:=⟨_,List.getElem?_eq_getElem h9⟩
  have hz:=hR z (List.mem_of_getElem? at_z)
  rw [ACA at_z] at h1
  have hz0:Wq z.1 z.2 (p ^ m)=0:=Classical.byContradiction fun h=>by rw [if_neg h] at h1;exact h h1
  rw [if_pos hz0] at h1
  refine wk 21 (ct @Mc cz) ?_
  intro h2 b3 o1 hz1 g1 b4 h3
  refine S2 [false,true] [2,3,4,5,6,7] (by exact Zr rfl) rfl rfl (ih (i+1) (by omega) ⟨by omega,h1⟩)
 ·refine wk 7 cz ?_
  intro h2
  refine Gl [0,1,2,3] rfl rfl rfl ⟨_,_,_,_,_,_,_,rfl,rfl,rfl⟩
theorem Wi {pm ps:Option Addr}{nm cm n c p m:Nat}{md:List Int}{Ms:List (Int×List (List Int))}{e:Int}(K:Fok p m md) (hR:∀ z∈Ms,Bf .i64 z.1) (h0:opE (p ^ m) Ms=e) (he:e≠0) :
  Br Tryz.prog 141 [.agg #[.int .i64 p,.int .i64 m,.slice pm nm cm],.slice ps n c] [] [A2 Ak pm nm cm md,A2 AHa ps n c Ms] (Rv (.tuple #[.pointer none,.int .i64 e]) []):=by
 refine Ad (F:=Us) rfl fun C=>?_
 have hq:=K.q
 have Gs:=fun {pm:Option Addr}{nm cm:Nat}=>I0 (pm:=pm) (nm:=nm) (cm:=cm) K
 refine Bd 1 rfl fun hn hb _=>?_
 subst hn
 have hb':Ms.length*32≤140737488355328:=hb
 refine wk 16 (ct @Gs cz) ?_
 intro b1 b2 pg1 cg1 pe1 ce1 pl1 cl1 h1
 refine Ag (X:=Nat) [6,18,19] [0,1,2,3,4,5] (fun i=>[(20,.int .i64 (i:Int))]) (fun _=>[(some b1,24,[.int .i64 p,.int .i64 m,.slice pm nm cm])]) (fun _=>[]) (fun i=>i≤Ms.length∧opE (p ^ m) (Ms.drop i)=e) (fun i=>Ms.length-i) 0 [] rfl rfl rfl ⟨Nat.zero_le _,h0⟩ (by repeat (first|exact Fr.sub_nil _|refine Fr.sub_cons rfl ?_)) rfl rfl ?_
 rintro i ⟨hi,h1⟩ ih
 simp only [List.cons_append,List.nil_append] at hi ih ⊢
 by_cases h9:i<Ms.length
 ·obtain ⟨z,at_z⟩:∃ z,Ms[i]?=some z:=⟨_,List.getElem?_eq_getElem h9⟩
  have hz:=hR z (List.mem_of_getElem? at_z)
  rw [ACA at_z] at h1
  have hr:=T7 z.1 z.2 (p ^ m)
  by_cases hz0:Wq z.1 z.2 (p ^ m)=0
  ·rw [if_pos hz0] at h1
   refine wk 21 (ct @Mc cz) ?_
   intro h2 b3 o1 hz1 g1 b4 h3
   refine S2 [false,true] [2,3,4,5,6,7] (by exact Zr rfl) rfl rfl (ih (i+1) (by omega) ⟨by omega,h1⟩)
  ·rw [if_neg hz0] at h1
   subst h1
   refine wk 21 (ct @Mc cz) ?_
   intro h2 b3 o1 hz1 g1 b4 h3
   exact ge
 ·exfalso
  rw [List.drop_of_length_le (by omega)] at h1
  exact he h1.symm
def fxI {α:Type}(p:α→Bool) (l:List α):Int:=if l.any p then (l.findIdx p:Int) else -1
theorem AJK {α:Type}{p:α→Bool}{l:List α}{i:Nat}{x:α}(h:l[i]?=some x) (hp:p x=true) (hn:∀ (j:Nat) (y:α),j<i→l[j]?=some y→p y=false):fxI p l=i:=by
 obtain ⟨hi,e⟩:=List.getElem?_eq_some_iff.1 h
 rw [fxI,if_pos (List.any_eq_true.2 ⟨x,List.mem_of_getElem? h,hp⟩)]
 congr 1
 refine (List.findIdx_eq hi).2 ⟨by rw [e];exact hp,fun j hj=>?_⟩
 have:=hn j _ hj (List.getElem?_eq_getElem (by omega))
 simpa using this
theorem AJn {α:Type}{p:α→Bool}{l:List α}(hn:∀ (j:Nat) (y:α),l[j]?=some y→p y=false):fxI p l=-1:=by
 rw [fxI,if_neg]
 intro h
 obtain ⟨x,hx,hp⟩:=List.any_eq_true.1 h
 obtain ⟨j,hj⟩:=List.getElem?_of_mem hx
 rw [hn j x hj] at hp;cases hp
theorem AEb {α:Type}{p:α→Bool}{l:List α}:decide (0≤fxI p l)=l.any p:=by
 rw [fxI]
 cases h:l.any p with
 | true=>rw [if_pos rfl,decide_eq_true (by omega)]
 | false=>rw [if_neg (by simp),decide_eq_false (by omega)]
theorem Kh {f:FuncId}{caps:List Value}{g:Fact}{p:Int→Bool}{ps:Option Addr}{n c:Nat}{l:List Int}(hf:∀ x∈l,Br Tryz.prog f (.int .i64 x::caps) [] [g] (Rv (.bool (p x)) [])) :
  Br Tryz.prog 80 [.slice ps n c,.func (.func f) #[] caps.toArray] [] [A2 Ak ps n c l,g] (Rv (.int .i64 (fxI p l)) []):=by
 refine Ad (F:=Ki) rfl fun C=>?_
 refine Bd 0 rfl fun hn hb _=>?_
 subst hn
 have hb':l.length*8≤140737488355328:=hb
 refine wk 7 cz ?_
 refine Ag (X:=Nat) [0,1,7] [0,1] (fun i=>[(8,.int .i64 (i:Int))]) (fun _=>[]) (fun _=>[]) (fun i=>i≤l.length∧∀ j y,j<i→l[j]?=some y→p y=false) (fun i=>l.length-i) 0 [] rfl rfl rfl ⟨Nat.zero_le _,fun j y h=>by omega⟩ (by repeat (first|exact Fr.sub_nil _|refine Fr.sub_cons rfl ?_)) rfl rfl ?_
 rintro i ⟨hi,hno⟩ ih
 simp only [List.cons_append,List.nil_append] at hi ih ⊢
 by_cases h9:i<l.length
 ·obtain ⟨y,at_y⟩:∃ y,l[i]?=some y:=⟨_,List.getElem?_eq_getElem h9⟩
  have hfy:=hf y (List.mem_of_getElem? at_y)
  refine Be [_,_,_,_,_] rfl ?_
  refine Au it 1 rfl (by simp) ?_
  refine Be [_,_,_,_,_] rfl ?_
  refine M1 rfl rfl (fun h1=>?_) (fun h1=>by exfalso;omega)
  refine Be [_,_,_,_,_,_,_] rfl ?_
  refine Au it 2 rfl (by simp) ?_
  refine Be [_,_,_,_,_,_,_] rfl ?_
  refine Au it 3 rfl (by simp) ?_
  refine Ab rfl (E0 0 (i) rfl rfl rfl Bj rfl (by omega) fun z1 hz1 b1 o1=>?_)
  obtain rfl:_=z1:=Option.some.inj (at_y.symm.trans hz1)
  refine Ab rfl (Aj 0 rfl rfl Bm fun ⟨r1,r2⟩=>?_) --ok
  refine Ab rfl (ABj rfl rfl (Ai [2] (Ts _ _) hfy rfl ?_))
  rintro _ _ _ ⟨rfl,rfl,rfl⟩
  simp only [List.nil_append]
  cases hp:p y with
  | true =>
   rw [AJK at_y hp hno]
   refine wk 5 cz ?_
   exact ge
  | false =>
   refine wk 5 cz ?_
   exact tw (ih (i+1) (by omega) ⟨by omega,fun j z hj hz=>by
    rcases Nat.lt_succ_iff_lt_or_eq.1 hj with h|rfl
    ·exact hno j z h hz
    ·rw [at_y] at hz;rw [← Option.some.inj hz];exact hp⟩)
 ·rw [AJn fun j y hj=>hno j y (by have:=(List.getElem?_eq_some_iff.1 hj).1;omega) hj]
  refine wk 7 cz ?_
  intro h1
  exact ge
theorem C1 {pl pk:Option Addr}{nl cl nk ck:Nat}{l k:List (List Int)}{res:Bool}(hr:decide (l=k)=res):Br Tryz.prog 126 [.slice pl nl cl,.slice pk nk ck,.func (.func 127) #[] #[]] [] [A2 (Ar Ak) pl nl cl l,A2 (Ar Ak) pk nk ck k] (Rv (.bool res) []):=by
 refine Ad (F:=E5) rfl fun C=>?_
 subst hr
 refine Bd 0 rfl fun hn hb _=>?_
 refine Bd 1 rfl fun hn2 hb2 _=>?_
 subst hn
 subst hn2
 have hb':l.length*24≤140737488355328:=hb
 have hb2':k.length*24≤140737488355328:=hb2
 by_cases hl:l.length=k.length
 ·refine wk 15 cz ?_
  intro h1
  refine Ag (X:=Nat) [1,2,15,16] [0,1] (fun i=>[(17,.int .i64 (i:Int))]) (fun _=>[]) (fun _=>[]) (fun i=>i≤l.length∧∀ j,j<i→l[j]?=k[j]?) (fun i=>l.length-i) 0 [] rfl rfl rfl ⟨Nat.zero_le _,fun j h=>by omega⟩ (by repeat (first|exact Fr.sub_nil _|refine Fr.sub_cons rfl ?_)) rfl rfl ?_
  rintro i ⟨hi,hno⟩ ih
  simp only [List.cons_append,List.nil_append] at hi ih ⊢
  by_cases h9:i<l.length
  ·obtain ⟨y,at_y⟩:∃ y,l[i]?=some y:=⟨_,List.getElem?_eq_getElem h9⟩
   obtain ⟨z,at_z⟩:∃ z,k[i]?=some z:=⟨_,List.getElem?_eq_getElem (by omega)⟩
   by_cases h8:y=z
   ·have hd:decide (y=z)=true:=decide_eq_true h8
    refine wk 16 cz ?_
    intro h2 b1 o1 hz1 pa1 ca1 b2 o2 hz2 pa2 ca2
    refine Ab rfl <| ABj rfl rfl (Ai [2,0] rfl (G5 (by omega)) rfl ?_)
    rintro _ _ _ ⟨rfl,rfl,rfl⟩
    simp only [List.cons_append,List.nil_append]
    refine wk 6 cz ?_
    exact tw (ih (i+1) (by omega) ⟨by omega,fun j hj=>by
     rcases Nat.lt_succ_iff_lt_or_eq.1 hj with h|rfl
     ·exact hno j h
     ·rw [at_y,at_z,h8]⟩)
   ·have hd:decide (y=z)=false:=decide_eq_false h8
    rw [decide_eq_false (show l≠k from fun e=>by rw [e,at_z] at at_y;exact h8 (Option.some.inj at_y).symm)]
    refine wk 16 cz ?_
    intro h2 b1 o1 hz1 pa1 ca1 b2 o2 hz2 pa2 ca2
    refine Ab rfl <| ABj rfl rfl (Ai [2,0] rfl (G5 (by omega)) rfl ?_)
    rintro _ _ _ ⟨rfl,rfl,rfl⟩
    simp only [List.cons_append,List.nil_append]
    refine wk 6 cz ?_
    exact ge
  ·rw [decide_eq_true (show l=k from List.ext_getElem? fun j=>by
    by_cases h:j<i
    ·exact hno j h
    ·rw [List.getElem?_eq_none (by omega),List.getElem?_eq_none (by omega)])]
   refine wk 7 cz ?_
   intro h2
   exact ge
 ·rw [decide_eq_false (show l≠k from fun e=>hl (by rw [e]))]
  refine wk 13 cz ?_
  intro h1
  exact ge
theorem ACy {T D:List Int}{i n:Nat}{v:Int}(hT:T.length=n) (hD:D.length=n) (hi:i<n) (hv:T[i]?=some v):(T.take i++D.drop i).set i v=T.take (i+1)++D.drop (i+1):=by
 have hl:(T.take i).length=i:=by rw [List.length_take];omega
 rw [List.set_append_right _ _ (by omega),hl,Nat.sub_self,List.drop_eq_getElem_cons (by omega),List.set_cons_zero,List.take_add_one,hv,List.append_assoc]
 rfl
theorem AEF {T D:List Int}{i n:Nat}(hT:T.length=n) (hD:D.length=n) (hi:i<n):(T.take i++D.drop i)[i]?=D[i]?:=by
 have hl:(T.take i).length=i:=by rw [List.length_take];omega
 rw [List.getElem?_append_right (by omega),hl,Nat.sub_self,List.getElem?_drop,Nat.add_zero]
theorem ABZ {b p m n ng cg ce cl:Nat}{pg pe pl:Option Addr}{r r2:Row}{c:Int}{u v md:List Int}(K:Fok p m md) (c0:0≤c) (c1:c<((p ^ m:Nat):Int)) (hu:Wd (p ^ m) n u) (hv:Wd (p ^ m) n v) (hn:n≤1000000) :
  Br Tryz.prog 161 [.pointer (some ⟨b,0,none⟩),.slice (ad r.bo) n r.cap,.int .i64 c,.slice (ad r2.bo) n r2.cap] [(r.bo,3,r.cs),(r2.bo,3,r2.cs)] [T0 b p m (p ^ m) pg ng cg pe (p ^ m-1) ce pl (p ^ m) cl,A2 Ak pe (p ^ m-1) ce (T8 p m md),A2 Ak pl (p ^ m) cl (Tt p m md),Aw Ak r n u,Aw Ak r2 n v]
   (fun w Φ β=>∃ cs',w = .tuple #[]∧Φ=[Aw Ak ⟨r.bo,r.cap,cs'⟩ n (Gw (Aq (fA p m)) (Aq (fM p (Cc m md))) c v u),Aw Ak r2 n v]∧β=[(r.bo,3,cs'),(r2.bo,3,r2.cs)]):=by
 refine Ad (F:=ABv) rfl fun C=>?_
 have FF:=K.fi
 have Cd:=fun {b ng cg ce cl:Nat}{pg pe pl:Option Addr}{x y:Int}=>F9 (b:=b) (ng:=ng) (cg:=cg) (ce:=ce) (cl:=cl) (pg:=pg) (pe:=pe) (pl:=pl) (x:=x) (y:=y) K
 have X3:=fun {b ng cg ne ce nl cl:Nat}{pg pe pl:Option Addr}{x y:Int}=>Rq (b:=b) (ng:=ng) (cg:=cg) (ne:=ne) (ce:=ce) (nl:=nl) (cl:=cl) (pg:=pg) (pe:=pe) (pl:=pl) (x:=x) (y:=y) K.p2 K.m1 K.q
 have hq:=K.q
 have hax:=FF.axw c0 c1 hv hu
 generalize Aq (fM p (Cc m md))=M at *
 generalize Aq (fA p m)=A0 at *
 generalize T8 p m md=ex at *
 generalize Tt p m md=lg at *
 generalize p ^ m=q at *
 obtain ⟨bo,cap,cs⟩:=r
 dsimp only
 have hul:=hu.1
 have hvl:=hv.1
 have hal:=hax.1
 rcases Nat.eq_zero_or_pos n with hn0|hn0
 ·subst hn0
  obtain rfl:=List.length_eq_zero_iff.1 hul
  obtain rfl:=List.length_eq_zero_iff.1 hvl
  refine wk 5 cz ?_
  refine Ag (X:=Unit) [0,1,2,10,11] [0,1,2,3,4] (fun _=>[(12,.int .i64 0)]) (fun _=>[(bo,3,cs),(r2.bo,3,r2.cs)]) (fun _=>[]) (fun _=>True) (fun _=>0) () [] rfl rfl rfl trivial (by repeat (first|exact Fr.sub_nil _|refine Fr.sub_cons rfl ?_)) rfl rfl ?_
  rintro ⟨⟩-ih
  simp only [List.cons_append,List.nil_append] at ih ⊢
  refine wk 5 cz ?_
  intro h1
  refine Cj [3,4] rfl rfl ⟨_,rfl,rfl,rfl⟩
 refine Eu 3 rfl hn0 fun b9 cap9 cs9 hr=>?_
 obtain ⟨rfl,rfl,rfl⟩:=Row.mk.inj hr
 refine wk 5 cz ?_
 refine Ag (X:=Nat×List Value) [0,1,2,10,11] [0,1,2,3,4] (fun x=>[(12,.int .i64 (x.1:Int))]) (fun x=>[(some b9,3,x.2),(r2.bo,3,r2.cs)])
  (fun x=>[Aw Ak ⟨some b9,cap,x.2⟩ n ((Gw A0 M c v u).take x.1++u.drop x.1)]) (fun x=>x.1≤n) (fun x=>n-x.1) (0,cs) [3] rfl rfl rfl (Nat.zero_le _) (by repeat (first|exact Fr.sub_nil _|refine Fr.sub_cons rfl ?_)) rfl rfl ?_
 rintro ⟨k,cs⟩ hk ih
 simp only [List.cons_append,List.nil_append] at hk ih ⊢
 by_cases hkl:k<n
 ·obtain ⟨x,at_x⟩:∃ x,v[k]?=some x:=⟨_,List.getElem?_eq_getElem (by omega)⟩
  obtain ⟨y,hy⟩:∃ y,u[k]?=some y:=⟨_,List.getElem?_eq_getElem (by omega)⟩
  obtain ⟨x0,x1⟩:=hv.2 x (List.mem_of_getElem? at_x)
  obtain ⟨y0,y1⟩:=hu.2 y (List.mem_of_getElem? hy)
  have hT:(Gw A0 M c v u)[k]?=some (A0 y (M c x)):=by rw [Gw,List.getElem?_zipWith,hy,at_x]
  have hL:=(AEF hal hul hkl).trans hy
  have hset:=ACy hal hul hkl hT
  have hLl:((Gw A0 M c v u).take k++u.drop k).length=n:=by rw [List.length_append,List.length_take,List.length_drop];omega
  have ih':=fun cs=>ih (k+1,cs) (by dsimp only;omega) (by dsimp only;omega)
  dsimp only at ih'
  rw [← hset] at ih'
  obtain ⟨m0,m1⟩:=FF.ml c x c0 c1 x0 x1
  generalize (Gw A0 M c v u).take k++u.drop k=L at *
  by_cases h0:x=0
  ·have e0:L.set k (A0 y (M c x))=L:=by
    have:A0 y (M c x)=y:=by rw [h0,FF.m0 c0 c1,FF.a0 y y0 y1]
    rw [this]
    obtain ⟨h1,h2⟩:=List.getElem?_eq_some_iff.1 hL
    rw [← h2,List.set_getElem_self]
   rw [e0] at ih'
   refine wk 6 cz ?_
   intro h1
   refine Eu 5 rfl (by omega) fun b1 cap1 cs1 hr1=>?_
   subst hr1
   dsimp only
   refine wk 10 cz ?_
   intro hr1 h2
   exact tw (ih' cs)
  ·obtain ⟨a0,a1⟩:=FF.al y (M c x) y0 y1 m0 m1
   refine wk 6 cz ?_
   intro h1
   refine Eu 5 rfl (by omega) fun b1 cap1 cs1 hr1=>?_
   subst hr1
   dsimp only
   refine wk 9 (ct @Cd (ct @X3 cz)) ?_
   intro hr1 h2
   refine Ab rfl (Cb (vs:=[Value.int IntKind.i64 (A0 y (M c x))]) (z:=(A0 y (M c x):Int)) 0 0 (k) rfl rfl rfl rfl rfl Bm (Nat.mul_one _).symm (by omega) (fun w A hG=>(Bh (by first|(simp only [Bf];omega)|(simp [Bf];done)))) fun cs2=>?_)
   refine wk 3 cz ?_
   exact tw (ih' cs2)
 ·obtain rfl:n=k:=by omega
  rw [List.take_of_length_le (by omega),List.drop_of_length_le (by omega),List.append_nil]
  refine wk 5 cz ?_
  intro h1
  refine Cj [0,5] rfl rfl ⟨_,rfl,rfl,rfl⟩
abbrev MxI (m:Nat) (ls:Nat→List Int):Value→List Fact→List Bb→Prop:=fun v Φ β=>∃ (r:Row) (hd:Nat→Hd) (cs:Nat→List Value),v = .slice (ad r.bo) m r.cap∧Φ=[Aw Vv r m (Ly hd m),Fp Ak hd cs ls m []]∧β=(r.bo,22,r.cs)::D2 3 hd cs m []
theorem Z8 {ps:Option Addr}{m c:Nat}{Aa:List (List Int)}(hm:m≤1000000):Br Tryz.prog 146 [.slice ps m c] [] [A2 (Ar Ak) ps m c Aa] (MxI m (A7 Aa)):=by
 refine Ad (F:=AAe) rfl fun C=>?_
 refine Bd 0 rfl fun hn hb _=>?_
 subst hn
 have hb':Aa.length*24≤140737488355328:=hb
 refine wk 5 cz ?_
 refine Ab rfl (ADC (Aa.length) _ rfl rfl Fo ACP rfl rfl AEA (by omega) (by omega) (by omega) fun b1=>?_)
 refine wk 6 cz ?_
 refine AKe 0 rfl (by omega) fun csA=>?_
 refine AHu Ak 3 0 ?_
 simp only [setB,List.cons_append,List.nil_append]
 refine Fb (A7 Aa) 0 rfl (fun g hg=>absurd hg (Nat.not_lt_zero g)) ?_
 skip
 refine Ag (X:=Nat×List Value×(Nat→Hd)×(Nat→List Value)) [2,3,9,10] [0,1,2,3] (fun x=>[(11,.int .i64 (x.1:Int))])
  (fun x=>(some b1,22,x.2.1)::D2 3 x.2.2.1 x.2.2.2 x.1 [])
  (fun x=>[Aw Vv ⟨some b1,Aa.length,x.2.1⟩ Aa.length (Ly x.2.2.1 Aa.length),Fp Ak x.2.2.1 x.2.2.2 (A7 Aa) x.1 []])
  (fun x=>x.1≤Aa.length) (fun x=>Aa.length-x.1) (0,csA,fun _=>(none,0,0),fun _=>[]) [2,0] rfl rfl rfl (Nat.zero_le _) (by repeat (first|exact Fr.sub_nil _|refine Fr.sub_cons rfl ?_)) rfl rfl ?_
 rintro ⟨k,hc,hd,cs⟩ hk ih
 simp only [List.cons_append,List.nil_append] at hk ih ⊢
 by_cases hkl:k<Aa.length
 ·obtain ⟨u,at_u⟩:∃ u,Aa[k]?=some u:=⟨_,List.getElem?_eq_getElem hkl⟩
  refine wk 13 (ct @Dm cz) ?_
  intro h1 b2 o1 hz1 pa1 ca1 r1
  refine Ab rfl (Cb (vs:=[Value.slice (ad r1.bo) u.length r1.cap]) (z:=(r1.bo,u.length,r1.cap)) 1 3 (k) rfl rfl rfl rfl rfl Ez (Nat.mul_one _).symm (by omega) (fun w A hG=>(ACx _ _ _)) fun cs1=>?_)
  refine wk 3 cz ?_
  try simp only [setB,List.set_cons_succ,List.set_cons_zero]
  rw [Yr]
  refine AJx 1 0 1 5 rfl rfl rfl rfl ?_
  simp only [List.eraseIdx_cons_zero,List.eraseIdx_cons_succ,List.take_succ_cons,List.take_zero,List.cons_append,List.nil_append]
  refine Fb (A7 Aa) 0 rfl (fun g hg=>by
   by_cases e:g=k
   ·subst e
    rw [Do,A7,List.getD_eq_getElem?_getD,at_u];rfl
   ·rw [Fh e]) ?_
  exact tw (ih (k+1,cs1,Gz hd k (r1.bo,u.length,r1.cap),Gz cs k r1.cs) (by dsimp only;omega) (by dsimp only;omega))
 ·obtain rfl:Aa.length=k:=by omega
  refine wk 7 cz ?_
  intro h1
  refine B0 1 [0] [0,1] rfl (.tmp rfl .nil) rfl rfl rfl ⟨⟨some b1,Aa.length,hc⟩,hd,cs,rfl,rfl,rfl⟩
section
variable {P:Program}{F:Fun P}{C:Cx}{S:List It}{R:Value→World→Prop}{β:List Bb}{Γ:List Fact}{it:List (TypeId×IntKind)}{L:List Oper}{p:List Nat}{σ:Fr}{i:Nat}{op:Op}{ty:TypeId}{d:Option Tmp}
def ACm (P:Program) (C:Cx) (nt:Nat) (L:List Oper) (σm σ:Fr) (β:List Bb) (Γ:List Fact):List Nat→Prop
 | []=>True
 | j::A=>(∃ o d u,A8 L j=some o∧o.guard=none∧o.dst=some d∧Nat.blt d nt=true∧Fr.get d σ=some u∧Ej P C o.op o.type σm β Γ fun v β' Γ'=>v=u∧β'=β∧Γ'=Γ)∧ACm P C nt L σm σ β Γ A
theorem AE9 {nt:Nat}{σm σ:Fr}:∀ {A:List Nat},ACm P C nt L σm σ β Γ A→∀ j∈A,∃ o d u,A8 L j=some o∧o.guard=none∧o.dst=some d∧Nat.blt d nt=true∧Fr.get d σ=some u∧Ej P C o.op o.type σm β Γ fun v β' Γ'=>v=u∧β'=β∧Γ'=Γ:=by
 intro A
 induction A with
 | nil=>intro _ j hj;cases hj
 | cons x A ih =>
  intro h j hj
  rcases List.mem_cons.1 hj with rfl|hj
  ·exact h.1
  ·exact ih h.2 j hj
theorem AAP {A pend l:List Nat}{j:Nat}{a:Act}{w:World}{K:List Item}(hL:ACm P C F.fn.ntmps (Am (sub p F.B)) (Ro A (Am (sub p F.B)) σ) σ β Γ A) (hpA:∀ j∈pend,j∈A) (hj:j∈pend)
  (hsz:a.tmps.size=F.fn.ntmps) (hdf:a.defers=F.dfs) (hfr:∀ t v,(∀ j∈pend,Cl (Am (sub p F.B)) j≠some t)→Fr.get t σ=some v→a.tmps[t]?=some v) (hO:Own C w β) (hG:∀ f∈Γ,f.holds w (ok C w β))
  (h:∀ (a':Act) (w':World),a'.tmps.size=F.fn.ntmps→a'.defers=F.dfs→(∀ t v,(∀ j'∈pend.erase j,Cl (Am (sub p F.B)) j'≠some t)→Fr.get t σ=some v→a'.tmps[t]?=some v)→Own C w' β→(∀ f∈Γ,f.holds w' (ok C w' β))→At F (.inRegion (Am (sub p F.B)).toArray l::K) a' w' R) :
  At F (.inRegion (Am (sub p F.B)).toArray (j::l)::K) a w R:=by
 obtain ⟨o,d,u,h1,h2,h3,h4,h5,h6⟩:=AE9 hL j (hpA j hj)
 have hfit:Fits F.fn.ntmps F.dfs (Ro A (Am (sub p F.B)) σ) a:=⟨hsz,hdf,fun t v hv=>by
  obtain ⟨g1,g2⟩:=Tp hv
  exact hfr t v (fun j hj=>g1 j (hpA j hj)) g2⟩
 have ho:(Am (sub p F.B)).toArray[j]?=some o:=by
  rw [B8] at h1
  simpa using h1
 have hdlt:d<a.tmps.size:=by rw [hsz];exact Nat.le_of_ble_eq_true h4
 refine Mf ho (by simp [Region.wanted,h2]) (post:=fun v w'=>∃ β' Γ',(v=u∧β'=β∧Γ'=Γ)∧Own C w' β'∧∀ f∈Γ',f.holds w' (ok C w' β')) (by rw [Gt];exact h6 w hO hG a.eval fun x v hv=>hfit.eval hv) ?_
 rintro v w' ⟨_,_,⟨rfl,rfl,rfl⟩,hO',hG'⟩
 rw [h3]
 refine h _ w' (by simp [Act.put,hsz]) (by simp [Act.put,hdf]) (fun t x hno hx=>?_) hO' hG'
 have hdj:Cl (Am (sub p F.B)) j=some d:=by simp [Cl,h1,h3]
 by_cases e:d=t
 ·subst e
  rw [h5] at hx
  rw [← Option.some.inj hx]
  simp [Act.put,hdlt]
 ·simp only [Act.put]
  rw [Array.getElem?_setIfInBounds_ne e]
  refine hfr t x (fun j' hj'=>?_) hx
  by_cases ej:j'=j
  ·rw [ej,hdj];exact fun h=>e (Option.some.inj h)
  ·exact hno j' ((List.mem_erase_of_ne ej).2 hj')
theorem ACR {A:List Nat}(hL:ACm P C F.fn.ntmps (Am (sub p F.B)) (Ro A (Am (sub p F.B)) σ) σ β Γ A) (h:J F C (.o p i::S) σ β Γ R):WIN F C p A 0 i S σ β Γ R:=by
 intro pend sched hpA hnd hI w hO hG
 have key:∀ n (pend sched:List Nat),pend.length=n→(∀ j∈pend,j∈A∧j<i)→Inter (Am (sub p F.B)) A (i+0) pend i sched→∀ w,Own C w β→(∀ f∈Γ,f.holds w (ok C w β))→∀ a:Act,a.tmps.size=F.fn.ntmps→a.defers=F.dfs →
   (∀ t v,(∀ j∈pend,Cl (Am (sub p F.B)) j≠some t)→Fr.get t σ=some v→a.tmps[t]?=some v)→At F (.inRegion (Am (sub p F.B)).toArray sched::S.map (It.item F.B)) a w R:=by
  intro n
  induction n with
  | zero =>
   intro pend sched hl hpA hI w hO hG a hsz hdf hfr
   have:pend=[]:=List.eq_nil_of_length_eq_zero hl
   subst this
   cases hI with
   | done=>exact h w hO hG a ⟨hsz,hdf,fun t v hv=>hfr t v (fun j hj=>by cases hj) hv⟩
   | pend hj _ _=>cases hj
   | tail _ h2 _ _=>omega
   | issue _ h2 _ _=>omega
  | succ n ih =>
   intro pend sched hl hpA hI w hO hG a hsz hdf hfr
   cases hI with
   | done=>simp at hl
   | pend hj _ hI' =>
    exact AAP hL (fun j hj=>(hpA j hj).1) hj hsz hdf hfr hO hG fun a' w' h1 h2 h3 hO hG=>ih _ _ (by rw [List.length_erase_of_mem hj];omega) (fun j' hj'=>hpA j' (List.mem_of_mem_erase hj')) hI' w' hO hG a' h1 h2 h3
   | tail _ h2 _ _=>omega
   | issue _ h2 _ _=>omega
 exact fun a=>key _ pend sched rfl hpA hI w hO hG a
theorem ABf {A:List Nat}{m:Nat}(ho:AAB F p i=some (d,op,ty)) (hw:AIX (Am (sub p F.B)) A d=true) (hL:ACm P C F.fn.ntmps (Am (sub p F.B)) (Ro A (Am (sub p F.B)) σ) σ β Γ A)
  (hx:Ej P C op ty (Ro A (Am (sub p F.B)) σ) β Γ fun v β' Γ'=>WIN F C p A m (i+1) S (putF d v σ) β' Γ' R) (hni:B6 i A=false:=by rfl):WIN F C p A (m+1) i S σ β Γ R:=by
 have hni:i∉A:=fun h=>by rw [C5.2 h] at hni;cases hni
 intro pend sched hpA hnd hI w hO hG
 obtain ⟨pos,after,hn,hd⟩:=W9 ho
 have hoarr:(Am (sub p F.B)).toArray[i]?=some ⟨d,op,ty,pos,after,none⟩:=by
  rw [B8] at hn
  simpa using hn
 have hil:i<(Am (sub p F.B)).length:=by
  rw [B8] at hn
  exact (List.getElem?_eq_some_iff.1 hn).1
 have hwn:∀ t,d=some t→∀ j∈A,Cl (Am (sub p F.B)) j≠some t:=fun t ht j hj e=>by
  subst ht
  have:=List.all_eq_true.1 hw j hj
  rw [e] at this
  simp at this
 -- the operation itself
 have exec:∀ (pend l:List Nat) (a:Act),(∀ j∈pend,j∈A∧j<i)→pend.Nodup→Inter (Am (sub p F.B)) A (i+1+m) pend (i+1) l→∀ w,Own C w β→(∀ f∈Γ,f.holds w (ok C w β))→a.tmps.size=F.fn.ntmps→a.defers=F.dfs →
   (∀ t v,(∀ j∈pend,Cl (Am (sub p F.B)) j≠some t)→Fr.get t σ=some v→a.tmps[t]?=some v)→At F (.inRegion (Am (sub p F.B)).toArray (i::l)::S.map (It.item F.B)) a w R:=by
  intro pend l a hpA hnd hI w hO hG hsz hdf hfr
  have hfit:Fits F.fn.ntmps F.dfs (Ro A (Am (sub p F.B)) σ) a:=⟨hsz,hdf,fun t v hv=>by
   obtain ⟨g1,g2⟩:=Tp hv
   exact hfr t v (fun j hj=>g1 j (hpA j hj).1) g2⟩
  refine Mf hoarr (by simp [Region.wanted]) (post:=fun v w'=>∃ β' Γ',WIN F C p A m (i+1) S (putF d v σ) β' Γ' R∧Own C w' β'∧∀ f∈Γ',f.holds w' (ok C w' β')) ?_ ?_
  ·rw [Gt]
   exact hx w hO hG a.eval fun x v hv=>hfit.eval hv
  ·rintro v w' ⟨β',Γ',hW,hO',hG'⟩
   refine hW pend l (fun j hj=>⟨(hpA j hj).1,by have:=(hpA j hj).2;omega⟩) hnd hI w' hO' hG' _ (by cases hd':d <;> simp [Act.put,hsz]) (by cases hd':d <;> simp [Act.put,hdf]) fun t x hno hx=>?_
   cases hd':d with
   | none =>
    rw [hd'] at hx
    exact hfr t x hno hx
   | some dd =>
    rw [hd'] at hx
    simp only [putF,Fr.get] at hx
    by_cases e:dd=t
    ·subst e
     rw [Nat.beq_refl] at hx
     have hlt:dd<a.tmps.size:=by rw [hsz];exact hd dd hd'
     rw [← Option.some.inj hx]
     simp [Act.put,hlt]
    ·have hb:Nat.beq dd t=false:=by
      cases hb:Nat.beq dd t with
      | true=>exact absurd (Nat.eq_of_beq_eq_true hb) e
      | false=>rfl
     rw [hb] at hx
     simp only [Act.put]
     rw [Array.getElem?_setIfInBounds_ne e]
     exact hfr t x hno hx
 have key:∀ n (pend sched:List Nat),pend.length=n→(∀ j∈pend,j∈A∧j<i)→pend.Nodup→Inter (Am (sub p F.B)) A (i+(m+1)) pend i sched→∀ w,Own C w β→(∀ f∈Γ,f.holds w (ok C w β))→∀ a:Act,a.tmps.size=F.fn.ntmps→a.defers=F.dfs →
   (∀ t v,(∀ j∈pend,Cl (Am (sub p F.B)) j≠some t)→Fr.get t σ=some v→a.tmps[t]?=some v)→At F (.inRegion (Am (sub p F.B)).toArray sched::S.map (It.item F.B)) a w R:=by
  have ee:i+(m+1)=i+1+m:=by omega
  intro n
  induction n with
  | zero =>
   intro pend sched hl hpA hnd hI w hO hG a hsz hdf hfr
   have:pend=[]:=List.eq_nil_of_length_eq_zero hl
   subst this
   have er:List.range' i ((Am (sub p F.B)).length-i)=i::List.range' (i+1) ((Am (sub p F.B)).length-(i+1)):=by
    have e:(Am (sub p F.B)).length-i=((Am (sub p F.B)).length-(i+1))+1:=by omega
    rw [e,List.range'_succ]
   cases hI with
   | done=>rw [er];exact exec [] _ a hpA hnd .done w hO hG hsz hdf hfr
   | pend hj _ _=>cases hj
   | tail _ _ _ hI'=>rw [ee] at hI';exact exec [] _ a hpA hnd hI' w hO hG hsz hdf hfr
   | issue _ _ h _=>exact absurd h hni
  | succ n ih =>
   intro pend sched hl hpA hnd hI w hO hG a hsz hdf hfr
   cases hI with
   | done=>simp at hl
   | pend hj _ hI' =>
    exact AAP hL (fun j hj=>(hpA j hj).1) hj hsz hdf hfr hO hG fun a' w' h1 h2 h3 hO hG=>ih _ _ (by rw [List.length_erase_of_mem hj];omega) (fun j' hj'=>hpA j' (List.mem_of_mem_erase hj')) (hnd.erase _) hI' w' hO hG a' h1 h2 h3
   | tail _ _ _ hI'=>rw [ee] at hI';exact exec pend _ a hpA hnd hI' w hO hG hsz hdf hfr
   | issue _ _ h _=>exact absurd h hni
 exact fun a=>key _ pend sched rfl hpA hnd hI w hO hG a
end
theorem S3 {rh:Row}{m t k bk bt:Nat}{hd:Nat→Hd}(ht:t<m) (hk:k<m) (hm:m≤1000000) :
  Br Tryz.prog 164 [.slice (ad rh.bo) m rh.cap,.pointer (some ⟨bk,0,none⟩),.pointer (some ⟨bt,0,none⟩)] [(some bk,3,[.int .i64 k]),(some bt,3,[.int .i64 t]),(rh.bo,22,rh.cs)] [Aw Vv rh m (Ly hd m)]
   (fun v Φ β=>∃ cs',v = .tuple #[]∧Φ=[Aw Vv ⟨rh.bo,rh.cap,cs'⟩ m (Ly (Gz (Gz hd t (hd k)) k (hd t)) m)]∧β=[(some bk,3,[.int .i64 k]),(some bt,3,[.int .i64 t]),(rh.bo,22,cs')]):=by
 refine Ad (F:=S0) rfl fun C=>?_
 refine Eu 0 rfl (by omega) fun b cap cs hr=>?_
 subst hr
 have z1:(Ly hd m)[k]?=some ((hd k).1,(hd k).2.1,(hd k).2.2):=Qq hk
 have z2:(Ly hd m)[t]?=some ((hd t).1,(hd t).2.1,(hd t).2.2):=Qq ht
 (apply Cy (x0:=none) it mx 0 13 [2,3] 1;(· rfl);(· rfl);(· rfl);(· decide))
 simp only [List.drop_zero]
 (apply Ae 1;(· rfl);(· simp))
 (apply Ac;(· rfl);(· exact Bn 1 rfl rfl Bm rfl))
 (apply Ae 1;(· rfl);(· simp))
 (apply Ac;(· rfl);(· exact Bn 0 rfl rfl Bm rfl))
 (apply Ae 1;(· rfl);(· simp))
 (apply Ac;(· rfl);(· exact Bn 0 rfl rfl Bm rfl))
 (apply Ac;(· rfl);(· exact Bi fun _=>Ah (k) (k) rfl rfl Fo rfl (by omega) (Nat.mul_one _) Af))
 (apply Ac;(· rfl);(· exact Hk 2 0 (k) rfl rfl rfl Ez rfl (by assumption)))
 dsimp only
 (apply Ae 1;(· rfl);(· simp))
 (apply Ac;(· rfl);(· exact Bn 1 rfl rfl Bm rfl))
 (apply Ac;(· rfl);(· exact Bi fun _=>Ah (t) (t) rfl rfl Fo rfl (by omega) (Nat.mul_one _) Af))
 (apply Ac;(· rfl);(· exact Hk 2 0 (t) rfl rfl rfl Ez rfl (by assumption)))
 dsimp only
 (apply Ac;(· rfl);(· exact Bi fun _=>Ah (t) (t) rfl rfl Fo rfl (by omega) (Nat.mul_one _) Af)) --ok
 refine Cz rfl ?_
 rotate_left
 rfl
 simp only [List.map_nil,List.nil_append]
 refine ABf rfl rfl ⟨⟨_,_,_,rfl,rfl,rfl,rfl,rfl,Sx it rfl (by trivial) ⟨rfl,rfl,rfl⟩⟩,⟨⟨_,_,_,rfl,rfl,rfl,rfl,rfl,Dt 0 rfl rfl Bm rfl ⟨rfl,rfl,rfl⟩⟩,trivial⟩⟩ (Cb (vs:=[Value.slice (ad (hd k).fst) (hd k).snd.fst (hd k).snd.snd]) (z:=((hd k).fst,(hd k).snd.fst,(hd k).snd.snd)) 2 0 (t) rfl rfl rfl rfl rfl Ez (Nat.mul_one _).symm (by omega) (fun w A hG=>(ACx _ _ _)) fun cs1=>?_)
 refine ACR ⟨⟨_,_,_,rfl,rfl,rfl,rfl,rfl,Sx it rfl (by trivial) ⟨rfl,rfl,rfl⟩⟩,⟨⟨_,_,_,rfl,rfl,rfl,rfl,rfl,Dt 0 rfl rfl Bm rfl ⟨rfl,rfl,rfl⟩⟩,trivial⟩⟩ ?_
 simp only [setB,List.set_cons_succ,List.set_cons_zero]
 rw [Yr]
 refine wk 1 cz ?_
 refine Ab rfl (Cb (vs:=[Value.slice (ad (hd t).fst) (hd t).snd.fst (hd t).snd.snd]) (z:=((hd t).fst,(hd t).snd.fst,(hd t).snd.snd)) 2 0 (k) rfl rfl rfl rfl rfl Ez (Nat.mul_one _).symm (by omega) (fun w A hG=>(ACx _ _ _)) fun cs2=>?_)
 refine wk 1 cz ?_
 simp only [setB,List.set_cons_succ,List.set_cons_zero]
 rw [Yr]
 refine Cj [0] rfl rfl ⟨cs2,rfl,rfl,rfl⟩
open Go Go.Fw
set_option maxRecDepth 100000
set_option linter.unusedVariables false
set_option linter.unusedSimpArgs false
set_option maxHeartbeats 0
theorem S4 {b p m ng cg ce cl:Nat}{pg pe pl:Option Addr}{md:List Int}{rh:Row}{n N i t bg bi bf bt:Nat}{c:Int}{hd:Nat→Hd}{cs:Nat→List Value}{ls:Nat→List Int}(K:Fok p m md) (c0:0≤c) (c1:c<((p ^ m:Nat):Int)) (hi:i<n) (ht:t<n) (hit:i≠t) (hn:n≤1000000) (hN:N≤1000000) (hls:∀ k,k<n→Wd (p ^ m) N (ls k)) :
  Br Tryz.prog 170 [.slice (ad rh.bo) n rh.cap,.pointer (some ⟨bg,0,none⟩),.pointer (some ⟨bi,0,none⟩),.pointer (some ⟨bf,0,none⟩),.pointer (some ⟨bt,0,none⟩)]
   ((some bg,76,[.pointer (some ⟨b,0,none⟩)])::(some bi,3,[.int .i64 i])::(some bf,3,[.int .i64 c])::(some bt,3,[.int .i64 t])::(rh.bo,22,rh.cs)::D2 3 hd cs n [])
   [T0 b p m (p ^ m) pg ng cg pe (p ^ m-1) ce pl (p ^ m) cl,A2 Ak pe (p ^ m-1) ce (T8 p m md),A2 Ak pl (p ^ m) cl (Tt p m md),Aw Vv rh n (Ly hd n),Fp Ak hd cs ls n []]
   (fun v Φ β=>∃ cs',v = .tuple #[]∧Φ=[Aw Vv rh n (Ly hd n),Fp Ak hd cs' (Gz ls i (Gw (Aq (fA p m)) (Aq (fM p (Cc m md))) ((nP p m c.toNat:Nat):Int) (ls t) (ls i))) n []]∧β=(some bg,76,[.pointer (some ⟨b,0,none⟩)])::(some bi,3,[.int .i64 i])::(some bf,3,[.int .i64 c])::(some bt,3,[.int .i64 t])::(rh.bo,22,rh.cs)::D2 3 hd cs' n []):=by
 refine Ad (F:=Sm) rfl fun C=>?_
 refine Eu 3 rfl (by omega) fun bh caph csh hr=>?_
 subst hr
 refine Qz 4 rfl fun hlen=>?_
 have wi:=hls i hi
 have wt:=hls t ht
 have li:(hd i).2.1=N:=by rw [hlen i hi rfl];exact wi.1
 have lt:(hd t).2.1=N:=by rw [hlen t ht rfl];exact wt.1
 have hnl:=AEj (show 0<p by have:=K.p2;omega) m c.toNat
 have n0:0≤((nP p m c.toNat:Nat):Int):=Int.natCast_nonneg _
 have n1:((nP p m c.toNat:Nat):Int)<((p ^ m:Nat):Int):=Int.ofNat_lt.2 hnl
 have Kx:=fun {b ng cg ne ce nl cl:Nat}{pg pe pl:Option Addr}=>Kv (b:=b) (ng:=ng) (cg:=cg) (ne:=ne) (ce:=ce) (nl:=nl) (cl:=cl) (pg:=pg) (pe:=pe) (pl:=pl) K.p2 K.m1 K.q c0 c1
 have ABJ:=fun {b ng cg ce cl:Nat}{pg pe pl:Option Addr}{r r2:Row}=>ABZ (b:=b) (ng:=ng) (cg:=cg) (ce:=ce) (cl:=cl) (pg:=pg) (pe:=pe) (pl:=pl) (r:=r) (r2:=r2) K n0 n1 wi wt hN
 have hmb:B6 t [i]=false:=by
  rw [A1,decide_eq_false (fun e=>hit e.symm)];rfl
 refine Hw 5 (i) 4 (N) rfl rfl (by first|assumption|omega) (by first|rfl|assumption|(simp [A1,B6];done)|(simp [A1,B6];omega)) (by first|assumption|omega) fun r1 hr1=>?_
 simp only [List.take_succ_cons,List.take_zero,List.cons_append,List.nil_append]
 refine Hw 6 (t) 1 (N) rfl rfl (by first|assumption|omega) (by first|rfl|assumption|(simp [A1,B6];done)|(simp [A1,B6];omega)) (by first|assumption|omega) fun r2 hr2=>?_
 simp only [List.take_succ_cons,List.take_zero,List.cons_append,List.nil_append]
 (apply Ch it mx 12;(· rfl);(· rfl))
 (apply Ac;(· rfl);(· exact Bn 2 rfl rfl AAC rfl))
 (apply Ae 1;(· rfl);(· simp))
 (apply Ac;(· rfl);(· exact Bn 3 rfl rfl Bm rfl))
 (apply Ac;(· rfl);(· exact Bi fun _=>Ah (i) (i) rfl rfl Fo rfl (by omega) (Nat.mul_one _) Af))
 (apply Ac;(· rfl);(· exact Hk 6 7 (i) rfl rfl rfl Ez rfl (by assumption)))
 dsimp only
 (apply Ac;(· rfl);(· exact Bn 2 rfl rfl AAC rfl))
 (apply Ac;(· rfl);(· exact Bn 4 rfl rfl Bm rfl))
 (apply Ac;(· rfl);(· exact Bi fun _=>Ai [4] rfl (Kx) rfl (by rintro _ _ _ ⟨rfl,rfl,rfl⟩;exact Af)))
 (apply Ae 1;(· rfl);(· simp))
 (apply Ac;(· rfl);(· exact Bn 5 rfl rfl Bm rfl))
 (apply Ac;(· rfl);(· exact Bi fun _=>Ah (t) (t) rfl rfl Fo rfl (by omega) (Nat.mul_one _) Af))
 (apply Ac;(· rfl);(· exact Hk 6 7 (t) rfl rfl rfl Ez rfl (by assumption)))
 dsimp only
 refine B7 rfl ?_
 simp only [List.map_cons,List.map_nil,List.cons_append,List.nil_append]
 refine Qu 7 [1,0,2,3,4,5,6] rfl rfl ?_
 simp only [List.drop_succ_cons,List.drop_zero,List.cons_append,List.nil_append]
 refine wk 2 (ct @ABJ cz) ?_
 intro cs'1
 try simp only [List.drop_succ_cons,List.drop_zero]
 refine Ds 6 t 1 1 3 rfl rfl rfl rfl ht hmb ?_
 simp only [List.eraseIdx_cons_zero,List.eraseIdx_cons_succ,List.take_succ_cons,List.take_zero,List.cons_append,List.nil_append]
 rw [Ix (Mk hr2 ht),show Gz ls t (ls t)=ls from Ix rfl]
 refine Ds 5 i 0 1 0 rfl rfl rfl rfl hi rfl ?_
 simp only [List.eraseIdx_cons_zero,List.eraseIdx_cons_succ,List.take_succ_cons,List.take_zero,List.cons_append,List.nil_append]
 rw [show Gz hd i (r1.bo,N,r1.cap)=hd from Ix (Mk hr1 hi)]
 refine Cj [11,0] rfl rfl ⟨_,rfl,rfl,rfl⟩
theorem Ux {b p m n ng cg ce cl:Nat}{pg pe pl:Option Addr}{a:Int}{r:Row}{u md:List Int}(K:Fok p m md) (a0:0≤a) (a1:a<((p ^ m:Nat):Int)) (hu:Wd (p ^ m) n u) (hn:n≤1000000) :
  Br Tryz.prog 169 [.pointer (some ⟨b,0,none⟩),.int .i64 a,.slice (ad r.bo) n r.cap] [(r.bo,3,r.cs)] [T0 b p m (p ^ m) pg ng cg pe (p ^ m-1) ce pl (p ^ m) cl,A2 Ak pe (p ^ m-1) ce (T8 p m md),A2 Ak pl (p ^ m) cl (Tt p m md),Aw Ak r n u]
   (fun v Φ β=>∃ r':Row,v = .slice (ad r'.bo) n r'.cap∧Φ=[Aw Ak r' n (B3 (Aq (fM p (Cc m md))) a u)]∧β=[(r'.bo,3,r'.cs)]):=by
 refine Ad (F:=Nm) rfl fun C=>?_
 have hun:=hu.1
 subst hun
 have hu:=hu.2
 have Cd:=fun {b ng cg ce cl:Nat}{pg pe pl:Option Addr}{x y:Int}=>F9 (b:=b) (ng:=ng) (cg:=cg) (ce:=ce) (cl:=cl) (pg:=pg) (pe:=pe) (pl:=pl) (x:=x) (y:=y) K
 have hml:=fun x (h:x∈u)=>K.fi.ml a x a0 a1 (hu x h).1 (hu x h).2
 have hq:=K.q
 generalize Aq (fM p (Cc m md))=M at *
 generalize T8 p m md=ex at *
 generalize Tt p m md=lg at *
 generalize p ^ m=q at *
 refine wk 12 cz ?_
 intro b1
 rw [show Ap .i64 (List.replicate u.length 0)=Az .i64 ((B3 M a u).take 0++List.replicate (u.length-0) 0) by simp [Ap,Az]]
 refine Ag (X:=Nat) [0,1,6,7,13,14] [0,1,2,3] (fun i=>[(15,.int .i64 (i:Int))]) (fun i=>[(some b1,3,Az .i64 ((B3 M a u).take i++List.replicate (u.length-i) 0)),(r.bo,3,r.cs)]) (fun _=>[]) (fun i=>i≤u.length) (fun i=>u.length-i) 0 [] rfl rfl rfl (Nat.zero_le _) (by repeat (first|exact Fr.sub_nil _|refine Fr.sub_cons rfl ?_)) rfl rfl ?_
 rintro i hi ih
 simp only [List.cons_append,List.nil_append] at hi ih ⊢
 by_cases h9:i<u.length
 ·obtain ⟨x,at_x⟩:∃ x,u[i]?=some x:=⟨_,List.getElem?_eq_getElem h9⟩
  have hx:=hu x (List.mem_of_getElem? at_x)
  obtain ⟨hx0,hx1⟩:=hx
  have ih':=ih (i+1) (by omega) (by omega)
  have eT:(B3 M a u)[i]?=some (M a x):=by rw [B3,List.getElem?_map,at_x];rfl
  rw [← take_set eT h9] at ih'
  have hln:((B3 M a u).take i++List.replicate (u.length-i) 0).length=u.length:=by simp [B3];omega
  generalize (B3 M a u).take i++List.replicate (u.length-i) 0=L at *
  refine wk 6 cz ?_
  intro h1
  refine Eu 3 rfl (by omega) fun b2 cap1 cs1 hr1=>?_
  subst hr1
  dsimp only
  refine wk 11 (ct @Cd cz) ?_
  intro hr1
  exact tw (ih')
 ·obtain rfl:i=u.length:=by omega
  rw [Nat.sub_self,List.replicate_zero,List.append_nil,List.take_of_length_le (by simp [B3])]
  refine wk 7 cz ?_
  intro h1
  have hall:∀ z∈B3 M a u,Bf .i64 z:=fun z hz=>by
   obtain ⟨y,hy,rfl⟩:=List.mem_map.1 hz
   have:=hml y hy
   simp only [Bf];omega
  have hln:(B3 M a u).length=u.length:=by simp [B3]
  generalize B3 M a u=L at *
  refine Ow 0 rfl hln.symm hall (by omega) ?_
  refine B0 2 [0] [0] rfl (.tmp rfl .nil) rfl rfl rfl ⟨⟨some b1,u.length,Az .i64 L⟩,rfl,rfl,rfl⟩
theorem Td {b p m ng cg ce cl:Nat}{pg pe pl:Option Addr}{md:List Int}{rh:Row}{n N t bg bv bt:Nat}{c:Int}{hd:Nat→Hd}{cs:Nat→List Value}{ls:Nat→List Int}(K:Fok p m md) (c0:0≤c) (c1:c<((p ^ m:Nat):Int)) (ht:t<n) (hn:n≤1000000) (hN:N≤1000000) (hls:∀ k,k<n→Wd (p ^ m) N (ls k)) :
  Br Tryz.prog 168 [.slice (ad rh.bo) n rh.cap,.pointer (some ⟨bg,0,none⟩),.pointer (some ⟨bv,0,none⟩),.pointer (some ⟨bt,0,none⟩)]
   ((some bg,76,[.pointer (some ⟨b,0,none⟩)])::(some bv,3,[.int .i64 c])::(some bt,3,[.int .i64 t])::(rh.bo,22,rh.cs)::D2 3 hd cs n [])
   [T0 b p m (p ^ m) pg ng cg pe (p ^ m-1) ce pl (p ^ m) cl,A2 Ak pe (p ^ m-1) ce (T8 p m md),A2 Ak pl (p ^ m) cl (Tt p m md),Aw Vv rh n (Ly hd n),Fp Ak hd cs ls n []]
   (fun v Φ β=>∃ ch' hd' cs',v = .tuple #[]∧Φ=[Aw Vv ⟨rh.bo,rh.cap,ch'⟩ n (Ly hd' n),Fp Ak hd' cs' (Gz ls t (B3 (Aq (fM p (Cc m md))) c (ls t))) n []]∧β=(some bg,76,[.pointer (some ⟨b,0,none⟩)])::(some bv,3,[.int .i64 c])::(some bt,3,[.int .i64 t])::(rh.bo,22,ch')::D2 3 hd' cs' n []):=by
 refine Ad (F:=Tc) rfl fun C=>?_
 refine Eu 3 rfl (by omega) fun bh caph csh hr=>?_
 subst hr
 refine Qz 4 rfl fun hlen=>?_
 have wt:=hls t ht
 have lt:(hd t).2.1=N:=by rw [hlen t ht rfl];exact wt.1
 refine Hw 4 (t) 4 (N) rfl rfl (by first|assumption|omega) (by first|rfl|assumption|(simp [A1,B6];done)|(simp [A1,B6];omega)) (by first|assumption|omega) fun r1 hr1=>?_
 simp only [List.take_succ_cons,List.take_zero,List.cons_append,List.nil_append]
 (apply Cy (x0:=none) it mx 0 8 [0,1] 1;(· rfl);(· rfl);(· rfl);(· decide))
 simp only [List.drop_zero]
 (apply Ae 1;(· rfl);(· simp))
 (apply Ac;(· rfl);(· exact Bn 3 rfl rfl Bm rfl))
 (apply Ac;(· rfl);(· exact Bn 1 rfl rfl AAC rfl))
 (apply Ac;(· rfl);(· exact Bn 2 rfl rfl Bm rfl))
 (apply Ae 1;(· rfl);(· simp))
 (apply Ac;(· rfl);(· exact Bn 3 rfl rfl Bm rfl))
 (apply Ac;(· rfl);(· exact Bi fun _=>Ah (t) (t) rfl rfl Fo rfl (by omega) (Nat.mul_one _) Af))
 (apply Ac;(· rfl);(· exact Hk 4 5 (t) rfl rfl rfl Ez rfl (by assumption)))
 dsimp only --ok
 refine Cz rfl ?_
 rotate_left
 rfl
 simp only [List.map_nil,List.nil_append]
 refine ABf rfl rfl ⟨⟨_,_,_,rfl,rfl,rfl,rfl,rfl,Sx it rfl (by trivial) ⟨rfl,rfl,rfl⟩⟩,⟨⟨_,_,_,rfl,rfl,rfl,rfl,rfl,Dt 3 rfl rfl Bm rfl ⟨rfl,rfl,rfl⟩⟩,trivial⟩⟩ (F1 1 [2,3,4,0] rfl rfl (Ux (r:=r1) K c0 c1 wt hN) rfl ?_)
 rintro _ _ _ ⟨r9,rfl,rfl,rfl⟩
 simp only [List.cons_append,List.nil_append,List.drop_succ_cons,List.drop_zero]
 refine ACR ⟨⟨_,_,_,rfl,rfl,rfl,rfl,rfl,Sx it rfl (by trivial) ⟨rfl,rfl,rfl⟩⟩,⟨⟨_,_,_,rfl,rfl,rfl,rfl,rfl,Dt 3 rfl rfl Bm rfl ⟨rfl,rfl,rfl⟩⟩,trivial⟩⟩ ?_
 refine wk 1 cz ?_
 refine Ab rfl (Cb (vs:=[Value.slice (ad r9.bo) N r9.cap]) (z:=(r9.bo,N,r9.cap)) 4 6 (t) rfl rfl rfl rfl rfl Ez (Nat.mul_one _).symm (by omega) (fun w A hG=>(ACx _ _ _)) fun cs1=>?_)
 refine wk 1 cz ?_
 simp only [setB,List.set_cons_succ,List.set_cons_zero]
 rw [Yr]
 refine Ds 4 t 0 1 3 rfl rfl rfl rfl ht rfl ?_
 simp only [List.eraseIdx_cons_zero,List.eraseIdx_cons_succ,List.take_succ_cons,List.take_zero,List.cons_append,List.nil_append]
 refine Cj [1,0] rfl rfl ⟨_,_,_,rfl,rfl,rfl⟩
theorem AE2 {rh:Row}{n t k bk bt br ba:Nat}{hd:Nat→Hd}(ht:t<n) (hk:k<n) (hn:n≤1000000) :
  Br Tryz.prog 163 [.func (.func 164) #[] #[.pointer (some ⟨bk,0,none⟩),.pointer (some ⟨bt,0,none⟩)],.pointer (some ⟨br,0,none⟩),.pointer (some ⟨ba,0,none⟩)]
   [(some br,25,[.slice (ad rh.bo) n rh.cap]),(some ba,25,[.slice none 0 0]),(some bk,3,[.int .i64 k]),(some bt,3,[.int .i64 t]),(rh.bo,22,rh.cs)] [Aw Vv rh n (Ly hd n)]
   (fun v Φ β=>∃ cs',v = .tuple #[]∧Φ=[Aw Vv ⟨rh.bo,rh.cap,cs'⟩ n (Ly (Gz (Gz hd t (hd k)) k (hd t)) n)]∧β=[(some br,25,[.slice (ad rh.bo) n rh.cap]),(some ba,25,[.slice none 0 0]),(some bk,3,[.int .i64 k]),(some bt,3,[.int .i64 t]),(rh.bo,22,cs')]):=by
 refine Ad (F:=Gu) rfl fun C=>?_
 have Sd:=fun {rh:Row}{bk bt:Nat}=>S3 (rh:=rh) (bk:=bk) (bt:=bt) (hd:=hd) ht hk hn
 refine Be [_,_] rfl ?_
 refine Au it 1 rfl (by simp) ?_
 refine Ab rfl (Dt 0 rfl rfl M5 rfl ?_)
 refine Xo [2,3,4,0,1] rfl rfl ?_
 refine Ab rfl <| ABj rfl rfl (F1 3 [0] rfl rfl (Sd) rfl ?_)
 rintro _ _ _ ⟨cs'1,rfl,rfl,rfl⟩
 simp only [List.cons_append,List.nil_append]
 refine Be [_,_] rfl ?_
 refine Ab rfl (Dt 4 rfl rfl M5 rfl ?_)
 refine Ab rfl (P1 Fo rfl ?_)
 refine Au it 1 rfl (by simp) ?_
 refine Be [_] rfl ?_
 refine M1 rfl rfl (fun h1=>by exfalso;omega) (fun h1=>?_)
 refine Be [] rfl ?_
 try simp only [List.drop_succ_cons,List.drop_zero]
 refine Qu 5 [3,4,0,1,2] rfl rfl ?_
 simp only [List.cons_append,List.nil_append,List.drop_succ_cons,List.drop_zero]
 refine Cj [0] rfl rfl ⟨_,rfl,rfl,rfl⟩
theorem ADV {b p m ng cg ce cl:Nat}{pg pe pl:Option Addr}{md:List Int}{rh:Row}{n N t bg bv bt br ba:Nat}{c:Int}{hd:Nat→Hd}{cs:Nat→List Value}{ls:Nat→List Int}(K:Fok p m md) (c0:0≤c) (c1:c<((p ^ m:Nat):Int)) (ht:t<n) (hn:n≤1000000) (hN:N≤1000000) (hls:∀ k,k<n→Wd (p ^ m) N (ls k)) :
  Br Tryz.prog 163 [.func (.func 168) #[] #[.pointer (some ⟨bg,0,none⟩),.pointer (some ⟨bv,0,none⟩),.pointer (some ⟨bt,0,none⟩)],.pointer (some ⟨br,0,none⟩),.pointer (some ⟨ba,0,none⟩)]
   ((some br,25,[.slice (ad rh.bo) n rh.cap])::(some ba,25,[.slice none 0 0])::(some bg,76,[.pointer (some ⟨b,0,none⟩)])::(some bv,3,[.int .i64 c])::(some bt,3,[.int .i64 t])::(rh.bo,22,rh.cs)::D2 3 hd cs n [])
   [T0 b p m (p ^ m) pg ng cg pe (p ^ m-1) ce pl (p ^ m) cl,A2 Ak pe (p ^ m-1) ce (T8 p m md),A2 Ak pl (p ^ m) cl (Tt p m md),Aw Vv rh n (Ly hd n),Fp Ak hd cs ls n []]
   (fun v Φ β=>∃ ch' hd' cs',v = .tuple #[]∧Φ=[Aw Vv ⟨rh.bo,rh.cap,ch'⟩ n (Ly hd' n),Fp Ak hd' cs' (Gz ls t (B3 (Aq (fM p (Cc m md))) c (ls t))) n []]∧β=(some br,25,[.slice (ad rh.bo) n rh.cap])::(some ba,25,[.slice none 0 0])::(some bg,76,[.pointer (some ⟨b,0,none⟩)])::(some bv,3,[.int .i64 c])::(some bt,3,[.int .i64 t])::(rh.bo,22,ch')::D2 3 hd' cs' n []):=by
 refine Ad (F:=Gu) rfl fun C=>?_
 have Ss:=fun {b ng cg ce cl bg bv bt:Nat}{pg pe pl:Option Addr}{rh:Row}{hd:Nat→Hd}{cs:Nat→List Value}=>Td (b:=b) (ng:=ng) (cg:=cg) (ce:=ce) (cl:=cl) (pg:=pg) (pe:=pe) (pl:=pl) (rh:=rh) (bg:=bg) (bv:=bv) (bt:=bt) (hd:=hd) (cs:=cs) K c0 c1 ht hn hN hls
 refine wk 3 cz ?_
 refine Ab rfl <| ABj rfl rfl (Wf 2 [0,1,2,3,4] rfl rfl (Ss) rfl ?_)
 rintro _ _ _ ⟨ch'1,hd'1,cs'1,rfl,rfl,rfl⟩
 simp only [List.cons_append,List.nil_append]
 refine wk 7 cz ?_
 intro h1
 simp only [List.take_succ_cons,List.take_zero,List.cons_append,List.nil_append]
 refine Cj [0,1] rfl rfl ⟨_,_,_,rfl,rfl,rfl⟩
theorem ADn {b p m ng cg ce cl:Nat}{pg pe pl:Option Addr}{md:List Int}{rh:Row}{n N i t bg bi bf bt br ba:Nat}{c:Int}{hd:Nat→Hd}{cs:Nat→List Value}{ls:Nat→List Int}(K:Fok p m md) (c0:0≤c) (c1:c<((p ^ m:Nat):Int)) (hi:i<n) (ht:t<n) (hit:i≠t) (hn:n≤1000000) (hN:N≤1000000) (hls:∀ k,k<n→Wd (p ^ m) N (ls k)) :
  Br Tryz.prog 163 [.func (.func 170) #[] #[.pointer (some ⟨bg,0,none⟩),.pointer (some ⟨bi,0,none⟩),.pointer (some ⟨bf,0,none⟩),.pointer (some ⟨bt,0,none⟩)],.pointer (some ⟨br,0,none⟩),.pointer (some ⟨ba,0,none⟩)]
   ((some br,25,[.slice (ad rh.bo) n rh.cap])::(some ba,25,[.slice none 0 0])::(some bg,76,[.pointer (some ⟨b,0,none⟩)])::(some bi,3,[.int .i64 i])::(some bf,3,[.int .i64 c])::(some bt,3,[.int .i64 t])::(rh.bo,22,rh.cs)::D2 3 hd cs n [])
   [T0 b p m (p ^ m) pg ng cg pe (p ^ m-1) ce pl (p ^ m) cl,A2 Ak pe (p ^ m-1) ce (T8 p m md),A2 Ak pl (p ^ m) cl (Tt p m md),Aw Vv rh n (Ly hd n),Fp Ak hd cs ls n []]
   (fun v Φ β=>∃ cs',v = .tuple #[]∧Φ=[Aw Vv rh n (Ly hd n),Fp Ak hd cs' (Gz ls i (Gw (Aq (fA p m)) (Aq (fM p (Cc m md))) ((nP p m c.toNat:Nat):Int) (ls t) (ls i))) n []]∧β=(some br,25,[.slice (ad rh.bo) n rh.cap])::(some ba,25,[.slice none 0 0])::(some bg,76,[.pointer (some ⟨b,0,none⟩)])::(some bi,3,[.int .i64 i])::(some bf,3,[.int .i64 c])::(some bt,3,[.int .i64 t])::(rh.bo,22,rh.cs)::D2 3 hd cs' n []):=by
 refine Ad (F:=Gu) rfl fun C=>?_
 have Tf:=fun {b ng cg ce cl bg bi bf bt:Nat}{pg pe pl:Option Addr}{rh:Row}{hd:Nat→Hd}{cs:Nat→List Value}=>S4 (b:=b) (ng:=ng) (cg:=cg) (ce:=ce) (cl:=cl) (pg:=pg) (pe:=pe) (pl:=pl) (rh:=rh) (bg:=bg) (bi:=bi) (bf:=bf) (bt:=bt) (hd:=hd) (cs:=cs) K c0 c1 hi ht hit hn hN hls
 refine wk 3 cz ?_
 refine Ab rfl <| ABj rfl rfl (Wf 2 [0,1,2,3,4] rfl rfl (Tf) rfl ?_)
 rintro _ _ _ ⟨cs'1,rfl,rfl,rfl⟩
 simp only [List.cons_append,List.nil_append]
 refine wk 7 cz ?_
 intro h1
 simp only [List.take_succ_cons,List.take_zero,List.cons_append,List.nil_append]
 refine Cj [0,1] rfl rfl ⟨_,rfl,rfl,rfl⟩
abbrev Gx (p m:Nat) (x:Int):Int:=((nP p m x.toNat:Nat):Int)
abbrev Hr (p m:Nat) (md:List Int) (x:Int):Int:=((iF (p ^ m) (fM p (Cc m md)) x.toNat:Nat):Int)
abbrev Sg (p m:Nat) (md:List Int) (n c t:Nat) (Aa:List (List Int)):List (List Int)×List Nat:=Ea (Aq (fA p m)) (Aq (fM p (Cc m md))) (Gx p m) (Hr p m md) n c t Aa
theorem ADu {Aa:List (List Int)}{t c:Nat}(h:Aa.length≤t):Jg Aa t c=none:=by
 rw [Jg,show Aa.length-t=0 by omega];rfl
theorem Ln {A M:Int→Int→Int}{N V:Int→Int}:∀ (n c t:Nat) (Aa:List (List Int)),Aa.length≤t→Ea A M N V n c t Aa=(Aa,[])
 | 0,_,_,_,_=>rfl
 | n+1,c,t,Aa,h=>by rw [Ea,ADu h];exact Ln n (c+1) t Aa h
theorem AC7 {Aa:List (List Int)}{t c k:Nat}(h1:t≤k) (h2:k<Aa.length) (h3:en Aa k c≠0) (hn:∀ j,t≤j→j<k→en Aa j c=0):Jg Aa t c=some k:=by
 rw [Jg,show List.range' t (Aa.length-t)=List.range' t (k-t)++k::List.range' (k+1) (Aa.length-t-(k-t)-1) by
  rw [← List.range'_succ]
  have:=List.range'_append_1 (s:=t) (m:=k-t) (n:=Aa.length-t-(k-t)-1+1)
  rw [show t+(k-t)=k by omega,show k-t+(Aa.length-t-(k-t)-1+1)=Aa.length-t by omega] at this
  exact this.symm]
 rw [List.find?_append,List.find?_eq_none.2 fun i hi=>by
  obtain ⟨a,b⟩:=List.mem_range'_1.1 hi
  simpa using hn i a (by omega)]
 rw [Option.none_or,List.find?_cons,decide_eq_true h3]
theorem ACv {Aa:List (List Int)}{t c:Nat}(hn:∀ j,t≤j→j<Aa.length→en Aa j c=0):Jg Aa t c=none:=by
 rw [Jg,List.find?_eq_none.2 fun i hi=>by
  obtain ⟨a,b⟩:=List.mem_range'_1.1 hi
  simpa using hn i a (by omega)]
theorem AGC {q n:Nat}{A M:Int→Int→Int}(F:FI q A M) {r u:List Int}(hr:Wd q n r) (hu:Wd q n u):Gw A M 0 r u=u:=by
 have q2:=F.q2
 refine List.ext_getElem (by rw [Gw,List.length_zipWith,hr.1,hu.1];omega) fun i h1 h2=>?_
 rw [Gw] at h1
 simp only [Gw,List.getElem_zipWith]
 obtain ⟨y0,y1⟩:=hu.2 _ (List.getElem_mem h2)
 obtain ⟨x0,x1⟩:=hr.2 (r[i]'(by rw [hr.1,← hu.1];exact h2)) (List.getElem_mem _)
 rw [F.mc 0 _ (by omega) (by omega) x0 x1,F.m0 x0 x1,F.a0 _ y0 y1]
theorem AEV {q n:Nat}{A M:Int→Int→Int}(F:FI q A M) {v:List Int}(hv:Wd q n v):B3 M 1 v=v:=by
 have q2:=F.q2
 rw [B3]
 conv=>rhs;rw [← List.map_id v]
 refine List.map_congr_left fun x hx=>?_
 obtain ⟨h0,h1⟩:=hv.2 x hx
 rw [F.mc 1 x (by omega) (by omega) h0 h1,F.m1 x h0 h1];rfl
abbrev ElQ (rh:Row) (n:Nat) (E:List (List Int)×List Nat):Value→List Fact→List Bb→Prop:=fun v Φ β=>∃ (r:Row) (ch':List Value) (hd':Nat→Hd) (cs':Nat→List Value) (d:Int),v = .tuple #[.slice (ad r.bo) E.2.length r.cap,.int .i64 d]
 ∧ Φ=[Aw Ak r E.2.length (Bz E.2),Aw Vv ⟨rh.bo,rh.cap,ch'⟩ n (Ly hd' n),Fp Ak hd' cs' (A7 E.1) n []]∧β=(r.bo,3,r.cs)::(rh.bo,22,ch')::D2 3 hd' cs' n []
theorem Uj {b p m n N W ng cg ce cl:Nat}{pg pe pl:Option Addr}{rh:Row}{hd:Nat→Hd}{cs:Nat→List Value}{Aa:List (List Int)}{md:List Int}(K:Fok p m md) (hn:n≤1000000) (hNW:N≤W) (hN:W≤1000000) (hl:Aa.length=n) (hM:Fc (p ^ m) W Aa) :
  Br Tryz.prog 147 [.pointer (some ⟨b,0,none⟩),.slice (ad rh.bo) n rh.cap,.int .i64 N,.slice none 0 0] ((rh.bo,22,rh.cs)::D2 3 hd cs n [])
   [T0 b p m (p ^ m) pg ng cg pe (p ^ m-1) ce pl (p ^ m) cl,A2 Ak pe (p ^ m-1) ce (T8 p m md),A2 Ak pl (p ^ m) cl (Tt p m md),Aw Vv rh n (Ly hd n),Fp Ak hd cs (A7 Aa) n []]
   (ElQ rh n (Sg p m md N 0 0 Aa)):=by
 refine Ad (F:=Hz) rfl fun C=>?_
 have O:=Y3 K
 generalize hEE:Sg p m md N 0 0 Aa=EE
 rcases Nat.eq_zero_or_pos n with hn0|hn0
 ·subst hn0
  rw [Sg,Ln _ _ _ _ (by omega)] at hEE
  subst hEE
  refine wk 15 cz ?_
  intro b1 b2 b3
  refine Jj Ak 3 ?_
  refine Ag (X:=Unit) [2,4,5,8,9,11] [0,1,2,3,4,5] (fun _=>[(13,.int .i64 0),(12,.slice none 0 0),(10,.int .i64 1)]) (fun _=>(none,3,[])::(some b3,25,[.slice none 0 0])::(some b2,25,[.slice (ad rh.bo) 0 rh.cap])::(some b1,76,[.pointer (some ⟨b,0,none⟩)])::(rh.bo,22,rh.cs)::D2 3 hd cs 0 []) (fun _=>[]) (fun _=>True) (fun _=>0) () [] rfl rfl rfl trivial (by repeat (first|exact Fr.sub_nil _|refine Fr.sub_cons rfl ?_)) rfl rfl ?_
  rintro ⟨⟩-ih
  simp only [List.cons_append,List.nil_append] at ih ⊢
  rcases Nat.eq_zero_or_pos N with hN0|hN0
  ·subst hN0
   refine wk 7 cz ?_
   refine B0 5 [0,4] [0,4,5] rfl (.tmp rfl (.tmp rfl .nil)) rfl rfl rfl ⟨⟨none,0,[]⟩,rh.cs,hd,cs,1,rfl,rfl,rfl⟩
  ·refine wk 16 cz ?_
   intro h1 h2
   refine B0 5 [0,4] [0,4,5] rfl (.tmp rfl (.tmp rfl .nil)) rfl rfl rfl ⟨⟨none,0,[]⟩,rh.cs,hd,cs,1,rfl,rfl,rfl⟩
 ·refine Eu 3 rfl hn0 fun bh caph csh hr=>?_
  subst hr
  dsimp only
  refine wk 15 cz ?_
  intro b1 b2 b3
  refine Jj Ak 3 ?_
  have q2:=O.q2
  have hq:=K.q
  refine Ag (X:=Nat×Row×Int×List Value×(Nat→Hd)×(Nat→List Value)×List (List Int)×List Nat) [2,4,5,8,9,11] [1,2,3] (fun x=>[(13,.int .i64 (x.1:Int)),(12,.slice (ad x.2.1.bo) x.2.2.2.2.2.2.2.length x.2.1.cap),(10,.int .i64 x.2.2.1)])
   (fun x=>(x.2.1.bo,3,x.2.1.cs)::(some b3,25,[.slice none 0 0])::(some b2,25,[.slice (ad (some bh)) n caph])::(some b1,76,[.pointer (some ⟨b,0,none⟩)])::(some bh,22,x.2.2.2.1)::D2 3 x.2.2.2.2.1 x.2.2.2.2.2.1 n [])
   (fun x=>[Aw Ak x.2.1 x.2.2.2.2.2.2.2.length (Bz x.2.2.2.2.2.2.2),Aw Vv ⟨some bh,caph,x.2.2.2.1⟩ n (Ly x.2.2.2.2.1 n),Fp Ak x.2.2.2.2.1 x.2.2.2.2.2.1 (A7 x.2.2.2.2.2.2.1) n []])
   (fun x=>x.1≤N∧x.2.2.2.2.2.2.1.length=n∧Fc (p ^ m) W x.2.2.2.2.2.2.1∧x.2.2.2.2.2.2.2.length≤n∧(0≤x.2.2.1∧x.2.2.1<((p ^ m:Nat):Int))∧(Sg p m md (N-x.1) x.1 x.2.2.2.2.2.2.2.length x.2.2.2.2.2.2.1).1=EE.1∧x.2.2.2.2.2.2.2++(Sg p m md (N-x.1) x.1 x.2.2.2.2.2.2.2.length x.2.2.2.2.2.2.1).2=EE.2) (fun x=>N-x.1)
   (0,⟨none,0,[]⟩,1,csh,hd,cs,Aa,[]) [0,4,5] rfl rfl rfl ⟨Nat.zero_le _,hl,hM,Nat.zero_le _,⟨by dsimp only;decide,by dsimp only;omega⟩,by dsimp only;rw [Nat.sub_zero];exact congrArg Prod.fst hEE,by dsimp only;rw [Nat.sub_zero,List.nil_append];exact congrArg Prod.snd hEE⟩ (by repeat (first|exact Fr.sub_nil _|refine Fr.sub_cons rfl ?_)) rfl rfl ?_
  rintro ⟨c,r,d,ch,hd,cs,rws,pv⟩ ⟨hcN,hl,hM,hpv,⟨hd0,hd1⟩,hE1,hE2⟩ ih
  simp only [List.cons_append,List.nil_append] at hcN hl hM hpv hd0 hd1 hE1 hE2 ih ⊢
  by_cases hcl:c<N
  ·by_cases hpl:pv.length<n
   ·have hrl:∀ k,k<n→(A7 rws k).length=W:=fun k hk=>(hM.row (by omega)).1
    have hre:∀ k,k<n→(A7 rws k)[c]?=some (en rws k c):=fun k hk=>by
     rw [en,An,List.getD_eq_getElem?_getD,List.getElem?_eq_getElem (by rw [hrl k hk];omega)];rfl
    have hen:∀ k,k<n→0≤en rws k c∧en rws k c<((p ^ m:Nat):Int):=fun k hk=>Bo (by omega) (hM.row (by omega)) c
    refine Qz 2 rfl fun hlen=>?_
    have hhd:∀ k,k<n→(hd k).2.1=W:=fun k hk=>by rw [hlen k hk rfl];exact hrl k hk
    refine wk 23 cz ?_
    intro h1 h2 b4 b5
    simp only [setB]
    refine Ag (X:=Nat×(Nat→List Value)) [2,4,5,8,9,10,11,12,13,14,15,21,22,23,24,25,26,27,28,29,30,33,34,35] [0,1,2,3,4,5] (fun _=>[]) (fun k=>(some b5,3,[.int .i64 (k.1:Int)])::(some b4,3,[.int .i64 (pv.length:Int)])::(r.bo,3,r.cs)::(some b3,25,[.slice none 0 0])::(some b2,25,[.slice (ad (some bh)) n caph])::(some b1,76,[.pointer (some ⟨b,0,none⟩)])::(some bh,22,ch)::D2 3 hd k.2 n []) (fun k=>[Fp Ak hd k.2 (A7 rws) n []]) (fun k=>pv.length≤k.1∧k.1≤n∧∀ j,pv.length≤j→j<k.1→en rws j c=0) (fun k=>n-k.1) (pv.length,cs) [2] rfl rfl rfl ⟨Nat.le_refl _,hpv,fun j h1 h2=>by dsimp only at h2;omega⟩ (by repeat (first|exact Fr.sub_nil _|refine Fr.sub_cons rfl ?_)) rfl rfl ?_
    clear hlen hhd
    rintro ⟨k,cs⟩ ⟨hk1,hk2,hk3⟩ ihk
    simp only [List.cons_append,List.nil_append] at hk1 hk2 hk3 ihk ⊢
    by_cases hkn:k<n
    ·refine Qz 0 rfl fun hlen=>?_
     have hhd:∀ k,k<n→(hd k).2.1=W:=fun k hk=>by rw [hlen k hk rfl];exact hrl k hk
     have hhk:=hhd k hkn
     have hz:=hre k hkn
     have hrk:=hrl k hkn
     refine Hw 7 (k) 0 (W) rfl rfl (by first|assumption|omega) (by first|rfl|assumption|(simp [A1,B6];done)|(simp [A1,B6];omega)) (by first|assumption|omega) fun r1 hr1=>?_
     simp only [List.take_succ_cons,List.take_zero,List.cons_append,List.nil_append]
     by_cases hz0:en rws k c=0
     ·refine wk 12 cz ?_
      intro h3
      refine Eu 0 rfl (by omega) fun b6 cap1 cs1 hr2=>?_
      subst hr2
      dsimp only
      refine wk 10 cz ?_
      intro hr2 h4
      simp only [setB,List.set_cons_succ,List.set_cons_zero]
      refine Ds 7 (k) 0 0 1 rfl rfl rfl rfl (by first|assumption|omega) (by first|rfl|assumption|(simp [A1,B6];done)|(simp [A1,B6];omega)) ?_
      simp only [List.eraseIdx_cons_zero,List.eraseIdx_cons_succ,List.take_succ_cons,List.take_zero,List.cons_append,List.nil_append]
      rw [Ix (Mk hr1 hkn),show Gz (A7 rws) k (A7 rws k)=A7 rws from Ix rfl]
      exact tw (ihk (k+1,Gz cs k cs1) (by dsimp only;omega) ⟨by dsimp only;omega,by dsimp only;omega,fun j h1 h2=>by
       dsimp only at h2
       rcases Nat.lt_succ_iff_lt_or_eq.1 h2 with h|rfl
       ·exact hk3 j h1 h
       ·exact hz0⟩)
     ·clear ihk
      have hkne:¬ k=n:=by omega
      refine wk 12 cz ?_
      intro h3
      refine Eu 0 rfl (by omega) fun b6 cap1 cs1 hr2=>?_
      subst hr2
      dsimp only
      refine wk 10 cz ?_
      intro hr2 h4
      refine Ds 7 (k) 0 0 1 rfl rfl rfl rfl (by first|assumption|omega) (by first|rfl|assumption|(simp [A1,B6];done)|(simp [A1,B6];omega)) ?_
      simp only [List.eraseIdx_cons_zero,List.eraseIdx_cons_succ,List.take_succ_cons,List.take_zero,List.cons_append,List.nil_append]
      rw [Ix (Mk hr1 hkn),show Gz (A7 rws) k (A7 rws k)=A7 rws from Ix rfl]
      have key:∀ (d':Int) (ch':List Value) (hd':Nat→Hd) (cs':Nat→List Value),0≤d'→d'<((p ^ m:Nat):Int)→J Hz C [It.c (pL 128159),It.blk 1,It.c (pL 2003),It.lp (pL 500),It.blk 0,It.c [1,1,1,1,1]]
        [(2,.int .i64 N),(4,.pointer (some ⟨b1,0,none⟩)),(5,.pointer (some ⟨b2,0,none⟩)),(8,.slice none 0 0),(9,.int .i64 0),(10,.int .i64 d'),(11,.func (.func 163) #[] #[.pointer (some ⟨b2,0,none⟩),.pointer (some ⟨b3,0,none⟩)]),(12,.slice (ad r.bo) pv.length r.cap),(13,.int .i64 c),(14,.pointer (some ⟨b4,0,none⟩))]
        ((some b4,3,[.int .i64 (pv.length:Int)])::(r.bo,3,r.cs)::(some b3,25,[.slice none 0 0])::(some b2,25,[.slice (ad (some bh)) n caph])::(some b1,76,[.pointer (some ⟨b,0,none⟩)])::(some bh,22,ch')::D2 3 hd' cs' n [])
        [Fp Ak hd' cs' (A7 (Df rws pv.length k)) n [],Aw Ak r pv.length (Bz pv),Aw Vv ⟨some bh,caph,ch'⟩ n (Ly hd' n),T0 b p m (p ^ m) pg ng cg pe (p ^ m-1) ce pl (p ^ m) cl,A2 Ak pe (p ^ m-1) ce (T8 p m md),A2 Ak pl (p ^ m) cl (Tt p m md)] (Ga C (ElQ ⟨some bh,caph,csh⟩ n EE)):=by
       clear hz hrk hlen hhd hhk hr1
       intro d' ch' hd' cs' d0' d1'
       have htn:pv.length<n:=hpl
       have hsl:(Df rws pv.length k).length=n:=by rw [Df,List.length_set,List.length_set,hl]
       have hsW:∀ i,i<n→Wd (p ^ m) W (A7 (Df rws pv.length k) i):=fun i hi=>Qr hM (by omega) (by omega) (by omega)
       have hsrl:∀ i,i<n→(A7 (Df rws pv.length k) i).length=W:=fun i hi=>(hsW i hi).1
       have hsre:∀ i,i<n→(A7 (Df rws pv.length k) i)[c]?=some (en (Df rws pv.length k) i c):=fun i hi=>by
        rw [en,An,List.getD_eq_getElem?_getD,List.getElem?_eq_getElem (by rw [hsrl i hi];omega)];rfl
       have hsen:∀ i,i<n→0≤en (Df rws pv.length k) i c∧en (Df rws pv.length k) i c<((p ^ m:Nat):Int):=fun i hi=>Bo (by omega) (hsW i hi) c
       have het:en (Df rws pv.length k) pv.length c=en rws k c:=by
        rw [en,Gy (by omega) (by omega)]
        split
        ·rename_i e;rw [← e]
        ·rw [if_pos rfl]
       obtain ⟨a0,a1⟩:=hen k hkn
       refine Qz 0 rfl fun hlen=>?_
       have hht:(hd' pv.length).2.1=W:=by rw [hlen _ htn rfl];exact hsrl _ htn
       have hzt:=hsre _ htn
       rw [het] at hzt
       have hrt:=hsrl _ htn
       have Cd:=fun {b ng cg ce cl:Nat}{pg pe pl:Option Addr}{x y:Int}=>F9 (b:=b) (ng:=ng) (cg:=cg) (ce:=ce) (cl:=cl) (pg:=pg) (pe:=pe) (pl:=pl) (x:=x) (y:=y) K
       have F6:=fun {b ng cg ce cl:Nat}{pg pe pl:Option Addr}{x:Int}=>Rh (b:=b) (ng:=ng) (cg:=cg) (ce:=ce) (cl:=cl) (pg:=pg) (pe:=pe) (pl:=pl) (x:=x) K
       have hap:0<en rws k c:=by omega
       obtain ⟨⟨v0,v1⟩,hiv⟩:=O.iv _ a0 a1 hz0
       have FF:=K.fi
       have key2:∀ (d2:Int) (ch2:List Value) (hd2:Nat→Hd) (cs2:Nat→List Value),0≤d2→d2<((p ^ m:Nat):Int)→J Hz C [It.c (pL 4101114),It.blk 4,It.c (pL 1025279),It.blk 1,It.c (pL 2003),It.lp (pL 500),It.blk 0,It.c [1,1,1,1,1]]
         [(2,.int .i64 N),(4,.pointer (some ⟨b1,0,none⟩)),(5,.pointer (some ⟨b2,0,none⟩)),(8,.slice none 0 0),(9,.int .i64 0),(10,.int .i64 d2),(11,.func (.func 163) #[] #[.pointer (some ⟨b2,0,none⟩),.pointer (some ⟨b3,0,none⟩)]),(12,.slice (ad r.bo) pv.length r.cap),(13,.int .i64 c),(14,.pointer (some ⟨b4,0,none⟩)),(97,.int .i64 n),(98,.int .i64 0)]
         ((some b4,3,[.int .i64 (pv.length:Int)])::(r.bo,3,r.cs)::(some b3,25,[.slice none 0 0])::(some b2,25,[.slice (ad (some bh)) n caph])::(some b1,76,[.pointer (some ⟨b,0,none⟩)])::(some bh,22,ch2)::D2 3 hd2 cs2 n [])
         [Fp Ak hd2 cs2 (Gz (A7 (Df rws pv.length k)) pv.length (B3 (Aq (fM p (Cc m md))) ((iF (p ^ m) (fM p (Cc m md)) (en rws k c).toNat:Nat):Int) (A7 (Df rws pv.length k) pv.length))) n [],Aw Ak r pv.length (Bz pv),Aw Vv ⟨some bh,caph,ch2⟩ n (Ly hd2 n),T0 b p m (p ^ m) pg ng cg pe (p ^ m-1) ce pl (p ^ m) cl,A2 Ak pe (p ^ m-1) ce (T8 p m md),A2 Ak pl (p ^ m) cl (Tt p m md)] (Ga C (ElQ ⟨some bh,caph,csh⟩ n EE)):=by
        intro d2 ch2 hd2 cs2 e0 e1
        clear hht hlen Cd F6
        have hprW:=O.scl_wd v0 v1 (hsW _ htn)
        generalize hpr:B3 (Aq (fM p (Cc m md))) ((iF (p ^ m) (fM p (Cc m md)) (en rws k c).toNat:Nat):Int) (A7 (Df rws pv.length k) pv.length)=pr at *
        let clr:Nat→Nat→List Int:=fun i j=>if j=pv.length then pr else if j<i then Gw (Aq (fA p m)) (Aq (fM p (Cc m md))) (Gx p m (en (Df rws pv.length k) j c)) pr (A7 (Df rws pv.length k) j) else A7 (Df rws pv.length k) j
        have hclW:∀ i j,j<n→Wd (p ^ m) W (clr i j):=fun i j hj=>by
         show Wd _ _ (if _ then _ else if _ then _ else _)
         split
         ·exact hprW
         ·split
          ·obtain ⟨x0,x1⟩:=hsen j hj
           have:=AEj (show 0<p by have:=K.p2;omega) m (en (Df rws pv.length k) j c).toNat
           exact FF.axw (Int.natCast_nonneg _) (Int.ofNat_lt.2 this) hprW (hsW j hj)
          ·exact hsW j hj
        refine Fb (clr 0) 0 rfl (fun g hg=>by
         show _=if _ then _ else if _ then _ else _
         by_cases e:g=pv.length
         ·subst e;rw [Do,if_pos rfl]
         ·rw [Fh e,if_neg e,if_neg (Nat.not_lt_zero g)]) ?_
        refine Ag (X:=Nat×(Nat→List Value)) [2,4,5,8,9,10,11,12,13,14,97] [0,1,2,3,4,5,6] (fun x=>[(98,.int .i64 (x.1:Int))]) (fun x=>(some b4,3,[.int .i64 (pv.length:Int)])::(r.bo,3,r.cs)::(some b3,25,[.slice none 0 0])::(some b2,25,[.slice (ad (some bh)) n caph])::(some b1,76,[.pointer (some ⟨b,0,none⟩)])::(some bh,22,ch2)::D2 3 hd2 x.2 n []) (fun x=>[Fp Ak hd2 x.2 (clr x.1) n []]) (fun x=>x.1≤n) (fun x=>n-x.1) (0,cs2) [0] rfl rfl rfl (Nat.zero_le _) (by repeat (first|exact Fr.sub_nil _|refine Fr.sub_cons rfl ?_)) rfl rfl ?_
        rintro ⟨i,cs2⟩ hi ihi
        simp only [List.cons_append,List.nil_append] at hi ihi ⊢
        by_cases hin:i<n
        ·refine Qz 0 rfl fun hlen=>?_
         have hhi:(hd2 i).2.1=W:=by rw [hlen i hin rfl];exact (hclW i i hin).1
         have hli:=(hclW i i hin).1
         obtain ⟨z,at_z⟩:∃ z,(clr i i)[c]?=some z:=⟨_,List.getElem?_eq_getElem (by rw [hli];omega)⟩
         have nxt:∀ j,j<n→j≠i→clr (i+1) j=clr i j:=fun j hj hji=>by
          show (if _ then _ else if _ then _ else _)=(if _ then _ else if _ then _ else _)
          by_cases g1:j<i
          ·rw [if_pos g1,if_pos (show j<i+1 by omega)]
          ·rw [if_neg g1,if_neg (show ¬ j<i+1 by omega)]
         by_cases hit:i=pv.length
         ·have nxi:clr (i+1) i=clr i i:=by
           show (if _ then _ else if _ then _ else _)=(if _ then _ else if _ then _ else _)
           rw [if_pos hit,if_pos hit]
          clear_value clr
          refine Hw 6 (i) 0 (W) rfl rfl (by first|assumption|omega) (by first|rfl|assumption|(simp [A1,B6];done)|(simp [A1,B6];omega)) (by first|assumption|omega) fun r1 hr1=>?_
          simp only [List.take_succ_cons,List.take_zero,List.cons_append,List.nil_append]
          refine wk 14 cz ?_
          intro h5 b7
          refine Eu 0 rfl (by omega) fun b8 cap2 cs3 hr3=>?_
          subst hr3
          dsimp only
          refine wk 16 cz ?_
          intro hr3 b9 h6
          simp only [setB,List.set_cons_zero,List.set_cons_succ]
          refine Ds 8 (i) 2 0 1 rfl rfl rfl rfl (by first|assumption|omega) (by first|rfl|assumption|(simp [A1,B6];done)|(simp [A1,B6];omega)) ?_
          simp only [List.eraseIdx_cons_zero,List.eraseIdx_cons_succ,List.take_succ_cons,List.take_zero,List.cons_append,List.nil_append]
          rw [Ix (Mk (by assumption) hin)]
          refine Fb (clr (i+1)) 0 rfl (fun g hg=>by
           by_cases e:g=i
           ·subst e;rw [Do,nxi]
           ·rw [Fh e,nxt g hg e]) ?_
          refine Rf 8 [2,3,4,5,6,7] [0,5,6,7,8,9,10,11] (by exact Zr rfl) rfl rfl rfl rfl (ihi (i+1,Gz cs2 i cs3) (by dsimp only;omega) (by dsimp only;omega))
         ·have cli:clr i i=A7 (Df rws pv.length k) i:=by
           show (if _ then _ else if _ then _ else _)=_
           rw [if_neg hit,if_neg (Nat.lt_irrefl i)]
          have nxi:clr (i+1) i=Gw (Aq (fA p m)) (Aq (fM p (Cc m md))) (Gx p m (en (Df rws pv.length k) i c)) pr (A7 (Df rws pv.length k) i):=by
           show (if _ then _ else if _ then _ else _)=_
           rw [if_neg hit,if_pos (Nat.lt_succ_self i)]
          have clt:clr i pv.length=pr:=if_pos rfl
          have ez:z=en (Df rws pv.length k) i c:=by
           rw [cli,hsre i hin] at at_z;exact (Option.some.inj at_z).symm
          obtain ⟨z0,z1⟩:=hsen i hin
          rw [← ez] at nxi z0 z1
          clear_value clr
          by_cases hz9:z=0
          ·rw [hz9,show Gx p m 0=0 by rw [Gx];exact congrArg Int.ofNat (AJj p m),AGC FF hprW (hsW i hin),← cli] at nxi
           refine Hw 6 (i) 0 (W) rfl rfl (by first|assumption|omega) (by first|rfl|assumption|(simp [A1,B6];done)|(simp [A1,B6];omega)) (by first|assumption|omega) fun r1 hr1=>?_
           simp only [List.take_succ_cons,List.take_zero,List.cons_append,List.nil_append]
           refine wk 14 cz ?_
           intro h5 b7
           refine Eu 0 rfl (by omega) fun b8 cap2 cs3 hr3=>?_
           subst hr3
           dsimp only
           refine wk 17 cz ?_
           intro hr3 b9 h6 h7
           simp only [setB,List.set_cons_zero,List.set_cons_succ]
           refine Ds 8 (i) 2 0 1 rfl rfl rfl rfl (by first|assumption|omega) (by first|rfl|assumption|(simp [A1,B6];done)|(simp [A1,B6];omega)) ?_
           simp only [List.eraseIdx_cons_zero,List.eraseIdx_cons_succ,List.take_succ_cons,List.take_zero,List.cons_append,List.nil_append]
           rw [Ix (Mk (by assumption) hin)]
           refine Fb (clr (i+1)) 0 rfl (fun g hg=>by
            by_cases e:g=i
            ·subst e;rw [Do,nxi]
            ·rw [Fh e,nxt g hg e]) ?_
           refine Rf 8 [2,3,4,5,6,7] [0,5,6,7,8,9,10,11] (by exact Zr rfl) rfl rfl rfl rfl (ihi (i+1,Gz cs2 i cs3) (by dsimp only;omega) (by dsimp only;omega))
          ·refine Hw 6 (i) 0 (W) rfl rfl (by first|assumption|omega) (by first|rfl|assumption|(simp [A1,B6];done)|(simp [A1,B6];omega)) (by first|assumption|omega) fun r1 hr1=>?_
           simp only [List.take_succ_cons,List.take_zero,List.cons_append,List.nil_append]
           refine Be [_,_,_,_,_,_,_,_,_,_] rfl ?_
           refine Au it 1 rfl (by simp) ?_
           refine Be [_,_,_,_,_,_,_,_,_,_] rfl ?_
           refine M1 rfl rfl (fun h5=>?_) (fun h5=>by exfalso;omega)
           refine Be [_,_,_,_,_,_,_,_,_,_,_,_] rfl ?_
           refine Au it 1 rfl (by simp) ?_
           refine Ab rfl (Qh zo3 fun b7=>?_)
           refine Ab rfl (Qd 0 rfl rfl rfl rfl Bm rfl (Nat.le_of_ble_eq_true rfl) ?_)
           refine Be [_,_,_,_,_,_,_,_,_,_,_,_] rfl ?_
           refine Ab rfl (Dt 5 rfl rfl M5 rfl ?_)
           refine Ab rfl (Dt 0 rfl rfl Bm rfl ?_)
           refine Ab rfl (Ah (i) (i) rfl rfl Fo rfl (by omega) (Nat.mul_one _) ?_)
           refine Ab rfl (ACj 7 6 (i) rfl rfl rfl Ez rfl (by assumption) ?_)
           refine Au it 1 rfl (by simp) ?_
           refine Eu 0 rfl (by omega) fun b8 cap2 cs3 hr3=>?_
           subst hr3
           dsimp only
           refine Ab rfl (Ah (c) (c) rfl rfl Bj rfl (by omega) (Nat.mul_one _) ?_)
           refine Ab rfl (Lv 1 0 (c) rfl rfl rfl Bm rfl (by assumption) fun hr3=>?_)
           refine Ab rfl (Qh zo3 fun b9=>?_)
           refine Ab rfl (Qd 0 rfl rfl rfl rfl Bm rfl (Nat.le_of_ble_eq_true rfl) ?_)
           refine Be [_,_,_,_,_,_,_,_,_,_,_,_] rfl ?_
           refine Ab rfl (Dt 1 rfl rfl Bm rfl ?_)
           refine Ab rfl (Dt 3 rfl rfl Bm rfl ?_)
           refine Au it 2 rfl (by simp) ?_
           refine ACg (t:=111) rfl (fun h6=>?_) (fun h6=>by exfalso;omega)
           refine Bg rfl rfl (Dt 0 rfl rfl Bm rfl ?_)
           refine Au it 2 rfl (by simp) ?_
           refine Be [_,_,_,_,_,_,_,_,_,_,_] rfl ?_
           refine ACr rfl rfl (fun h7=>?_) (fun h7=>by exfalso;omega)
           refine Be [_,_,_,_,_,_,_,_,_,_,_] rfl ?_
           refine Au it 2 rfl (by simp) ?_ --ok
           simp only [setB,List.set_cons_zero,List.set_cons_succ]
           refine Ds 8 (i) 2 0 1 rfl rfl rfl rfl (by first|assumption|omega) (by first|rfl|assumption|(simp [A1,B6];done)|(simp [A1,B6];omega)) ?_
           simp only [List.eraseIdx_cons_zero,List.eraseIdx_cons_succ,List.take_succ_cons,List.take_zero,List.cons_append,List.nil_append]
           rw [Ix (Mk (by assumption) hin),show Gz (clr i) i (clr i i)=clr i from Ix rfl]
           have Dz:=fun {br ba bg bi bf bt:Nat}{cs:Nat→List Value}=>ADn (b:=b) (ng:=ng) (cg:=cg) (ce:=ce) (cl:=cl) (pg:=pg) (pe:=pe) (pl:=pl) (rh:=⟨some bh,caph,ch2⟩) (br:=br) (ba:=ba) (bg:=bg) (bi:=bi) (bf:=bf) (bt:=bt) (hd:=hd2) (cs:=cs) K z0 z1 hin htn hit hn hN (hclW i)
           refine Qu 8 [3,5,4,6,1,0,2,7] rfl rfl ?_
           simp only [List.cons_append,List.nil_append,List.drop_succ_cons,List.drop_zero]
           refine Ab rfl <| ABj rfl rfl (Wf 1 [8,9,10,7,0] rfl rfl (Dz) rfl ?_)
           rintro _ _ _ ⟨cs'1,rfl,rfl,rfl⟩
           simp only [List.cons_append,List.nil_append]
           refine wk 3 cz ?_
           simp only [List.take_succ_cons,List.take_zero,List.cons_append,List.nil_append]
           refine Fb (clr (i+1)) 1 rfl (fun g hg=>by
            by_cases e:g=i
            ·subst e;rw [Do,nxi,clt,cli]
            ·rw [Fh e,nxt g hg e]) ?_
           refine Rf 8 [6,0,2,1,3,7] [0,7,8,9,1,11,12,13] (by exact Zr rfl) rfl rfl rfl rfl (ihi (i+1,cs'1) (by dsimp only;omega) (by dsimp only;omega))
        ·obtain rfl:i=n:=by omega
         have eF:Jg rws pv.length c=some k:=AC7 hk1 (by omega) hz0 hk3
         have eC:N-c=N-(c+1)+1:=by omega
         rw [eC,Sg,Ea,eF] at hE1 hE2
         dsimp only at hE1 hE2
         refine wk 7 cz ?_
         intro h5 b7
         refine Ab rfl (Ik (z:=(↑c:Int)) 2 0 3 rfl rfl rfl rfl rfl Bj Hb rfl (fun w A hG=>(Bh (by first|(simp only [Bf];omega)|(simp [Bf];done)))) (by omega) _ Iy (by omega) fun r1=>?_)
         refine wk 4 cz ?_
         simp only [List.eraseIdx_cons_zero,List.eraseIdx_cons_succ]
         rw [show Bz pv++[(c:Int)]=Bz (pv++[c]) by simp [Bz]]
         refine Fb (A7 (Ny (Aq (fA p m)) (Aq (fM p (Cc m md))) (Gx p m) (Hr p m md) pv.length k c rws)) 1 rfl (fun g hg=>by
          rw [Tu (by omega)]
          show (if _ then _ else if _ then _ else _)=_
          by_cases e:g=pv.length
          ·rw [if_pos e,if_pos e,← hpr,Gy (by omega) (by omega)]
           have:A7 (Df rws pv.length k) pv.length=A7 rws k:=by
            rw [Gy (by omega) (by omega)]
            split
            ·rename_i e;rw [← e]
            ·rw [if_pos rfl]
           rw [Gy (by omega) (by omega)] at this
           rw [this]
          ·rw [if_neg e,if_neg e,if_pos hg,← hpr]
           have:A7 (Df rws pv.length k) pv.length=A7 rws k:=by
            rw [Gy (by omega) (by omega)]
            split
            ·rename_i e;rw [← e]
            ·rw [if_pos rfl]
           rw [this]) ?_
         have hpw:=O.piv_wd hM (t:=pv.length) (k:=k) (c:=c) (by omega) (by omega) hz0
         have ih':=ih (c+1,r1,d2,ch2,hd2,cs2,Ny (Aq (fA p m)) (Aq (fM p (Cc m md))) (Gx p m) (Hr p m md) pv.length k c rws,pv++[c]) (by dsimp only;omega) ⟨by dsimp only;omega,by dsimp only;rw [J1];exact hl,hpw,by dsimp only;rw [List.length_append,List.length_singleton];omega,⟨e0,e1⟩,by dsimp only;rw [List.length_append,List.length_singleton];exact hE1,by dsimp only;rw [List.length_append,List.length_singleton,List.append_assoc];exact hE2⟩
         dsimp only at ih'
         rw [List.length_append,List.length_singleton] at ih'
         refine Rf 7 [0,3,4,5,6] [1,6,0,7,8,9] (by exact Zr rfl) rfl rfl rfl rfl (ih')
       refine Hw 6 (pv.length) 0 (W) rfl rfl (by first|assumption|omega) (by first|rfl|assumption|(simp [A1,B6];done)|(simp [A1,B6];omega)) (by first|assumption|omega) fun r1 hr1=>?_
       simp only [List.take_succ_cons,List.take_zero,List.cons_append,List.nil_append]
       refine Eu 0 rfl (by omega) fun b9 cap9 cs9 h9=>?_
       subst h9
       obtain ⟨dm0,dm1⟩:=FF.ml d' _ d0' d1' a0 a1
       by_cases hv1:((iF (p ^ m) (fM p (Cc m md)) (en rws k c).toNat:Nat):Int)=1
       ·refine wk 1 cz ?_
        (apply Ch it mx 10;(· rfl);(· rfl))
        (apply Ac;(· rfl);(· exact Bn 5 rfl rfl AAC rfl))
        (apply Ae 1;(· rfl);(· simp))
        (apply Ac;(· rfl);(· exact Bn 4 rfl rfl M5 rfl))
        (apply Ac;(· rfl);(· exact Bn 1 rfl rfl Bm rfl))
        (apply Ac;(· rfl);(· exact Bi fun _=>Ah (pv.length) (pv.length) rfl rfl Fo rfl (by omega) (Nat.mul_one _) Af))
        (apply Ac;(· rfl);(· exact Hk 6 4 (pv.length) rfl rfl rfl Ez rfl (by assumption)))
        dsimp only
        (apply Ae 1;(· rfl);(· simp))
        (apply Ac;(· rfl);(· exact Bi fun _=>Ah (c) (c) rfl rfl Bj rfl (by omega) (Nat.mul_one _) Af))
        (apply Ac;(· rfl);(· exact A6 0 0 (c) rfl rfl rfl Bm rfl (by assumption)))
        (apply Ac;(· rfl);(· exact Bi fun _=>Ai [5,6,7] rfl (Cd (by omega) (by omega) (by omega) (by omega)) rfl (by rintro _ _ _ ⟨rfl,rfl,rfl⟩;exact Af)))
        refine B7 rfl ?_
        simp only [List.map_cons,List.map_nil,List.cons_append,List.nil_append]
        refine wk 2 cz ?_
        (apply Cy (x0:=none) it mx 0 13 [11] 1;(· rfl);(· rfl);(· rfl);(· decide))
        simp only [List.drop_zero]
        (apply Ac;(· rfl);(· exact Bn 5 rfl rfl AAC rfl))
        (apply Ac;(· rfl);(· exact Bn 4 rfl rfl M5 rfl))
        (apply Ac;(· rfl);(· exact Bn 1 rfl rfl Bm rfl))
        (apply Ac;(· rfl);(· exact Bi fun _=>Ah (pv.length) (pv.length) rfl rfl Fo rfl (by omega) (Nat.mul_one _) Af))
        (apply Ac;(· rfl);(· exact Hk 6 4 (pv.length) rfl rfl rfl Ez rfl (by assumption)))
        dsimp only
        (apply Ae 1;(· rfl);(· simp))
        (apply Ac;(· rfl);(· exact Bi fun _=>Ah (c) (c) rfl rfl Bj rfl (by omega) (Nat.mul_one _) Af))
        (apply Ac;(· rfl);(· exact A6 0 0 (c) rfl rfl rfl Bm rfl (by assumption)))
        (apply Ac;(· rfl);(· exact Bi fun _=>Ai [5,6,7] rfl (F6 (by omega) (by omega)) rfl (by rintro _ _ _ ⟨rfl,rfl,rfl⟩;exact Af)))
        (apply Ae 3;(· rfl);(· simp))
        (apply Ws;(· rfl);(· exact zo3);intro b7)
        refine Cz rfl ?_
        (rotate_left;rfl;rotate_right)
        simp only [List.map_cons,List.map_nil,List.cons_append,List.nil_append]
        refine C4 it rfl rfl ⟨⟨_,_,_,_,rfl,rfl,rfl,rfl,rfl,rfl,(by first|trivial|(repeat' first|exact trivial|apply And.intro|omega))⟩,trivial⟩ (Qd 0 rfl rfl rfl rfl Bm rfl (Nat.le_of_ble_eq_true rfl) ?_)
        refine Dw it ⟨⟨_,_,_,_,rfl,rfl,rfl,rfl,rfl,rfl,(by first|trivial|(repeat' first|exact trivial|apply And.intro|omega))⟩,trivial⟩ ?_
        refine wk 13 cz ?_
        intro h5 h6
        simp only [setB,List.set_cons_zero,List.set_cons_succ]
        refine Ds 7 (pv.length) 1 0 1 rfl rfl rfl rfl (by first|assumption|omega) (by first|rfl|assumption|(simp [A1,B6];done)|(simp [A1,B6];omega)) ?_
        simp only [List.eraseIdx_cons_zero,List.eraseIdx_cons_succ,List.take_succ_cons,List.take_zero,List.cons_append,List.nil_append]
        rw [Ix (Mk hr1 htn)]
        refine Fb (Gz (A7 (Df rws pv.length k)) pv.length (B3 (Aq (fM p (Cc m md))) ((iF (p ^ m) (fM p (Cc m md)) (en rws k c).toNat:Nat):Int) (A7 (Df rws pv.length k) pv.length))) 0 rfl (fun g hg=>by
         rw [hv1,AEV FF (hsW _ htn)]) ?_
        refine Rf 7 [1,2,3,4,5,6] [0,5,6,7,8,9] (by exact Zr rfl) rfl rfl rfl rfl (key2 (Aq (fM p (Cc m md)) d' (en rws k c)) ch' hd' (Gz cs' pv.length cs9) dm0 dm1)
       ·refine Be [_,_,_,_,_,_,_] rfl ?_
        (apply Ch it mx 10;(· rfl);(· rfl))
        (apply Ac;(· rfl);(· exact Bn 5 rfl rfl AAC rfl))
        (apply Ae 1;(· rfl);(· simp))
        (apply Ac;(· rfl);(· exact Bn 4 rfl rfl M5 rfl))
        (apply Ac;(· rfl);(· exact Bn 1 rfl rfl Bm rfl))
        (apply Ac;(· rfl);(· exact Bi fun _=>Ah (pv.length) (pv.length) rfl rfl Fo rfl (by omega) (Nat.mul_one _) Af))
        (apply Ac;(· rfl);(· exact Hk 6 4 (pv.length) rfl rfl rfl Ez rfl (by assumption)))
        dsimp only
        (apply Ae 1;(· rfl);(· simp))
        (apply Ac;(· rfl);(· exact Bi fun _=>Ah (c) (c) rfl rfl Bj rfl (by omega) (Nat.mul_one _) Af))
        (apply Ac;(· rfl);(· exact A6 0 0 (c) rfl rfl rfl Bm rfl (by assumption)))
        (apply Ac;(· rfl);(· exact Bi fun _=>Ai [5,6,7] rfl (Cd (by omega) (by omega) (by omega) (by omega)) rfl (by rintro _ _ _ ⟨rfl,rfl,rfl⟩;exact Af)))
        refine B7 rfl ?_
        simp only [List.map_cons,List.map_nil,List.cons_append,List.nil_append]
        refine Au it 1 rfl (by simp) ?_
        refine Be [_,_,_,_,_,_,_,_] rfl ?_
        (apply Cy (x0:=none) it mx 0 13 [11] 1;(· rfl);(· rfl);(· rfl);(· decide))
        simp only [List.drop_zero]
        (apply Ac;(· rfl);(· exact Bn 5 rfl rfl AAC rfl))
        (apply Ac;(· rfl);(· exact Bn 4 rfl rfl M5 rfl))
        (apply Ac;(· rfl);(· exact Bn 1 rfl rfl Bm rfl))
        (apply Ac;(· rfl);(· exact Bi fun _=>Ah (pv.length) (pv.length) rfl rfl Fo rfl (by omega) (Nat.mul_one _) Af))
        (apply Ac;(· rfl);(· exact Hk 6 4 (pv.length) rfl rfl rfl Ez rfl (by assumption)))
        dsimp only
        (apply Ae 1;(· rfl);(· simp))
        (apply Ac;(· rfl);(· exact Bi fun _=>Ah (c) (c) rfl rfl Bj rfl (by omega) (Nat.mul_one _) Af))
        (apply Ac;(· rfl);(· exact A6 0 0 (c) rfl rfl rfl Bm rfl (by assumption)))
        (apply Ac;(· rfl);(· exact Bi fun _=>Ai [5,6,7] rfl (F6 (by omega) (by omega)) rfl (by rintro _ _ _ ⟨rfl,rfl,rfl⟩;exact Af)))
        (apply Ae 3;(· rfl);(· simp))
        (apply Ws;(· rfl);(· exact zo3);intro b7)
        refine Cz rfl ?_
        (rotate_left;rfl;rotate_right)
        simp only [List.map_cons,List.map_nil,List.cons_append,List.nil_append]
        refine C4 it rfl rfl ⟨⟨_,_,_,_,rfl,rfl,rfl,rfl,rfl,rfl,(by first|trivial|(repeat' first|exact trivial|apply And.intro|omega))⟩,trivial⟩ (Qd 0 rfl rfl rfl rfl Bm rfl (Nat.le_of_ble_eq_true rfl) ?_)
        refine Dw it ⟨⟨_,_,_,_,rfl,rfl,rfl,rfl,rfl,rfl,(by first|trivial|(repeat' first|exact trivial|apply And.intro|omega))⟩,trivial⟩ ?_
        refine Au it 1 rfl (by simp) ?_
        refine Be [_,_,_,_,_,_,_,_] rfl ?_
        refine Au it 3 rfl (by simp) ?_
        refine Bp (t:=89) rfl (fun h5=>?_) (fun h5=>by exfalso;omega)
        refine Bg rfl rfl (Dt 0 rfl rfl Bm rfl ?_)
        refine Au it 2 rfl (by simp) ?_
        refine Be [_,_,_,_,_,_,_] rfl ?_
        refine ACr rfl rfl (fun h6=>?_) (fun h6=>by exfalso;omega)
        refine Be [_,_,_,_,_,_,_] rfl ?_
        refine Au it 2 rfl (by simp) ?_ --ok
        simp only [setB,List.set_cons_zero,List.set_cons_succ]
        refine Ds 7 (pv.length) 1 0 1 rfl rfl rfl rfl (by first|assumption|omega) (by first|rfl|assumption|(simp [A1,B6];done)|(simp [A1,B6];omega)) ?_
        simp only [List.eraseIdx_cons_zero,List.eraseIdx_cons_succ,List.take_succ_cons,List.take_zero,List.cons_append,List.nil_append]
        rw [Ix (Mk hr1 htn),show Gz (A7 (Df rws pv.length k)) pv.length (A7 (Df rws pv.length k) pv.length)=A7 (Df rws pv.length k) from Ix rfl]
        have Dz:=fun {br ba bg bv bt:Nat}{hd:Nat→Hd}{cs:Nat→List Value}=>ADV (b:=b) (ng:=ng) (cg:=cg) (ce:=ce) (cl:=cl) (pg:=pg) (pe:=pe) (pl:=pl) (rh:=⟨some bh,caph,ch'⟩) (br:=br) (ba:=ba) (bg:=bg) (bv:=bv) (bt:=bt) (hd:=hd) (cs:=cs) K v0 v1 htn hn hN hsW
        refine Qu 7 [2,4,3,5,0,1,6] rfl rfl ?_
        simp only [List.cons_append,List.nil_append,List.drop_succ_cons,List.drop_zero]
        refine Ab rfl <| ABj rfl rfl (Wf 1 [6,7,8,5,0] rfl rfl (Dz) rfl ?_)
        rintro _ _ _ ⟨ch'1,hd'1,cs'1,rfl,rfl,rfl⟩
        simp only [List.cons_append,List.nil_append]
        simp only [decide_true]
        refine wk 5 cz ?_
        simp only [List.take_succ_cons,List.take_zero,List.cons_append,List.nil_append]
        refine Rf 7 [5,0,2,1,3,6] [1,6,0,8,9,10] (by exact Zr rfl) rfl rfl rfl rfl (key2 (Aq (fM p (Cc m md)) d' (en rws k c)) ch'1 hd'1 cs'1 dm0 dm1)
      by_cases hkt:k=pv.length
      ·refine Fb (A7 (Df rws pv.length k)) 0 rfl (fun g hg=>by
        rw [Gy (by omega) (by omega),hkt]
        split
        ·rename_i e;rw [e]
        ·rfl) ?_
       refine wk 8 cz ?_
       intro h5 h6
       refine Mj 1 [.c (pL 128159),.blk 1,.c (pL 2003),.lp (pL 500),.blk 0,.c [1,1,1,1,1]] rfl ?_
       refine Rf 7 [1,2,3,4,5,6] [0,5,6,8,9,10] (by exact Zr rfl) rfl rfl rfl rfl (key d ch hd (Gz cs k cs1) hd0 hd1)
      ·have Dz:=fun {br ba:Nat}=>AE2 (rh:=⟨some bh,caph,ch⟩) (br:=br) (ba:=ba) (bk:=b5) (bt:=b4) (hd:=hd) (show pv.length<n by omega) hkn hn
       have Kx:=fun {b ng cg ne ce nl cl:Nat}{pg pe pl:Option Addr}=>Kv (b:=b) (ng:=ng) (cg:=cg) (ne:=ne) (ce:=ce) (nl:=nl) (cl:=cl) (pg:=pg) (pe:=pe) (pl:=pl) K.p2 K.m1 K.q hd0 hd1
       refine Be [_,_,_,_,_,_,_] rfl ?_
       refine M1 rfl rfl (fun h5=>by exfalso;omega) (fun h5=>?_)
       refine Be [_,_,_,_,_,_,_,_] rfl ?_
       refine Ab rfl (Dt 0 rfl rfl Bm rfl ?_)
       refine Ab rfl (Dt 1 rfl rfl Bm rfl ?_)
       refine Au it 1 rfl (by simp) ?_
       refine Be [_,_,_,_,_,_,_] rfl ?_
       refine ACr rfl rfl (fun h6=>?_) (fun h6=>by exfalso;omega)
       refine Be [_,_,_,_,_,_,_,_] rfl ?_
       refine Au it 2 rfl (by simp) ?_
       refine Qu 7 [4,3,0,1,6,2,5] rfl rfl ?_
       simp only [List.drop_succ_cons,List.drop_zero,List.cons_append,List.nil_append]
       refine Ab rfl <| ABj rfl rfl (F1 5 [5] rfl rfl (Dz) rfl ?_)
       rintro _ _ _ ⟨cs'1,rfl,rfl,rfl⟩
       simp only [List.cons_append,List.nil_append]
       try simp only [List.drop_succ_cons,List.drop_zero]
       have htn:pv.length<n:=hpl
       have hht:=hhd pv.length htn
       have hmb:B6 k [pv.length]=false:=by
        rw [A1,decide_eq_false hkt];rfl
       refine Hw 7 (pv.length) 1 (W) rfl rfl (by first|assumption|omega) (by first|rfl|assumption|(simp [A1,B6];done)|(simp [A1,B6];omega)) (by first|assumption|omega) fun r1 hr3=>?_
       simp only [List.take_succ_cons,List.take_zero,List.cons_append,List.nil_append]
       refine Hw 8 (k) 1 (W) rfl rfl (by first|assumption|omega) (by first|rfl|assumption|(simp [A1,B6];done)|(simp [A1,B6];omega)) (by first|assumption|omega) fun r2 hr4=>?_
       simp only [List.take_succ_cons,List.take_zero,List.cons_append,List.nil_append]
       refine Ds 8 k 1 2 1 rfl rfl rfl rfl hkn hmb ?_
       simp only [List.eraseIdx_cons_zero,List.eraseIdx_cons_succ,List.take_succ_cons,List.take_zero,List.cons_append,List.nil_append]
       refine Ds 7 pv.length 0 1 0 rfl rfl rfl rfl htn rfl ?_
       simp only [List.eraseIdx_cons_zero,List.eraseIdx_cons_succ,List.take_succ_cons,List.take_zero,List.cons_append,List.nil_append]
       have e1:hd pv.length=(r1.bo,W,r1.cap):=Mk (by assumption) htn
       have e2:hd k=(r2.bo,W,r2.cap):=Mk (by assumption) hkn
       rw [show Gz (Gz hd k (r1.bo,W,r1.cap)) pv.length (r2.bo,W,r2.cap)=Gz (Gz hd pv.length (hd k)) k (hd pv.length) from by
        rw [← e1,← e2]
        funext j
        by_cases g1:j=k
        ·subst g1
         rw [Do,Fh hkt,Do]
        ·rw [Fh g1]
         by_cases g2:j=pv.length
         ·rw [g2,Do,Do]
         ·rw [Fh g2,Fh g2,Fh g1]]
       refine Fb (A7 (Df rws pv.length k)) 0 rfl (fun g hg=>by
        rw [Gy (by omega) (by omega)]
        by_cases g1:g=k
        ·subst g1
         rw [if_pos rfl,Fh hkt,Do]
        ·rw [if_neg g1]
         by_cases g2:g=pv.length
         ·rw [if_pos g2,g2,Do]
         ·rw [if_neg g2,Fh g2,Fh g1]) ?_
       have hnl:=AEj (show 0<p by have:=K.p2;omega) m d.toNat
       refine wk 5 (ct @Kx cz) ?_
       refine Mj 1 [.c (pL 128159),.blk 1,.c (pL 2003),.lp (pL 500),.blk 0,.c [1,1,1,1,1]] rfl ?_
       refine Rf 7 [3,5,1,0,6,4] [0,12,7,15,16,17] (by exact Zr rfl) rfl rfl rfl rfl (key ((nP p m d.toNat:Nat):Int) cs'1 (Gz (Gz hd pv.length (hd k)) k (hd pv.length)) (Gz (Gz (Gz cs k cs1) k r1.cs) pv.length r2.cs) (Int.natCast_nonneg _) (Int.ofNat_lt.2 hnl))
    ·obtain rfl:k=n:=by omega
     have eC:N-c=N-(c+1)+1:=by omega
     have eF:Jg rws pv.length c=none:=ACv fun j h1 h2=>hk3 j h1 (by omega)
     rw [eC,Sg,Ea,eF] at hE1 hE2
     refine wk 20 cz ?_
     intro h3 h4
     refine Rf 7 [2,3,4,5,6] [1,2,0,4,5,6] (by exact Zr rfl) rfl rfl rfl rfl (ih (c+1,r,d,ch,hd,cs,rws,pv) (by dsimp only;omega) ⟨by dsimp only;omega,hl,hM,hpv,⟨hd0,hd1⟩,hE1,hE2⟩)
   ·have hpe:rws.length≤pv.length:=by omega
    rw [Sg,Ln _ _ _ _ hpe,List.append_nil] at hE2
    rw [Sg,Ln _ _ _ _ hpe] at hE1
    refine wk 16 cz ?_
    intro h1 h2
    obtain ⟨E1,E2⟩:=EE
    dsimp only at hE1 hE2
    subst hE1
    subst hE2
    refine B0 5 [0,4] [0,1,2] rfl (.tmp rfl (.tmp rfl .nil)) rfl rfl rfl ⟨r,ch,hd,cs,d,rfl,rfl,rfl⟩
  ·have e0:N-c=0:=by omega
   rw [e0] at hE1 hE2
   rw [Sg,Ea,List.append_nil] at hE2
   rw [Sg,Ea] at hE1
   refine wk 12 cz ?_
   intro h1
   obtain ⟨E1,E2⟩:=EE
   dsimp only at hE1 hE2
   subst hE1
   subst hE2
   refine B0 5 [0,4] [0,1,2] rfl (.tmp rfl (.tmp rfl .nil)) rfl rfl rfl ⟨r,ch,hd,cs,d,rfl,rfl,rfl⟩
theorem Uw {b p m n N ng cg ce cl:Nat}{pg pe pl:Option Addr}{rh:Row}{hd:Nat→Hd}{cs:Nat→List Value}{Aa:List (List Int)}{md:List Int}(K:Fok p m md) (hn:n≤1000000) (hN:N≤1000000) (hl:Aa.length=n) (hM:Fc (p ^ m) N Aa) :
  Br Tryz.prog 147 [.pointer (some ⟨b,0,none⟩),.slice (ad rh.bo) n rh.cap,.int .i64 N,.slice none 0 0] ((rh.bo,22,rh.cs)::D2 3 hd cs n [])
   [T0 b p m (p ^ m) pg ng cg pe (p ^ m-1) ce pl (p ^ m) cl,A2 Ak pe (p ^ m-1) ce (T8 p m md),A2 Ak pl (p ^ m) cl (Tt p m md),Aw Vv rh n (Ly hd n),Fp Ak hd cs (A7 Aa) n []]
   (ElQ rh n (Sg p m md N 0 0 Aa)) :=
 Uj K hn (Nat.le_refl N) hN hl hM
abbrev CnQ (E:List (List Int)×List Nat):Value→List Fact→List Bb→Prop:=fun v Φ β=>∃ (pb pp:Option Addr) (cb cp:Nat),v = .tuple #[.slice pb E.2.length cb,.slice pp E.2.length cp]
 ∧ Φ=[A2 (Ar Ak) pb E.2.length cb (E.1.take E.2.length),A2 Ak pp E.2.length cp (Bz E.2)]∧β=[]
theorem Yo {A M:Int→Int→Int}{N V:Int→Int}:∀ (n c t:Nat) (Aa:List (List Int)),t≤Aa.length→t+(Ea A M N V n c t Aa).2.length≤Aa.length
 | 0,_,_,_,h=>h
 | n+1,c,t,Aa,h=>by
  rw [Ea]
  cases hf:Jg Aa t c with
  | none=>exact Yo n (c+1) t Aa h
  | some k =>
   have h1:=(U4 hf)
   have h2:=Yo (A:=A) (M:=M) (N:=N) (V:=V) n (c+1) (t+1) (Ny A M N V t k c Aa) (by rw [J1];omega)
   rw [J1] at h2
   show t+(_::_).length≤_
   rw [List.length_cons];omega
theorem AAc {b p m n N c ng cg ce cl:Nat}{pg pe pl ps:Option Addr}{Aa:List (List Int)}{md:List Int}(K:Fok p m md) (hn:n≤1000000) (hN:N≤1000000) (hl:Aa.length=n) (hM:Fc (p ^ m) N Aa) :
  Br Tryz.prog 149 [.pointer (some ⟨b,0,none⟩),.slice ps n c,.int .i64 N] []
   [T0 b p m (p ^ m) pg ng cg pe (p ^ m-1) ce pl (p ^ m) cl,A2 Ak pe (p ^ m-1) ce (T8 p m md),A2 Ak pl (p ^ m) cl (Tt p m md),A2 (Ar Ak) ps n c Aa]
   (CnQ (Sg p m md N 0 0 Aa)):=by
 refine Ad (F:=Y1) rfl fun C=>?_
 have Uz:=fun {b ng cg ce cl:Nat}{pg pe pl:Option Addr}{rh:Row}{hd:Nat→Hd}{cs:Nat→List Value}=>Uw (b:=b) (ng:=ng) (cg:=cg) (ce:=ce) (cl:=cl) (pg:=pg) (pe:=pe) (pl:=pl) (rh:=rh) (hd:=hd) (cs:=cs) K hn hN hl hM
 have hEl:(Sg p m md N 0 0 Aa).1.length=n:=by rw [Sg,Xd,hl]
 have hEk:(Sg p m md N 0 0 Aa).2.length≤n:=by
  have:=Yo (A:=Aq (fA p m)) (M:=Aq (fM p (Cc m md))) (N:=Gx p m) (V:=Hr p m md) N 0 0 Aa (Nat.zero_le _)
  rw [Nat.zero_add,hl] at this;exact this
 have hEM:Fc (p ^ m) N (Sg p m md N 0 0 Aa).1:=((Y3 K).elim (m:=N) hM).1
 generalize Sg p m md N 0 0 Aa=E at *
 refine Be [_,_] rfl ?_
 refine Au it 2 rfl (by simp) ?_
 refine Be [_,_] rfl ?_
 refine Au it 1 rfl (by simp) ?_
 refine Ab rfl (Ai [3] rfl (Z8 (by omega)) rfl ?_)
 rintro _ _ _ ⟨r1,hd1,cs1,rfl,rfl,rfl⟩
 simp only [List.cons_append,List.nil_append]
 refine Au it 1 rfl (by simp) ?_
 refine Be [_,_] rfl ?_
 refine Au it 3 rfl (by simp) ?_ --ok
 simp only [List.append_nil]
 refine Ab rfl (Wf 0 [2,3,4,0,1] rfl rfl (Uz) rfl ?_)
 rintro _ _ _ ⟨r2,ch'1,hd'1,cs'1,d1,rfl,rfl,rfl⟩
 simp only [List.cons_append,List.nil_append]
 refine Au it 5 rfl (by simp) ?_
 refine Be [_,_] rfl ?_
 refine Au it 2 rfl (by simp) ?_
 refine Ab rfl (P1 Bj rfl ?_)
 refine Au it 1 rfl (by simp) ?_
 refine Ab rfl (P1 Bj rfl ?_) --ok
 simp only [List.take_zero,List.nil_append]
 refine Qz 2 rfl fun hlen=>?_
 refine AFN 2 1 1 2 rfl rfl rfl rfl (fun i hi=>by rw [hlen i hi rfl,(hEM.row (by omega)).1];show N*8≤_;omega) ?_
 simp only [List.take_succ_cons,List.take_zero]
 rw [show (List.range n).map (A7 E.1)=E.1 from by
  refine List.ext_getElem (by rw [List.length_map,List.length_range,hEl]) fun i h1 h2=>?_
  rw [List.getElem_map,List.getElem_range,A7,List.getD_eq_getElem?_getD,List.getElem?_eq_getElem h2];rfl]
 refine Ev 1 0 rfl rfl (by show n*24≤140737488355328;omega) ?_
 simp only [List.eraseIdx_cons_zero,List.eraseIdx_cons_succ]
 refine Ev 0 2 rfl rfl (by show E.2.length*8≤140737488355328;omega) ?_
 simp only [List.eraseIdx_cons_zero,List.eraseIdx_cons_succ]
 refine Bd 1 rfl fun _ _ hcap=>?_
 refine Ab rfl (ADX 1 (E.snd.length) (E.snd.length) rfl rfl rfl rfl Fo (by omega) (by omega) (by omega) (by omega) (by omega) ?_)
 refine wk 2 cz ?_
 refine Gl [0,1] rfl rfl rfl ⟨_,_,_,_,rfl,rfl,rfl⟩
abbrev Ry (p m:Nat) (md:List Int) (n:Nat) (Aa:List (List Int)):List (List Int)×List Nat:=cnE (Aq (fA p m)) (Aq (fM p (Cc m md))) (Gx p m) (Hr p m md) n Aa
theorem AHg {q N:Nat}{Aa:List (List Int)}(hN:N≤256) (hl:Aa.length≤256) (hM:Fc q N Aa):Wq (N:Int) Aa q=0:=by
 rw [Wq,if_neg (by omega),if_neg,if_pos fun r hr x hx=>(hM r hr).2 x hx]
 rintro ⟨r,hr,h⟩
 exact h (by rw [(hM r hr).1])
theorem ADI {q:Nat}{N:Int}{Aa:List (List Int)}(h:Wq N Aa q=0):∃ n:Nat,N=n∧n≤256∧Aa.length≤256∧Fc q n Aa:=by
 rw [Wq] at h
 by_cases h1:N<0∨256<N∨256<Aa.length
 ·rw [if_pos h1] at h;omega
 rw [if_neg h1] at h
 by_cases h2:∃ r∈Aa,(r.length:Int)≠N
 ·rw [if_pos h2] at h;omega
 rw [if_neg h2] at h
 by_cases h3:∀ r∈Aa,∀ x∈r,0≤x∧x<(q:Int)
 ·refine ⟨N.toNat,by omega,by omega,by omega,fun r hr=>⟨?_,h3 r hr⟩⟩
  have:=Classical.byContradiction fun h=>h2 ⟨r,hr,h⟩
  omega
 ·rw [if_neg h3] at h;omega
theorem AGD {q:Nat}{z:Int×List (List Int)}{e:Int}(h:Wq z.1 z.2 q=e):opE q [z]=e:=by
 rw [opE,opE]
 split
 ·omega
 ·exact h
abbrev CaQ (N:Nat) (E:List (List Int)×List Nat):Value→List Fact→List Bb→Prop:=fun v Φ β=>∃ (pb pp:Option Addr) (cb cp:Nat),v = .tuple #[.agg #[.int .i64 N,.slice pb E.2.length cb],.slice pp E.2.length cp,.int .i64 0]
 ∧ Φ=[A2 (Ar Ak) pb E.2.length cb E.1,A2 Ak pp E.2.length cp (Bz E.2)]∧β=[]
section
variable {p m n c nm cm:Nat}{pm ps:Option Addr}{md:List Int}{Aa:List (List Int)}
theorem Jf {N:Nat}(K:Fok p m md) (hN:N≤256) (hl:Aa.length≤256) (hM:Fc (p ^ m) N Aa) :
  Br Tryz.prog 125 [.agg #[.int .i64 p,.int .i64 m,.slice pm nm cm],.agg #[.int .i64 N,.slice ps n c]] [] [A2 Ak pm nm cm md,A2 (Ar Ak) ps n c Aa] (CaQ N (Ry p m md N Aa)):=by
 refine Ad (F:=L8) rfl fun C=>?_
 refine Bd 1 rfl fun hn hb _=>?_
 subst hn
 have Ob:=fun {pm ps:Option Addr}{nm cm n c:Nat}=>Xf (pm:=pm) (nm:=nm) (cm:=cm) (ps:=ps) (n:=n) (c:=c) (Ms:=[((N:Int),Aa)]) K (fun z hz=>by rw [List.mem_singleton.1 hz];simp only [Bf];omega) (AGD (AHg hN hl hM))
 have Yx:=fun {b ng cg ce cl c:Nat}{pg pe pl ps:Option Addr}=>AAc (b:=b) (ng:=ng) (cg:=cg) (ce:=ce) (cl:=cl) (pg:=pg) (pe:=pe) (pl:=pl) (ps:=ps) (c:=c) (n:=Aa.length) (Aa:=Aa) K (by omega) (show N≤1000000 by omega) rfl hM
 refine Be [_,_] rfl ?_
 refine Ab rfl (Lu rfl fun b1=>?_)
 refine Ab rfl (Lu rfl fun b2=>?_)
 refine Ab rfl (Qh AGg fun b3=>?_)
 refine Au it 2 rfl (by simp) ?_
 refine Be [_,_] rfl ?_
 refine Ab rfl (Jp 2 rfl rfl AAm rfl ?_)
 refine Ab rfl (Jp 1 rfl rfl ABA rfl ?_)
 refine Ab rfl (ACX AKN AJq rfl rfl rfl rfl (by decide) (by decide) rfl fun b4=>?_)
 refine AAX (E:=AHa) (n:=1) [[Value.int IntKind.i64 ↑N,Value.slice ps Aa.length c]] [((↑N:Int),Aa)] 0 (fun w A hG=>(Ji (ABu (v1:=[Value.int IntKind.i64 ↑N]) (Bh (by first|(simp only [Bf];omega)|(simp [Bf];done)|assumption)) (Ew (hG _ (Al (n:=1) rfl)))) D5)) rfl rfl rfl rfl (by first|decide|exact Nat.le_of_ble_eq_true rfl) (by first|decide|exact Nat.le_of_ble_eq_true rfl) ?_
 refine Ab rfl (Ai [1,0] rfl (Ob) rfl ?_)
 rintro _ _ _ ⟨b5,pg1,cg1,pe1,ce1,pl1,cl1,rfl,rfl,rfl⟩
 simp only [List.cons_append,List.nil_append]
 refine Au it 5 rfl (by simp) ?_
 refine Be [_,_,_] rfl ?_
 refine Au it 2 rfl (by simp) ?_
 refine Be [_,_] rfl ?_
 refine ACr rfl rfl (fun h1=>by exfalso;omega) (fun h1=>?_)
 refine Be [_,_] rfl ?_
 refine Au it 1 rfl (by simp) ?_
 refine Ab rfl (A3 rfl ADz ?_)
 refine Ab rfl (Dt 1 rfl rfl M5 rfl ?_)
 refine Ab rfl (A3 rfl AHc ?_)
 refine Ab rfl (Dt 1 rfl rfl Bm rfl ?_)
 refine Ab rfl (Ai [0,2,3,6] rfl (Yx) rfl ?_)
 rintro _ _ _ ⟨pb1,pp1,cb1,cp1,rfl,rfl,rfl⟩
 simp only [List.cons_append,List.nil_append]
 simp only [decide_true]
 refine Au it 5 rfl (by simp) ?_
 refine Be [_,_] rfl ?_
 refine Ab rfl (A3 rfl AHc ?_)
 refine Ab rfl (Dt 1 rfl rfl Bm rfl ?_)
 refine Au it 1 rfl (by simp) ?_
 refine Ab rfl (Tq (cs:=[Value.int IntKind.i64 ↑N,Value.slice pb1 (Sg p m md N 0 0 Aa).snd.length cb1]) AKG AGg rfl rfl ?_)
 refine Au it 1 rfl (by simp) ?_
 refine Ab rfl (Oo 0 rfl rfl rfl ABA rfl rfl (by simp [Value.oneCell']) ?_)
 refine Au it 2 rfl (by simp) ?_
 refine Be [_] rfl ?_
 refine Tg [0,1] rfl (.agg 0 rfl rfl ABA rfl (.tmp rfl (.tmp rfl .nil))) rfl ⟨_,_,_,_,rfl,rfl,rfl⟩
theorem Q2 {N e:Int}(K:Fok p m md) (hN:Bf .i64 N) (h:Wq N Aa (p ^ m)=e) (he:e≠0) :
  Br Tryz.prog 125 [.agg #[.int .i64 p,.int .i64 m,.slice pm nm cm],.agg #[.int .i64 N,.slice ps n c]] [] [A2 Ak pm nm cm md,A2 (Ar Ak) ps n c Aa] (Rv (.tuple #[.agg #[.int .i64 0,.slice none 0 0],.slice none 0 0,.int .i64 e]) []):=by
 refine Ad (F:=L8) rfl fun C=>?_
 have hr:=T7 N Aa (p ^ m)
 have Ob:=fun {pm ps:Option Addr}{nm cm n c:Nat}=>Wi (pm:=pm) (nm:=nm) (cm:=cm) (ps:=ps) (n:=n) (c:=c) (Ms:=[(N,Aa)]) K (fun z hz=>by rw [List.mem_singleton.1 hz];exact hN) (AGD h) he
 refine wk 9 cz ?_
 intro b1 b2 b3 b4
 refine AAX (E:=AHa) (n:=1) [[Value.int IntKind.i64 N,Value.slice ps n c]] [((N:Int),Aa)] 0 (fun w A hG=>(Ji (ABu (v1:=[Value.int IntKind.i64 N]) (Bh (by first|(simp only [Bf];omega)|(simp [Bf];done)|assumption)) (Ew (hG _ (Al (n:=1) rfl)))) D5)) rfl rfl rfl rfl (by first|decide|exact Nat.le_of_ble_eq_true rfl) (by first|decide|exact Nat.le_of_ble_eq_true rfl) ?_
 refine wk 12 (ct @Ob cz) ?_
 intro h1
 refine Tg [] rfl (.agg 0 rfl rfl ABA rfl (.tmp rfl (.tmp rfl .nil))) rfl ⟨rfl,rfl,rfl⟩
end
open Go Go.Fw
set_option maxRecDepth 100000
set_option linter.unusedVariables false
set_option linter.unusedSimpArgs false
set_option maxHeartbeats 0
theorem Wy {pm:Option Addr}{nm cm p m:Nat}{md:List Int}(K:Fok p m md):Br Tryz.prog 55 [.agg #[.int .i64 p,.int .i64 m,.slice pm nm cm]] [] [A2 Ak pm nm cm md] (Rv (.int .i64 0) []):=by
 refine Ad (F:=Um) rfl fun C=>?_
 have Fa:=fun {pm:Option Addr}{nm cm:Nat}=>Jy (P:=(p:Int)) (M:=(m:Int)) (pm:=pm) (nm:=nm) (cm:=cm) (md:=md) (res:=true) ⟨fun _=>AEL (Yj K),fun _=>rfl⟩
 have Hf:=Du K.ord
 have hx:=W7 ((Q6 K.shp K.pr).2 K)
 have E6:=fun {nm cm:Nat}{pm:Option Addr}=>Ih (nm:=nm) (cm:=cm) (pm:=pm) K.shp rfl hx.1 hx.2.1 hx.2.2.1 hx.2.2.2
 generalize p ^ m=q at *
 refine wk 4 cz ?_
 intro b1
 (apply Ch it mx 13;(· rfl);(· rfl))
 (apply Ac;(· rfl);(· exact B2 0 rfl rfl AAm rfl))
 (apply Ac;(· rfl);(· exact Bi fun _=>Ai [0] rfl (Fa) rfl (by rintro _ _ _ ⟨rfl,rfl,rfl⟩;exact Af)))
 (apply Ae 2;(· rfl);(· simp))
 (apply Ac;(· rfl);(· exact B2 0 rfl rfl AAm rfl))
 (apply Ac;(· rfl);(· exact Bi fun _=>A3 rfl U9 Af))
 (apply Ac;(· rfl);(· exact Bn 0 rfl rfl Bm rfl))
 (apply Ac;(· rfl);(· exact Bi fun _=>A3 rfl Xq Af))
 (apply Ac;(· rfl);(· exact Bn 0 rfl rfl Bm rfl))
 (apply Ac;(· rfl);(· exact Bi fun _=>Ai [] rfl (Hf) rfl (by rintro _ _ _ ⟨rfl,rfl,rfl⟩;exact Af)))
 (apply Sy (val:=(fun g=>Value.slice (some { block:=(g 0).snd.fst,off:=(g 1).snd.fst }) (q-1) (g 2).snd.fst)) (f:=(fun g=>[A2 Ak (some { block:=(g 0).snd.fst,off:=(g 1).snd.fst }) (q-1) (g 2).snd.fst (Yc q (fM p (Cc m md)) (gnX q (fM p (Cc m md))))]));(· rfl);(· exact Bi fun _=>Ai [0] rfl (E6) rfl (by rintro _ _ _ ⟨bg0,og1,cag2,rfl,rfl,rfl⟩;exact fun _ _ _ hG=>⟨(fun|0=>(none,bg0,0,[])|1=>(none,og1,0,[])|2=>(none,cag2,0,[])|_=>default),rfl,fun g hg=>Ip (hG _ (List.mem_append_left _ hg))⟩));intro g1;dsimp only [List.map_cons,List.map_nil])
 (apply Ac;(· rfl);(· exact Bi fun _=>Vu Bj rfl rfl Af))
 (apply Ae 1;(· rfl);(· simp))
 refine B7 rfl ?_
 simp only [List.map_cons,List.map_nil,List.cons_append,List.nil_append]
 refine wk 5 cz ?_
 exact ge
theorem Wn {pm:Option Addr}{nm cm:Nat}{P M:Int}{md:List Int}(h:¬ Vs P M md):Br Tryz.prog 55 [.agg #[.int .i64 P,.int .i64 M,.slice pm nm cm]] [] [A2 Ak pm nm cm md] (Rv (.int .i64 1) []):=by
 refine Ad (F:=Um) rfl fun C=>?_
 by_cases hs:AGZ P M md
 ·obtain ⟨p,m,rfl,rfl,K,hp⟩:=AJf hs
  have hno:∀ y,1≤y→y<p ^ m→¬ Nf (p ^ m) (fM p (Cc m md)) y:=fun y h1 h2 h3=>h (Yj ((Q6 K hp).1 ⟨y,h1,h2,h3⟩))
  have Fa:=fun {pm:Option Addr}{nm cm:Nat}=>Jy (P:=(p:Int)) (M:=(m:Int)) (pm:=pm) (nm:=nm) (cm:=cm) (md:=md) (res:=true) ⟨fun _=>hs,fun _=>rfl⟩
  have ho:Jb (p:Int) (m:Int)=((p ^ m:Nat):Int):=by rw [Jb,if_pos hs.1,Int.toNat_natCast,Int.toNat_natCast]
  have Hf:=Du ho
  have E6:=fun {nm cm:Nat}{pm:Option Addr}=>Qx (nm:=nm) (cm:=cm) (pm:=pm) K rfl hno
  generalize p ^ m=q at *
  refine wk 4 cz ?_
  intro b1
  (apply Ch it mx 13;(· rfl);(· rfl))
  (apply Ac;(· rfl);(· exact B2 0 rfl rfl AAm rfl))
  (apply Ac;(· rfl);(· exact Bi fun _=>Ai [0] rfl (Fa) rfl (by rintro _ _ _ ⟨rfl,rfl,rfl⟩;exact Af)))
  (apply Ae 2;(· rfl);(· simp))
  (apply Ac;(· rfl);(· exact B2 0 rfl rfl AAm rfl))
  (apply Ac;(· rfl);(· exact Bi fun _=>A3 rfl U9 Af))
  (apply Ac;(· rfl);(· exact Bn 0 rfl rfl Bm rfl))
  (apply Ac;(· rfl);(· exact Bi fun _=>A3 rfl Xq Af))
  (apply Ac;(· rfl);(· exact Bn 0 rfl rfl Bm rfl))
  (apply Ac;(· rfl);(· exact Bi fun _=>Ai [] rfl (Hf) rfl (by rintro _ _ _ ⟨rfl,rfl,rfl⟩;exact Af)))
  (apply Ac;(· rfl);(· exact Bi fun _=>Ai [0] rfl (E6) rfl (by rintro _ _ _ ⟨rfl,rfl,rfl⟩;exact Af)))
  (apply Ac;(· rfl);(· exact Bi fun _=>Za Bj rfl rfl Af))
  (apply Ae 1;(· rfl);(· simp))
  refine B7 rfl ?_
  simp only [List.map_cons,List.map_nil,List.cons_append,List.nil_append]
  refine wk 5 cz ?_
  exact ge
 ·have Fa:=fun {pm:Option Addr}{nm cm:Nat}=>Jy (P:=P) (M:=M) (pm:=pm) (nm:=nm) (cm:=cm) (md:=md) (res:=false) ⟨fun e=>Bool.noConfusion e,fun e=>absurd e hs⟩
  refine wk 10 (ct @Fa cz) ?_
  intro b1
  exact ge
theorem Uo {n e:Int}(h:(if n<1∨64<n then 4 else 0)=e):Br Tryz.prog 56 [.int .i64 n] [] [] (Rv (.int .i64 e) []):=by
 refine Ad (F:=AAu) rfl fun C=>?_
 by_cases h1:n<1
 ·rw [if_pos (.inl h1)] at h
  subst h
  refine wk 13 cz ?_
  intro h2
  exact ge
 ·by_cases h2:64<n
  ·rw [if_pos (.inr h2)] at h
   subst h
   refine wk 13 cz ?_
   intro h3 h4
   exact ge
  ·rw [if_neg (by omega)] at h
   subst h
   refine wk 13 cz ?_
   intro h3 h4
   exact ge
theorem ADA {P M N:Int}{pm ps:Option Addr}{nm cm n c:Nat}:Br Tryz.prog 58 [.agg #[.int .i64 P,.int .i64 M,.slice pm nm cm,.int .i64 N,.slice ps n c]] [] [] (Rv (.agg #[.int .i64 N,.slice ps n c]) []):=by
 refine Ad (F:=ADB) rfl fun C=>?_
 refine Be [_,_] rfl ?_
 refine Ab rfl (Lu rfl fun b1=>?_)
 refine Ab rfl (Qh AGg fun b2=>?_)
 refine Be [_,_] rfl ?_
 refine Ab rfl (A3 rfl S9 ?_)
 refine Ab rfl (Dt 1 rfl rfl Bm rfl ?_)
 refine Ab rfl (A3 rfl ADH ?_)
 refine Ab rfl (Dt 1 rfl rfl M5 rfl ?_)
 refine Ab rfl (Tq (cs:=[Value.int IntKind.i64 N,Value.slice ps n c]) AKG AGg rfl rfl ?_)
 refine Ab rfl (Oo 0 rfl rfl rfl ABA rfl rfl (by simp [Value.oneCell']) ?_)
 refine Be [_] rfl ?_
 refine Tg [] rfl (.agg 0 rfl rfl ABA rfl .nil) rfl ⟨rfl,rfl,rfl⟩
section
variable {p m n c nm cm:Nat}{pm ps:Option Addr}{md:List Int}{Aa:List (List Int)}
noncomputable abbrev OpQ (p m:Nat) (md:List Int) (N:Nat) (Aa:List (List Int)) (ps:Option Addr) (c:Nat):Value→List Fact→List Bb→Prop:=fun v Φ β=>∃ (b:Nat) (pg:Option Addr) (cg:Nat) (pe:Option Addr) (ce:Nat) (pl:Option Addr) (cl:Nat) (pp:Option Addr) (cp:Nat),
 v = .tuple #[.agg #[.pointer (some ⟨b,0,none⟩),.int .i64 N,.slice ps Aa.length c,.slice pp (Ry p m md N Aa).2.length cp],.int .i64 0]
 ∧ Φ=A2 Ak pp (Ry p m md N Aa).2.length cp (Bz (Ry p m md N Aa).2)::gfL p m md b pg cg pe ce pl cl∧β=[]
theorem X1 {N:Nat}(K:Fok p m md) (hN:N≤256) (hl:Aa.length≤256) (hM:Fc (p ^ m) N Aa) (hc:(Ry p m md N Aa).1=Aa) :
  Br Tryz.prog 90 [.agg #[.int .i64 p,.int .i64 m,.slice pm nm cm],.agg #[.int .i64 N,.slice ps n c]] [] [A2 Ak pm nm cm md,A2 (Ar Ak) ps n c Aa] (OpQ p m md N Aa ps c):=by
 refine Ad (F:=Qg) rfl fun C=>?_
 refine Bd 1 rfl fun hn hb _=>?_
 subst hn
 have hb':Aa.length*24≤140737488355328:=hb
 have Gs:=fun {pm:Option Addr}{nm cm:Nat}=>I0 (pm:=pm) (nm:=nm) (cm:=cm) K
 have El:=fun {pm ps:Option Addr}{nm cm n c:Nat}=>Jf (pm:=pm) (nm:=nm) (cm:=cm) (ps:=ps) (n:=n) (c:=c) (Aa:=Aa) K hN hl hM
 have hd:decide ((Ry p m md N Aa).1=Aa)=true:=decide_eq_true hc
 refine Be [_,_] rfl ?_
 refine Ab rfl (Lu rfl fun b1=>?_)
 refine Ab rfl (Lu rfl fun b2=>?_)
 refine Ab rfl (Qh AIT fun b3=>?_)
 refine Au it 1 rfl (by simp) ?_
 refine Be [_,_] rfl ?_
 refine Ab rfl (Jp 2 rfl rfl AAm rfl ?_)
 refine Ab rfl (Jp 1 rfl rfl ABA rfl ?_)
 refine Ab rfl (Ai [0,1] rfl (El) rfl ?_)
 rintro _ _ _ ⟨pb1,pp1,cb1,cp1,rfl,rfl,rfl⟩
 simp only [List.cons_append,List.nil_append]
 refine Au it 4 rfl (by simp) ?_
 refine Ab rfl (Qh AGg fun b4=>?_)
 refine Ab rfl (Oo 0 rfl rfl rfl ABA rfl rfl (by simp [Value.oneCell']) ?_)
 refine Au it 2 rfl (by simp) ?_
 refine Be [_,_,_] rfl ?_
 refine Au it 2 rfl (by simp) ?_
 refine Be [_,_] rfl ?_
 refine ACr rfl rfl (fun h1=>by exfalso;omega) (fun h1=>?_)
 refine Be [_,_,_] rfl ?_
 refine Ab rfl (A3 rfl ADz ?_)
 refine Ab rfl (Dt 0 rfl rfl M5 rfl ?_)
 refine Ab rfl (A3 rfl ADz ?_)
 refine Ab rfl (Dt 2 rfl rfl M5 rfl ?_)
 refine Ab rfl (Ai [0,3] rfl (C1 (by omega)) rfl ?_)
 rintro _ _ _ ⟨rfl,rfl,rfl⟩
 simp only [List.cons_append,List.nil_append]
 simp only [decide_true]
 refine Au it 1 rfl (by simp) ?_
 refine Be [_,_] rfl ?_
 refine T5 rfl rfl ?_
 refine Be [_,_] rfl ?_
 refine Ab rfl (Jp 3 rfl rfl AAm rfl ?_)
 refine Ab rfl (Ai [2] rfl (Gs) rfl ?_)
 rintro _ _ _ ⟨b5,pg1,cg1,pe1,ce1,pl1,cl1,rfl,rfl,rfl⟩
 simp only [List.cons_append,List.nil_append]
 refine Au it 5 rfl (by simp) ?_
 refine Be [_,_] rfl ?_
 refine Au it 1 rfl (by simp) ?_
 refine Ab rfl (Jp 2 rfl rfl ABA rfl ?_)
 refine Au it 1 rfl (by simp) ?_
 refine Ab rfl (Tq (cs:=[Value.pointer (some { block:=b5,off:=0 }),Value.int IntKind.i64 ↑N,Value.slice ps Aa.length c,Value.slice pp1 (Ry p m md N Aa).snd.length cp1]) AKk AIT rfl rfl ?_)
 refine Au it 1 rfl (by simp) ?_
 refine Ab rfl (Oo 1 rfl rfl rfl AEh rfl rfl (by simp [Value.oneCell']) ?_)
 refine Au it 1 rfl (by simp) ?_
 refine Be [_] rfl ?_
 refine Tg [5,0,1,2,3] rfl (.agg 1 rfl rfl AEh rfl (.tmp rfl .nil)) rfl ⟨_,_,_,_,_,_,_,_,_,rfl,rfl,rfl⟩
theorem Vy {N:Nat}(K:Fok p m md) (hN:N≤256) (hl:Aa.length≤256) (hM:Fc (p ^ m) N Aa) (hc:(Ry p m md N Aa).1≠Aa) :
  Br Tryz.prog 90 [.agg #[.int .i64 p,.int .i64 m,.slice pm nm cm],.agg #[.int .i64 N,.slice ps n c]] [] [A2 Ak pm nm cm md,A2 (Ar Ak) ps n c Aa] (Rv (.tuple #[.agg #[.pointer none,.int .i64 0,.slice none 0 0,.slice none 0 0],.int .i64 5]) []):=by
 refine Ad (F:=Qg) rfl fun C=>?_
 refine Bd 1 rfl fun hn hb _=>?_
 subst hn
 have hb':Aa.length*24≤140737488355328:=hb
 have El:=fun {pm ps:Option Addr}{nm cm n c:Nat}=>Jf (pm:=pm) (nm:=nm) (cm:=cm) (ps:=ps) (n:=n) (c:=c) (Aa:=Aa) K hN hl hM
 have hd:decide ((Ry p m md N Aa).1=Aa)=false:=decide_eq_false hc
 refine wk 31 (ct @El (ct @C1 cz)) ?_
 intro b1 b2 b3 pb1 pp1 cb1 cp1 b4 h1
 refine Tg [] rfl (.agg 1 rfl rfl AEh rfl (.tmp rfl .nil)) rfl ⟨rfl,rfl,rfl⟩
theorem Xl {N e:Int}(K:Fok p m md) (hN:Bf .i64 N) (h:Wq N Aa (p ^ m)=e) (he:e≠0) :
  Br Tryz.prog 90 [.agg #[.int .i64 p,.int .i64 m,.slice pm nm cm],.agg #[.int .i64 N,.slice ps n c]] [] [A2 Ak pm nm cm md,A2 (Ar Ak) ps n c Aa] (Rv (.tuple #[.agg #[.pointer none,.int .i64 0,.slice none 0 0,.slice none 0 0],.int .i64 e]) []):=by
 refine Ad (F:=Qg) rfl fun C=>?_
 have hr:=T7 N Aa (p ^ m)
 have El:=fun {pm ps:Option Addr}{nm cm n c:Nat}=>Q2 (pm:=pm) (nm:=nm) (cm:=cm) (ps:=ps) (n:=n) (c:=c) (Aa:=Aa) K hN h he
 refine wk 23 (ct @El cz) ?_
 intro b1 b2 b3 b4 h1
 refine Tg [] rfl (.agg 1 rfl rfl AEh rfl (.tmp rfl .nil)) rfl ⟨rfl,rfl,rfl⟩
def spE (p m:Nat) (md:List Int) (N:Int) (Aa:List (List Int)):Int:=if Wq N Aa (p ^ m)≠0 then Wq N Aa (p ^ m) else if (Ry p m md N.toNat Aa).1=Aa then 0 else 5
theorem AAn {N e:Int}(K:Fok p m md) (hN:Bf .i64 N) (h:spE p m md N Aa=e) :
  Br Tryz.prog 57 [.agg #[.int .i64 p,.int .i64 m,.slice pm nm cm],.agg #[.int .i64 N,.slice ps n c]] [] [A2 Ak pm nm cm md,A2 (Ar Ak) ps n c Aa] (Rv (.int .i64 e) []):=by
 refine Ad (F:=AAA) rfl fun C=>?_
 have hr:=T7 N Aa (p ^ m)
 refine Bd 1 rfl fun hn hb _=>?_
 subst hn
 rw [spE] at h
 by_cases h0:Wq N Aa (p ^ m)=0
 ·rw [if_neg (by omega)] at h
  obtain ⟨k,rfl,hk,hl,hM⟩:=ADI h0
  rw [Int.toNat_natCast] at h
  by_cases hc:(Ry p m md k Aa).1=Aa
  ·rw [if_pos hc] at h
   subst h
   have Iv:=fun {pm ps:Option Addr}{nm cm n c:Nat}=>X1 (pm:=pm) (nm:=nm) (cm:=cm) (ps:=ps) (n:=n) (c:=c) (Aa:=Aa) K hk hl hM hc
   refine wk 15 (ct @Iv cz) ?_
   intro b1 b2 b3 pg1 cg1 pe1 ce1 pl1 cl1 pp1 cp1 b4
   exact ge
  ·rw [if_neg hc] at h
   subst h
   have Iv:=fun {pm ps:Option Addr}{nm cm n c:Nat}=>Vy (pm:=pm) (nm:=nm) (cm:=cm) (ps:=ps) (n:=n) (c:=c) (Aa:=Aa) K hk hl hM hc
   refine wk 15 (ct @Iv cz) ?_
   intro b1 b2 b3
   exact ge
 ·rw [if_pos h0] at h
  subst h
  have Iv:=fun {pm ps:Option Addr}{nm cm n c:Nat}=>Xl (pm:=pm) (nm:=nm) (cm:=cm) (ps:=ps) (n:=n) (c:=c) (Aa:=Aa) K hN rfl h0
  refine wk 15 (ct @Iv cz) ?_
  intro b1 b2 b3
  exact ge
end
noncomputable def Xw (P M:Int) (md:List Int) (N:Int) (Aa:List (List Int)):Int :=
 open Classical in if ¬ Vs P M md then 1 else if N<1∨64<N then 4 else spE P.toNat M.toNat md N Aa
theorem Q3 {P M N e:Int}{pm ps:Option Addr}{nm cm n c:Nat}{md:List Int}{Aa:List (List Int)}(hN:Bf .i64 N) (h:Xw P M md N Aa=e) :
  Br Tryz.prog 26 [.agg #[.int .i64 P,.int .i64 M,.slice pm nm cm,.int .i64 N,.slice ps n c]] [] [A2 Ak pm nm cm md,A2 (Ar Ak) ps n c Aa] (Rv (.int .i64 e) []):=by
 refine Ad (F:=ABS) rfl fun C=>?_
 rw [Xw] at h
 by_cases hc:Vs P M md
 ·rw [if_neg (fun h=>h hc)] at h
  obtain ⟨p,m,rfl,rfl,K⟩:=Zf hc
  rw [Int.toNat_natCast,Int.toNat_natCast] at h
  have J0:=fun {pm:Option Addr}{nm cm:Nat}=>Wy (pm:=pm) (nm:=nm) (cm:=cm) K
  by_cases h1:N<1∨64<N
  ·rw [if_pos h1] at h
   subst h
   have Od:=Uo (n:=N) (if_pos h1)
   refine wk 22 (ct @J0 (ct @Od cz)) ?_
   intro b1 h2 h3
   exact ge
  ·rw [if_neg h1] at h
   have Od:=Uo (n:=N) (if_neg h1)
   have AAy:=fun {pm ps:Option Addr}{nm cm n c:Nat}=>AAn (pm:=pm) (nm:=nm) (cm:=cm) (ps:=ps) (n:=n) (c:=c) (Aa:=Aa) K hN h
   refine wk 23 (ct @J0 (ct @Od (ct @ADA (ct @AAy cz)))) ?_
   intro b1 h2 h3
   exact ge
 ·rw [if_pos hc] at h
  subst h
  have J0:=fun {pm:Option Addr}{nm cm:Nat}=>Wn (pm:=pm) (nm:=nm) (cm:=cm) hc
  refine wk 13 (ct @J0 cz) ?_
  intro b1 h1
  exact ge
structure Cok (p m:Nat) (md:List Int) (n:Nat) (Aa:List (List Int)):Prop where
 K:Fok p m md
 n1:1≤n
 n64:n≤64
 mat:Fc (p ^ m) n Aa
 can:(Ry p m md n Aa).1=Aa
theorem Cok.red {p m n:Nat}{md:List Int}{Aa:List (List Int)}(h:Cok p m md n Aa):Red (p ^ m) n Aa (Ry p m md n Aa).2∧Aa.length=(Ry p m md n Aa).2.length:=by
 have O:=Y3 h.K
 have h1:Red (p ^ m) n (Ry p m md n Aa).1 (Ry p m md n Aa).2:=(O.cn h.mat).1
 have h2:(Ry p m md n Aa).1.length=(Ry p m md n Aa).2.length:=O.cn_len h.mat
 rw [h.can] at h1 h2
 exact ⟨h1,h2⟩
theorem Cok.len {p m n:Nat}{md:List Int}{Aa:List (List Int)}(h:Cok p m md n Aa):Aa.length≤64:=by
 obtain ⟨h1,h2⟩:=h.red
 have:=h1.piv_le
 have:=h.n64
 omega
theorem ACs {P M N:Int}{md:List Int}{Aa:List (List Int)}(h:Xw P M md N Aa=0):∃ p m n:Nat,P=p∧M=m∧N=n∧Cok p m md n Aa:=by
 rw [Xw] at h
 by_cases hc:Vs P M md
 ·rw [if_neg (fun h=>h hc)] at h
  obtain ⟨p,m,rfl,rfl,K⟩:=Zf hc
  rw [Int.toNat_natCast,Int.toNat_natCast] at h
  by_cases h1:N<1∨64<N
  ·rw [if_pos h1] at h;omega
  ·rw [if_neg h1,spE] at h
   by_cases h0:Wq N Aa (p ^ m)=0
   ·rw [if_neg (by omega)] at h
    obtain ⟨k,rfl,hk,hl,hM⟩:=ADI h0
    rw [Int.toNat_natCast] at h
    by_cases hcn:(Ry p m md k Aa).1=Aa
    ·exact ⟨p,m,k,rfl,rfl,rfl,K,by omega,by omega,hM,hcn⟩
    ·rw [if_neg hcn] at h;omega
   ·rw [if_pos h0] at h;omega
 ·rw [if_pos hc] at h;omega
theorem Cok.ck {p m n:Nat}{md:List Int}{Aa:List (List Int)}(h:Cok p m md n Aa):Xw p m md n Aa=0:=by
 have hl:=h.len
 have h1:=h.n1
 have h2:=h.n64
 rw [Xw,if_neg (fun e=>e (Yj h.K)),if_neg (by omega),Int.toNat_natCast,Int.toNat_natCast,spE,AHg (by omega) (by omega) h.mat,if_neg (by omega),Int.toNat_natCast,if_pos h.can]
theorem Nl (P M:Int) (md:List Int) (N:Int) (Aa:List (List Int)):0≤Xw P M md N Aa∧Xw P M md N Aa≤5:=by
 rw [Xw]
 split
 ·omega
 ·split
  ·omega
  ·have:=T7 N Aa (P.toNat ^ M.toNat)
   rw [spE]
   repeat' split
   all_goals omega
open Go Go.Fw
set_option maxRecDepth 100000
set_option linter.unusedVariables false
set_option linter.unusedSimpArgs false
set_option maxHeartbeats 0
theorem Rg {α:Type} [Inhabited α] {l:List α}{i:Nat}{x:α}(h:l[i]?=some x):l.getD i default=x:=by rw [List.getD_eq_getElem?_getD,h];rfl
theorem Na {p m nm cm n c:Nat}{pm ps:Option Addr}{md l:List Int}(K:Fok p m md):Br Tryz.prog 41 [.agg #[.int .i64 p,.int .i64 m,.slice pm nm cm],.slice ps n c] [] [A2 Ak ps n c l] (Rv (.int .i64 (Vj l (p ^ m))) []):=by
 refine Ad (F:=Mz) rfl fun C=>?_
 refine Bd 0 rfl fun hn hb _=>?_
 subst hn
 have hb':l.length*8≤140737488355328:=hb
 have ho:=K.ord
 refine wk 6 cz ?_
 intro b1
 refine Ag (X:=Nat) [1,2] [0] (fun i=>[(5,.int .i64 (i:Int))]) (fun _=>_) (fun _=>[]) (fun i=>i≤l.length∧∀ x∈l.take i,0≤x∧x<((p ^ m:Nat):Int)) (fun i=>l.length-i) 0 [] rfl rfl rfl ⟨Nat.zero_le _,fun x h=>by simp at h⟩ (by repeat (first|exact Fr.sub_nil _|refine Fr.sub_cons rfl ?_)) rfl rfl ?_
 rintro i ⟨hi,hno⟩ ih
 simp only [List.cons_append,List.nil_append] at hi ih ⊢
 by_cases h9:i<l.length
 ·obtain ⟨y,hy⟩:∃ y,l[i]?=some y:=⟨_,List.getElem?_eq_getElem h9⟩
  have ey:=Rg hy
  by_cases h8:0≤y∧y<((p ^ m:Nat):Int)
  ·have hd:decide (0≤l.getD i default∧l.getD i default<Jb (p:Int) (m:Int))=true:=by rw [ey,ho];exact decide_eq_true h8
   refine wk 13 (ct @E8 cz) ?_
   intro h1 b2 o1
   exact tw (ih (i+1) (by omega) ⟨by omega,fun x hx=>by
    rw [List.take_add_one,hy] at hx
    rcases List.mem_append.1 hx with hx|hx
    ·exact hno x hx
    ·rw [Option.toList_some,List.mem_singleton] at hx
     rw [hx];exact h8⟩)
  ·have hd:decide (0≤l.getD i default∧l.getD i default<Jb (p:Int) (m:Int))=false:=by rw [ey,ho];exact decide_eq_false h8
   rw [Vj,if_neg fun h=>h8 (h y (List.mem_of_getElem? hy))]
   refine wk 13 (ct @E8 cz) ?_
   intro h1 b2 o1
   exact ge
 ·rw [Vj,if_pos fun x hx=>hno x (by rwa [List.take_of_length_le (by omega)])]
  refine wk 9 cz ?_
  intro h1
  exact ge
theorem Y8 {α:Type}{P:α→Prop}{l:List α}{i:Nat}{r:α}(hr:l[i]?=some r) (h:∀ x∈l.take i,P x) (hp:P r):∀ x∈l.take (i+1),P x:=fun x hx=>by
 rw [List.take_add_one,hr] at hx
 rcases List.mem_append.1 hx with hx|hx
 ·exact h x hx
 ·rw [Option.toList_some,List.mem_singleton] at hx
  rw [hx];exact hp
open Classical in
noncomputable def mkE (P M:Int) (md:List Int) (N:Int) (Aa:List (List Int)):Int:=if ¬ Vs P M md then 1 else Wq N Aa (P.toNat ^ M.toNat)
theorem Ox {P M N e:Int}{nm cm n c:Nat}{pm ps:Option Addr}{md:List Int}{Aa:List (List Int)}(hN:Bf .i64 N) (he:mkE P M md N Aa=e) :
  Br Tryz.prog 96 [.agg #[.int .i64 P,.int .i64 M,.slice pm nm cm],.agg #[.int .i64 N,.slice ps n c]] [] [A2 Ak pm nm cm md,A2 (Ar Ak) ps n c Aa] (Rv (.int .i64 e) []):=by
 refine Ad (F:=Pw) rfl fun C=>?_
 refine Bd 1 rfl fun hn hb _=>?_
 subst hn
 have hb':Aa.length*24≤140737488355328:=hb
 obtain ⟨N0,N1⟩:=hN
 rw [mkE] at he
 by_cases hc:Vs P M md
 ·rw [if_neg (fun h=>h hc)] at he
  have A9:=fun {pm:Option Addr}{nm cm:Nat}=>D4 (P:=P) (M:=M) (md:=md) (pm:=pm) (nm:=nm) (cm:=cm) (if_pos hc).symm
  obtain ⟨p,m,rfl,rfl,K⟩:=Zf hc
  rw [Int.toNat_natCast,Int.toNat_natCast] at he
  have hq:=K.q
  have G7:=fun {nm cm n c:Nat}{pm ps:Option Addr}{l:List Int}=>Na (nm:=nm) (cm:=cm) (pm:=pm) (ps:=ps) (n:=n) (c:=c) (l:=l) K
  subst he
  by_cases h1:N<0∨256<N∨256<Aa.length
  ·rw [Wq,if_pos h1]
   by_cases a1:N<0
   ·refine wk 24 (ct @A9 cz) ?_
    intro b1 b2 h2 h3
    exact ge
   ·by_cases a2:256<N
    ·refine wk 30 (ct @A9 cz) ?_
     intro b1 b2 h2 h3 h4
     exact ge
    ·have a3:256<Aa.length:=by omega
     refine wk 33 (ct @A9 cz) ?_
     intro b1 b2 h2 h3 h4 h5
     exact ge
  ·rw [Wq,if_neg h1]
   have a1:¬ N<0:=by omega
   have a2:¬ 256<N:=by omega
   have a3:¬ 256<Aa.length:=by omega
   refine wk 33 (ct @A9 cz) ?_
   intro b1 b2 h2 h3 h4 h5
   refine Ag (X:=Nat) [2,3,5] [0,1] (fun i=>[(6,.int .i64 (i:Int))]) (fun _=>_) (fun _=>[]) (fun i=>i≤Aa.length∧∀ r∈Aa.take i,(r.length:Int)=N) (fun i=>Aa.length-i) 0 [] rfl rfl rfl ⟨Nat.zero_le _,fun x h=>by simp at h⟩ (by repeat (first|exact Fr.sub_nil _|refine Fr.sub_cons rfl ?_)) rfl rfl ?_
   rintro i ⟨hi,hno⟩ ih
   simp only [List.cons_append,List.nil_append] at hi ih ⊢
   by_cases h9:i<Aa.length
   ·obtain ⟨r,hr⟩:∃ r,Aa[i]?=some r:=⟨_,List.getElem?_eq_getElem h9⟩
    have er:=Rg hr
    by_cases h8:(r.length:Int)=N
    ·have h7:((Aa.getD i default).length:Int)=N:=by rw [er];exact h8
     refine wk 15 cz ?_
     intro h6 b3 o1 pa1 ca1 h10
     exact tw (ih (i+1) (by omega) ⟨by omega,Y8 hr hno h8⟩)
    ·have h7:((Aa.getD i default).length:Int)≠N:=by rw [er];exact h8
     rw [if_pos ⟨r,List.mem_of_getElem? hr,h8⟩]
     refine wk 15 cz ?_
     intro h6 b3 o1 pa1 ca1 h10
     exact ge
   ·have hlen:∀ r∈Aa,(r.length:Int)=N:=fun r hr=>hno r (by rwa [List.take_of_length_le (by omega)])
    rw [if_neg fun ⟨r,hr,h⟩=>h (hlen r hr)]
    clear ih hno hi
    refine wk 11 cz ?_
    intro h6
    refine Ag (X:=Nat) [2,3] [0,1] (fun i=>[(7,.int .i64 (i:Int)),(5,.int .i64 0)]) (fun _=>_) (fun _=>[]) (fun i=>i≤Aa.length∧∀ r∈Aa.take i,∀ x∈r,0≤x∧x<((p ^ m:Nat):Int)) (fun i=>Aa.length-i) 0 [] rfl rfl rfl ⟨Nat.zero_le _,fun x h=>by simp at h⟩ (by repeat (first|exact Fr.sub_nil _|refine Fr.sub_cons rfl ?_)) rfl rfl ?_
    rintro i ⟨hi,hno⟩ ih
    simp only [List.cons_append,List.nil_append] at hi ih ⊢
    by_cases h9:i<Aa.length
    ·obtain ⟨r,hr⟩:∃ r,Aa[i]?=some r:=⟨_,List.getElem?_eq_getElem h9⟩
     have er:=Rg hr
     by_cases h8:∀ x∈r,0≤x∧x<((p ^ m:Nat):Int)
     ·have he:Vj (Aa.getD i default) (p ^ m)=0:=by rw [er,Vj,if_pos h8]
      refine wk 18 (ct @G7 cz) ?_
      intro h7 b3 o1 pa1 ca1 h10
      exact tw (ih (i+1) (by omega) ⟨by omega,Y8 hr hno h8⟩)
     ·have he:Vj (Aa.getD i default) (p ^ m)=2:=by rw [er,Vj,if_neg h8]
      rw [if_neg fun h=>h8 (h r (List.mem_of_getElem? hr)),← he]
      refine wk 18 (ct @G7 cz) ?_
      intro h7 b3 o1 pa1 ca1 h10
      exact ge
    ·rw [if_pos fun r hr=>hno r (by rwa [List.take_of_length_le (by omega)])]
     refine wk 11 cz ?_
     intro h7
     exact ge
 ·rw [if_pos hc] at he
  subst he
  have A9:=fun {pm:Option Addr}{nm cm:Nat}=>D4 (P:=P) (M:=M) (md:=md) (pm:=pm) (nm:=nm) (cm:=cm) (if_neg hc).symm
  refine wk 15 (ct @A9 cz) ?_
  intro b1 b2 h1
  exact ge
theorem Gp {pl pk:Option Addr}{nl cl nk ck:Nat}{l k:List Int}{res:Bool}(hr:decide (l=k)=res):Br Tryz.prog 132 [.slice pl nl cl,.slice pk nk ck] [] [A2 Ak pl nl cl l,A2 Ak pk nk ck k] (Rv (.bool res) []):=by
 refine Ad (F:=Mg) rfl fun C=>?_
 subst hr
 refine Bd 0 rfl fun hn hb _=>?_
 refine Bd 1 rfl fun hn2 hb2 _=>?_
 subst hn
 subst hn2
 have hb':l.length*8≤140737488355328:=hb
 have hb2':k.length*8≤140737488355328:=hb2
 by_cases hl:l.length=k.length
 ·refine wk 13 cz ?_
  intro h1
  refine Ag (X:=Nat) [0,1] [0,1] (fun i=>[(5,.int .i64 (i:Int))]) (fun _=>[]) (fun _=>[]) (fun i=>i≤l.length∧∀ j,j<i→l[j]?=k[j]?) (fun i=>l.length-i) 0 [] rfl rfl rfl ⟨Nat.zero_le _,fun j h=>by omega⟩ (by repeat (first|exact Fr.sub_nil _|refine Fr.sub_cons rfl ?_)) rfl rfl ?_
  rintro i ⟨hi,hno⟩ ih
  simp only [List.cons_append,List.nil_append] at hi ih ⊢
  by_cases h9:i<l.length
  ·obtain ⟨y,hy⟩:∃ y,l[i]?=some y:=⟨_,List.getElem?_eq_getElem h9⟩
   obtain ⟨z,hz⟩:∃ z,k[i]?=some z:=⟨_,List.getElem?_eq_getElem (by omega)⟩
   have ey:=Rg hy
   have ez:=Rg hz
   by_cases h8:y=z
   ·subst h8
    refine wk 13 cz ?_
    intro h2 b1 o1 b2 o2 h3
    exact tw (ih (i+1) (by omega) ⟨by omega,fun j hj=>by
     rcases Nat.lt_succ_iff_lt_or_eq.1 hj with h|rfl
     ·exact hno j h
     ·rw [hy,hz]⟩)
   ·rw [decide_eq_false (show l≠k from fun e=>by rw [e,hz] at hy;exact h8 (Option.some.inj hy).symm)]
    refine wk 13 cz ?_
    intro h2 b1 o1 b2 o2 h3
    exact ge
  ·rw [decide_eq_true (show l=k from List.ext_getElem? fun j=>by
    by_cases h:j<i
    ·exact hno j h
    ·rw [List.getElem?_eq_none (by omega),List.getElem?_eq_none (by omega)])]
   refine wk 9 cz ?_
   intro h2
   exact ge
 ·rw [decide_eq_false (show l≠k from fun e=>hl (by rw [e]))]
  refine wk 13 cz ?_
  intro h1
  exact ge
theorem Gv {pl pk:Option Addr}{nl cl nk ck:Nat}{l k:List (List Int)}{res:Bool}(hr:decide (l=k)=res):Br Tryz.prog 98 [.slice pl nl cl,.slice pk nk ck] [] [A2 (Ar Ak) pl nl cl l,A2 (Ar Ak) pk nk ck k] (Rv (.bool res) []):=by
 refine Ad (F:=Mu) rfl fun C=>?_
 subst hr
 refine Bd 0 rfl fun hn hb _=>?_
 refine Bd 1 rfl fun hn2 hb2 _=>?_
 subst hn
 subst hn2
 have hb':l.length*24≤140737488355328:=hb
 have hb2':k.length*24≤140737488355328:=hb2
 by_cases hl:l.length=k.length
 ·refine wk 13 cz ?_
  intro h1
  refine Ag (X:=Nat) [0,1] [0,1] (fun i=>[(5,.int .i64 (i:Int))]) (fun _=>[]) (fun _=>[]) (fun i=>i≤l.length∧∀ j,j<i→l[j]?=k[j]?) (fun i=>l.length-i) 0 [] rfl rfl rfl ⟨Nat.zero_le _,fun j h=>by omega⟩ (by repeat (first|exact Fr.sub_nil _|refine Fr.sub_cons rfl ?_)) rfl rfl ?_
  rintro i ⟨hi,hno⟩ ih
  simp only [List.cons_append,List.nil_append] at hi ih ⊢
  by_cases h9:i<l.length
  ·obtain ⟨y,hy⟩:∃ y,l[i]?=some y:=⟨_,List.getElem?_eq_getElem h9⟩
   obtain ⟨z,hz⟩:∃ z,k[i]?=some z:=⟨_,List.getElem?_eq_getElem (by omega)⟩
   have ey:=Rg hy
   have ez:=Rg hz
   by_cases h8:y=z
   ·have hd:decide (l.getD i default=k.getD i default)=true:=by rw [ey,ez];exact decide_eq_true h8
    refine wk 13 (ct @Gp cz) ?_
    intro h2 b1 o1 pa1 ca1 b2 o2 pa2 ca2
    exact tw (ih (i+1) (by omega) ⟨by omega,fun j hj=>by
     rcases Nat.lt_succ_iff_lt_or_eq.1 hj with h|rfl
     ·exact hno j h
     ·rw [hy,hz,h8]⟩)
   ·have hd:decide (l.getD i default=k.getD i default)=false:=by rw [ey,ez];exact decide_eq_false h8
    rw [decide_eq_false (show l≠k from fun e=>by rw [e,hz] at hy;exact h8 (Option.some.inj hy).symm)]
    refine wk 13 (ct @Gp cz) ?_
    intro h2 b1 o1 pa1 ca1 b2 o2 pa2 ca2
    exact ge
  ·rw [decide_eq_true (show l=k from List.ext_getElem? fun j=>by
    by_cases h:j<i
    ·exact hno j h
    ·rw [List.getElem?_eq_none (by omega),List.getElem?_eq_none (by omega)])]
   refine wk 9 cz ?_
   intro h2
   exact ge
 ·rw [decide_eq_false (show l≠k from fun e=>hl (by rw [e]))]
  refine wk 13 cz ?_
  intro h1
  exact ge
theorem Rd {ps:Option Addr}{n c:Nat}{Aa:List (List Int)}(hL:∀ r∈Aa,r.length≤1000000):Br Tryz.prog 152 [.slice ps n c] [] [A2 (Ar Ak) ps n c Aa]
  (fun v Φ β=>∃ r:Row,v = .slice (ad r.bo) Aa.length r.cap∧Φ=[Aw (Ar Ak) r Aa.length Aa]∧β=[(r.bo,22,r.cs)]):=by
 refine Ad (F:=Qv) rfl fun C=>?_
 refine Bd 0 rfl fun hn hb _=>?_
 subst hn
 have hb':Aa.length*24≤140737488355328:=hb
 refine wk 7 cz ?_
 refine Jj (Ar Ak) 22 ?_
 refine Ag (X:=Nat×Row) [0,2] [0,1] (fun x=>[(4,.int .i64 (x.1:Int)),(3,.slice (ad x.2.bo) x.1 x.2.cap)]) (fun x=>[(x.2.bo,22,x.2.cs)]) (fun x=>[Aw (Ar Ak) x.2 x.1 (Aa.take x.1)]) (fun x=>x.1≤Aa.length) (fun x=>Aa.length-x.1) (0,⟨none,0,[]⟩) [0] rfl rfl rfl (Nat.zero_le _) (by repeat (first|exact Fr.sub_nil _|refine Fr.sub_cons rfl ?_)) rfl rfl ?_
 rintro ⟨k,r⟩ hk ih
 simp only [List.cons_append,List.nil_append] at hk ih ⊢
 by_cases h9:k<Aa.length
 ·obtain ⟨u,at_u⟩:∃ u,Aa[k]?=some u:=⟨_,List.getElem?_eq_getElem h9⟩
  have hul:=hL u (List.mem_of_getElem? at_u)
  have ih':=fun r=>ih (k+1,r) (by dsimp only;omega) (by dsimp only;omega)
  simp only [List.take_add_one,at_u,Option.toList_some] at ih'
  clear ih
  refine wk 12 cz ?_
  intro h1 b1 b2 o1 hz1 pa1 ca1
  (apply He (E:=Ca IntKind.i64 8) (n:=0) (cs:=[]) [] [] 0 (fun w A hG=>D5);(· rfl);(· rfl);(· rfl);(· rfl);(· decide))
  refine Ab rfl (AAg 0 0 1 rfl rfl rfl rfl rfl Bj Hb rfl (by omega) _ Iy (by omega) fun r1=>?_)
  refine wk 1 cz ?_
  intro b3
  refine Ev 1 0 rfl rfl (by show (0+u.length)*8≤140737488355328;omega) ?_
  refine Ab rfl (Ik (z:=[]++u) 1 0 5 rfl rfl rfl rfl rfl Fo ACP rfl (fun w A hG=>(Ew (hG _ (Al (n:=0) rfl)))) (by omega) _ AEA (by omega) fun r2=>?_)
  refine wk 4 cz ?_
  simp only [List.nil_append]
  refine S2 [true,false] [0,7,8] (by exact Zr rfl) rfl rfl (ih' r2)
 ·obtain rfl:k=Aa.length:=by omega
  rw [List.take_length]
  refine wk 9 cz ?_
  intro h1
  refine B0 1 [0] [0] rfl (.tmp rfl .nil) rfl rfl rfl ⟨r,rfl,rfl,rfl⟩
inductive Cmb (q:Nat) (A M:Int→Int→Int) (n:Nat) (Aa:List (List Int)):List Int→Prop
 | zero:Cmb q A M n Aa (zW n)
 | add {a:Int}{r u:List Int}:r∈Aa→0≤a→a<q→Cmb q A M n Aa u→Cmb q A M n Aa (Gw A M a r u)
section
variable {q:Nat}{A M:Int→Int→Int}{N V:Int→Int}(O:FO q A M N V)
include O
omit O in
theorem Gd {n:Nat}{u v:List Int}(hu:Wd q n u) (hv:Wd q n v) (h:∀ j,j<n→An u j=An v j):u=v:=by
 refine List.ext_getElem (by rw [hu.1,hv.1]) fun i h1 h2=>?_
 have:=h i (by rw [← hu.1];exact h1)
 rw [An,An,List.getD_eq_getElem?_getD,List.getD_eq_getElem?_getD,List.getElem?_eq_getElem h1,List.getElem?_eq_getElem h2] at this
 exact this
theorem FO.cmb_mat {n:Nat}{Aa:List (List Int)}(hM:Fc q n Aa) {u:List Int}(h:Cmb q A M n Aa u):Wd q n u:=by
 induction h with
 | zero=>exact O.wz n
 | add hr a0 a1 _ ih=>exact O.fi.axw a0 a1 (hM _ hr) ih
theorem FO.cmb_axp {n:Nat}{Aa:List (List Int)}(hM:Fc q n Aa) {a:Int}(a0:0≤a) (a1:a<q) {u v:List Int}(hu:Cmb q A M n Aa u) (hv:Cmb q A M n Aa v):Cmb q A M n Aa (Gw A M a u v):=by
 have F:=O.fi
 have hq:=O.q2
 have wv:=O.cmb_mat hM hv
 induction hu with
 | zero =>
  have:Gw A M a (zW n) v=v:=by
   refine Gd (F.axw a0 a1 (O.wz n) wv) wv fun j _=>?_
   obtain ⟨v0,v1⟩:=Bo (by omega) wv j
   rw [O.axp_at a0 a1 (O.wz n) wv,Jt,F.m0 a0 a1,F.a0 _ v0 v1]
  rw [this];exact hv
 | @add b r u hr b0 b1 hu ih =>
  have wr:=hM _ hr
  have wu:=O.cmb_mat hM hu
  obtain ⟨m0,m1⟩:=F.ml a b a0 a1 b0 b1
  have w1:=F.axw b0 b1 wr wu
  have w2:=F.axw a0 a1 wu wv
  have e:Gw A M a (Gw A M b r u) v=Gw A M (M a b) r (Gw A M a u v):=by
   refine Gd (F.axw a0 a1 w1 wv) (F.axw m0 m1 wr w2) fun j _=>?_
   rw [O.axp_at a0 a1 w1 wv,O.axp_at b0 b1 wr wu,O.axp_at m0 m1 wr w2,O.axp_at a0 a1 wu wv]
   obtain ⟨v0,v1⟩:=Bo (by omega) wv j
   obtain ⟨u0,u1⟩:=Bo (by omega) wu j
   obtain ⟨r0,r1⟩:=Bo (by omega) wr j
   obtain ⟨c0,c1⟩:=F.ml b _ b0 b1 r0 r1
   obtain ⟨d0,d1⟩:=F.ml a _ a0 a1 u0 u1
   obtain ⟨e0,e1⟩:=F.ml a _ a0 a1 c0 c1
   rw [F.md a _ _ a0 a1 u0 u1 c0 c1,← F.aa _ _ _ v0 v1 d0 d1 e0 e1,F.ma a b _ a0 a1 b0 b1 r0 r1]
  rw [e];exact .add hr m0 m1 ih
theorem FO.cmb_row {n:Nat}{Aa:List (List Int)}(hM:Fc q n Aa) {r:List Int}(hr:r∈Aa):Cmb q A M n Aa r:=by
 have hq:=O.q2
 have F:=O.fi
 have:Gw A M 1 r (zW n)=r:=by
  refine Gd (F.axw (by omega) (by omega) (hM _ hr) (O.wz n)) (hM _ hr) fun j _=>?_
  obtain ⟨v0,v1⟩:=Bo (by omega) (hM _ hr) j
  rw [O.axp_at (by omega) (by omega) (hM _ hr) (O.wz n),Jt,F.mc 1 _ (by omega) (by omega) v0 v1,F.m1 _ v0 v1,F.zl v0 v1]
 rw [← this];exact .add hr (by omega) (by omega) .zero
theorem FO.cmb_scl {n:Nat}{Aa:List (List Int)}(hM:Fc q n Aa) {a:Int}(a0:0≤a) (a1:a<q) {u:List Int}(hu:Cmb q A M n Aa u):Cmb q A M n Aa (B3 M a u):=by
 have hq:=O.q2
 have F:=O.fi
 have wu:=O.cmb_mat hM hu
 have:Gw A M a u (zW n)=B3 M a u:=by
  refine Gd (F.axw a0 a1 wu (O.wz n)) (O.scl_wd a0 a1 wu) fun j _=>?_
  obtain ⟨v0,v1⟩:=Bo (by omega) wu j
  obtain ⟨m0,m1⟩:=F.ml a _ a0 a1 v0 v1
  rw [O.axp_at a0 a1 wu (O.wz n),Jt,O.scl_at a0 a1,F.zl m0 m1]
 rw [← this];exact O.cmb_axp hM a0 a1 hu .zero
theorem FO.cmb_trans {n:Nat}{Aa rows':List (List Int)}(hM:Fc q n Aa) (h:∀ r∈rows',Cmb q A M n Aa r) {u:List Int}(hu:Cmb q A M n rows' u):Cmb q A M n Aa u:=by
 induction hu with
 | zero=>exact .zero
 | add hr a0 a1 _ ih=>exact O.cmb_axp hM a0 a1 (h _ hr) ih
theorem FO.cmb_coef {n:Nat}{Aa:List (List Int)}(hM:Fc q n Aa) {u:List Int}(h:Cmb q A M n Aa u):∃ t,Wd q Aa.length t∧∀ e,An u e=Dn A M t (F8 Aa e):=by
 have hq:=O.q2
 have F:=O.fi
 induction h with
 | zero =>
  refine ⟨zW Aa.length,O.wz _,fun e=>?_⟩
  have hc:=Ma (by omega) hM e
  rw [Jt,O.dot_zero (O.wz _) hc fun i=>by
   obtain ⟨v0,v1⟩:=Bo (by omega) hc i
   rw [Jt,F.mc 0 _ (Int.le_refl 0) F.z v0 v1,F.m0 v0 v1]]
 | @add a r u hr a0 a1 hu ih =>
  obtain ⟨t,ht,he⟩:=ih
  obtain ⟨i,hi,rfl⟩:=List.getElem_of_mem hr
  have hun:=(O.dot_unit hi (O.wz Aa.length)).1
  refine ⟨Gw A M a (Z2 Aa.length i) t,F.axw a0 a1 hun ht,fun e=>?_⟩
  have hc:=Ma (by omega) hM e
  have wr:=hM _ hr
  have wu:=O.cmb_mat hM hu
  rw [O.axp_at a0 a1 wr wu,O.dot_axp_l a0 a1 hun ht hc,(O.dot_unit hi hc).2,he]
  congr 2
  rw [An,An,List.getD_eq_getElem?_getD,List.getD_eq_getElem?_getD,List.getElem?_map,List.getElem?_eq_getElem hi];rfl
theorem FO.dot_snoc:∀ {n:Nat}{x y:List Int}{a b:Int},Wd q n x→Wd q n y→0≤a→a<q→0≤b→b<q→Dn A M (x++[a]) (y++[b])=A (Dn A M x y) (M a b)
 | 0,x,y,a,b,hx,hy,a0,a1,b0,b1=>by
  rw [List.length_eq_zero_iff.1 hx.1,List.length_eq_zero_iff.1 hy.1]
  obtain ⟨m0,m1⟩:=O.fi.ml a b a0 a1 b0 b1
  show A (M a b) 0=A 0 (M a b)
  rw [O.fi.ac _ _ m0 m1 (Int.le_refl 0) O.fi.z]
 | n+1,[],_,_,_,hx,_,_,_,_,_=>by have:=hx.1;simp at this
 | n+1,_::_,[],_,_,_,hy,_,_,_,_=>by have:=hy.1;simp at this
 | n+1,x::u,y::v,a,b,hx,hy,a0,a1,b0,b1=>by
  obtain ⟨⟨x0,x1⟩,hu⟩:=Nt hx
  obtain ⟨⟨y0,y1⟩,hv⟩:=Nt hy
  obtain ⟨m0,m1⟩:=O.fi.ml a b a0 a1 b0 b1
  obtain ⟨p0,p1⟩:=O.fi.ml x y x0 x1 y0 y1
  obtain ⟨d0,d1⟩:=O.fi.dlt hu hv
  show A (M x y) (Dn A M (u++[a]) (v++[b]))=A (A (M x y) (Dn A M u v)) (M a b)
  rw [FO.dot_snoc hu hv a0 a1 b0 b1,O.fi.aa _ _ _ p0 p1 d0 d1 m0 m1]
theorem FO.cmbF_ind {n:Nat}{gen:List (List Int)}(hG:Fc q n gen) {P:List Int→Prop}(hP:∀ (a:Int) (r u:List Int),r∈gen→0≤a→a<q→Wd q n u→P u→P (Gw A M a r u)):∀ {x:List Int}{Aa:List (List Int)}{u:List Int},(∀ a∈x,0≤a∧a<q)→(∀ r∈Aa,r∈gen)→Wd q n u→P u→P (W0 A M x Aa u)
 | [],_,u,_,_,_,h=>by rw [W0];exact h;· intros;contradiction
 | _::_,[],u,_,_,_,h=>by rw [W0];exact h;· intros;contradiction
 | a::x,r::Aa,u,hx,hr,hu,h=>by
  obtain ⟨a0,a1⟩:=hx a (.head _)
  have hg:=hr r (.head _)
  rw [W0,O.cmb_step (hG r hg) hu]
  exact FO.cmbF_ind hG hP (fun b hb=>hx b (.tail _ hb)) (fun s hs=>hr s (.tail _ hs)) (O.fi.axw a0 a1 (hG r hg) hu) (hP a r u hg a0 a1 hu h)
end
set_option maxRecDepth 100000
set_option linter.unusedVariables false
set_option linter.unusedSimpArgs false
def Jq (A M:Int→Int→Int) (N:Int→Int):List Nat→List (List Int)→List Int→List Int
 | p::ps,r::rs,out=>Jq A M N ps rs (Gw A M (N (An out p)) r out)
 | _,_,out=>out
section
variable {q:Nat}{A M:Int→Int→Int}{N V:Int→Int}(O:FO q A M N V)
include O
theorem FO.rp_wd {n:Nat}:∀ {P:List Nat}{R:List (List Int)}{out:List Int},Fc q n R→Wd q n out→Wd q n (Jq A M N P R out)
 | [],_,_,_,ho=>ho
 | _::_,[],_,_,ho=>ho
 | p::ps,r::rs,out,hM,ho=>by
  have hq:=O.q2
  obtain ⟨v0,v1⟩:=Bo (by omega) ho p
  obtain ⟨⟨n0,n1⟩,_⟩:=O.ng _ v0 v1
  exact FO.rp_wd (P:=ps) (R:=rs) (fun x hx=>hM x (.tail _ hx)) (O.fi.axw n0 n1 (hM r (.head _)) ho)
theorem FO.ng_mul {y z:Int}(y0:0≤y) (y1:y<q) (z0:0≤z) (z1:z<q):N (M y z)=M (N y) z:=by
 have F:=O.fi
 obtain ⟨⟨n0,n1⟩,e⟩:=O.ng y y0 y1
 obtain ⟨m0,m1⟩:=F.ml _ _ y0 y1 z0 z1
 obtain ⟨k0,k1⟩:=F.ml _ _ n0 n1 z0 z1
 obtain ⟨⟨a0,a1⟩,e2⟩:=O.ng _ m0 m1
 have h:A (M y z) (M (N y) z)=0:=by
  rw [F.mc _ _ y0 y1 z0 z1,F.mc _ _ n0 n1 z0 z1,← F.md _ _ _ z0 z1 y0 y1 n0 n1,e,F.m0 z0 z1]
 have h3:A (A (M (N y) z) (M y z)) (N (M y z))=M (N y) z:=by rw [F.aa _ _ _ k0 k1 m0 m1 a0 a1,e2,F.a0 _ k0 k1]
 rw [F.ac _ _ k0 k1 m0 m1,h] at h3
 have hq:=O.q2
 rw [← h3,F.ac 0 _ (Int.le_refl 0) (by omega) a0 a1,F.a0 _ a0 a1]
end
theorem ACU {A M:Int→Int→Int}{N:Int→Int}{p:Nat}{r:List Int}:∀ {ps:List Nat}{rs:List (List Int)}{out:List Int},ps.length=rs.length→Jq A M N (ps++[p]) (rs++[r]) out=Gw A M (N (An (Jq A M N ps rs out) p)) r (Jq A M N ps rs out)
 | [],[],_,_=>rfl
 | p'::ps,r'::rs,out,h=>ACU (ps:=ps) (rs:=rs) (Nat.succ.inj h)
set_option maxRecDepth 100000
set_option linter.unusedVariables false
set_option linter.unusedSimpArgs false
def Yh:List Nat→List (List Int)→Prop
 | [],[]=>True
 | p::ps,r::rs=>An r p=1∧(∀ s∈rs,An s p=0)∧Yh ps rs
 | _,_=>False
theorem Yh.snoc {k:Nat}{r:List Int}(h1:An r k=1):∀ {P:List Nat}{R:List (List Int)},Yh P R→(∀ p∈P,An r p=0)→Yh (P++[k]) (R++[r])
 | [],[],_,_=>⟨h1,fun s hs=>(by cases hs),trivial⟩
 | [],_::_,h,_=>h.elim
 | _::_,[],h,_=>h.elim
 | p::ps,s::rs,⟨a,b,c⟩,h=>⟨a,fun t ht=>by
   rcases List.mem_append.1 ht with ht|ht
   ·exact b t ht
   ·rw [List.mem_singleton.1 ht];exact h p (.head _),Yh.snoc h1 c fun x hx=>h x (.tail _ hx)⟩
section
variable {q:Nat}{A M:Int→Int→Int}{N V:Int→Int}(O:FO q A M N V)
include O
theorem FO.rp_keep {n a:Nat}:∀ {P:List Nat}{R:List (List Int)}{v:List Int},Fc q n R→Wd q n v→(∀ s∈R,An s a=0)→An (Jq A M N P R v) a=An v a
 | [],_,_,_,_,_=>rfl
 | _::_,[],_,_,_,_=>rfl
 | p::ps,r::rs,v,hM,hv,h=>by
  have hq:=O.q2
  obtain ⟨v0,v1⟩:=Bo (by omega) hv p
  obtain ⟨⟨n0,n1⟩,_⟩:=O.ng _ v0 v1
  obtain ⟨w0,w1⟩:=Bo (by omega) hv a
  rw [Jq,FO.rp_keep (fun x hx=>hM x (.tail _ hx)) (O.fi.axw n0 n1 (hM r (.head _)) hv) (fun s hs=>h s (.tail _ hs)),O.axp_at n0 n1 (hM r (.head _)) hv,h r (.head _),O.fi.m0 n0 n1,O.fi.a0 _ w0 w1]
theorem FO.rp_zero {n:Nat}:∀ {P:List Nat}{R:List (List Int)}{v:List Int},Yh P R→Fc q n R→Wd q n v→∀ a∈P,An (Jq A M N P R v) a=0
 | [],_,_,_,_,_,_,ha=>by cases ha
 | _::_,[],_,h,_,_,_,_=>h.elim
 | p::ps,r::rs,v,⟨h1,h2,h3⟩,hM,hv,a,ha=>by
  have hq:=O.q2
  obtain ⟨v0,v1⟩:=Bo (by omega) hv p
  obtain ⟨⟨n0,n1⟩,hn⟩:=O.ng _ v0 v1
  have hM':Fc q n rs:=fun x hx=>hM x (.tail _ hx)
  have hw:=O.fi.axw n0 n1 (hM r (.head _)) hv
  rw [Jq]
  rcases List.mem_cons.1 ha with rfl|ha
  ·rw [O.rp_keep hM' hw h2,O.axp_at n0 n1 (hM r (.head _)) hv,h1,O.fi.m1 _ n0 n1,hn]
  ·exact FO.rp_zero h3 hM' hw a ha
theorem FO.rp_in {n:Nat}{G:List (List Int)}(hG:Fc q n G):∀ {P:List Nat}{R:List (List Int)}{v:List Int},(∀ r∈R,r∈G)→Cmb q A M n G v→Cmb q A M n G (Jq A M N P R v)
 | [],_,_,_,h=>h
 | _::_,[],_,_,h=>h
 | p::ps,r::rs,v,hR,h=>by
  have hq:=O.q2
  obtain ⟨v0,v1⟩:=Bo (by omega) (O.cmb_mat hG h) p
  obtain ⟨⟨n0,n1⟩,_⟩:=O.ng _ v0 v1
  exact FO.rp_in hG (P:=ps) (R:=rs) (fun x hx=>hR x (.tail _ hx)) (.add (hR r (.head _)) n0 n1 h)
theorem FO.axp_back {n:Nat}{a:Int}(a0:0≤a) (a1:a<q) {r v:List Int}(hr:Wd q n r) (hv:Wd q n v):Gw A M a r (Gw A M (N a) r v)=v:=by
 have hq:=O.q2
 obtain ⟨⟨n0,n1⟩,hn⟩:=O.ng _ a0 a1
 have hw:=O.fi.axw n0 n1 hr hv
 refine Gd (O.fi.axw a0 a1 hr hw) hv fun j _=>?_
 rw [O.axp_at a0 a1 hr hw,O.axp_at n0 n1 hr hv]
 obtain ⟨r0,r1⟩:=Bo (by omega) hr j
 obtain ⟨v0,v1⟩:=Bo (by omega) hv j
 obtain ⟨x0,x1⟩:=O.fi.ml _ _ n0 n1 r0 r1
 obtain ⟨y0,y1⟩:=O.fi.ml _ _ a0 a1 r0 r1
 rw [O.fi.aa _ _ _ v0 v1 x0 x1 y0 y1,← O.ng_mul a0 a1 r0 r1]
 obtain ⟨⟨z0,z1⟩,hz⟩:=O.ng _ y0 y1
 rw [O.fi.ac _ _ z0 z1 y0 y1,hz,O.fi.a0 _ v0 v1]
theorem FO.rp_out {n:Nat}{G:List (List Int)}(hG:Fc q n G):∀ {P:List Nat}{R:List (List Int)}{v:List Int},(∀ r∈R,r∈G)→Wd q n v→Cmb q A M n G (Jq A M N P R v)→Cmb q A M n G v
 | [],_,_,_,_,h=>h
 | _::_,[],_,_,_,h=>h
 | p::ps,r::rs,v,hR,hv,h=>by
  have hq:=O.q2
  have hr:=hG r (hR r (.head _))
  obtain ⟨v0,v1⟩:=Bo (by omega) hv p
  obtain ⟨⟨n0,n1⟩,_⟩:=O.ng _ v0 v1
  have:=FO.rp_out hG (P:=ps) (R:=rs) (fun x hx=>hR x (.tail _ hx)) (O.fi.axw n0 n1 hr hv) h
  rw [← O.axp_back v0 v1 hr hv]
  exact .add (hR r (.head _)) v0 v1 this
theorem FO.cmb_split {n:Nat}{r:List Int}{rs:List (List Int)}(hM:Fc q n (r::rs)) {u:List Int}(h:Cmb q A M n (r::rs) u):∃ (c:Int) (u':List Int),(0≤c∧c<q)∧Cmb q A M n rs u'∧u=Gw A M c r u':=by
 have hq:=O.q2
 have hr:=hM r (.head _)
 have hM':Fc q n rs:=fun x hx=>hM x (.tail _ hx)
 induction h with
 | zero=>exact ⟨0,zW n,⟨by omega,by omega⟩,.zero,(O.axp0 hr (O.wz n)).symm⟩
 | @add a s u hs a0 a1 hu ih =>
  obtain ⟨c,u',⟨c0,c1⟩,h1,rfl⟩:=ih
  have hu':=O.cmb_mat hM' h1
  rcases List.mem_cons.1 hs with rfl|hs
  ·obtain ⟨d0,d1⟩:=O.fi.al _ _ c0 c1 a0 a1
   refine ⟨A c a,u',⟨d0,d1⟩,h1,Gd (O.fi.axw a0 a1 hr (O.fi.axw c0 c1 hr hu')) (O.fi.axw d0 d1 hr hu') fun j _=>?_⟩
   rw [O.axp_at a0 a1 hr (O.fi.axw c0 c1 hr hu'),O.axp_at c0 c1 hr hu',O.axp_at d0 d1 hr hu']
   obtain ⟨r0,r1⟩:=Bo (by omega) hr j
   obtain ⟨v0,v1⟩:=Bo (by omega) hu' j
   obtain ⟨x0,x1⟩:=O.fi.ml _ _ c0 c1 r0 r1
   obtain ⟨y0,y1⟩:=O.fi.ml _ _ a0 a1 r0 r1
   rw [O.fi.aa _ _ _ v0 v1 x0 x1 y0 y1,O.fi.mc _ _ d0 d1 r0 r1,O.fi.md _ _ _ r0 r1 c0 c1 a0 a1,O.fi.mc _ _ c0 c1 r0 r1,O.fi.mc _ _ a0 a1 r0 r1]
  ·have hsw:=hM' s hs
   have hw:=O.fi.axw a0 a1 hsw hu'
   refine ⟨c,Gw A M a s u',⟨c0,c1⟩,.add hs a0 a1 h1,Gd (O.fi.axw a0 a1 hsw (O.fi.axw c0 c1 hr hu')) (O.fi.axw c0 c1 hr hw) fun j _=>?_⟩
   rw [O.axp_at a0 a1 hsw (O.fi.axw c0 c1 hr hu'),O.axp_at c0 c1 hr hu',O.axp_at c0 c1 hr hw,O.axp_at a0 a1 hsw hu']
   obtain ⟨r0,r1⟩:=Bo (by omega) hr j
   obtain ⟨s0,s1⟩:=Bo (by omega) hsw j
   obtain ⟨v0,v1⟩:=Bo (by omega) hu' j
   obtain ⟨x0,x1⟩:=O.fi.ml _ _ c0 c1 r0 r1
   obtain ⟨y0,y1⟩:=O.fi.ml _ _ a0 a1 s0 s1
   rw [O.fi.aa _ _ _ v0 v1 x0 x1 y0 y1,O.fi.ac _ _ x0 x1 y0 y1,O.fi.aa _ _ _ v0 v1 y0 y1 x0 x1]
theorem FO.cmb_at0 {n a:Nat}{rs:List (List Int)}(hM:Fc q n rs) (h0:∀ s∈rs,An s a=0) {u:List Int}(h:Cmb q A M n rs u):An u a=0:=by
 induction h with
 | zero=>exact Jt n a
 | @add b s u hs b0 b1 hu ih=>rw [O.axp_at b0 b1 (hM s hs) (O.cmb_mat hM hu),ih,h0 s hs,O.fi.m0 b0 b1,O.fi.a0 0 (Int.le_refl 0) (by have:=O.q2;omega)]
theorem FO.bas_span {n:Nat}:∀ {P:List Nat}{R:List (List Int)}{u:List Int},Yh P R→Fc q n R→Cmb q A M n R u→(∀ a∈P,An u a=0)→u=zW n
 | [],[],u,_,hM,h,_=>by
  cases h with
  | zero=>rfl
  | add hr=>cases hr
 | [],_::_,_,h,_,_,_=>h.elim
 | _::_,[],_,h,_,_,_=>h.elim
 | p::ps,r::rs,u,⟨h1,h2,h3⟩,hM,h,h0=>by
  have hq:=O.q2
  obtain ⟨c,u',⟨c0,c1⟩,hu,rfl⟩:=O.cmb_split hM h
  have hr:=hM r (.head _)
  have hM':Fc q n rs:=fun x hx=>hM x (.tail _ hx)
  have hu':=O.cmb_mat hM' hu
  have hp:=h0 p (.head _)
  rw [O.axp_at c0 c1 hr hu',h1,O.fi.m1 _ c0 c1,O.cmb_at0 hM' h2 hu,O.fi.ac 0 c (Int.le_refl 0) (by omega) c0 c1,O.fi.a0 _ c0 c1] at hp
  subst hp
  rw [O.axp0 hr hu']
  refine FO.bas_span h3 hM' hu fun a ha=>?_
  have:=h0 a (.tail _ ha)
  rwa [O.axp0 hr hu'] at this
end
set_option maxRecDepth 100000
set_option linter.unusedVariables false
set_option linter.unusedSimpArgs false
theorem ABa:∀ {l l':List Nat},l.Nodup→(∀ x∈l,x∈l')→l'.length≤l.length→∀ x∈l',x∈l
 | [],l',_,_,hl,x,hx=>by
  have:l'=[]:=List.length_eq_zero_iff.1 (by simpa using hl)
  rw [this] at hx;cases hx
 | y::l,l',hn,hs,hl,x,hx=>by
  obtain ⟨h1,h2⟩:=List.nodup_cons.1 hn
  by_cases e:x=y
  ·rw [e];exact .head _
  ·refine .tail _ (ABa (l:=l) (l':=l'.erase y) h2 (fun z hz=>?_) ?_ x ?_)
   ·exact (List.mem_erase_of_ne (fun (e:z=y)=>h1 (e▸hz))).2 (hs z (.tail _ hz))
   ·rw [List.length_erase_of_mem (hs y (.head _))];simp only [List.length_cons] at hl;omega
   ·exact (List.mem_erase_of_ne e).2 hx
def Ind (q:Nat) (A M:Int→Int→Int) (n:Nat) (G:List (List Int)):Prop:=∀ x,Wd q G.length x→(∀ j,j<n→Dn A M x (F8 G j)=0)→x=zW G.length
section
variable {q:Nat}{A M:Int→Int→Int}{N V:Int→Int}(O:FO q A M N V)
include O
theorem FO.cmb_of {n:Nat}{G:List (List Int)}(hG:Fc q n G) {x:List Int}(hx:∀ a∈x,0≤a∧a<q):Cmb q A M n G (AFL A M n x G) :=
 O.cmbF_ind hG (P:=Cmb q A M n G) (fun a r u hr a0 a1 hu h=>.add hr a0 a1 h) hx (fun r hr=>hr) (O.wz n) .zero
theorem FO.ind_grow {n:Nat}{G R:List (List Int)}{P:List Nat}{v:List Int}(hG:Fc q n G) (hR:Fc q n R) (hv:Wd q n v) (hb:Yh P R) (hi:Ind q A M n G) (hGR:∀ g∈G,Cmb q A M n R g) (hne:Jq A M N P R v≠zW n):Ind q A M n (G++[v]):=fun x hx h=>by
 have hq:=O.q2
 have hxl:=hx.1
 rw [List.length_append,List.length_singleton] at hxl
 obtain ⟨y,a,rfl⟩:∃ y a,x=y++[a]:=by
  rcases List.eq_nil_or_concat x with h|⟨y,a,h⟩
  ·rw [h] at hxl;simp at hxl
  ·exact ⟨y,a,by simpa using h⟩
 have hy:Wd q G.length y:=⟨by rw [List.length_append,List.length_singleton] at hxl;omega,fun z hz=>hx.2 z (List.mem_append_left _ hz)⟩
 obtain ⟨a0,a1⟩:=hx.2 a (List.mem_append_right _ (.head _))
 have h':∀ j,j<n→A (Dn A M y (F8 G j)) (M a (An v j))=0:=fun j hj=>by
  obtain ⟨v0,v1⟩:=Bo (by omega) hv j
  have:=h j hj
  rw [show F8 (G++[v]) j=F8 G j++[An v j] by simp [F8],O.dot_snoc hy (Ma (by omega) hG j) a0 a1 v0 v1] at this
  exact this
 by_cases ha:a=0
 ·subst ha
  have hz:=hi y hy fun j hj=>by
   obtain ⟨v0,v1⟩:=Bo (by omega) hv j
   obtain ⟨d0,d1⟩:=O.fi.dlt hy (Ma (show 0<q by omega) hG j)
   have:=h' j hj
   rwa [O.fi.mc 0 _ (Int.le_refl 0) (by omega) v0 v1,O.fi.m0 v0 v1,O.fi.a0 _ d0 d1] at this
  rw [hz,List.length_append,List.length_singleton,zW,zW,List.replicate_succ']
 ·exfalso
  obtain ⟨⟨i0,i1⟩,hiv⟩:=O.iv a a0 a1 ha
  obtain ⟨⟨n0,n1⟩,_⟩:=O.ng _ i0 i1
  have hu:=O.cmb_of hG hy.2
  have huw:=O.cmb_mat hG hu
  have hvG:Cmb q A M n G v:=by
   have e:v=Gw A M (N (V a)) (AFL A M n y G) (zW n):=by
    refine Gd hv (O.fi.axw n0 n1 huw (O.wz n)) fun j hj=>?_
    obtain ⟨v0,v1⟩:=Bo (show 0<q by omega) hv j
    obtain ⟨u0,u1⟩:=Bo (show 0<q by omega) huw j
    obtain ⟨m0,m1⟩:=O.fi.ml _ _ a0 a1 v0 v1
    obtain ⟨k0,k1⟩:=O.fi.ml _ _ i0 i1 u0 u1
    obtain ⟨⟨z0,z1⟩,hz⟩:=O.ng _ k0 k1
    rw [O.axp_at n0 n1 huw (O.wz n),Jt,← O.ng_mul i0 i1 u0 u1,O.fi.ac 0 _ (Int.le_refl 0) (by omega) z0 z1,O.fi.a0 _ z0 z1]
    have h1:=h' j hj
    rw [← O.cmb_at hy.2 hG j] at h1
    have h2:A (M (V a) (An (AFL A M n y G) j)) (An v j)=0:=by
     have h3:M (V a) (A (An (AFL A M n y G) j) (M a (An v j)))=0:=by rw [h1,O.fi.m0 i0 i1]
     rw [O.fi.md _ _ _ i0 i1 u0 u1 m0 m1,← O.fi.ma _ _ _ i0 i1 a0 a1 v0 v1,O.fi.mc _ _ i0 i1 a0 a1,hiv,O.fi.mc 1 _ (by omega) (by omega) v0 v1,O.fi.m1 _ v0 v1] at h3
     exact h3
    refine O.fi.cancel k0 k1 v0 v1 z0 z1 ?_
    rw [h2,hz]
   rw [e]
   exact O.cmb_axp hG n0 n1 hu .zero
  have hvR:=O.cmb_trans hR hGR hvG
  exact hne (O.bas_span hb hR (O.rp_in hR (fun r hr=>hr) hvR) (O.rp_zero hb hR hv))
theorem FO.dot_zeros {n:Nat}{x y:List Int}(hx:Wd q n x) (hy:Wd q n y):∀ {k:Nat}{z:List Int},Wd q k z→Dn A M (x++zW k) (y++z)=Dn A M x y
 | 0,z,hz=>by rw [List.length_eq_zero_iff.1 hz.1];simp [zW]
 | k+1,z,hz=>by
  have hq:=O.q2
  have hzl:=hz.1
  obtain ⟨u,c,rfl⟩:∃ u c,z=u++[c]:=by
   rcases List.eq_nil_or_concat z with h|⟨u,c,h⟩
   ·rw [h] at hzl;simp at hzl
   ·exact ⟨u,c,by simpa using h⟩
  have hu:Wd q k u:=⟨by simpa using hzl,fun w hw=>hz.2 w (List.mem_append_left _ hw)⟩
  obtain ⟨c0,c1⟩:=hz.2 c (List.mem_append_right _ (.head _))
  have hxz:Wd q (n+k) (x++zW k):=⟨by rw [List.length_append,hx.1,zW,List.length_replicate],fun w hw=>by
   rcases List.mem_append.1 hw with hw|hw
   ·exact hx.2 w hw
   ·rw [List.eq_of_mem_replicate hw];exact ⟨by omega,by omega⟩⟩
  have hyu:Wd q (n+k) (y++u):=⟨by rw [List.length_append,hy.1,hu.1],fun w hw=>by
   rcases List.mem_append.1 hw with hw|hw
   ·exact hy.2 w hw
   ·exact hu.2 w hw⟩
  obtain ⟨d0,d1⟩:=O.fi.dlt hx hy
  rw [show zW (k+1)=zW k++[0] from List.replicate_succ',← List.append_assoc,← List.append_assoc,O.dot_snoc hxz hyu (Int.le_refl 0) (by omega) c0 c1,FO.dot_zeros hx hy hu,O.fi.mc 0 _ (Int.le_refl 0) (by omega) c0 c1,O.fi.m0 c0 c1,O.fi.a0 _ d0 d1]
theorem FO.ind_fail {n:Nat}{G G2:List (List Int)}{v:List Int}(hG:Fc q n G) (h2:Fc q n G2) (hv:Cmb q A M n G v):¬ Ind q A M n (G++v::G2):=fun hi=>by
 have hq:=O.q2
 have hvw:=O.cmb_mat hG hv
 obtain ⟨t,ht,he⟩:=O.cmb_coef hG hv
 obtain ⟨⟨n0,n1⟩,hn⟩:=O.ng 1 (by omega) (by omega)
 have hx:Wd q (G.length+1) (t++[N 1]):=⟨by rw [List.length_append,ht.1];rfl,fun w hw=>by
  rcases List.mem_append.1 hw with hw|hw
  ·exact ht.2 w hw
  ·rw [List.mem_singleton.1 hw];exact ⟨n0,n1⟩⟩
 have h:=hi ((t++[N 1])++zW G2.length) ⟨by rw [List.length_append,hx.1,zW,List.length_replicate,List.length_append,List.length_cons];omega,fun w hw=>by
  rcases List.mem_append.1 hw with hw|hw
  ·exact hx.2 w hw
  ·rw [List.eq_of_mem_replicate hw];exact ⟨by omega,by omega⟩⟩ fun j hj=>by
  obtain ⟨v0,v1⟩:=Bo (show 0<q by omega) hvw j
  have hc:=Ma (show 0<q by omega) hG j
  have hy:Wd q (G.length+1) (F8 G j++[An v j]):=⟨by rw [List.length_append,hc.1];rfl,fun w hw=>by
   rcases List.mem_append.1 hw with hw|hw
   ·exact hc.2 w hw
   ·rw [List.mem_singleton.1 hw];exact ⟨v0,v1⟩⟩
  obtain ⟨d0,d1⟩:=O.fi.dlt ht hc
  obtain ⟨m0,m1⟩:=O.fi.ml _ _ n0 n1 v0 v1
  rw [show F8 (G++v::G2) j=(F8 G j++[An v j])++F8 G2 j by simp [F8],O.dot_zeros hx hy (Ma (by omega) h2 j),O.dot_snoc ht hc n0 n1 v0 v1,← he j,← O.ng_mul (by omega) (by omega) v0 v1,O.fi.mc 1 _ (by omega) (by omega) v0 v1,O.fi.m1 _ v0 v1]
  exact (O.ng _ v0 v1).2
 have h3:An ((t++[N 1])++zW G2.length) G.length=N 1:=by
  rw [An,List.getD_eq_getElem?_getD,List.getElem?_append_left (by rw [hx.1];omega),List.getElem?_append_right (by rw [ht.1];omega),ht.1,Nat.sub_self];rfl
 rw [h,Jt] at h3
 rw [← h3,O.fi.a0 1 (by omega) (by omega)] at hn
 omega
theorem FO.piv_all {n:Nat}{Aa:List (List Int)}(hM:Fc q n Aa):(cnE A M N V n Aa).2.length=n↔∀ x,Wd q n x→Sol A M Aa x→x=zW n:=by
 have hq:=O.q2
 obtain ⟨h1,h2⟩:=O.cn hM
 have hnd:=Red.nd h1
 constructor
 ·intro hl x hx hs
  have hs:=(h2 x hx).2 hs
  have hall:∀ c,c<n→c∈(cnE A M N V n Aa).2:=fun c hc=>ABa hnd (l':=List.range n) (fun y hy=>List.mem_range.2 (h1.ech.lt y hy)) (by rw [List.length_range];omega) c (List.mem_range.2 hc)
  refine Gd hx (O.wz n) fun c hc=>?_
  rw [Jt]
  obtain ⟨i1,i2⟩:=Red.at_idx h1 (hall c hc)
  have hil:(cnE A M N V n Aa).2.idxOf c<(cnE A M N V n Aa).1.length:=Nat.lt_of_lt_of_le i1 h1.ech.le
  have hr:=Ub.1 hs _ hil
  have hrw:=h1.mat.row hil
  rw [O.dot_one hx hrw c fun e he=>?_] at hr
  ·rw [show An (A7 (cnE A M N V n Aa).1 ((cnE A M N V n Aa).2.idxOf c)) c=1 from h1.ech.one _ _ i2] at hr
   obtain ⟨x0,x1⟩:=Bo (show 0<q by omega) hx c
   rwa [O.fi.m1 _ x0 x1] at hr
  ·obtain ⟨x0,x1⟩:=Bo (show 0<q by omega) hx e
   by_cases hen:e<n
   ·obtain ⟨j1,j2⟩:=Red.at_idx h1 (hall e hen)
    rw [show An (A7 (cnE A M N V n Aa).1 ((cnE A M N V n Aa).2.idxOf c)) e=0 from h1.ech.zer _ _ j2 _ hil fun h=>he (by rw [← h] at j2;exact Option.some.inj (j2.symm.trans i2)),O.fi.m0 x0 x1]
   ·rw [ADY hrw (by omega),O.fi.m0 x0 x1]
 ·intro h
  refine Classical.byContradiction fun hne=>?_
  have hle:=h1.piv_le
  obtain ⟨c,hc,hn⟩:∃ c,c<n∧c∉(cnE A M N V n Aa).2:=by
   refine Classical.byContradiction fun hno=>hne ?_
   have h4:=Lq (List.nodup_range (n:=n)) (l':=(cnE A M N V n Aa).2) fun c hc=>Classical.byContradiction fun hcn=>hno ⟨c,List.mem_range.1 hc,hcn⟩
   rw [List.length_range] at h4
   omega
  have hz:=h _ (O.null_wd h1 c) ((h2 _ (O.null_wd h1 c)).1 (O.null_sol h1 hc hn))
  have:=Wc (N:=N) (R:=(cnE A M N V n Aa).1) (P:=(cnE A M N V n Aa).2) (c:=c) hc
  rw [hz,Jt,if_pos rfl] at this
  omega
end
open Go Go.Fw
set_option maxRecDepth 100000
set_option linter.unusedVariables false
set_option linter.unusedSimpArgs false
set_option maxHeartbeats 0
def stP (n:Int) (l:List Int):Prop:=(∀ x∈l,0≤x∧x<n)∧l.Pairwise (·<·)
instance (n:Int) (l:List Int):Decidable (stP n l):=inferInstanceAs (Decidable (_∧_))
def stA (n:Int) (l:List Int) (i:Nat):Prop:=∀ x,l[i]?=some x→(0≤x∧x<n)∧∀ y,0<i→l[i-1]?=some y→y<x
theorem ABw {n:Int}{l:List Int}:stP n l↔∀ i,i<l.length→stA n l i:=by
 constructor
 ·rintro ⟨h1,h2⟩ i hi x hx
  refine ⟨h1 x (List.mem_of_getElem? hx),fun y h0 hy=>?_⟩
  obtain ⟨a1,a2⟩:=List.getElem?_eq_some_iff.1 hx
  obtain ⟨b1,b2⟩:=List.getElem?_eq_some_iff.1 hy
  have:=List.pairwise_iff_getElem.1 h2 (i-1) i b1 a1 (by omega)
  omega
 ·intro h
  refine ⟨fun x hx=>?_,List.pairwise_iff_getElem.2 fun i j hi hj hij=>?_⟩
  ·obtain ⟨i,hi⟩:=List.getElem?_of_mem hx
   exact (h i (List.getElem?_eq_some_iff.1 hi).1 x hi).1
  ·have key:∀ d,i+d+1<l.length→∀ x y,l[i]?=some x→l[i+d+1]?=some y→x<y:=by
    intro d
    induction d with
    | zero =>
     intro hd x y hx hy
     exact (h _ hd y hy).2 x (by omega) (by rw [show i+0+1-1=i by omega];exact hx)
    | succ d ih =>
     intro hd x y hx hy
     obtain ⟨z,hz⟩:∃ z,l[i+d+1]?=some z:=⟨_,List.getElem?_eq_getElem (by omega)⟩
     have h1:=ih (by omega) x z hx hz
     have h2:=(h _ hd y hy).2 z (by omega) (by rw [show i+(d+1)+1-1=i+d+1 by omega];exact hz)
     omega
   exact key (j-i-1) (by omega) _ _ (List.getElem?_eq_getElem hi) (by rw [show i+(j-i-1)+1=j by omega];exact List.getElem?_eq_getElem hj)
theorem AF8 {n:Int}{l:List Int}{i:Nat}(hi:i<l.length) (h:¬ stA n l i):¬ stP n l:=fun hp=>h (ABw.1 hp i hi)
abbrev Sc (v:List Int):Int:=fxI (fun x=>!decide (x=0)) v
def grL (A M:Int→Int→Int) (N V:Int→Int) (col:Int→List Int) (most:Nat):List Int→List Nat→List (List Int)→List Int→List Int
 | [],_,_,out=>out
 | i::o,P,R,out=>if out.length=most then out else
  if Sc (Jq A M N P R (col i))<0 then grL A M N V col most o P R out
  else grL A M N V col most o (P++[(Sc (Jq A M N P R (col i))).toNat]) (R++[B3 M (V (An (Jq A M N P R (col i)) (Sc (Jq A M N P R (col i))).toNat)) (Jq A M N P R (col i))]) (out++[i])
theorem ADW {A M:Int→Int→Int}{N V:Int→Int}{col:Int→List Int}{most:Nat}:∀ {o:List Int}{P:List Nat}{R:List (List Int)}{out:List Int},(grL A M N V col most o P R out).length≤out.length+o.length
 | [],_,_,_=>Nat.le_refl _
 | i::o,P,R,out=>by
  rw [grL]
  split
  ·simp
  ·split
   ·exact Nat.le_trans ADW (by rw [List.length_cons];omega)
   ·exact Nat.le_trans ADW (by rw [List.length_append];simp only [List.length_cons,List.length_nil];omega)
theorem AH1 {q n:Nat}{v:List Int}(hv:Wd q n v) (h:Sc v<0):v=zW n:=by
 have h:fxI (fun x:Int=>!decide (x=0)) v<0:=h
 have h1:=AEb (p:=fun x:Int=>!decide (x=0)) (l:=v)
 rw [decide_eq_false (by omega)] at h1
 have h1:=List.any_eq_false.1 h1.symm
 refine List.ext_getElem (by rw [hv.1,zW,List.length_replicate]) fun i hi h2=>?_
 have:=h1 v[i] (List.getElem_mem hi)
 rw [List.getElem_replicate]
 simpa using this
theorem Wo {v:List Int}(h:¬ Sc v<0):(Sc v).toNat<v.length∧An v (Sc v).toNat≠0:=by
 have h:¬ fxI (fun x:Int=>!decide (x=0)) v<0:=h
 have h1:=AEb (p:=fun x:Int=>!decide (x=0)) (l:=v)
 rw [decide_eq_true (by omega)] at h1
 have e:Sc v=((v.findIdx fun x=>!decide (x=0):Nat):Int):=by rw [Sc,fxI,if_pos h1.symm]
 have hl:(v.findIdx fun x=>!decide (x=0))<v.length:=List.findIdx_lt_length.2 (List.any_eq_true.1 h1.symm)
 rw [e,Int.toNat_natCast]
 refine ⟨hl,?_⟩
 rw [An,List.getD_eq_getElem?_getD,List.getElem?_eq_getElem hl]
 have:=List.findIdx_getElem (w:=hl)
 simpa using this
section
variable {q:Nat}{A M:Int→Int→Int}{N V:Int→Int}(O:FO q A M N V)
include O
theorem FO.bas_step {n:Nat}{P:List Nat}{R:List (List Int)}{v:List Int}(hb:Yh P R) (hR:Fc q n R) (hv:Wd q n v) (h:¬ Sc (Jq A M N P R v)<0):Wd q n (Jq A M N P R v)∧Yh (P++[(Sc (Jq A M N P R v)).toNat]) (R++[B3 M (V (An (Jq A M N P R v) (Sc (Jq A M N P R v)).toNat)) (Jq A M N P R v)]) ∧
  Fc q n (R++[B3 M (V (An (Jq A M N P R v) (Sc (Jq A M N P R v)).toNat)) (Jq A M N P R v)])∧(∀ u,Cmb q A M n R u→Cmb q A M n (R++[B3 M (V (An (Jq A M N P R v) (Sc (Jq A M N P R v)).toNat)) (Jq A M N P R v)]) u) ∧
  Cmb q A M n (R++[B3 M (V (An (Jq A M N P R v) (Sc (Jq A M N P R v)).toNat)) (Jq A M N P R v)]) v:=by
 have hq:=O.q2
 obtain ⟨k1,k2⟩:=Wo h
 have hw:=O.rp_wd (P:=P) hR hv
 have hz:=O.rp_zero hb hR hv
 have ho:=fun {G:List (List Int)}(hG:Fc q n G) (hs:∀ r∈R,r∈G) (hc:Cmb q A M n G (Jq A M N P R v))=>O.rp_out hG hs hv hc
 generalize Jq A M N P R v=w at *
 generalize (Sc w).toNat=k at *
 obtain ⟨w0,w1⟩:=Bo (show 0<q by omega) hw k
 obtain ⟨⟨i0,i1⟩,hi⟩:=O.iv _ w0 w1 k2
 have hs:∀ j,An (B3 M (V (An w k)) w) j=M (V (An w k)) (An w j):=fun j=>O.scl_at i0 i1 w j
 have hsw:Wd q n (B3 M (V (An w k)) w):=O.scl_wd i0 i1 hw
 have hM:Fc q n (R++[B3 M (V (An w k)) w]):=fun r hr=>by
  rcases List.mem_append.1 hr with hr|hr
  ·exact hR r hr
  ·rw [List.mem_singleton.1 hr];exact hsw
 have hin:∀ u,Cmb q A M n R u→Cmb q A M n (R++[B3 M (V (An w k)) w]) u:=fun u hu=>O.cmb_trans hM (fun r hr=>O.cmb_row hM (List.mem_append_left _ hr)) hu
 refine ⟨hw,Yh.snoc ?_ hb fun p hp=>?_,hM,hin,ho hM (fun r hr=>List.mem_append_left _ hr) ?_⟩
 ·rw [hs,O.fi.mc _ _ i0 i1 w0 w1,hi]
 ·rw [hs,hz p hp,O.fi.m0 i0 i1]
 ·have e:w=Gw A M (An w k) (B3 M (V (An w k)) w) (zW n):=by
   refine Gd hw (O.fi.axw w0 w1 hsw (O.wz n)) fun j _=>?_
   obtain ⟨u0,u1⟩:=Bo (show 0<q by omega) hw j
   obtain ⟨m0,m1⟩:=O.fi.ml _ _ i0 i1 u0 u1
   obtain ⟨z0,z1⟩:=O.fi.ml _ _ w0 w1 m0 m1
   rw [O.axp_at w0 w1 hsw (O.wz n),Jt,hs,O.fi.ac 0 _ (Int.le_refl 0) (by omega) z0 z1,O.fi.a0 _ z0 z1,← O.fi.ma _ _ _ w0 w1 i0 i1 u0 u1,hi,O.fi.mc 1 _ (by omega) (by omega) u0 u1,O.fi.m1 _ u0 u1]
  exact (congrArg (Cmb q A M n (R++[B3 M (V (An w k)) w])) e).mpr (.add (List.mem_append_right _ (.head _)) w0 w1 .zero)
theorem FO.gr_ind {n:Nat}{col:Int→List Int}(hc:∀ i,Wd q n (col i)) {most:Nat}:∀ {o pre:List Int}{P:List Nat}{R:List (List Int)},most=pre.length+o.length→Yh P R→Fc q n R→Ind q A M n (pre.map col)→(∀ g∈pre.map col,Cmb q A M n R g)→(∀ u,Cmb q A M n R u→Cmb q A M n (pre.map col) u) →
  ((grL A M N V col most o P R pre).length=most↔Ind q A M n ((pre++o).map col))
 | [],pre,P,R,hm,_,_,hi,_,_=>by rw [grL,List.append_nil];exact ⟨fun _=>hi,fun _=>by simpa using hm.symm⟩
 | i::o,pre,P,R,hm,hb,hR,hi,hGR,hRG=>by
  have hG:Fc q n (pre.map col):=fun r hr=>by obtain ⟨j,_,rfl⟩:=List.mem_map.1 hr;exact hc j
  have hG2:Fc q n (o.map col):=fun r hr=>by obtain ⟨j,_,rfl⟩:=List.mem_map.1 hr;exact hc j
  rw [List.length_cons] at hm
  rw [grL,if_neg (by omega)]
  split
  ·rename_i hk
   refine ⟨fun h=>?_,fun h=>?_⟩
   ·have:=ADW (A:=A) (M:=M) (N:=N) (V:=V) (col:=col) (most:=most) (o:=o) (P:=P) (R:=R) (out:=pre)
    omega
   ·rw [List.map_append,List.map_cons] at h
    refine absurd h (O.ind_fail hG hG2 (hRG _ (O.rp_out hR (P:=P) (fun r hr=>hr) (hc i) ?_)))
    rw [AH1 (O.rp_wd (P:=P) hR (hc i)) hk]
    exact .zero
  ·rename_i hk
   obtain ⟨h1,h2,h3,h4,h5⟩:=O.bas_step hb hR (hc i) hk
   have h6:=O.ind_grow hG hR (hc i) hb hi hGR (fun h0=>by
    obtain ⟨k1,k2⟩:=Wo hk
    rw [h0,Jt] at k2;exact k2 rfl)
   have hG3:Fc q n (pre.map col++[col i]):=fun r hr=>by
    rcases List.mem_append.1 hr with hr|hr
    ·exact hG r hr
    ·rw [List.mem_singleton.1 hr];exact hc i
   have hR2:Fc q n (R++[col i]):=fun r hr=>by
    rcases List.mem_append.1 hr with hr|hr
    ·exact hR r hr
    ·rw [List.mem_singleton.1 hr];exact hc i
   have hup:∀ u,Cmb q A M n (pre.map col) u→Cmb q A M n (pre.map col++[col i]) u:=fun u hu=>O.cmb_trans hG3 (fun g hg=>O.cmb_row hG3 (List.mem_append_left _ hg)) hu
   have hcv:Cmb q A M n (pre.map col++[col i]) (Jq A M N P R (col i)):=by
    refine O.cmb_trans hG3 (fun r hr=>?_) (O.rp_in hR2 (P:=P) (R:=R) (fun r hr=>List.mem_append_left _ hr) (O.cmb_row hR2 (List.mem_append_right _ (.head _))))
    rcases List.mem_append.1 hr with hr|hr
    ·exact hup r (hRG r (O.cmb_row hR hr))
    ·rw [List.mem_singleton.1 hr];exact O.cmb_row hG3 (List.mem_append_right _ (.head _))
   obtain ⟨k1,k2⟩:=Wo hk
   obtain ⟨w0,w1⟩:=Bo (show 0<q by have:=O.q2;omega) h1 (Sc (Jq A M N P R (col i))).toNat
   obtain ⟨⟨i0,i1⟩,_⟩:=O.iv _ w0 w1 k2
   have ih:=FO.gr_ind hc (most:=most) (o:=o) (pre:=pre++[i]) (P:=P++[(Sc (Jq A M N P R (col i))).toNat]) (R:=R++[B3 M (V (An (Jq A M N P R (col i)) (Sc (Jq A M N P R (col i))).toNat)) (Jq A M N P R (col i))]) (by rw [List.length_append,List.length_singleton];omega) h2 h3 (by rw [List.map_append];exact h6) (fun g hg=>by
    rw [List.map_append] at hg
    rcases List.mem_append.1 hg with hg|hg
    ·exact h4 g (hGR g hg)
    ·rw [List.mem_singleton.1 hg];exact h5) (fun u hu=>by
    rw [List.map_append]
    refine O.cmb_trans hG3 (fun r hr=>?_) hu
    rcases List.mem_append.1 hr with hr|hr
    ·exact hup r (hRG r (O.cmb_row hR hr))
    ·rw [List.mem_singleton.1 hr]
     exact O.cmb_scl hG3 i0 i1 hcv)
   rw [ih,List.append_assoc]
   rfl
end
open Go Go.Fw
set_option maxRecDepth 100000
set_option linter.unusedVariables false
set_option linter.unusedSimpArgs false
set_option maxHeartbeats 0
def V6 (f:List Int→List Int→List (List Int)→Option (List (List Int))) (s z:List Int):List Int→List Int→List (List Int)→Option (List (List Int))
 | _,[],t=>some t
 | pre,i::r,t=>match f (s++[i]) (z++pre) t with
  | none=>none
  | some t'=>V6 f s z (pre++[i]) r t'
abbrev Mr (z set:List Int):List Int:=set.filter fun i=>!decide (i∈z)
def Sp (rt:List Int→List Int→Bool):Nat→List Int→List Int→List (List Int)→Option (List (List Int))
 | _,_,_,[]=>none
 | 0,s,_,x::t=>if rt s x=true then some t else none
 | d+1,s,z,x::t=>if rt s x=true then V6 (Sp rt d) s z [] (Mr z x) t else none
def Tz (p m:Nat) (md:List Int) (N:Nat) (Aa:List (List Int)) (k:Int) (s set:List Int):Bool :=
 decide (stP N set) && !set.any (fun x=>decide (x∈s)) && decide ((Ry p m md set.length (Aa.map fun r=>set.map fun j=>An r j.toNat)).2.length=set.length) && decide ((set.length:Int)=k)
section
variable {q:Nat}{A M:Int→Int→Int}{N V:Int→Int}(O:FO q A M N V)
omit O in
theorem ACL {Aa:List (List Int)}{set:List Int}{j:Nat}{r:List Int}(h:Aa[j]?=some r):F8 (set.map fun i=>F8 Aa i.toNat) j=set.map fun i=>An r i.toNat:=by
 rw [F8,List.map_map]
 refine List.map_congr_left fun i _=>?_
 show An (F8 Aa i.toNat) j=_
 rw [An,List.getD_eq_getElem?_getD,F8,List.getElem?_map,h];rfl
omit O in
theorem AFY {Aa:List (List Int)}{set:List Int}:Ind q A M Aa.length (set.map fun i=>F8 Aa i.toNat)↔∀ x,Wd q set.length x→Sol A M (Aa.map fun r=>set.map fun j=>An r j.toNat) x→x=zW set.length:=by
 rw [Ind,List.length_map]
 refine forall_congr' fun x=>forall_congr' fun hx=>imp_congr_left ⟨fun h r hr=>?_,fun h j hj=>?_⟩
 ·obtain ⟨u,hu,rfl⟩:=List.mem_map.1 hr
  obtain ⟨j,hj⟩:=List.getElem?_of_mem hu
  rw [← ACL hj]
  exact h j (List.getElem?_eq_some_iff.1 hj).1
 ·rw [ACL (List.getElem?_eq_getElem hj)]
  exact h _ (List.mem_map.2 ⟨_,List.getElem_mem hj,rfl⟩)
include O
theorem FO.gr_piv {c:Nat}{Aa:List (List Int)}(hM:Fc q c Aa) {set:List Int}:(grL A M N V (fun i=>F8 Aa i.toNat) set.length set [] [] []).length=set.length↔(cnE A M N V set.length (Aa.map fun r=>set.map fun j=>An r j.toNat)).2.length=set.length:=by
 have hq:=O.q2
 have h:=O.gr_ind (n:=Aa.length) (col:=fun i=>F8 Aa i.toNat) (fun i=>Ma (by omega) hM i.toNat) (most:=set.length) (o:=set) (pre:=[]) (P:=[]) (R:=[]) (by simp) trivial (fun r hr=>by cases hr) (fun x hx _=>by rw [List.length_eq_zero_iff.1 hx.1];rfl) (fun g hg=>by cases hg) (fun u hu=>hu)
 rw [h,List.nil_append,AFY,O.piv_all]
 exact fun r hr=>by
  obtain ⟨u,hu,rfl⟩:=List.mem_map.1 hr
  refine ⟨List.length_map _,fun x hx=>?_⟩
  obtain ⟨j,_,rfl⟩:=List.mem_map.1 hx
  exact Bo (by omega) (hM u hu) _
end
open Go Go.Fw
set_option maxRecDepth 100000
set_option linter.unusedVariables false
set_option linter.unusedSimpArgs false
set_option maxHeartbeats 0
abbrev CnR (E:List (List Int)×List Nat):Value→List Fact→List Bb→Prop:=fun v Φ β=>∃ (pb pp:Option Addr) (cb cp:Nat),v = .tuple #[.slice pb E.2.length cb,.slice pp E.2.length cp]
 ∧ Φ=[A2 (Ar Ak) pb E.2.length cb E.1,A2 Ak pp E.2.length cp (Bz E.2)]∧β=[]
theorem Xe {p m:Nat}{md:List Int}(K:Fok p m md):FO (p ^ m) (Aq (fA p m)) (Aq (fM p (Cc m md))) (Gx p m) (Hr p m md):=Y3 K
theorem AD0 {n:Nat}{l:List Int}(h:stP n l):l.length≤n:=by
 have h1:(l.map Int.toNat).Nodup:=by
  rw [List.Nodup,List.pairwise_map]
  refine h.2.imp_of_mem fun {a b} ha hb hab e=>?_
  have:=(h.1 a ha).1;have:=(h.1 b hb).1
  omega
 have h2:=Lq h1 (l':=List.range n) fun x hx=>by
  obtain ⟨y,hy,rfl⟩:=List.mem_map.1 hx
  have:=h.1 y hy
  exact List.mem_range.2 (by omega)
 rwa [List.length_map,List.length_range] at h2
section
variable {p m:Nat}{md:List Int}
theorem Yg {b ng cg ne ce nl cl:Nat}{pg pe pl:Option Addr}{x y:Int}(K:Fok p m md) (x0:0≤x) (x1:x<((p ^ m:Nat):Int)) (y0:0≤y) (y1:y<((p ^ m:Nat):Int)) :
  Br Tryz.prog 188 [.pointer (some ⟨b,0,none⟩),.int .i64 x,.int .i64 y] [] [T0 b p m (p ^ m) pg ng cg pe ne ce pl nl cl] (Rv (.int .i64 (Aq (fA p m) x (Gx p m y))) []):=by
 refine Ad (F:=X6) rfl fun C=>?_
 have hq:=K.q
 have h2:=K.p2
 have h1:=K.m1
 obtain ⟨⟨n0,n1⟩,_⟩:=(Xe K).ng y y0 y1
 refine wk 99 (ct @Kv (ct @Rq cz)) ?_
 exact ge
end
end Go.Proofs.YteadncphjconmaaGreat
