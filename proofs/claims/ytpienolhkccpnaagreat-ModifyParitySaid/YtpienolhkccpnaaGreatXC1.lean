/-
The first text of a small frame of laws for walking loaded functions: a run of one function is stated over a stack of places in its body (paths, not code) and over a sparse list of the slots that still matter. The second text of the frame: one operation of a region, in its turn. The third text of the frame: what a function knows of memory while it runs: its own blocks, written out; and facts on memory that nobody writes any more, which outlast every step. The world itself is named no more. The fourth text of the frame: how data lie in memory: integers, bools, slices of what is read itself, structs; and the facts that say so. The fifth text of the frame: the function's own blocks: made, read, written, appended to, and given up for good. The sixth text of the frame: append; slices of slices; own rows that are given up for good. The seventh text of the frame: operations whose value is known outright, many at a time; wraps, shifts; slices of slices; structs by value. The eighth text of the frame: slices of slices, structs by value. The ninth text of the frame: own rows of numbers.
-/
import Derived.Calls
import Derived.Orders
import Derived.KernelRfl
import Derived.Laws.AppendOwn
import Derived.Laws.OwnMore
import Derived.AtR
import Derived.Deep.MidRow
import Derived.Below
import Derived.Laws.MakeOwn
import Derived.Laws.Small
import Derived.Laws.Slices
set_option linter.unusedVariables false
set_option linter.unusedSimpArgs false

namespace Go.Fw
def pLA:Nat→Nat→List Nat→List Nat
  | 0, _, l => l
  | f+1, n, l => match Nat.ble n 1 with|true => l|false => pLA f (n / 2) (n % 2 :: l)
def pL (n:Nat):List Nat := pLA 64 n []
end Go.Fw
namespace Go.Fw
abbrev Fr:=List (Nat×Value)
def Fr.get (t:Nat):Fr→Option Value
 | []=>none
 | (i,v)::l=>match Nat.beq i t with
  | true=>some v
  | false=>Fr.get t l
structure Fits (n:Nat) (D:List Deferred) (σ:Fr) (a:Act):Prop where
 size:a.tmps.size=n
 defers:a.defers=D
 get:∀ t v,Fr.get t σ=some v→a.tmps[t]?=some v
def ev (σ:Fr):Operand→Option Value
 | .tmp t=>Fr.get t σ
 | .const v=>some v
 | .global g=>some (.pointer (some ⟨g,0,none⟩))
 | .func f=>some (.func (.func f) #[] #[])
theorem Fits.eval {n:Nat}{D:List Deferred}{σ:Fr}{a:Act}(h:Fits n D σ a) {x:Operand}{v:Value}(hx:ev σ x=some v):a.eval x=v:=by
 cases x with
 | tmp t =>
  have:=h.get t v hx
  simp [Act.eval,this]
 | const u=>simpa [ev,Act.eval] using hx
 | global g=>simpa [ev,Act.eval] using hx
 | func f=>simpa [ev,Act.eval] using hx
theorem Fits.put {n:Nat}{D:List Deferred}{σ:Fr}{a:Act}(h:Fits n D σ a) {d:Nat}(hd:d<n) (v:Value):Fits n D ((d,v)::σ) (a.put (some d) v):=by
 refine ⟨by simpa [Act.put] using h.size,h.defers,fun t u hu=>?_⟩
 simp only [Fr.get] at hu
 simp only [Act.put]
 cases hb:Nat.beq d t with
 | true =>
  rw [hb] at hu
  have e:d=t:=Nat.eq_of_beq_eq_true hb
  subst e
  have:v=u:=by simpa using hu
  subst this
  have hs:d<a.tmps.size:=by rw [h.size];exact hd
  simp [hs]
 | false =>
  rw [hb] at hu
  have e:d≠t:=Nat.ne_of_beq_eq_false hb
  rw [Array.getElem?_setIfInBounds_ne e]
  exact h.get t u hu
def Fr.del (d:Nat):Fr→Fr
 | []=>[]
 | (i,v)::l=>match Nat.beq i d with
  | true=>Fr.del d l
  | false=>(i,v)::Fr.del d l
theorem Fr.get_del (d t:Nat) (σ:Fr) (v:Value) (h:Fr.get t (Fr.del d σ)=some v):t≠d∧Fr.get t σ=some v:=by
 induction σ with
 | nil=>simp [Fr.del,Fr.get] at h
 | cons p l ih =>
  obtain ⟨i,u⟩:=p
  simp only [Fr.del] at h
  cases hb:Nat.beq i d with
  | true =>
   rw [hb] at h
   have e:i=d:=Nat.eq_of_beq_eq_true hb
   obtain ⟨h1,h2⟩:=ih h
   refine ⟨h1,?_⟩
   simp only [Fr.get]
   have:Nat.beq i t=false:=by
    cases hc:Nat.beq i t with
    | true=>have:=Nat.eq_of_beq_eq_true hc;omega
    | false=>rfl
   rw [this];exact h2
  | false =>
   rw [hb] at h
   simp only [Fr.get] at h ⊢
   cases hc:Nat.beq i t with
   | true =>
    rw [hc] at h
    have e:i=t:=Nat.eq_of_beq_eq_true hc
    have e2:i≠d:=Nat.ne_of_beq_eq_false hb
    exact ⟨by omega,h⟩
   | false =>
    rw [hc] at h
    exact ih h
def Fr.sub (σ' σ:Fr):Prop:=∀ t v,Fr.get t σ'=some v→Fr.get t σ=some v
theorem Fr.sub_refl (σ:Fr):Fr.sub σ σ:=fun _ _ h=>h
theorem Fr.sub_nil (σ:Fr):Fr.sub [] σ:=fun _ _ h=>by simp [Fr.get] at h
theorem Fr.sub_cons {i:Nat}{v:Value}{σ' σ:Fr}(h:Fr.get i σ=some v) (hs:Fr.sub σ' σ):Fr.sub ((i,v)::σ') σ:=by
 intro t u hu
 simp only [Fr.get] at hu
 cases hb:Nat.beq i t with
 | true =>
  rw [hb] at hu
  have e:i=t:=Nat.eq_of_beq_eq_true hb
  subst e
  have:v=u:=by simpa using hu
  subst this
  exact h
 | false=>rw [hb] at hu;exact hs t u hu
theorem Fr.sub_consI {i:Nat}{k:IntKind}{m n:Int}{σ' σ:Fr}(h:Fr.get i σ=some (.int k m)) (e:m=n) (hs:Fr.sub σ' σ):Fr.sub ((i,.int k n)::σ') σ :=
 Fr.sub_cons (e▸h) hs
theorem Fr.sub_consS {i:Nat}{pa:Option Addr}{m n c c':Nat}{σ' σ:Fr}(h:Fr.get i σ=some (.slice pa m c)) (e:m=n) (e':c=c') (hs:Fr.sub σ' σ):Fr.sub ((i,.slice pa n c')::σ') σ :=
 Fr.sub_cons (e▸e'▸h) hs
theorem Uy {σ' σ:Fr}(h:σ'.map (fun x=>Fr.get x.1 σ)=σ'.map (fun x=>some x.2)):Fr.sub σ' σ:=by
 induction σ' with
 | nil=>exact Fr.sub_nil _
 | cons x l ih =>
  simp only [List.map_cons,List.cons.injEq] at h
  exact Fr.sub_cons h.1 (ih h.2)
theorem fzz (σ:Fr):Fr.sub [] σ:=Fr.sub_nil σ
theorem fcc {i:Nat}{v:Value}{σ' σ:Fr}(h:Fr.get i σ=some v) (hs:Fr.sub σ' σ):Fr.sub ((i,v)::σ') σ:=Fr.sub_cons h hs
theorem fii {i:Nat}{k:IntKind}{m n:Int}{σ' σ:Fr}(h:Fr.get i σ=some (.int k m)) (e:m=n) (hs:Fr.sub σ' σ):Fr.sub ((i,.int k n)::σ') σ:=Fr.sub_consI h e hs
theorem fss {i:Nat}{pa:Option Addr}{m n c c':Nat}{σ' σ:Fr}(h:Fr.get i σ=some (.slice pa m c)) (e:m=n) (e':c=c') (hs:Fr.sub σ' σ):Fr.sub ((i,.slice pa n c')::σ') σ:=Fr.sub_consS h e e' hs
theorem Fits.sub {n:Nat}{D:List Deferred}{σ σ':Fr}{a:Act}(h:Fits n D σ a) (hs:Fr.sub σ' σ):Fits n D σ' a :=
 ⟨h.size,h.defers,fun t v hv=>h.get t v (hs t v hv)⟩
def Zj:Code→Nat→Code
 | .seq a _,0=>a
 | .seq _ b,_+1=>b
 | .cond _ a _,0=>a
 | .cond _ _ b,_+1=>b
 | .block _ b,_=>b
 | .loop b,_=>b
 | .scope b,_=>b
 | .rangeFunc _ _ a _,0=>a
 | .rangeFunc _ _ _ b,_+1=>b
 | c,_=>c
def sub:List Nat→Code→Code
 | [],c=>c
 | k::p,c=>sub p (Zj c k)
theorem sub_append (p q:List Nat):∀ c:Code,sub (p++q) c=sub q (sub p c):=by
 induction p with
 | nil=>exact fun _=>rfl
 | cons k p ih=>exact fun c=>ih _
inductive It where
 | c (p:List Nat)
 | o (p:List Nat) (i:Nat)
 | blk (id:Nat)
 | lp (p:List Nat)
 /-- A round of a range over a function begins. -/
 | br
 /-- A mark: of the region ahead these operations may come late,but not behind the m-th. -/
 | win (A:List Nat) (m:Nat)
def Ak:Code→List Oper
 | .region _ ops _=>ops.toList
 | _=>[]
def It.item (B:Code):It→Item
 | .c p=>.code (sub p B)
 | .o p i=>.inRegion (Ak (sub p B)).toArray (List.range' i ((Ak (sub p B)).length-i))
 | .blk id=>.inBlock id
 | .lp p=>.inLoop (sub p B)
 | .br=>.beginRound
 | .win _ _=>.code .skip
structure Fun (P:Program) where
 f:FuncId
 fn:Func
 B:Code
 hf:P.funcs[f]?=some fn
 hb:fn.body=some B
 hn : (fn.name == "runtime.NumGoroutine") = false
 /-- In a round of which loop;the marks among the deferred calls. -/
 rnd:Option Nat
 dfs:List Deferred
def Fun.base {P:Program}(F:Fun P):Frame:={ (default:Frame) with fn:=F.f,kind:=.normal,roundOf:=F.rnd }
def Hg:List Value→Value
 | [v]=>v
 | vs=>.tuple vs.toArray
def Up (tmps:Array Value):ResultVar→Sem Value
 | .tmp t=>pure (tmps.getD t undef)
 | .cell a t=>do loadVar t (← asAddr (tmps.getD a undef))
inductive ResAll (P:Program) (w:World) (tmps:Array Value):List ResultVar→List Value→Prop
 | nil:ResAll P w tmps [] []
 | cons {x:ResultVar}{v:Value}{l:List ResultVar}{vs:List Value}:(Up tmps x).run P w = .ok v w→ResAll P w tmps l vs→ResAll P w tmps (x::l) (v::vs)
theorem ADO (fn:Func) (tmps:Array Value):results fn tmps=(do
  let vs ← fn.results.mapM (Up tmps)
  pure (if h:vs.size=1 then vs[0] else .tuple vs)):=rfl
theorem Yh {fn:Func}{tmps:Array Value}{P:Program}{w:World}{vs:List Value}(h:ResAll P w tmps fn.results.toList vs) :
  (results fn tmps).run P w = .ok (Hg vs) w:=by
 have key:∀ (l:List ResultVar) (vs:List Value),ResAll P w tmps l vs→(l.mapM (Up tmps)).run P w = .ok vs w:=by
  intro l vs h
  induction h with
  | nil=>simp
  | cons h1 _ ih=>simp only [List.mapM_cons,Sem.run_bind,h1,Result.andThen_ok,ih,Sem.run_pure]
 have hk:=key _ _ h
 rw [ADO,← Array.toArray_toList (xs:=fn.results)]
 simp only [List.mapM_toArray,Sem.run_bind,Sem.run_map,hk,Result.andThen_ok,Sem.run_pure]
 simp only [Result.ok.injEq,and_true,List.size_toArray]
 split
 ·rename_i hl
  match vs,hl with
  | [v],_=>rfl
 ·rename_i hl
  match vs,hl with
  | [],_=>rfl
  | [_],hl=>simp at hl
  | _::_::_,_=>rfl
def jv:Option (List Nat)→Value
 | none=>.bool true
 | some q=>.tuple (Value.bool false::q.map fun k=>Value.int .i64 (Int.ofNat k)).toArray
theorem AEs {q q':Option (List Nat)}(h:jv q=jv q'):q=q':=by
 cases q with
 | none=>cases q' with
  | none=>rfl
  | some q'=>simp [jv] at h
 | some q=>cases q' with
  | none=>simp [jv] at h
  | some q' =>
   simp only [jv,Value.tuple.injEq] at h
   have h:=congrArg Array.toList h
   simp only [List.cons.injEq,true_and] at h
   have key:∀ l l':List Nat,l.map (fun k=>Value.int .i64 (Int.ofNat k))=l'.map (fun k=>Value.int .i64 (Int.ofNat k))→l=l':=by
    intro l
    induction l with
    | nil=>intro l' h;cases l' with
     | nil=>rfl
     | cons _ _=>simp at h
    | cons a l ih=>intro l' h;cases l' with
     | nil=>simp at h
     | cons b l' =>
      simp only [List.map_cons,List.cons.injEq,Value.int.injEq,true_and] at h
      rw [ih l' h.2,Int.ofNat_inj.1 h.1]
   rw [key _ _ h]
def AHW (B:Code):Option (List Nat)→List Item→Prop
 | none,k=>k=[]
 | some p,k=>(sub p B = .ret∧∃ k',k = .code .ret::k')∨∃ id k',sub p B = .exit id∧k = .code (.exit id)::k'∧exitTo id k'=none
def ABp (w w':World):Prop:=∀ (k:Nat) (c:Array Value) (t:TypeId) (z:Nat×Nat),w.heap[k]?=some (Obj.cells c t z)→w'.heap[k]?=some (Obj.cells c t z)
theorem ABp.refl (w:World):ABp w w:=fun _ _ _ _ h=>h
def O6 {P:Program}(F:Fun P) (R:Value→World→Prop) (cs:List Frame) (m:Machine):Prop :=
 match F.rnd with
 | none=>∃ vs w' fr,R (Hg vs) w'∧Steps P m (lone fr cs w')∧fr.fn=F.f∧fr.mode = .returning∧fr.defers=F.dfs∧fr.kind = .normal∧∀ w5,ABp w' w5→ResAll P w5 fr.tmps F.fn.results.toList vs
 | some _=>∃ q w' a k,R (jv q) w'∧a.defers=F.dfs∧Steps P m (lone (F.base.atR a k) cs w')∧AHW F.B q k
theorem O6.step {P:Program}{F:Fun P}{R:Value→World→Prop}{cs:List Frame}{m m':Machine}(hs:Steps P m m') (h:O6 F R cs m'):O6 F R cs m:=by
 unfold O6 at h ⊢
 cases hr:F.rnd with
 | none =>
  rw [hr] at h
  obtain ⟨vs,w',fr,h1,h2,h3⟩:=h
  exact ⟨vs,w',fr,h1,hs.trans h2,h3⟩
 | some l =>
  rw [hr] at h
  obtain ⟨q,w',a,k,h1,h2,h3,h4⟩:=h
  exact ⟨q,w',a,k,h1,h2,hs.trans h3,h4⟩
theorem O6.mono {P:Program}{F:Fun P}{R R':Value→World→Prop}{cs:List Frame}{m:Machine}(h:O6 F R cs m) (hr:∀ v w,R v w→R' v w):O6 F R' cs m:=by
 unfold O6 at h ⊢
 cases hk:F.rnd with
 | none =>
  rw [hk] at h
  obtain ⟨vs,w',fr,h1,h2⟩:=h
  exact ⟨vs,w',fr,hr _ _ h1,h2⟩
 | some l =>
  rw [hk] at h
  obtain ⟨q,w',a,k,h1,h2⟩:=h
  exact ⟨q,w',a,k,hr _ _ h1,h2⟩
def Ret (R:Value→World→Prop):Ending→World→Prop
 | .returned v,w=>R v w
 | _,_=>False
def L9 {P:Program}(F:Fun P) (S:List It) (σ:Fr) (w:World) (R:Value→World→Prop):Prop :=
 ∀ a,Fits F.fn.ntmps F.dfs σ a→∀ cs:List Frame,O6 F R cs (lone (F.base.atR a (S.map (It.item F.B))) cs w)
section
variable {P:Program}{F:Fun P}{S:List It}{σ:Fr}{w:World}{R:Value→World→Prop}
theorem Yx {σ':Fr}(hs:Fr.sub σ' σ) (h:L9 F S σ' w R):L9 F S σ w R :=
 fun a ha cs=>h a (ha.sub hs) cs
theorem AAr {R':Value→World→Prop}(h:L9 F S σ w R) (hr:∀ v w',R v w'→R' v w'):L9 F S σ w R' :=
 fun a ha cs=>(h a ha cs).mono hr
theorem Sd {S':List It}(hs:∀ a,Fits F.fn.ntmps F.dfs σ a→∀ cs,step P (lone (F.base.atR a (S.map (It.item F.B))) cs w) = .next (lone (F.base.atR a (S'.map (It.item F.B))) cs w))
  (h:L9 F S' σ w R):L9 F S σ w R :=
 fun a ha cs=>(h a ha cs).step (.one (hs a ha cs))
theorem Vx {args:List Value}{σ:Fr}(h:L9 F [.c []] σ w R)
  (hl:args.length≤F.fn.ntmps) (hσ:∀ t v,Fr.get t σ=some v→args[t]?=some v) (hk:F.rnd=none) (hd:F.dfs=[]):Calls P F.f args.toArray w (Ret R):=by
 intro cs
 have:=h { tmps:=args.toArray++Array.replicate (F.fn.ntmps-args.toArray.size) undef,defers:=[] } ?_ cs
 ·have henter:Frame.enter P F.f args.toArray .normal =
    F.base.atR { tmps:=args.toArray++Array.replicate (F.fn.ntmps-args.toArray.size) undef,defers:=[] } [.code F.B]:=by
   simp [Frame.enter,Frame.atR,F.hf,F.hb,Fun.base,hk]
  rw [henter]
  unfold O6 at this
  rw [hk] at this
  obtain ⟨vs,w',fr,h1,h2,h3,h4,h5,h6,h7⟩:=this
  exact ⟨.returned (Hg vs),w',fr,h1,h2,h3,h4,h5.trans hd,h6,F.fn,by rw [h3];exact F.hf,Yh (h7 _ (.refl _))⟩
 ·refine ⟨by simp;omega,hd.symm,fun t v ht=>?_⟩
  have:=hσ t v ht
  have hlt:t<args.length:=by
   rcases Nat.lt_or_ge t args.length with h|h
   ·exact h
   ·simp [List.getElem?_eq_none h] at this
  simp [Array.getElem?_append,hlt]
  rw [List.getElem?_eq_getElem hlt] at this
  exact Option.some.inj this
def Md (id:Nat):List It→Option (List It)
 | []=>none
 | .blk j::S=>match Nat.beq id j with
  | true=>some S
  | false=>Md id S
 | _::S=>Md id S
theorem AAC (B:Code) (id:Nat):∀ (S S':List It),Md id S=some S'→exitTo id (S.map (It.item B))=some (S'.map (It.item B)):=by
 intro S
 induction S with
 | nil=>intro S' h;simp [Md] at h
 | cons x S ih =>
  intro S' h
  cases x with
  | blk j =>
   simp only [Md] at h
   cases hb:Nat.beq id j with
   | true =>
    rw [hb] at h
    have e:id=j:=Nat.eq_of_beq_eq_true hb
    have:S=S':=by simpa using h
    subst this
    simp [It.item,exitTo,e]
   | false =>
    rw [hb] at h
    have hji:¬ j=id:=fun e=>(Nat.ne_of_beq_eq_false hb) e.symm
    simp [It.item,exitTo,hji,ih S' h]
  | c p=>simp only [Md] at h;simp [It.item,exitTo,ih S' h]
  | o p i=>simp only [Md] at h;simp [It.item,exitTo,ih S' h]
  | lp p=>simp only [Md] at h;simp [It.item,exitTo,ih S' h]
  | br=>simp only [Md] at h;simp [It.item,exitTo,ih S' h]
  | win A m=>simp only [Md] at h;simp [It.item,exitTo,ih S' h]
def nx (B:Code):List It→Option (List It)
 | .blk _::S=>some S
 | .o p i::S=>match Nat.ble (Ak (sub p B)).length i with
  | true=>some S
  | false=>none
 | .c p::S=>match sub p B with
  | .skip=>some S
  | .label _=>some S
  | .seq _ _=>some (.c (p++[0])::.c (p++[1])::S)
  | .block id _=>some (.c (p++[0])::.blk id::S)
  | .region _ _ false=>some (.o p 0::S)
  | .exit id=>Md id S
  | _=>none
 | _=>none
theorem AEm {S':List It}(hn:nx F.B S=some S') (h:L9 F S' σ w R):L9 F S σ w R:=by
 refine Sd (S':=S') (fun a _ cs=>?_) h
 cases S with
 | nil=>simp [nx] at hn
 | cons x S =>
  cases x with
  | blk id =>
   have:S=S':=by simpa [nx] using hn
   subst this
   exact stepR_inBlock
  | lp p=>simp [nx] at hn
  | br=>simp [nx] at hn
  | win A m=>simp [nx] at hn
  | o p i =>
   simp only [nx] at hn
   cases hb:Nat.ble (Ak (sub p F.B)).length i with
   | false=>rw [hb] at hn;simp at hn
   | true =>
    rw [hb] at hn
    have:S=S':=by simpa using hn
    subst this
    have hle:=Nat.le_of_ble_eq_true hb
    have e:(Ak (sub p F.B)).length-i=0:=by omega
    simp only [List.map_cons,It.item,e,List.range'_zero]
    exact stepR_region_end
  | c p =>
   simp only [nx] at hn
   simp only [List.map_cons,It.item]
   cases hc:sub p F.B with
   | skip =>
    rw [hc] at hn
    have:S=S':=by simpa using hn
    subst this
    exact stepR_skip
   | label l =>
    rw [hc] at hn
    have:S=S':=by simpa using hn
    subst this
    exact stepR_label
   | seq x y =>
    rw [hc] at hn
    have:S'=_:=(Option.some.inj hn).symm
    subst this
    simp only [List.map_cons,It.item,sub_append,hc,sub,Zj]
    exact stepR_seq
   | block id x =>
    rw [hc] at hn
    have:S'=_:=(Option.some.inj hn).symm
    subst this
    simp only [List.map_cons,It.item,sub_append,hc,sub,Zj]
    exact stepR_block
   | region id ops d =>
    rw [hc] at hn
    cases d with
    | true=>simp at hn
    | false =>
     have:S'=_:=(Option.some.inj hn).symm
     subst this
     simp only [List.map_cons,It.item,hc,Ak,Array.toArray_toList,Array.length_toList,Nat.sub_zero]
     rw [← List.range_eq_range']
     exact stepR_region
   | exit id =>
    rw [hc] at hn
    exact stepR_exit (AAC F.B id S S' hn)
   | cond _ _ _=>rw [hc] at hn;simp at hn
   | loop _=>rw [hc] at hn;simp at hn
   | rangeFunc _ _ _ _=>rw [hc] at hn;simp at hn
   | scope _=>rw [hc] at hn;simp at hn
   | goto _=>rw [hc] at hn;simp at hn
   | ret=>rw [hc] at hn;simp at hn
   | refuse _=>rw [hc] at hn;simp at hn
def nf (B:Code):Nat→List It→List It
 | 0,S=>S
 | n+1,S=>match nx B S with
  | some S'=>nf B n S'
  | none=>S
theorem ACL (n:Nat):∀ {S:List It},L9 F (nf F.B n S) σ w R→L9 F S σ w R:=by
 induction n with
 | zero=>exact fun h=>h
 | succ n ih =>
  intro S h
  simp only [nf] at h
  cases hn:nx F.B S with
  | none=>rw [hn] at h;exact h
  | some S'=>rw [hn] at h;exact AEm hn (ih h)
theorem AKO (S':List It) (hn:nf F.B 60 S=S') (h:L9 F S' σ w R):L9 F S σ w R:=ACL 60 (hn▸h)
def I2 (B:Code) (p:List Nat):Option Operand :=
 match sub p B with
 | .cond c _ _=>some c
 | _=>none
theorem ACU {p:List Nat}{c:Operand}{t:Bool}(hc:I2 F.B p=some c) (ht:ev σ c=some (.bool t))
  (h1:t=true→L9 F (.c (p++[0])::S) σ w R) (h2:t=false→L9 F (.c (p++[1])::S) σ w R):L9 F (.c p::S) σ w R:=by
 obtain ⟨x,y,hs⟩:∃ x y,sub p F.B = .cond c x y:=by
  unfold I2 at hc
  cases hs:sub p F.B <;> rw [hs] at hc <;> simp at hc
  subst hc;exact ⟨_,_,rfl⟩
 cases t with
 | true =>
  refine Sd (fun a ha cs=>?_) (h1 rfl)
  simp only [List.map_cons,It.item,sub_append,hs,sub,Zj]
  exact stepR_cond (ha.eval ht)
 | false =>
  refine Sd (fun a ha cs=>?_) (h2 rfl)
  simp only [List.map_cons,It.item,sub_append,hs,sub,Zj]
  exact stepR_cond (ha.eval ht)
theorem ALn {p:List Nat}{c:Operand}{q:Prop} [Decidable q] (hc:I2 F.B p=some c) (ht:ev σ c=some (.bool (decide q)))
  (h1:q→L9 F (.c (p++[0])::S) σ w R) (h2:¬ q→L9 F (.c (p++[1])::S) σ w R):L9 F (.c p::S) σ w R :=
 ACU hc ht (fun h=>h1 (of_decide_eq_true h)) (fun h=>h2 (of_decide_eq_false h))
def Zr (B:Code) (p:List Nat):Bool :=
 match sub p B with
 | .loop _=>true
 | _=>false
theorem AEn {B:Code}{p:List Nat}(h:Zr B p=true):∃ c,sub p B = .loop c:=by
 unfold Zr at h
 cases hs:sub p B <;> rw [hs] at h <;> simp at h
 exact ⟨_,rfl⟩
theorem AH7 {X:Type}{p:List Nat}(hp:Zr F.B p=true) (st:X→Fr) (I:X→World→Prop) (μ:X→Nat) (x:X) (hx:I x w) (hs:Fr.sub (st x) σ)
  (round:∀ x w,I x w→(∀ x' w',μ x'<μ x→I x' w'→L9 F (.lp (p++[0])::S) (st x') w' R)→L9 F (.c (p++[0])::.lp (p++[0])::S) (st x) w R) :
  L9 F (.c p::S) σ w R:=by
 obtain ⟨c,hc⟩:=AEn hp
 have key:∀ n x w,μ x=n→I x w→L9 F (.c (p++[0])::.lp (p++[0])::S) (st x) w R:=by
  intro n
  induction n using Nat.strongRecOn with
  | _ n ih =>
   intro x w hn hI
   refine round x w hI fun x' w' hlt hI'=>?_
   refine Sd (fun a ha cs=>?_) (ih (μ x') (hn▸hlt) x' w' rfl hI')
   simp only [List.map_cons,It.item]
   exact stepR_inLoop
 refine Yx hs ?_
 refine Sd (fun a ha cs=>?_) (key _ x w rfl hx)
 simp only [List.map_cons,It.item,sub_append,hc,sub,Zj]
 exact stepR_loop
def L6 (B:Code) (p:List Nat):Bool :=
 match sub p B with
 | .ret=>true
 | _=>false
def Mf (σ:Fr):List ResultVar→Option (List Value)
 | []=>some []
 | .tmp t::l=>match Fr.get t σ,Mf σ l with
  | some v,some vs=>some (v::vs)
  | _,_=>none
 | .cell _ _::_=>none
theorem ResAll.of_resOf {n:Nat}{D:List Deferred}{σ:Fr}{a:Act}(ha:Fits n D σ a) (P:Program) (w:World):∀ (l:List ResultVar) (vs:List Value),Mf σ l=some vs→ResAll P w a.tmps l vs:=by
 intro l
 induction l with
 | nil=>intro vs h;simp [Mf] at h;subst h;exact .nil
 | cons x l ih =>
  intro vs h
  cases x with
  | cell _ _=>simp [Mf] at h
  | tmp t =>
   simp only [Mf] at h
   cases h1:Fr.get t σ with
   | none=>rw [h1] at h;simp at h
   | some v =>
    cases h2:Mf σ l with
    | none=>rw [h1,h2] at h;simp at h
    | some us =>
     rw [h1,h2] at h
     have:v::us=vs:=by simpa using h
     subst this
     have hv:=ha.get t v h1
     exact .cons (by simp [Up,hv]) (ih us h2)
theorem Uh {p:List Nat}(hp:L6 F.B p=true) {vs:List Value}
  (hr:∀ a,Fits F.fn.ntmps F.dfs σ a→∀ w5,ABp w w5→ResAll P w5 a.tmps F.fn.results.toList vs) (h:R (Hg vs) w) (hk:F.rnd=none):L9 F (.c p::S) σ w R:=by
 intro a ha cs
 have hs:sub p F.B = .ret:=by
  unfold L6 at hp
  cases hs:sub p F.B <;> rw [hs] at hp <;> first|rfl|simp at hp
 unfold O6
 rw [hk]
 refine ⟨vs,w,{ F.base.atR a (.code .ret::S.map (It.item F.B)) with mode:=.returning },h,?_,rfl,rfl,ha.defers,rfl,hr a ha⟩
 simp only [List.map_cons,It.item,hs]
 exact .one (stepR_ret hk)
theorem AJc {p:List Nat}{vs:List Value}(hp:L6 F.B p=true) (hr:Mf σ F.fn.results.toList=some vs) (h:R (Hg vs) w) (hk:F.rnd=none):L9 F (.c p::S) σ w R :=
 Uh hp (fun _ ha w5 _=>ResAll.of_resOf ha P w5 _ _ hr) h hk
theorem AIX {vs:List Value}(hr:Mf σ F.fn.results.toList=some vs) (h:R (Hg vs) w) (hk:F.rnd=none):L9 F [] σ w R:=by
 intro a ha cs
 unfold O6
 rw [hk]
 exact ⟨vs,w,{ F.base.atR a [] with mode:=.returning },h,.one (stepR_end hk),rfl,rfl,ha.defers,rfl,fun w5 _=>ResAll.of_resOf ha P w5 _ _ hr⟩
theorem AGF {l:Nat}(hk:F.rnd=some l) (h:R (jv none) w):L9 F [] σ w R:=by
 intro a ha cs
 unfold O6
 rw [hk]
 exact ⟨none,w,a,[],h,ha.defers,.refl _ _,rfl⟩
theorem AHK {l:Nat}{p:List Nat}(hk:F.rnd=some l) (hp:L6 F.B p=true) (h:R (jv (some p)) w):L9 F (.c p::S) σ w R:=by
 intro a ha cs
 have hs:sub p F.B = .ret:=by
  unfold L6 at hp
  cases hs:sub p F.B <;> rw [hs] at hp <;> first|rfl|simp at hp
 unfold O6
 rw [hk]
 exact ⟨some p,w,a,_,h,ha.defers,.refl _ _,.inl ⟨hs,S.map (It.item F.B),by simp only [List.map_cons,It.item,hs]⟩⟩
end
def At {P:Program}(F:Fun P) (k:List Item) (a:Act) (w:World) (R:Value→World→Prop):Prop :=
 ∀ cs:List Frame,O6 F R cs (lone (F.base.atR a k) cs w)
def Rnd (P:Program) (l:Nat) (f:FuncId) (tmps:Array Value) (assign body:Code) (w:World) (post:Value→World→Prop):Prop :=
 ∀ (c:Frame) (cs:List Frame),∃ v w',post v w'∧Steps P (lone (Frame.round l f tmps assign body .normal) (c::cs) w) (lone (c.finish v) cs w')
theorem Rnd.mono {P:Program}{l:Nat}{f:FuncId}{tmps:Array Value}{assign body:Code}{w:World}{post post':Value→World→Prop}(h:Rnd P l f tmps assign body w post) (hh:∀ v w,post v w→post' v w):Rnd P l f tmps assign body w post' :=
 fun c cs=>let ⟨v,w',h1,h2⟩:=h c cs;⟨v,w',hh _ _ h1,h2⟩
def Out (P:Program) (post:Value→World→Prop):Result Next→Prop
 | .ok (.value v) w=>post v w
 | .ok .skip w=>post undef w
 | .ok (.enter f args) w=>Calls P f args w (Ret post)
 | .ok (.round l f tmps assign body) w=>Rnd P l f tmps assign body w post
 | _=>False
theorem Out.mono {P:Program}{post post':Value→World→Prop}(h:∀ v w,post v w→post' v w):∀ {r:Result Next},Out P post r→Out P post' r:=by
 intro r hr
 cases r with
 | halt x w=>exact hr.elim
 | ok n w =>
  cases n with
  | value v=>exact h _ _ hr
  | skip=>exact h _ _ hr
  | enter f args =>
   refine Calls.mono hr fun e w' he=>?_
   cases e with
   | returned v=>exact h _ _ he
   | panicked _=>exact he
   | outgrown=>exact he
  | round l f tmps assign body=>exact Rnd.mono hr h
  | _=>exact hr.elim
theorem Out.semAt {P:Program}{post:Value→World→Prop}{ρ:Operand→Value}{o:Oper}{w:World}(h:Out P post ((execOp ρ o).run P w)) (ro:Option Nat):o.semAt ro ρ=execOp ρ o:=by
 refine Oper.semAt_eq ro ρ o fun c hc=>?_
 have:execOp ρ o=(do pure (.defer (← resolve ρ c o.type))):=by
  obtain ⟨dst,op,ty,pos,after,guard⟩:=o
  simp only at hc
  subst hc
  rfl
 rw [this,Sem.run_bind] at h
 cases hr:(resolve ρ c o.type).run P w with
 | halt x w'=>rw [hr] at h;exact h
 | ok d w'=>rw [hr] at h;exact h
theorem At.of_step {P:Program}{F:Fun P}{k k':List Item}{a a':Act}{w w':World}{R:Value→World→Prop}
  (hs:∀ cs,step P (lone (F.base.atR a k) cs w) = .next (lone (F.base.atR a' k') cs w')) (h:At F k' a' w' R):At F k a w R:=fun cs =>
 (h cs).step (.one (hs cs))
section
variable {P:Program}{F:Fun P}{k:List Item}{a:Act}{w:World}{R:Value→World→Prop}{ops:Array Oper}{i:Nat}{rest:List Nat}{o:Oper}
theorem Kz (ho:ops[i]?=some o) (hw:Region.wanted o (yielded ops a.tmps)=true) {post:Value→World→Prop}(hx:Out P post ((execOp a.eval o).run P w))
  (h:∀ v w',post v w'→At F (.inRegion ops rest::k) (a.put o.dst v) w' R):At F (.inRegion ops (i::rest)::k) a w R:=by
 intro cs
 have hg:=fun cs=>stepGR_op (P:=P) (b:=F.base) (k:=k) (cs:=cs) (w:=w) (rest:=rest) ho hw
 rw [hx.semAt] at hg
 have hfin:∀ v,(F.base.atR a (.inRegion ops (i::rest)::k)).finish v=F.base.atR (a.put o.dst v) (.inRegion ops rest::k):=by
  intro v;rw [Frame.finish_atR,ho];rfl
 generalize hr:(execOp a.eval o).run P w=r at hx
 cases r with
 | halt x w'=>exact hx.elim
 | ok n w' =>
  cases n with
  | value v =>
   refine At.of_step (fun cs=>step_lone_go ?_) (h v w' hx) cs
   rw [hg cs,← hfin];simp [stepG.apply,hr]
  | skip =>
   refine At.of_step (fun cs=>step_lone_go ?_) (h undef w' hx) cs
   rw [hg cs,← hfin];simp [stepG.apply,hr]
  | enter f args =>
   obtain ⟨e,w'',fr,hR,hsteps,_,hleave⟩:=hx (F.base.atR a (.inRegion ops (i::rest)::k)::cs)
   have henter:step P (lone (F.base.atR a (.inRegion ops (i::rest)::k)) cs w) =
     .next (lone (Frame.enter P f args .normal) (F.base.atR a (.inRegion ops (i::rest)::k)::cs) w') :=
    step_lone_go (by rw [hg cs];simp [stepG.apply,hr,Frame.atR])
   cases e with
   | returned v =>
    refine (h v w'' hR cs).step (.head henter (Steps.trans hsteps (.one ?_)))
    rw [← hfin];exact step_leave_returned hleave
   | panicked _=>exact hR.elim
   | outgrown=>exact hR.elim
  | round l f tmps assign body =>
   obtain ⟨v,w'',hR,hsteps⟩:=hx (F.base.atR a (.inRegion ops (i::rest)::k)) cs
   have henter:step P (lone (F.base.atR a (.inRegion ops (i::rest)::k)) cs w) =
     .next (lone (Frame.round l f tmps assign body .normal) (F.base.atR a (.inRegion ops (i::rest)::k)::cs) w') :=
    step_lone_go (by rw [hg cs];simp [stepG.apply,hr,Frame.atR])
   refine (h v w'' hR cs).step (.head henter ?_)
   rw [← hfin];exact hsteps
  | _=>exact hx.elim
theorem ABH (ho:ops[i]?=some o) (hw:Region.wanted o (yielded ops a.tmps)=false)
  (h:At F (.inRegion ops rest::k) (a.put o.dst undef) w R):At F (.inRegion ops (i::rest)::k) a w R:=by
 refine At.of_step (fun cs=>?_) h
 have:=stepR_op_skip (P:=P) (b:=F.base) (a:=a) (k:=k) (cs:=cs) (w:=w) (ops:=ops) (i:=i) (rest:=rest) (by simp [ho,hw])
 rw [ho] at this
 exact this
end
def A5 {α:Type}:List α→Nat→Option α
 | [],_=>none
 | x::_,0=>some x
 | _::l,n+1=>A5 l n
theorem B8 {α:Type}(l:List α):∀ n,A5 l n=l[n]?:=by
 induction l with
 | nil=>intro n;simp [A5]
 | cons x l ih=>intro n;cases n with
  | zero=>simp [A5]
  | succ n=>simp [A5,ih]
def AAa {P:Program}(F:Fun P) (p:List Nat) (i:Nat):Option (Option Tmp×Op×TypeId) :=
 match A5 (Ak (sub p F.B)) i with
 | some ⟨dst,op,ty,_,_,none⟩=>match dst with
  | none=>some (none,op,ty)
  | some d=>match Nat.blt d F.fn.ntmps with
   | true=>some (some d,op,ty)
   | false=>none
 | _=>none
def Da (op : Op) (ty : TypeId) : Oper:={ dst:=none,op:=op,type:=ty,pos:="",after:=#[],guard:=none }
theorem Ge (ρ:Operand→Value) (o:Oper):execOp ρ o=execOp ρ (Da o.op o.type):=by
 cases o with
 | mk dst op ty pos after guard=>cases op <;> rfl
def Ex (P:Program) (op:Op) (ty:TypeId) (σ:Fr) (w:World) (post:Value→World→Prop):Prop :=
 ∀ ρ:Operand→Value,(∀ x v,ev σ x=some v→ρ x=v)→Out P post ((execOp ρ (Da op ty)).run P w)
theorem Ex.mono {P:Program}{op:Op}{ty:TypeId}{σ:Fr}{w:World}{post post':Value→World→Prop}(h:Ex P op ty σ w post) (hh:∀ v w,post v w→post' v w):Ex P op ty σ w post' :=
 fun ρ hρ=>(h ρ hρ).mono hh
def putF (d:Option Tmp) (v:Value) (σ:Fr):Fr :=
 match d with
 | none=>σ
 | some d=>(d,v)::σ
section
variable {P:Program}{F:Fun P}{S:List It}{σ:Fr}{w:World}{R:Value→World→Prop}{p:List Nat}{i:Nat}{d:Option Tmp}{op:Op}{ty:TypeId}
theorem W2 (ho:AAa F p i=some (d,op,ty)):∃ pos after,A5 (Ak (sub p F.B)) i=some ⟨d,op,ty,pos,after,none⟩∧∀ t,d=some t→t<F.fn.ntmps:=by
 unfold AAa at ho
 cases h:A5 (Ak (sub p F.B)) i with
 | none=>rw [h] at ho;simp at ho
 | some o =>
  rw [h] at ho
  obtain ⟨dst,op',ty',pos,after,guard⟩:=o
  cases guard with
  | some g=>simp at ho
  | none =>
   cases dst with
   | none =>
    simp at ho
    obtain ⟨rfl,rfl,rfl⟩:=ho
    exact ⟨pos,after,rfl,fun t ht=>by simp at ht⟩
   | some dd =>
    simp only at ho
    cases hb:Nat.blt dd F.fn.ntmps with
    | false=>rw [hb] at ho;simp at ho
    | true =>
     rw [hb] at ho
     simp at ho
     obtain ⟨rfl,rfl,rfl⟩:=ho
     refine ⟨pos,after,rfl,fun t ht=>?_⟩
     obtain rfl:=Option.some.inj ht
     exact Nat.le_of_ble_eq_true hb
theorem Fits.putF {n:Nat}{D:List Deferred}{a:Act}(h:Fits n D σ a) (hd:∀ t,d=some t→t<n) (v:Value):Fits n D (putF d v σ) (a.put d v):=by
 cases d with
 | none=>exact h
 | some d=>exact h.put (hd d rfl) v
theorem ACi {o:Oper}(h:A5 (Ak (sub p F.B)) i=some o) :
  It.item F.B (.o p i) = .inRegion (Ak (sub p F.B)).toArray (i::List.range' (i+1) ((Ak (sub p F.B)).length-(i+1)))∧(Ak (sub p F.B)).toArray[i]?=some o:=by
 rw [B8] at h
 have hlt:i<(Ak (sub p F.B)).length:=by
  rcases Nat.lt_or_ge i (Ak (sub p F.B)).length with h'|h'
  ·exact h'
  ·simp [List.getElem?_eq_none h'] at h
 refine ⟨?_,by simpa using h⟩
 have e:(Ak (sub p F.B)).length-i=((Ak (sub p F.B)).length-(i+1))+1:=by omega
 simp only [It.item,e,List.range'_succ]
theorem ADZ {post:Value→World→Prop}(ho:AAa F p i=some (d,op,ty)) (hx:Ex P op ty σ w post)
  (h:∀ v w',post v w'→L9 F (.o p (i+1)::S) (putF d v σ) w' R):L9 F (.o p i::S) σ w R:=by
 obtain ⟨pos,after,hn,hd⟩:=W2 ho
 obtain ⟨e1,e2⟩:=ACi (F:=F) hn
 intro a ha
 simp only [List.map_cons,e1]
 refine Kz e2 (by simp [Region.wanted]) (post:=post) ?_ fun v w' hv=>?_
 ·rw [Ge]
  exact hx a.eval fun x v hv=>ha.eval hv
 ·exact h v w' hv (a.put d v) (ha.putF hd v)
def Jp (P:Program) (op:Op) (ty:TypeId) (σ:Fr) (w:World) (v:Value):Prop :=
 ∀ ρ:Operand→Value,(∀ x v,ev σ x=some v→ρ x=v)→(execOp ρ (Da op ty)).run P w = .ok (.value v) w
theorem Jp.ex {v:Value}(h:Jp P op ty σ w v):Ex P op ty σ w (fun u w'=>u=v∧w'=w):=fun ρ hρ=>by
 rw [h ρ hρ];exact ⟨rfl,rfl⟩
theorem run_pure {v:Value}(ho:AAa F p i=some (d,op,ty)) (hx:Jp P op ty σ w v)
  (h:L9 F (.o p (i+1)::S) (putF d v σ) w R):L9 F (.o p i::S) σ w R :=
 ADZ ho hx.ex fun u w' ⟨h1,h2⟩=>by subst h1;subst h2;exact h
def Lo {P:Program}(F:Fun P) (p:List Nat) (i:Nat):Option (Tmp×Bool×Option Tmp×Op×TypeId) :=
 match A5 (Ak (sub p F.B)) i with
 | some ⟨dst,op,ty,_,_,some (j,want)⟩ =>
  match (A5 (Ak (sub p F.B)) j).bind (·.dst) with
  | some g=>match dst with
   | none=>some (g,want,none,op,ty)
   | some d=>match Nat.blt d F.fn.ntmps with
    | true=>some (g,want,some d,op,ty)
    | false=>none
  | none=>none
 | _=>none
theorem T8 {g:Tmp}{want:Bool}(ho:Lo F p i=some (g,want,d,op,ty)):∃ pos after j,A5 (Ak (sub p F.B)) i=some ⟨d,op,ty,pos,after,some (j,want)⟩ ∧
  (A5 (Ak (sub p F.B)) j).bind (·.dst)=some g∧∀ t,d=some t→t<F.fn.ntmps:=by
 unfold Lo at ho
 cases h:A5 (Ak (sub p F.B)) i with
 | none=>rw [h] at ho;simp at ho
 | some o =>
  rw [h] at ho
  obtain ⟨dst,op',ty',pos,after,guard⟩:=o
  cases guard with
  | none=>simp at ho
  | some gg =>
   obtain ⟨j,want'⟩:=gg
   simp only at ho
   cases hj:(A5 (Ak (sub p F.B)) j).bind (·.dst) with
   | none=>rw [hj] at ho;simp at ho
   | some g' =>
    rw [hj] at ho
    cases dst with
    | none =>
     simp at ho
     obtain ⟨rfl,rfl,rfl,rfl,rfl⟩:=ho
     exact ⟨pos,after,j,rfl,hj,fun t ht=>by simp at ht⟩
    | some dd =>
     simp only at ho
     cases hb:Nat.blt dd F.fn.ntmps with
     | false=>rw [hb] at ho;simp at ho
     | true =>
      rw [hb] at ho
      simp at ho
      obtain ⟨rfl,rfl,rfl,rfl,rfl⟩:=ho
      refine ⟨pos,after,j,rfl,hj,fun t ht=>?_⟩
      obtain rfl:=Option.some.inj ht
      exact Nat.le_of_ble_eq_true hb
end
theorem V1 {ops:Array Oper}{tmps:Array Value}{j g:Nat}{b:Bool}(hj:(ops[j]?).bind (·.dst)=some g) (hv:tmps[g]?=some (.bool b)):yielded ops tmps j=some b:=by
 cases ho:ops[j]? with
 | none=>rw [ho] at hj;simp at hj
 | some o =>
  rw [ho] at hj
  have hd:o.dst=some g:=by simpa using hj
  simp [yielded,ho,hd,hv]
section
variable {P:Program}{F:Fun P}{S:List It}{σ:Fr}{w:World}{R:Value→World→Prop}{p:List Nat}{i:Nat}{d:Option Tmp}{op:Op}{ty:TypeId}
theorem Zw {j g:Nat}{b:Bool}{a:Act}(ha:Fits F.fn.ntmps F.dfs σ a) (hj:(A5 (Ak (sub p F.B)) j).bind (·.dst)=some g) (hb:Fr.get g σ=some (.bool b)) :
  yielded (Ak (sub p F.B)).toArray a.tmps j=some b:=by
 refine V1 (g:=g) ?_ (ha.get _ _ hb)
 rw [B8] at hj
 simpa using hj
theorem AFM {g:Tmp}{want:Bool}{post:Value→World→Prop}(ho:Lo F p i=some (g,want,d,op,ty)) (hb:Fr.get g σ=some (.bool want)) (hx:Ex P op ty σ w post)
  (h:∀ v w',post v w'→L9 F (.o p (i+1)::S) (putF d v σ) w' R):L9 F (.o p i::S) σ w R:=by
 obtain ⟨pos,after,j,hn,hj,hd⟩:=T8 ho
 obtain ⟨e1,e2⟩:=ACi (F:=F) hn
 intro a ha
 simp only [List.map_cons,e1]
 have hy:=Zw (F:=F) (p:=p) ha hj hb
 refine Kz e2 (by simp [Region.wanted,hy]) (post:=post) ?_ fun v w' hv=>?_
 ·rw [Ge]
  exact hx a.eval fun x v hv=>ha.eval hv
 ·exact h v w' hv (a.put d v) (ha.putF hd v)
theorem AAb {g:Tmp}{want b:Bool}(ho:Lo F p i=some (g,want,d,op,ty)) (hb:Fr.get g σ=some (.bool b)) (hne:(b == want)=false)
  (h:L9 F (.o p (i+1)::S) (putF d undef σ) w R):L9 F (.o p i::S) σ w R:=by
 obtain ⟨pos,after,j,hn,hj,hd⟩:=T8 ho
 obtain ⟨e1,e2⟩:=ACi (F:=F) hn
 intro a ha
 simp only [List.map_cons,e1]
 have hy:=Zw (F:=F) (p:=p) ha hj hb
 refine ABH e2 (by simp [Region.wanted,hy];simpa using hne) ?_
 exact h (a.put d undef) (ha.putF hd undef)
theorem ABd {t:Tmp}{b:Bool}(hb:Fr.get t σ=some (.bool b)) (h1:b=true→L9 F S ((t,.bool true)::σ) w R) (h2:b=false→L9 F S ((t,.bool false)::σ) w R):L9 F S σ w R:=by
 cases b with
 | true=>exact Yx (Fr.sub_cons hb (Fr.sub_refl σ)) (h1 rfl)
 | false=>exact Yx (Fr.sub_cons hb (Fr.sub_refl σ)) (h2 rfl)
theorem AA0 {t:Tmp}{q:Prop} [Decidable q] (hb:Fr.get t σ=some (.bool (decide q))) (h1:q→L9 F S ((t,.bool true)::σ) w R) (h2:¬ q→L9 F S ((t,.bool false)::σ) w R):L9 F S σ w R :=
 ABd hb (fun h=>h1 (of_decide_eq_true h)) (fun h=>h2 (of_decide_eq_false h))
end
open Go.RowKit (Below)
abbrev A4:=Option Nat×TypeId×List Value
structure Cx where
 w0:World
 A:Nat→Prop
 M:Nat→Prop
def ok (C:Cx) (w:World) (β:List A4) (k:Nat):Prop:=(C.A k∨C.M k∨C.w0.heap.size≤k)∧k<w.heap.size∧∀ x∈β,x.1≠some k
def Ay:List A4→Prop
 | []=>True
 | x::l=>(∀ y∈l,∀ b,x.1=some b→y.1≠some b)∧Ay l
structure Keep (w0:World) (M:Nat→Prop) (w:World):Prop where
 os:w.os=w0.os
 tape:w.tape=w0.tape
 output:w.output=w0.output
 size:w0.heap.size≤w.heap.size
 block:∀ k,k<w0.heap.size→¬ M k→w.heap[k]?=w0.heap[k]?
structure Own (C:Cx) (w:World) (β:List A4):Prop where
 ext:Keep C.w0 C.M w
 new:∀ x∈β,∀ b,x.1=some b→C.w0.heap.size≤b∨C.M b
 blk:∀ x∈β,∀ b,x.1=some b→w.heap[b]?=some (.cells x.2.2.toArray x.2.1 (0,0))
 apart:Ay β
structure Fact where
 holds:World→(Nat→Prop)→Prop
 stable:∀ {w w':World}{A A':Nat→Prop},(∀ k,A k→A' k∧w'.heap[k]?=w.heap[k]?)→holds w A→holds w' A'
def J {P:Program}(F:Fun P) (C:Cx) (S:List It) (σ:Fr) (β:List A4) (Γ:List Fact) (R:Value→World→Prop):Prop :=
 ∀ w,Own C w β→(∀ f∈Γ,f.holds w (ok C w β))→L9 F S σ w R
abbrev Ext (w w':World):Prop:=Below w.heap.size w w'
theorem Keep.refl (w:World) (M:Nat→Prop):Keep w M w:=⟨rfl,rfl,rfl,Nat.le_refl _,fun _ _ _=>rfl⟩
theorem Keep.step {w0 w w':World}{M:Nat→Prop}(h:Keep w0 M w) (hx:Ext w w'):Keep w0 M w' :=
 ⟨hx.os.trans h.os,hx.tape.trans h.tape,hx.output.trans h.output,Nat.le_trans h.size hx.size,fun k hk hm=>(hx.block k (Nat.lt_of_lt_of_le hk h.size)).trans (h.block k hk hm)⟩
theorem Own.lt {C:Cx}{w:World}{β:List A4}(h:Own C w β) {x:A4}(hx:x∈β) {b:Nat}(hb:x.1=some b):b<w.heap.size :=
 (Array.getElem?_eq_some_iff.1 (h.blk x hx b hb)).1
theorem Own.step {C:Cx}{w w':World}{β:List A4}(h:Own C w β) (hx:Ext w w'):Own C w' β :=
 ⟨h.ext.step hx,h.new,fun x hm b hb=>by rw [hx.block _ (h.lt hm hb)];exact h.blk x hm b hb,h.apart⟩
theorem AJF {C:Cx}{w w':World}{β:List A4}(hx:Ext w w'):∀ k,ok C w β k→ok C w' β k∧w'.heap[k]?=w.heap[k]? :=
 fun k hk=>⟨⟨hk.1,Nat.lt_of_lt_of_le hk.2.1 hx.size,hk.2.2⟩,hx.block k hk.2.1⟩
theorem Own.push {C:Cx}{w:World}{β:List A4}(h:Own C w β) (T:TypeId) (cs:List Value):Own C (w.alloc (.cells cs.toArray T)) ((some w.heap.size,T,cs)::β):=by
 have hx:Ext w (w.alloc (.cells cs.toArray T)):=(Below.refl _ _).alloc (Nat.le_refl _) _
 have h':=h.step hx
 refine ⟨h'.ext,?_,?_,?_,h'.apart⟩
 ·intro x hm b hb
  rcases List.mem_cons.1 hm with rfl|hm
  ·obtain rfl:=Option.some.inj hb
   exact .inl h.ext.size
  ·exact h'.new x hm b hb
 ·intro x hm b hb
  rcases List.mem_cons.1 hm with rfl|hm
  ·obtain rfl:=Option.some.inj hb
   exact heap_alloc_new w _
  ·exact h'.blk x hm b hb
 ·intro y hy b hb hyb
  obtain rfl:=Option.some.inj hb
  have:=h.lt hy hyb
  omega
theorem Uo {C:Cx}{w:World}{β:List A4}{Γ:List Fact}{T:TypeId}{cs:List Value}(h:∀ f∈Γ,f.holds w (ok C w β)) :
  ∀ f∈Γ,f.holds (w.alloc (.cells cs.toArray T)) (ok C (w.alloc (.cells cs.toArray T)) ((some w.heap.size,T,cs)::β)) :=
 fun f hf=>f.stable (fun k hk=>⟨⟨hk.1,by simp;have:=hk.2.1;omega,fun x hx=>by
  rcases List.mem_cons.1 hx with rfl|hx
  ·intro e
   have:=Option.some.inj e
   have:=hk.2.1;omega
  ·exact hk.2.2 x hx⟩,heap_alloc_old w _ k hk.2.1⟩) (h f hf)
def setB:List A4→Nat→List Value→List A4
 | [],_,_=>[]
 | (b,T,_)::l,0,cs=>(b,T,cs)::l
 | x::l,n+1,cs=>x::setB l n cs
theorem AAc {β:List A4}:∀ {n:Nat}{cs:List Value}{x:A4},x∈setB β n cs→∃ y∈β,y.1=x.1:=by
 induction β with
 | nil=>intro n cs x h;simp [setB] at h
 | cons y l ih =>
  intro n cs x h
  obtain ⟨b,T,c⟩:=y
  cases n with
  | zero =>
   simp only [setB,List.mem_cons] at h
   rcases h with rfl|h
   ·exact ⟨_,.head _,rfl⟩
   ·exact ⟨x,.tail _ h,rfl⟩
  | succ n =>
   simp only [setB,List.mem_cons] at h
   rcases h with rfl|h
   ·exact ⟨_,.head _,rfl⟩
   ·obtain ⟨z,hz,e⟩:=ih h
    exact ⟨z,.tail _ hz,e⟩
theorem Ay.setB {β:List A4}:∀ {n:Nat}{cs:List Value},Ay β→Ay (setB β n cs):=by
 induction β with
 | nil=>intro n cs h;simp [Fw.setB,Ay]
 | cons y l ih =>
  intro n cs h
  obtain ⟨b,T,c⟩:=y
  cases n with
  | zero=>exact h
  | succ n =>
   refine ⟨fun z hz bb hb=>?_,ih h.2⟩
   obtain ⟨u,hu,e⟩:=AAc hz
   rw [← e]
   exact h.1 u hu bb hb
theorem AIK {C:Cx}{w:World}{β:List A4}{n:Nat}{cs:List Value}{k:Nat}(h:ok C w β k):ok C w (setB β n cs) k :=
 ⟨h.1,h.2.1,fun x hx=>by obtain ⟨y,hy,e⟩:=AAc hx;rw [← e];exact h.2.2 y hy⟩
theorem AHV {β:List A4}:∀ {n:Nat}{cs:List Value}{b:Nat}{T:TypeId}{c:List Value},Ay β→A5 β n=some (some b,T,c)→∀ x∈setB β n cs,x=(some b,T,cs)∨(x∈β∧x.1≠some b):=by
 induction β with
 | nil=>intro n cs b T c _ h;simp [A5] at h
 | cons y l ih =>
  intro n cs b T c hd h x hx
  obtain ⟨b',T',c'⟩:=y
  cases n with
  | zero =>
   simp only [A5,Option.some.injEq,Prod.mk.injEq] at h
   obtain ⟨rfl,rfl,rfl⟩:=h
   simp only [setB,List.mem_cons] at hx
   rcases hx with rfl|hx
   ·exact .inl rfl
   ·exact .inr ⟨.tail _ hx,hd.1 x hx b rfl⟩
  | succ n =>
   simp only [A5] at h
   simp only [setB,List.mem_cons] at hx
   rcases hx with rfl|hx
   ·refine .inr ⟨.head _,fun e=>?_⟩
    have hm:(some b,T,c)∈l:=by rw [B8] at h;exact List.mem_of_getElem? h
    exact hd.1 _ hm b e rfl
   ·rcases ih hd.2 h x hx with rfl|⟨h1,h2⟩
    ·exact .inl rfl
    ·exact .inr ⟨.tail _ h1,h2⟩
theorem B7 {β:List A4}{n:Nat}{x:A4}(h:A5 β n=some x):x∈β:=by
 rw [B8] at h;exact List.mem_of_getElem? h
theorem Own.set {C:Cx}{w w':World}{β:List A4}(h:Own C w β) {n b:Nat}{T:TypeId}{c cs:List Value}(hn:A5 β n=some (some b,T,c))
  (ho:w'.os=w.os) (ht:w'.tape=w.tape) (hp:w'.output=w.output) (hs:w'.heap.size=w.heap.size)
  (hb:w'.heap[b]?=some (.cells cs.toArray T (0,0))) (hk:∀ k,k≠b→w'.heap[k]?=w.heap[k]?):Own C w' (setB β n cs):=by
 have hnew:=h.new _ (B7 hn) b rfl
 refine ⟨⟨ho.trans h.ext.os,ht.trans h.ext.tape,hp.trans h.ext.output,by rw [hs];exact h.ext.size,fun k hk' hm=>(hk k (fun e=>?_)).trans (h.ext.block k hk' hm)⟩,?_,?_,h.apart.setB⟩
 ·subst e
  rcases hnew with h1|h1
  ·omega
  ·exact hm h1
 ·intro x hx
  obtain ⟨y,hy,e⟩:=AAc hx
  rw [← e];exact h.new y hy
 ·intro x hx bb hbb
  rcases AHV h.apart hn x hx with rfl|⟨h1,h2⟩
  ·obtain rfl:=Option.some.inj hbb
   exact hb
  ·rw [hk _ (fun e=>h2 (e▸hbb))];exact h.blk x h1 bb hbb
theorem AGk {C:Cx}{w w':World}{β:List A4}{Γ:List Fact}{n b:Nat}{T:TypeId}{c cs:List Value}(hn:A5 β n=some (some b,T,c))
  (hs:w'.heap.size=w.heap.size) (hk:∀ k,k≠b→w'.heap[k]?=w.heap[k]?) (h:∀ f∈Γ,f.holds w (ok C w β)) :
  ∀ f∈Γ,f.holds w' (ok C w' (setB β n cs)) :=
 fun f hf=>f.stable (fun k hk'=>by
  have hne:k≠b:=fun e=>hk'.2.2 _ (B7 hn) (by rw [e])
  exact ⟨AIK ⟨hk'.1,by rw [hs];exact hk'.2.1,hk'.2.2⟩,hk k hne⟩) (h f hf)
section
variable {P:Program}{F:Fun P}{C:Cx}{S:List It}{σ:Fr}{β:List A4}{Γ:List Fact}{R:Value→World→Prop}{p:List Nat}{i:Nat}{d:Option Tmp}{op:Op}{ty:TypeId}
theorem T1 {σ':Fr}(hs:Fr.sub σ' σ) (h:J F C S σ' β Γ R):J F C S σ β Γ R:=fun w ho hf=>Yx hs (h w ho hf)
theorem Wu {Γ':List Fact}(hs:∀ f∈Γ',f∈Γ) (h:J F C S σ β Γ' R):J F C S σ β Γ R:=fun w ho hf=>h w ho fun f hm=>hf f (hs f hm)
theorem Ay.sub {β β':List A4}(hs:β'.Sublist β) (h:Ay β):Ay β':=by
 induction hs with
 | slnil=>exact h
 | cons _ _ ih=>exact ih h.2
 | cons_cons _ hsub ih=>exact ⟨fun y hy b hb=>h.1 y (hsub.subset hy) b hb,ih h.2⟩
theorem AII {β':List A4}(hs:β'.Sublist β) (h:J F C S σ β' Γ R):J F C S σ β Γ R:=fun w ho hf =>
 h w ⟨ho.ext,fun x hx=>ho.new x (hs.subset hx),fun x hx=>ho.blk x (hs.subset hx),ho.apart.sub hs⟩
  fun f hm=>f.stable (fun _ hk=>⟨⟨hk.1,hk.2.1,fun x hx=>hk.2.2 x (hs.subset hx)⟩,rfl⟩) (hf f hm)
theorem Am (S':List It) (hn:nf F.B 60 S=S') (h:J F C S' σ β Γ R):J F C S σ β Γ R:=fun w ho hf=>AKO S' hn (h w ho hf)
theorem Xx (n:Nat) (S':List It) (hn:nf F.B n S=S') (h:J F C S' σ β Γ R):J F C S σ β Γ R:=fun w ho hf=>ACL n (hn▸h w ho hf)
theorem AEk {c:Operand}{t:Bool}(hc:I2 F.B p=some c) (ht:ev σ c=some (.bool t))
  (h1:t=true→J F C (.c (p++[0])::S) σ β Γ R) (h2:t=false→J F C (.c (p++[1])::S) σ β Γ R):J F C (.c p::S) σ β Γ R :=
 fun w ho hf=>ACU hc ht (fun e=>h1 e w ho hf) (fun e=>h2 e w ho hf)
theorem So {c:Operand}(hc:I2 F.B p=some c) (ht:ev σ c=some (.bool true)) (h1:J F C (.c (p++[0])::S) σ β Γ R):J F C (.c p::S) σ β Γ R :=
 AEk hc ht (fun _=>h1) (fun e=>by cases e)
theorem K4 {c:Operand}(hc:I2 F.B p=some c) (ht:ev σ c=some (.bool false)) (h1:J F C (.c (p++[1])::S) σ β Γ R):J F C (.c p::S) σ β Γ R :=
 AEk hc ht (fun e=>by cases e) (fun _=>h1)
theorem Lc {c:Operand}{q:Prop} [Decidable q] (hc:I2 F.B p=some c) (ht:ev σ c=some (.bool (decide q)))
  (h1:q→J F C (.c (p++[0])::S) σ β Γ R) (h2:¬ q→J F C (.c (p++[1])::S) σ β Γ R):J F C (.c p::S) σ β Γ R :=
 fun w ho hf=>ALn hc ht (fun e=>h1 e w ho hf) (fun e=>h2 e w ho hf)
theorem Nd {c:Operand}{q:Prop} [Decidable q] (hc:I2 F.B p=some c) (ht:ev σ c=some (.bool (!decide q)))
  (h1:¬ q→J F C (.c (p++[0])::S) σ β Γ R) (h2:q→J F C (.c (p++[1])::S) σ β Γ R):J F C (.c p::S) σ β Γ R :=
 AEk hc ht (fun e=>h1 (by simpa using e)) (fun e=>h2 (by simpa using e))
theorem AJz {t:Tmp}{b:Bool}(hb:Fr.get t σ=some (.bool b)) (h1:b=true→J F C S ((t,.bool true)::σ) β Γ R) (h2:b=false→J F C S ((t,.bool false)::σ) β Γ R):J F C S σ β Γ R :=
 fun w ho hf=>ABd hb (fun e=>h1 e w ho hf) (fun e=>h2 e w ho hf)
theorem By {t:Tmp}{q:Prop} [Decidable q] (hb:Fr.get t σ=some (.bool (decide q))) (h1:q→J F C S ((t,.bool true)::σ) β Γ R) (h2:¬ q→J F C S ((t,.bool false)::σ) β Γ R):J F C S σ β Γ R :=
 fun w ho hf=>AA0 hb (fun e=>h1 e w ho hf) (fun e=>h2 e w ho hf)
theorem K7 {t:Tmp}{q:Prop} [Decidable q] (hb:Fr.get t σ=some (.bool (!decide q))) (h1:¬ q→J F C S ((t,.bool true)::σ) β Γ R) (h2:q→J F C S ((t,.bool false)::σ) β Γ R):J F C S σ β Γ R :=
 AJz hb (fun e=>h1 (by simpa using e)) (fun e=>h2 (by simpa using e))
theorem AKs {X:Type}(hp:Zr F.B p=true) (st:X→Fr) (bl:X→List A4) (fa:X→List Fact) (I:X→Prop) (μ:X→Nat)
  (x:X) (hx:I x) (hs:Fr.sub (st x) σ) (hb:β=bl x) (hf:∀ f∈fa x,f∈Γ)
  (round:∀ x,I x→(∀ x',μ x'<μ x→I x'→J F C (.lp (p++[0])::S) (st x') (bl x') (fa x') R)→J F C (.c (p++[0])::.lp (p++[0])::S) (st x) (bl x) (fa x) R) :
  J F C (.c p::S) σ β Γ R:=by
 intro w ho hG
 subst hb
 refine AH7 (X:=X) hp st (fun x w=>I x∧Own C w (bl x)∧∀ f∈fa x,f.holds w (ok C w (bl x))) μ x ⟨hx,ho,fun f hm=>hG f (hf f hm)⟩ hs ?_
 intro x w ⟨hI,ho,hG⟩ ih
 exact round x hI (fun x' hlt hI' w' ho' hG'=>ih x' w' hlt ⟨hI',ho',hG'⟩) w ho hG
def Fb (P:Program) (C:Cx) (op:Op) (ty:TypeId) (σ:Fr) (β:List A4) (Γ:List Fact) (K:Value→List A4→List Fact→Prop):Prop :=
 ∀ w,Own C w β→(∀ f∈Γ,f.holds w (ok C w β))→Ex P op ty σ w fun v w'=>∃ β' Γ',K v β' Γ'∧Own C w' β'∧∀ f∈Γ',f.holds w' (ok C w' β')
theorem Fb.mono {K K':Value→List A4→List Fact→Prop}(h:Fb P C op ty σ β Γ K) (hh:∀ v β' Γ',K v β' Γ'→K' v β' Γ'):Fb P C op ty σ β Γ K' :=
 fun w hO hG=>(h w hO hG).mono fun _ _ ⟨β',Γ',hk,h1,h2⟩=>⟨β',Γ',hh _ _ _ hk,h1,h2⟩
theorem Aa (ho:AAa F p i=some (d,op,ty)) (hx:Fb P C op ty σ β Γ fun v β' Γ'=>J F C (.o p (i+1)::S) (putF d v σ) β' Γ' R):J F C (.o p i::S) σ β Γ R :=
 fun w hO hG=>ADZ ho (hx w hO hG) fun _ w' ⟨_,_,hk,h1,h2⟩=>hk w' h1 h2
theorem Bp {g:Tmp}{want:Bool}(ho:Lo F p i=some (g,want,d,op,ty)) (hb:Fr.get g σ=some (.bool want)) (hx:Fb P C op ty σ β Γ fun v β' Γ'=>J F C (.o p (i+1)::S) (putF d v σ) β' Γ' R):J F C (.o p i::S) σ β Γ R :=
 fun w hO hG=>AFM ho hb (hx w hO hG) fun _ w' ⟨_,_,hk,h1,h2⟩=>hk w' h1 h2
theorem Jp.done {K:Value→List A4→List Fact→Prop}{w:World}{v:Value}{β':List A4}{Γ':List Fact}(hp:Jp P op ty σ w v) (hk:K v β' Γ') (hO:Own C w β') (hG:∀ f∈Γ',f.holds w (ok C w β')) :
  Ex P op ty σ w fun v w'=>∃ β' Γ',K v β' Γ'∧Own C w' β'∧∀ f∈Γ',f.holds w' (ok C w' β') :=
 hp.ex.mono fun u w' ⟨h1,h2⟩=>by subst h1;subst h2;exact ⟨β',Γ',hk,hO,hG⟩
theorem Fa {K:Value→List A4→List Fact→Prop}{v:Value}(hx:∀ w,Jp P op ty σ w v) (h:K v β Γ):Fb P C op ty σ β Γ K :=
 fun w hO hG=>(hx w).ex.mono fun u w' ⟨h1,h2⟩=>by subst h1;subst h2;exact ⟨β,Γ,h,hO,hG⟩
theorem AFz {g:Tmp}{want b:Bool}(ho:Lo F p i=some (g,want,d,op,ty)) (hb:Fr.get g σ=some (.bool b)) (hne:(b == want)=false)
  (h:J F C (.o p (i+1)::S) (putF d undef σ) β Γ R):J F C (.o p i::S) σ β Γ R :=
 fun w hO hG=>AAb ho hb hne (h w hO hG)
theorem AHH {vs:List Value}(hp:L6 F.B p=true) (hr:Mf σ F.fn.results.toList=some vs)
  (h:∀ w,Own C w β→(∀ f∈Γ,f.holds w (ok C w β))→R (Hg vs) w) (hk:F.rnd=none:=by rfl):J F C (.c p::S) σ β Γ R :=
 fun w hO hG=>AJc hp hr (h w hO hG) hk
theorem AMj {vs:List Value}(hr:Mf σ F.fn.results.toList=some vs)
  (h:∀ w,Own C w β→(∀ f∈Γ,f.holds w (ok C w β))→R (Hg vs) w) (hk:F.rnd=none:=by rfl):J F C [] σ β Γ R :=
 fun w hO hG=>AIX hr (h w hO hG) hk
def Fg (C:Cx) (Q:Value→List Fact→List A4→Prop):Value→World→Prop:=fun v w=>∃ Φ β,Q v Φ β∧Own C w β∧∀ f∈Φ,f.holds w (ok C w β)
def Wm (β:List A4) (k:Nat):Prop:=∃ x∈β,x.1=some k
def P3 (P:Program) (f:FuncId):Bool :=
 match P.funcs[f]? with
 | some fn=>fn.body.isSome && !(fn.name == "runtime.NumGoroutine")
 | none=>false
theorem Fun.plain (F:Fun P):P3 P F.f=true:=by
 simp only [P3,F.hf,F.hb,F.hn,Option.isSome_some,Bool.not_false,Bool.and_self]
def Bt (P:Program) (f:FuncId) (args:List Value) (β:List A4) (Γ:List Fact) (Q:Value→List Fact→List A4→Prop):Prop :=
 P3 P f=true∧∀ w A,(∀ k,A k→k<w.heap.size)→(∀ x∈β,∀ b,x.1=some b→w.heap[b]?=some (.cells x.2.2.toArray x.2.1 (0,0)))→Ay β →
  (∀ g∈Γ,g.holds w (fun k=>A k∧¬ Wm β k))→Calls P f args.toArray w (Ret (Fg ⟨w,A,Wm β⟩ Q))
theorem AGT {args:List Value}{β:List A4}{Γ:List Fact}{Q:Value→List Fact→List A4→Prop}(σ:Fr) (hl:Nat.ble args.length F.fn.ntmps=true) (hσ:∀ t v,Fr.get t σ=some v→args[t]?=some v)
  (h:∀ C,J F C [.c []] σ β Γ (Fg C Q)) (hk:F.rnd=none:=by rfl) (hd:F.dfs=[]:=by rfl):Bt P F.f args β Γ Q:=⟨F.plain,fun w A hlt hb hd' hG =>
 Vx (h ⟨w,A,Wm β⟩ w ⟨Keep.refl _ _,fun x hx _ hxb=>.inr ⟨x,hx,hxb⟩,hb,hd'⟩
  fun f hf=>f.stable (fun k hk=>⟨⟨.inl hk.1,hlt k hk.1,fun x hx e=>hk.2 ⟨x,hx,e⟩⟩,rfl⟩) (hG f hf)) (Nat.le_of_ble_eq_true hl) hσ hk hd⟩
def AFK:Nat→List Value→Fr
 | _,[]=>[]
 | n,v::l=>(n,v)::AFK (n+1) l
theorem AC1 (l:List Value):∀ (n t:Nat) (v:Value),Fr.get t (AFK n l)=some v→n≤t∧l[t-n]?=some v:=by
 induction l with
 | nil=>intro n t v h;simp [AFK,Fr.get] at h
 | cons x l ih =>
  intro n t v h
  simp only [AFK,Fr.get] at h
  cases hb:Nat.beq n t with
  | true =>
   rw [hb] at h
   have e:n=t:=Nat.eq_of_beq_eq_true hb
   subst e
   exact ⟨Nat.le_refl _,by simpa using h⟩
  | false =>
   rw [hb] at h
   have e:n≠t:=Nat.ne_of_beq_eq_false hb
   obtain ⟨h1,h2⟩:=ih _ _ _ h
   refine ⟨by omega,?_⟩
   rw [show t-n=(t-(n+1))+1 by omega]
   simpa using h2
theorem Ab {args:List Value}{β:List A4}{Γ:List Fact}{Q:Value→List Fact→List A4→Prop}(hl:Nat.ble args.length F.fn.ntmps=true)
  (h:∀ C,J F C [.c []] (AFK 0 args) β Γ (Fg C Q)) (hk:F.rnd=none:=by rfl) (hd:F.dfs=[]:=by rfl):Bt P F.f args β Γ Q :=
 AGT _ hl (fun t v ht=>by simpa using (AC1 _ _ _ _ ht).2) h hk hd
theorem Ay.append {l l':List A4}(h:Ay l) (h':Ay l') (hh:∀ x∈l,∀ y∈l',∀ b,x.1=some b→y.1≠some b):Ay (l++l'):=by
 induction l with
 | nil=>exact h'
 | cons x l ih =>
  refine ⟨fun y hy b hb=>?_,ih h.2 fun x hx=>hh x (.tail _ hx)⟩
  rcases List.mem_append.1 hy with hy|hy
  ·exact h.1 y hy b hb
  ·exact hh x (.head _) y hy b hb
theorem V6 {w : World} {f : FuncId} {fn : Func} {args : Array Value} (h : P.funcs[f]? = some fn) (hb : fn.body.isSome = true) (hn : (fn.name == "runtime.NumGoroutine") = false) :
  (callFunc f args).run P w = .ok (.enter f args) w:=by
 have h1 : ¬ fn.name = "runtime.NumGoroutine":=by simpa using hn
 have h2:¬ fn.body=none:=fun e=>by rw [e] at hb;simp at hb
 simp [callFunc,h,h1,h2]
def Yv (σ:Fr):List Operand→Option (List Value)
 | []=>some []
 | x::l=>match ev σ x,Yv σ l with
  | some v,some vs=>some (v::vs)
  | _,_=>none
theorem T6 {σ:Fr}{ρ:Operand→Value}(hρ:∀ x v,ev σ x=some v→ρ x=v):∀ {l:List Operand}{vs:List Value},Yv σ l=some vs→l.map ρ=vs:=by
 intro l
 induction l with
 | nil=>intro vs h;simp [Yv] at h;subst h;rfl
 | cons x l ih =>
  intro vs h
  simp only [Yv] at h
  cases h1:ev σ x with
  | none=>rw [h1] at h;simp at h
  | some v =>
   cases h2:Yv σ l with
   | none=>rw [h1,h2] at h;simp at h
   | some us =>
    rw [h1,h2] at h
    have:v::us=vs:=by simpa using h
    subst this
    simp [hρ _ _ h1,ih h2]
theorem Yw {w:World}{f:FuncId}{xs:List Operand}{ts:Array TypeId}{args:List Value}{post:Value→World→Prop}(hf:P3 P f=true)
  (hx:Yv σ xs=some args) (h:Calls P f args.toArray w (Ret post)):Ex P (.call { callee:=.value (.func f),args:=xs.toArray,argTypes:=ts }) ty σ w post:=fun ρ hρ=>by
 unfold P3 at hf
 cases hp:P.funcs[f]? with
 | none=>rw [hp] at hf;simp at hf
 | some fn =>
  rw [hp] at hf
  simp at hf
  have e:=V6 (P:=P) (w:=w) (args:=args.toArray) hp hf.1 (by simpa using hf.2)
  have hr:ρ (.func f) = .func (.func f) #[] #[]:=hρ _ _ rfl
  have ha:xs.toArray.map ρ=args.toArray:=by rw [List.map_toArray,T6 hρ hx]
  simp only [execOp,Da,resolve,ha,hr,Deferred.ofValue,Sem.run_bind,Sem.run_pure,Result.andThen_ok,invoke,Array.append_empty,Array.empty_append,e]
  exact h
def pick (Γ:List Fact):List Nat→Option (List Fact)
 | []=>some []
 | n::l=>match A5 Γ n,pick Γ l with
  | some f,some fs=>some (f::fs)
  | _,_=>none
theorem Ee {Γ:List Fact}:∀ {l:List Nat}{Γ':List Fact},pick Γ l=some Γ'→∀ f∈Γ',f∈Γ:=by
 intro l
 induction l with
 | nil=>intro Γ' h f hf;simp [pick] at h;subst h;cases hf
 | cons n l ih =>
  intro Γ' h f hf
  simp only [pick] at h
  cases h1:A5 Γ n with
  | none=>rw [h1] at h;simp at h
  | some g =>
   cases h2:pick Γ l with
   | none=>rw [h1,h2] at h;simp at h
   | some gs =>
    rw [h1,h2] at h
    have:g::gs=Γ':=by simpa using h
    subst this
    rcases List.mem_cons.1 hf with rfl|hf
    ·rw [B8] at h1;exact List.mem_of_getElem? h1
    ·exact ih h2 f hf
theorem AGY {Γ':List Fact}(l:List Nat) (hp:pick Γ l=some Γ') (h:J F C S σ β Γ' R):J F C S σ β Γ R:=Wu (Ee hp) h
theorem Aw {K:Value→List A4→List Fact→Prop}{f:FuncId}{xs:List Operand}{ts:Array TypeId}{args:List Value}{Γ':List Fact}{Q:Value→List Fact→List A4→Prop}(l:List Nat)
  (hx:Yv σ xs=some args) (hc:Bt P f args [] Γ' Q) (hp:pick Γ l=some Γ')
  (h:∀ v Φ β',Q v Φ β'→K v (β'++β) (Φ++Γ)):Fb P C (.call { callee:=.value (.func f),args:=xs.toArray,argTypes:=ts }) ty σ β Γ K:=by
 intro w hO hG
 have hcall:=hc.2 w (ok C w β) (fun k hk=>hk.2.1) (fun x hx=>by cases hx) trivial (fun g hg=>g.stable (fun k hk=>⟨⟨hk,fun ⟨x,hx,_⟩=>by cases hx⟩,rfl⟩) (hG g (Ee hp g hg)))
 refine (Yw hc.1 hx hcall).mono ?_
 rintro v w' ⟨Φ,β',hQ,hO',hΦ⟩
 have hx:Ext w w':=⟨hO'.ext.os,hO'.ext.tape,hO'.ext.output,hO'.ext.size,fun k hk=>hO'.ext.block k hk (fun ⟨x,hx,_⟩=>by cases hx)⟩
 have hnew:∀ x∈β',∀ b,x.1=some b→w.heap.size≤b:=fun x hx b hb=>by
  rcases hO'.new x hx b hb with h|⟨y,hy,_⟩
  ·exact h
  ·cases hy
 have hO2:=hO.step hx
 refine ⟨_,_,h v Φ β' hQ,⟨hO2.ext,?_,?_,?_⟩,?_⟩
 ·intro x hm b hb
  rcases List.mem_append.1 hm with hm|hm
  ·exact .inl (Nat.le_trans hO.ext.size (hnew x hm b hb))
  ·exact hO.new x hm b hb
 ·intro x hm b hb
  rcases List.mem_append.1 hm with hm|hm
  ·exact hO'.blk x hm b hb
  ·exact hO2.blk x hm b hb
 ·refine hO'.apart.append hO.apart fun x hx y hy b hb e=>?_
  have h1:=hnew x hx b hb
  have h2:=hO.lt hy e
  omega
 ·intro g hg
  rcases List.mem_append.1 hg with hg|hg
  ·refine g.stable (fun k hk=>⟨⟨?_,hk.2.1,fun x hx=>?_⟩,rfl⟩) (hΦ g hg)
   ·rcases hk.1 with h1|⟨x,hx,_⟩|h1
    ·exact h1.1
    ·cases hx
    ·exact .inr (.inr (Nat.le_trans hO.ext.size h1))
   ·rcases List.mem_append.1 hx with hx|hx
    ·exact hk.2.2 x hx
    ·intro e
     have h2:=hO.lt hx e
     rcases hk.1 with h1|⟨y,hy,_⟩|h1
     ·exact h1.2.2 x hx e
     ·cases hy
     ·have:w.heap.size≤k:=h1
      omega
  ·refine g.stable (fun k hk=>⟨⟨hk.1,Nat.lt_of_lt_of_le hk.2.1 hx.size,fun x hx=>?_⟩,hx.block k hk.2.1⟩) (hG g hg)
   rcases List.mem_append.1 hx with hx|hx
   ·intro e
    have h1:=hnew x hx k e
    have:=hk.2.1
    omega
   ·exact hk.2.2 x hx
theorem Va {vs:List Value}{Q:Value→List Fact→List A4→Prop}{Φ:List Fact}(l:List Nat) (hp:L6 F.B p=true) (hr:Mf σ F.fn.results.toList=some vs) (hl:pick Γ l=some Φ)
  (h:Q (Hg vs) Φ β) (hk:F.rnd=none:=by rfl):J F C (.c p::S) σ β Γ (Fg C Q) :=
 AHH (hk:=hk) hp hr fun _ hO hG=>⟨Φ,β,h,hO,fun f hf=>hG f (Ee hl f hf)⟩
theorem Cm {vs:List Value}{Q:Value→List Fact→List A4→Prop}{Φ:List Fact}(l:List Nat) (hr:Mf σ F.fn.results.toList=some vs) (hl:pick Γ l=some Φ)
  (h:Q (Hg vs) Φ β) (hk:F.rnd=none:=by rfl):J F C [] σ β Γ (Fg C Q) :=
 AMj (hk:=hk) hr fun _ hO hG=>⟨Φ,β,h,hO,fun f hf=>hG f (Ee hl f hf)⟩
theorem ALz {σ':Fr}{β':List A4}{Γ':List Fact}(l:List Nat) (hs:Fr.sub σ' σ) (hb:β'=β) (hp:pick Γ l=some Γ') (h:J F C S σ' β' Γ' R):J F C S σ β Γ R:=by
 subst hb
 exact T1 hs (AGY l hp h)
end
def Fv (w:World) (b o n:Nat) (vs:List Value):Prop:=∃ cs T fr,w.heap[b]?=some (.cells cs T fr)∧(cs.toList.drop o).take n=vs∧vs.length=n
theorem Fv.rangeAt {w:World}{b o n:Nat}{vs:List Value}(h:Fv w b o n vs):w.rangeAt b o vs:=by
 obtain ⟨cs,T,fr,h1,h2,h3⟩:=h
 intro j v hv
 have hj:j<vs.length:=by
  rcases Nat.lt_or_ge j vs.length with h|h
  ·exact h
  ·simp [List.getElem?_eq_none h] at hv
 subst h2
 simp only [List.getElem?_take,List.getElem?_drop] at hv
 rw [if_pos (by omega)] at hv
 simp [World.cell?,h1]
 simpa using hv
theorem Fv.same {w w':World}{b o n:Nat}{vs:List Value}(h:Fv w b o n vs) (hb:w'.heap[b]?=w.heap[b]?):Fv w' b o n vs:=by
 obtain ⟨cs,T,fr,h1,h2⟩:=h
 exact ⟨cs,T,fr,hb.trans h1,h2⟩
theorem Fv.cell {w:World}{b o:Nat}{v:Value}(h:Fv w b o 1 [v]):w.cell? ⟨b,o,none⟩=some v:=by
 simpa using h.rangeAt 0 v rfl
structure Enc (α:Type) where
 size:Nat
 bytes:Nat
 rd:World→(Nat→Prop)→List Value→α→Prop
 len:∀ {w:World}{A:Nat→Prop}{vs:List Value}{x:α},rd w A vs x→vs.length=size
 one:∀ {w:World}{A:Nat→Prop}{vs:List Value}{x:α},rd w A vs x→∀ v∈vs,v.oneCell'=true
 stable:∀ {w w':World}{A A':Nat→Prop}{vs:List Value}{x:α},(∀ k,A k→A' k∧w'.heap[k]?=w.heap[k]?)→rd w A vs x→rd w' A' vs x
def Np {α:Type}(E:Enc α) (w:World) (A:Nat→Prop) (pa:Option Addr) (ca:Nat) (l:List α):Prop :=
 l.length≤ca∧l.length*E.bytes≤140737488355328 ∧
  (l=[]∨∃ b o,pa=some ⟨b,o,none⟩∧A b∧∀ i x,l[i]?=some x→∃ vs,Fv w b (o+i*E.size) E.size vs∧E.rd w A vs x)
theorem Np.stable {α:Type}{E:Enc α}{w w':World}{A A':Nat→Prop}{pa:Option Addr}{ca:Nat}{l:List α}(h:∀ k,A k→A' k∧w'.heap[k]?=w.heap[k]?) (hs:Np E w A pa ca l):Np E w' A' pa ca l:=by
 refine ⟨hs.1,hs.2.1,?_⟩
 rcases hs.2.2 with h0|⟨b,o,e,hb,hx⟩
 ·exact .inl h0
 ·refine .inr ⟨b,o,e,(h b hb).1,fun i x hi=>?_⟩
  obtain ⟨vs,h1,h2⟩:=hx i x hi
  exact ⟨vs,h1.same (h b hb).2,E.stable h h2⟩
def Bv:IntKind→Int→Prop
 | .i8,n=>-128≤n∧n≤127
 | .i16,n=>-32768≤n∧n≤32767
 | .i32,n=>-2147483648≤n∧n≤2147483647
 | .i64,n=>-9223372036854775808≤n∧n≤9223372036854775807
 | .u8,n=>0≤n∧n≤255
 | .u16,n=>0≤n∧n≤65535
 | .u32,n=>0≤n∧n≤4294967295
 | .u64,n=>0≤n∧n≤18446744073709551615
theorem Ni {k:IntKind}{n:Int}(h:Bv k n):k.wrap n=n:=by
 cases k <;> simp only [Bv] at h <;> simp [IntKind.wrap,IntKind.bits,IntKind.signed] <;> omega
def Dy (k:IntKind) (bytes:Nat):Enc Int where
 size:=1
 bytes:=bytes
 rd:=fun _ _ vs n=>vs=[.int k n]∧Bv k n
 len:=fun h=>by rw [h.1];rfl
 one:=fun h v hv=>by rw [h.1] at hv;obtain rfl:=List.mem_singleton.1 hv;rfl
 stable:=fun _ h=>h
def AG2 (k:IntKind) (bytes:Nat):Enc Nat where
 size:=1
 bytes:=bytes
 rd:=fun _ _ vs n=>vs=[.int k n]∧Bv k n
 len:=fun h=>by rw [h.1];rfl
 one:=fun h v hv=>by rw [h.1] at hv;obtain rfl:=List.mem_singleton.1 hv;rfl
 stable:=fun _ h=>h
def ABz:Enc Bool where
 size:=1
 bytes:=1
 rd:=fun _ _ vs b=>vs=[.bool b]
 len:=fun h=>by rw [h];rfl
 one:=fun h v hv=>by rw [h] at hv;obtain rfl:=List.mem_singleton.1 hv;rfl
 stable:=fun _ h=>h
def Aj {α:Type}(E:Enc α):Enc (List α) where
 size:=1
 bytes:=24
 rd:=fun w A vs l=>∃ pa ca,vs=[.slice pa l.length ca]∧Np E w A pa ca l
 len:=fun ⟨_,_,h,_⟩=>by rw [h];rfl
 one:=fun ⟨_,_,h,_⟩ v hv=>by rw [h] at hv;obtain rfl:=List.mem_singleton.1 hv;rfl
 stable:=fun h ⟨pa,ca,h1,h2⟩=>⟨pa,ca,h1,h2.stable h⟩
def Fh {α β:Type}(E:Enc α) (F:Enc β) (bytes:Nat):Enc (α×β) where
 size:=E.size+F.size
 bytes:=bytes
 rd:=fun w A vs x=>∃ v1 v2,vs=v1++v2∧E.rd w A v1 x.1∧F.rd w A v2 x.2
 len:=fun ⟨_,_,h,h1,h2⟩=>by rw [h,List.length_append,E.len h1,F.len h2]
 one:=fun ⟨_,_,h,h1,h2⟩ v hv=>by
  rw [h] at hv
  rcases List.mem_append.1 hv with hv|hv
  ·exact E.one h1 v hv
  ·exact F.one h2 v hv
 stable:=fun h ⟨v1,v2,e,h1,h2⟩=>⟨v1,v2,e,E.stable h h1,F.stable h h2⟩
abbrev U32:Enc Nat:=AG2 .u32 4
abbrev Ai:Enc Int:=Dy .i64 8
abbrev AMO:Enc (List Nat):=Aj U32
def vF {α:Type}(E:Enc α) (vs:List Value) (x:α):Fact where
 holds:=fun w A=>E.rd w A vs x
 stable:=fun h=>E.stable h
def Ap {α:Type}(E:Enc α) (pa:Option Addr) (n ca:Nat) (l:List α):Fact where
 holds:=fun w A=>n=l.length∧Np E w A pa ca l
 stable:=fun h hs=>⟨hs.1,Np.stable h hs.2⟩
def ptF {α:Type}(E:Enc α) (b o:Nat) (x:α):Fact where
 holds:=fun w A=>A b∧∃ vs,Fv w b o E.size vs∧E.rd w A vs x
 stable:=fun h ⟨hb,vs,h1,h2⟩=>⟨(h _ hb).1,vs,h1.same (h _ hb).2,E.stable h h2⟩
theorem Do {α:Type}(E:Enc α) (w:World) (A:Nat→Prop) (pa:Option Addr) (ca:Nat):(Ap E pa 0 ca []).holds w A:=⟨rfl,Nat.zero_le _,by simp,.inl rfl⟩
section
variable {P:Program}{F:Fun P}{C:Cx}{S:List It}{σ:Fr}{β:List A4}{Γ:List Fact}{R:Value→World→Prop}{p:List Nat}{i:Nat}{d:Option Tmp}{op:Op}{ty:TypeId}
theorem Af {n:Nat}{f:Fact}(h:A5 Γ n=some f):f∈Γ:=by rw [B8] at h;exact List.mem_of_getElem? h
theorem Eh (f:Fact) (hf:∀ w A,(∀ g∈Γ,g.holds w A)→f.holds w A) (h:J F C S σ β (f::Γ) R):J F C S σ β Γ R :=
 fun w hO hG=>h w hO fun g hg=>by
  rcases List.mem_cons.1 hg with rfl|hg
  ·exact hf _ _ hG
  ·exact hG g hg
theorem AAk {q:Prop}(hq:∀ w A,(∀ g∈Γ,g.holds w A)→q) (h:q→J F C S σ β Γ R):J F C S σ β Γ R :=
 fun w hO hG=>h (hq _ _ hG) w hO hG
theorem Ba {α:Type}{E:Enc α}{pa:Option Addr}{m ca:Nat}{l:List α}(n:Nat) (hn:A5 Γ n=some (Ap E pa m ca l)) (h:m=l.length→l.length*E.bytes≤140737488355328→l.length≤ca→J F C S σ β Γ R):J F C S σ β Γ R :=
 fun w hO hG=>h (hG _ (Af hn)).1 (hG _ (Af hn)).2.2.1 (hG _ (Af hn)).2.1 w hO hG
def Ev (P:Program) (t:TypeId):Option (TypeId×Nat) :=
 match P.underlying t with
 | some (.slice e)=>match P.info? e with
  | some i=>some (e,i.size)
  | none=>none
 | _=>none
theorem Cu {t e:TypeId}{n:Nat}(h:Ev P t=some (e,n)):P.underlying t=some (.slice e)∧∃ i,P.info? e=some i∧i.size=n:=by
 unfold Ev at h
 split at h
 ·rename_i e' hu
  split at h
  ·rename_i i hi
   simp only [Option.some.injEq,Prod.mk.injEq] at h
   obtain ⟨rfl,rfl⟩:=h
   exact ⟨hu,i,hi,rfl⟩
  ·simp at h
 ·simp at h
theorem Xm {w:World}{t e:TypeId}{n k len cap:Nat}{kd:IntKind}{b o:Nat}(h:Ev P t=some (e,n)) (hk:k<len) :
  (Instr.indexAt t (.slice (some ⟨b,o,none⟩) len cap) (.int kd k)).run P w = .ok (.pointer (some ⟨b,o+k*n,none⟩)) w:=by
 obtain ⟨h1,i,h2,h3⟩:=Cu h
 simp [Instr.indexAt,asIntOf,run_underlying h1,sizeOf,typeInfo,h2,h3,hk,Addr.add_mid]
theorem ADs {w:World}{t e:TypeId}{n k len cap:Nat}{kd:IntKind}{b o:Nat}{x y:Operand}{m:Int}(h:Ev P t=some (e,n)) (hx:ev σ x=some (.slice (some ⟨b,o,none⟩) len cap)) (hy:ev σ y=some (.int kd m)) (hm:m=(k:Int)) (hk:k<len) :
  Jp P (.indexAddr t x y) ty σ w (.pointer (some ⟨b,o+k*n,none⟩)):=fun ρ hρ=>by
 subst hm
 simp only [execOp,Da,hρ _ _ hx,hρ _ _ hy,Sem.run_bind,Xm (P:=P) h hk,Result.andThen_ok,Sem.run_pure]
theorem Iw {K:Value→List A4→List Fact→Prop}{α:Type}{E:Enc α}{t e:TypeId}{kd:IntKind}{x y:Operand}{pa:Option Addr}{len ca:Nat}{l:List α}{m:Int}(n k:Nat)
  (hx:ev σ x=some (.slice pa len ca)) (hy:ev σ y=some (.int kd m))
  (hn:A5 Γ n=some (Ap E pa len ca l)) (hT:Ev P t=some (e,E.size)) (hm:m=(k:Int)) (hk:k<len)
  (h:∀ z,l[k]?=some z→∀ b o,K (.pointer (some ⟨b,o,none⟩)) β (ptF E b o z::Γ)):Fb P C (.indexAddr t x y) ty σ β Γ K:=by
 intro w hO hG
 obtain ⟨rfl,_,_,hs⟩:=hG _ (Af hn)
 rcases hs with rfl|⟨b,o,rfl,hb,hel⟩
 ·simp at hk
 ·obtain ⟨z,hz⟩:∃ z,l[k]?=some z:=⟨l[k],by simp [hk]⟩
  obtain ⟨vs,h1,h2⟩:=hel k z hz
  exact Jp.done (ADs hT hx hy hm hk) (h z hz b (o+k*E.size)) hO (fun g hg=>by
   rcases List.mem_cons.1 hg with rfl|hg
   ·exact ⟨hb,vs,h1,h2⟩
   ·exact hG g hg)
def Eb (P:Program) (t:TypeId):Option (Bool×Nat) :=
 match P.underlying t,P.info? t with
 | some (.struct _),some i=>some (true,i.size)
 | some (.array _ _),some i=>some (true,i.size)
 | some _,some i=>some (false,i.size)
 | _,_=>none
theorem V2 {w:World}{t:TypeId}{n b o:Nat}{v:Value}(h:Eb P t=some (false,n)) (hc:w.cell? ⟨b,o,none⟩=some v) :
  (Instr.loadAt t (.pointer (some ⟨b,o,none⟩))).run P w = .ok v w:=by
 unfold Eb at h
 cases hu:P.underlying t with
 | none=>rw [hu] at h;simp at h
 | some dd =>
  have hagg:(isAgg t).run P w = .ok false w:=by
   unfold isAgg
   rw [Sem.run_bind,run_underlying hu w]
   rw [hu] at h
   cases hi:P.info? t with
   | none=>rw [hi] at h;cases dd <;> simp at h
   | some i=>rw [hi] at h;cases dd <;> simp_all
  simp [Instr.loadAt,Instr.sureAddr,loadVar,hagg,hc]
theorem U7 {w:World}{t:TypeId}{n b o:Nat}{vs:List Value}(h:Eb P t=some (true,n)) (hl:vs.length=n) (hc:w.rangeAt b o vs) :
  (Instr.loadAt t (.pointer (some ⟨b,o,none⟩))).run P w = .ok (.agg vs.toArray) w:=by
 unfold Eb at h
 cases hu:P.underlying t with
 | none=>rw [hu] at h;simp at h
 | some dd =>
  rw [hu] at h
  cases hi:P.info? t with
  | none=>rw [hi] at h;cases dd <;> simp at h
  | some i =>
   rw [hi] at h
   refine run_loadAt_mid w b o t vs dd hc hu ?_ ?_
   ·cases dd <;> simp_all
   ·cases dd <;> simp_all
theorem F4 {w:World}{t:TypeId}{n b o:Nat}{v:Value}{x:Operand}(hT:Eb P t=some (false,n)) (hx:ev σ x=some (.pointer (some ⟨b,o,none⟩))) (hc:w.cell? ⟨b,o,none⟩=some v) :
  Jp P (.load t x) ty σ w v:=fun ρ hρ=>by
 simp only [execOp,Da,hρ _ _ hx,Sem.run_bind,V2 (P:=P) hT hc,Result.andThen_ok,Sem.run_pure]
theorem Gw {w:World}{t:TypeId}{n b o:Nat}{vs:List Value}{x:Operand}(hT:Eb P t=some (true,n)) (hl:vs.length=n) (hx:ev σ x=some (.pointer (some ⟨b,o,none⟩))) (hc:w.rangeAt b o vs) :
  Jp P (.load t x) ty σ w (.agg vs.toArray):=fun ρ hρ=>by
 simp only [execOp,Da,hρ _ _ hx,Sem.run_bind,U7 (P:=P) hT hl hc,Result.andThen_ok,Sem.run_pure]
theorem ADq {K:Value→List A4→List Fact→Prop}{t:TypeId}{kd:IntKind}{by' b o z:Nat}{x:Operand}(n:Nat) (hx:ev σ x=some (.pointer (some ⟨b,o,none⟩)))
  (hn:A5 Γ n=some (ptF (AG2 kd by') b o z)) (hT:Eb P t=some (false,1)) (h:Bv kd z→K (.int kd z) β Γ):Fb P C (.load t x) ty σ β Γ K:=by
 intro w hO hG
 obtain ⟨hb,vs,h1,rfl,hz⟩:=hG _ (Af hn)
 exact Jp.done (F4 hT hx h1.cell) (h hz) hO (hG)
theorem Av {K:Value→List A4→List Fact→Prop}{t:TypeId}{kd:IntKind}{by' b o:Nat}{z:Int}{x:Operand}(n:Nat) (hx:ev σ x=some (.pointer (some ⟨b,o,none⟩)))
  (hn:A5 Γ n=some (ptF (Dy kd by') b o z)) (hT:Eb P t=some (false,1)) (h:Bv kd z→K (.int kd z) β Γ):Fb P C (.load t x) ty σ β Γ K:=by
 intro w hO hG
 obtain ⟨hb,vs,h1,rfl,hz⟩:=hG _ (Af hn)
 exact Jp.done (F4 hT hx h1.cell) (h hz) hO (hG)
theorem ABm {K:Value→List A4→List Fact→Prop}{t:TypeId}{b o:Nat}{z:Bool}{x:Operand}(n:Nat) (hx:ev σ x=some (.pointer (some ⟨b,o,none⟩)))
  (hn:A5 Γ n=some (ptF ABz b o z)) (hT:Eb P t=some (false,1)) (h:K (.bool z) β Γ):Fb P C (.load t x) ty σ β Γ K:=by
 intro w hO hG
 obtain ⟨hb,vs,h1,h2⟩:=hG _ (Af hn)
 have:vs=[.bool z]:=h2
 subst this
 exact Jp.done (F4 hT hx h1.cell) (h) hO (hG)
theorem Y0 {K:Value→List A4→List Fact→Prop}{α:Type}{E:Enc α}{t:TypeId}{b o:Nat}{l:List α}{x:Operand}(n:Nat) (hx:ev σ x=some (.pointer (some ⟨b,o,none⟩)))
  (hn:A5 Γ n=some (ptF (Aj E) b o l)) (hT:Eb P t=some (false,1)) (h:∀ pa ca,K (.slice pa l.length ca) β (Ap E pa l.length ca l::Γ)):Fb P C (.load t x) ty σ β Γ K:=by
 intro w hO hG
 obtain ⟨hb,vs,h1,pa,ca,rfl,hs⟩:=hG _ (Af hn)
 exact Jp.done (F4 hT hx h1.cell) (h pa ca) hO (fun g hg=>by
   rcases List.mem_cons.1 hg with rfl|hg
   ·exact ⟨rfl,hs⟩
   ·exact hG g hg)
theorem AGG {K:Value→List A4→List Fact→Prop}{α:Type}{E:Enc α}{t:TypeId}{b o:Nat}{z:α}{x:Operand}(n:Nat) (hx:ev σ x=some (.pointer (some ⟨b,o,none⟩)))
  (hn:A5 Γ n=some (ptF E b o z)) (hT:Eb P t=some (true,E.size)) (h:∀ vs,K (.agg vs.toArray) β (vF E vs z::Γ)):Fb P C (.load t x) ty σ β Γ K:=by
 intro w hO hG
 obtain ⟨hb,vs,h1,hs⟩:=hG _ (Af hn)
 exact Jp.done (Gw hT (E.len hs) hx h1.rangeAt) (h vs) hO (fun g hg=>by
   rcases List.mem_cons.1 hg with rfl|hg
   ·exact hs
   ·exact hG g hg)
def Kh (P:Program) (t:TypeId) (j:Nat):Option Nat :=
 match P.underlying t with
 | some (.struct fields)=>match A5 fields.toList j with
  | some f=>match P.info? f.type with
   | some i=>match Nat.beq i.size 0 with
    | true=>none
    | false=>some f.offset
   | none=>none
  | none=>none
 | _=>none
theorem Xn {w:World}{t:TypeId}{j off b o:Nat}(h:Kh P t j=some off) :
  (Instr.fieldAt t (.pointer (some ⟨b,o,none⟩)) j).run P w = .ok (.pointer (some ⟨b,o+off,none⟩)) w:=by
 unfold Kh at h
 split at h
 ·rename_i fields hu
  split at h
  ·rename_i f hf
   split at h
   ·rename_i ii hi
    cases hb:Nat.beq ii.size 0 with
    | true=>rw [hb] at h;simp at h
    | false =>
     rw [hb] at h
     obtain rfl:=Option.some.inj h
     have hne:ii.size≠0:=Nat.ne_of_beq_eq_false hb
     rw [B8] at hf
     have hf':fields[j]?=some f:=by simpa using hf
     simp [Instr.fieldAt,run_underlying hu,hf',Instr.sureAddr,fieldPlace,sizeOf,typeInfo,hi,hne,Addr.add_mid]
   ·simp at h
  ·simp at h
 ·simp at h
theorem AEG {w:World}{t:TypeId}{j off b o:Nat}{x:Operand}(hT:Kh P t j=some off) (hx:ev σ x=some (.pointer (some ⟨b,o,none⟩))) :
  Jp P (.fieldAddr t x j) ty σ w (.pointer (some ⟨b,o+off,none⟩)):=fun ρ hρ=>by
 simp only [execOp,Da,hρ _ _ hx,Sem.run_bind,Xn (P:=P) hT,Result.andThen_ok,Sem.run_pure]
theorem Aq {K:Value→List A4→List Fact→Prop}{t:TypeId}{j off b o:Nat}{x:Operand}(hx:ev σ x=some (.pointer (some ⟨b,o,none⟩))) (hT:Kh P t j=some off)
  (h:K (.pointer (some ⟨b,o+off,none⟩)) β Γ):Fb P C (.fieldAddr t x j) ty σ β Γ K :=
 Fa (fun _=>AEG hT hx) h
end
def Cf:Value→List Value
 | .agg cs=>cs.toList
 | v=>[v]
theorem Dz (v:Value):v.cells.toList=Cf v:=by cases v <;> rfl
theorem ABO {w:World}{b o:Nat}{v:Value}{cs:Array Value}{T:TypeId}{fr:Nat×Nat}(h:w.heap[b]?=some (.cells cs T fr)) :
  (w.setCell ⟨b,o,none⟩ v).heap[b]?=some (.cells (cs.setIfInBounds o v) T fr):=by
 simp [World.setCell,Array.getElem?_modify,h]
theorem AAK {w:World}{b o k:Nat}{v:Value}(h:k≠b):(w.setCell ⟨b,o,none⟩ v).heap[k]?=w.heap[k]?:=by
 have:¬ b=k:=fun e=>h e.symm
 simp [World.setCell,Array.getElem?_modify,this]
def De (cs:List Value) (o:Nat) (vs:List Value):List Value:=cs.take o++vs++cs.drop (o+vs.length)
theorem R3 (cs:List Value) (o:Nat) (v:Value) (vs:List Value) (h:o<cs.length):De (cs.set o v) (o+1) vs=De cs o (v::vs):=by
 unfold De
 rw [List.drop_set_of_lt (by omega)]
 have:(cs.set o v).take (o+1)=cs.take o++[v]:=by
  rw [List.take_succ_eq_append_getElem (by simpa using h)]
  simp [List.take_set_of_le]
 rw [this]
 simp [Nat.add_comm,Nat.add_left_comm]
theorem T4 {b:Nat}{T:TypeId}{fr:Nat×Nat}:∀ (vs:List Value) (o:Nat) (w:World) (cs:List Value),w.heap[b]?=some (.cells cs.toArray T fr)→o+vs.length≤cs.length →
  (w.setCells b o vs).heap[b]?=some (.cells (De cs o vs).toArray T fr)
 | [],o,w,cs,h,_=>by simp [World.setCells,De,h]
 | v::vs,o,w,cs,h,hl=>by
  simp only [List.length_cons] at hl
  have h1:=ABO (o:=o) (v:=v) h
  rw [List.setIfInBounds_toArray] at h1
  rw [World.setCells,T4 vs (o+1) _ (cs.set o v) h1 (by simp;omega),R3 _ _ _ _ (by omega)]
theorem Me {b k:Nat}(hk:k≠b):∀ (vs:List Value) (o:Nat) (w:World),(w.setCells b o vs).heap[k]?=w.heap[k]?
 | [],_,_=>rfl
 | v::vs,o,w=>by rw [World.setCells,Me hk vs,AAK hk]
theorem Tt {b:Nat}:∀ (vs:List Value) (o:Nat) (w:World),(w.setCells b o vs).os=w.os∧(w.setCells b o vs).tape=w.tape∧(w.setCells b o vs).output=w.output∧(w.setCells b o vs).heap.size=w.heap.size
 | [],_,_=>⟨rfl,rfl,rfl,rfl⟩
 | v::vs,o,w=>by
  obtain ⟨h1,h2,h3,h4⟩:=Tt (b:=b) vs (o+1) (w.setCell ⟨b,o,none⟩ v)
  exact ⟨h1,h2,h3,h4.trans (by simp)⟩
section
variable {P:Program}{F:Fun P}{C:Cx}{S:List It}{σ:Fr}{β:List A4}{Γ:List Fact}{R:Value→World→Prop}{p:List Nat}{i:Nat}{d:Option Tmp}{op:Op}{ty:TypeId}{K:Value→List A4→List Fact→Prop}
theorem AC5 {T:TypeId}{cs:List Value}{f:Nat→Value}(hr:∀ ρ:Operand→Value,(∀ x v,ev σ x=some v→ρ x=v)→∀ w,∃ v,(execOp ρ (Da op ty)).run P w = .ok (.value v) (w.alloc (.cells cs.toArray T))∧v=f w.heap.size)
  (h:∀ b,K (f b) ((some b,T,cs)::β) Γ):Fb P C op ty σ β Γ K:=fun w hO hG ρ hρ=>by
 obtain ⟨v,hv,e⟩:=hr ρ hρ w
 rw [hv]
 exact ⟨_,Γ,by rw [e];exact h _,hO.push T cs,Uo hG⟩
theorem AJO {T:TypeId}{x:Operand}{v:Value}{cs:List Value}(hx:ev σ x=some v) (hc:Cf v=cs)
  (h:∀ b,K (.pointer (some ⟨b,0,none⟩)) ((some b,T,cs)::β) Γ):Fb P C (.box T x) ty σ β Γ K :=
 AC5 (f:=fun b=>.pointer (some ⟨b,0,none⟩)) (fun ρ hρ w=>by
  have e:v.cells=cs.toArray:=by rw [← hc,← Dz]
  refine ⟨.pointer (some ⟨w.heap.size,0,none⟩),?_,rfl⟩
  simp [execOp,Da,hρ _ _ hx,Instr.box,newVar,newRow,e]) h
def Cr (P:Program) (t:TypeId):Option (List Value) :=
 match P.info? t with
 | some i=>i.zero.map Cf
 | none=>none
theorem Fj {t:TypeId}{cs:List Value}(h:Cr P t=some cs):∃ i z,P.info? t=some i∧i.zero=some z∧Cf z=cs:=by
 unfold Cr at h
 cases hi:P.info? t with
 | none=>rw [hi] at h;simp at h
 | some i =>
  rw [hi] at h
  cases hz:i.zero with
  | none=>simp [hz] at h
  | some z=>exact ⟨i,z,rfl,hz,by simpa [hz] using h⟩
theorem S4 {w:World}{t:TypeId}{i:TypeInfo}{z:Value}(hi:P.info? t=some i) (hz:i.zero=some z):(zeroValue t).run P w = .ok z w:=by
 simp [zeroValue,typeInfo,hi,hz]
theorem Bl {T:TypeId}{cs:List Value}(hT:Cr P T=some cs) (h:∀ b,K (.pointer (some ⟨b,0,none⟩)) ((some b,T,cs)::β) Γ):Fb P C (.alloc T) ty σ β Γ K :=
 AC5 (f:=fun b=>.pointer (some ⟨b,0,none⟩)) (fun ρ hρ w=>by
  obtain ⟨i,z,hi,hz,hc⟩:=Fj hT
  have e:z.cells=cs.toArray:=by rw [← hc,← Dz]
  refine ⟨.pointer (some ⟨w.heap.size,0,none⟩),?_,rfl⟩
  simp [execOp,Da,Instr.alloc,S4 hi hz,newVar,newRow,e]) h
theorem Oh {w:World}{n b o:Nat}{T:TypeId}{cs:List Value}{v:Value}(hO:Own C w β) (hn:A5 β n=some (some b,T,cs)) (hv:cs[o]?=some v):w.cell? ⟨b,o,none⟩=some v:=by
 have:=hO.blk _ (B7 hn) b rfl
 simp [World.cell?,this,hv]
theorem Bm {t:TypeId}{x:Operand}{b o:Nat}{T:TypeId}{cs:List Value}{v:Value}(n:Nat) (hx:ev σ x=some (.pointer (some ⟨b,o,none⟩))) (hn:A5 β n=some (some b,T,cs))
  (hT:Eb P t=some (false,1)) (hv:cs[o]?=some v) (h:K v β Γ):Fb P C (.load t x) ty σ β Γ K:=fun _ hO hG =>
 Jp.done (F4 hT hx (Oh hO hn hv)) h hO hG
theorem S2 {t:TypeId}{x:Operand}{b o m:Nat}{T:TypeId}{cs vs:List Value}(n:Nat) (hx:ev σ x=some (.pointer (some ⟨b,o,none⟩))) (hn:A5 β n=some (some b,T,cs))
  (hT:Eb P t=some (true,m)) (hv:(cs.drop o).take m=vs) (hl:vs.length=m) (h:K (.agg vs.toArray) β Γ):Fb P C (.load t x) ty σ β Γ K:=fun w hO hG=>by
 have hb:=hO.blk _ (B7 hn) b rfl
 exact Jp.done (Gw hT hl hx (Fv.rangeAt ⟨cs.toArray,T,(0,0),hb,hv,hl⟩)) h hO hG
theorem AFI {w:World}{n b o m:Nat}{T:TypeId}{cs:List Value}(hO:Own C w β) (hn:A5 β n=some (some b,T,cs)) (hm:o+m≤cs.length):w.there b o m:=by
 intro j hj
 have hb:=hO.blk _ (B7 hn) b rfl
 refine ⟨?_,?_⟩
 ·have:o+j<cs.length:=by omega
  simp [World.cell?,hb,this]
 ·simp [World.frozen?,hb]
theorem W7 {w:World}{t:TypeId}{b o:Nat}{v:Value}{vs:List Value}{fl:Bool}(hT:Eb P t=some (fl,vs.length)) (hv:Cf v=vs) (h1:∀ u∈vs,u.oneCell'=true) (ht:w.there b o vs.length) :
  (Instr.storeAt t (.pointer (some ⟨b,o,none⟩)) v).run P w = .ok () (w.setCells b o vs):=by
 have hc:v.cells.toList=vs:=by rw [Dz,hv]
 have hs:v.cells.size=vs.length:=by rw [← Array.length_toList,hc]
 obtain ⟨i,hi,hsz⟩:∃ i,P.info? t=some i∧i.size=vs.length:=by
  unfold Eb at hT
  cases hu:P.underlying t with
  | none=>rw [hu] at hT;simp at hT
  | some dd =>
   cases hi:P.info? t with
   | none=>rw [hu,hi] at hT;cases dd <;> simp at hT
   | some i =>
    refine ⟨i,rfl,?_⟩
    rw [hu,hi] at hT
    cases dd <;> simp_all
 have:=run_storeCells_cells (P:=P) b o vs 0 w (fun j hj=>by simpa using (ht j hj).1) (fun j hj=>by simpa using (ht j hj).2) h1
 simp only [Nat.add_zero] at this
 simp [Instr.storeAt,Instr.sureAddr,storeVar,sizeOf,typeInfo,hi,hsz,hs,hc,this]
theorem AFB {t:TypeId}{x y:Operand}{b o:Nat}{T:TypeId}{cs vs cs':List Value}{v:Value}{fl:Bool}(n:Nat) (hx:ev σ x=some (.pointer (some ⟨b,o,none⟩))) (hy:ev σ y=some v) (hn:A5 β n=some (some b,T,cs))
  (hv:Cf v=vs) (hT:Eb P t=some (fl,vs.length)) (h1:∀ u∈vs,u.oneCell'=true) (hm:o+vs.length≤cs.length) (hc:De cs o vs=cs') (h:K undef (setB β n cs') Γ) :
  Fb P C (.store t x y) ty σ β Γ K:=fun w hO hG ρ hρ=>by
 have hst:=W7 (P:=P) hT hv h1 (AFI hO hn hm)
 have e:(execOp ρ (Da (.store t x y) ty)).run P w = .ok .skip (w.setCells b o vs):=by
  simp only [execOp,Da,hρ _ _ hx,hρ _ _ hy,Sem.run_bind,hst,Result.andThen_ok,Sem.run_pure]
 rw [e]
 have hb:=T4 (fr:=(0,0)) vs o w cs (hO.blk _ (B7 hn) b rfl) hm
 rw [hc] at hb
 obtain ⟨r1,r2,r3,r4⟩:=Tt (b:=b) vs o w
 exact ⟨_,Γ,h,hO.set hn r1 r2 r3 r4 hb (fun k hk=>Me hk vs o w),AGk hn r4 (fun k hk=>Me hk vs o w) hG⟩
theorem Nx {t:TypeId}{x y:Operand}{b o:Nat}{T:TypeId}{cs:List Value}{v:Value}(n:Nat) (hx:ev σ x=some (.pointer (some ⟨b,o,none⟩))) (hy:ev σ y=some v) (hn:A5 β n=some (some b,T,cs))
  (hv:Cf v=[v]) (hT:Eb P t=some (false,1)) (h1:v.oneCell'=true) (hm:o<cs.length) (h:K undef (setB β n (cs.set o v)) Γ) :
  Fb P C (.store t x y) ty σ β Γ K :=
 AFB n hx hy hn hv hT (fun u hu=>by obtain rfl:=List.mem_singleton.1 hu;exact h1) (by show o+1≤cs.length;omega)
  (by rw [← R3 cs o v [] hm];simp [De]) h
theorem Be {t e:TypeId}{m':Nat}{x y:Operand}{b len ca:Nat}{kd:IntKind}{m:Int}(k o:Nat) (hx:ev σ x=some (.slice (some ⟨b,0,none⟩) len ca)) (hy:ev σ y=some (.int kd m)) (hT:Ev P t=some (e,m'))
  (hm:m=(k:Int)) (hk:k<len) (ho:k*m'=o) (h:K (.pointer (some ⟨b,o,none⟩)) β Γ):Fb P C (.indexAddr t x y) ty σ β Γ K :=
 Fa (fun _=>by
  have:=ADs (P:=P) (ty:=ty) (w:=‹World›) (o:=0) hT hx hy hm hk
  rw [Nat.zero_add,ho] at this
  exact this) h
theorem I5 (zs:List Value) (hp:zs.length≠0):∀ k:Nat,(madeCells zs.toArray (k*zs.length)).toList=(List.replicate k zs).flatten:=by
 intro k
 induction k with
 | zero=>simp [madeCells]
 | succ k ih =>
  have e:(madeCells zs.toArray ((k+1)*zs.length)).toList=(madeCells zs.toArray (k*zs.length)).toList++zs:=by
   simp only [madeCells,Array.toList_map,Array.toList_range,List.size_toArray,Nat.succ_mul,List.range_add,List.map_append,List.map_map]
   congr 1
   refine List.ext_getElem (by simp) fun j h1 h2=>?_
   simp [Nat.mod_eq_of_lt h2,h2]
  rw [e,ih,List.replicate_succ']
  simp
theorem ACx {t e:TypeId}{m:Nat}{x y:Operand}{kd kc:IntKind}{nn:Int}{zs:List Value}(k by':Nat) (hx:ev σ x=some (.int kd nn)) (hy:ev σ y=some (.int kc nn)) (hT:Ev P t=some (e,m))
  (hz:Cr P e=some zs) (hl:zs.length=m) (hp:Nat.beq m 0=false) (hby:P.bytesOf e=by') (hm:nn=(k:Int)) (hk:by'*k≤281474976710656) (h63:k≤9223372036854775807)
  (h:∀ b,K (.slice (some ⟨b,0,none⟩) k k) ((some b,e,(List.replicate k zs).flatten)::β) Γ):Fb P C (.makeSlice t x y) ty σ β Γ K :=
 AC5 (f:=fun b=>.slice (some ⟨b,0,none⟩) k k) (fun ρ hρ w=>by
  refine ⟨.slice (some ⟨w.heap.size,0,none⟩) k k,?_,rfl⟩
  obtain ⟨hu,i,hi,hs⟩:=Cu hT
  obtain ⟨i',z,hi',hz',hc⟩:=Fj hz
  obtain rfl:i=i':=Option.some.inj (hi.symm.trans hi')
  have hbi:i.bytes=by':=by simpa [Program.bytesOf,hi] using hby
  subst hm
  have hp':=hp
  have hr := run_make (P := P) w t e i z hu hi hz' kd kc k k (by omega) (Int.le_refl _) (by rw [hbi]; have : ((by' * k : Nat) : Int) ≤ 281474976710656 := by omega
                                                                                            rwa [Int.natCast_mul] at this) (by omega)
  have hzc:z.cells=zs.toArray:=by rw [← hc,← Dz]
  have hcells:madeCells z.cells ((k:Int).toNat*i.size)=(List.replicate k zs).flatten.toArray:=by
   rw [hzc,hs,← hl,Int.toNat_natCast]
   have:=Nat.ne_of_beq_eq_false hp
   exact Array.toList_inj.1 (by rw [I5 zs (by omega)])
  rw [hcells,Int.toNat_natCast] at hr
  simp only [execOp,Da,hρ _ _ hx,hρ _ _ hy,Sem.run_bind,hr,Result.andThen_ok,Sem.run_pure]) h
def Im (σ:Fr):Nat→List (Nat×Operand)→Option (List (List Value))
 | _,[]=>some []
 | n,(j,x)::l=>match Nat.beq j n,ev σ x,Im σ (n+1) l with
  | true,some v,some vs=>some (Cf v::vs)
  | _,_,_=>none
def Y9 (m:Nat):List (List Value)→Bool
 | []=>true
 | x::l=>Nat.beq x.length m && Y9 m l
theorem AEw (vs:List Value) (off:Nat):∀ (cs:List Value) (j:Nat),off+j+vs.length≤cs.length →
  ((vs.zipIdx j).foldl (fun (acc:Array Value) (c:Value×Nat)=>acc.setIfInBounds (off+c.2) c.1) cs.toArray)=(De cs (off+j) vs).toArray:=by
 induction vs with
 | nil=>intro cs j h;simp [De]
 | cons v vs ih =>
  intro cs j h
  simp only [List.length_cons] at h
  simp only [List.zipIdx_cons,List.foldl_cons,List.setIfInBounds_toArray]
  rw [ih (cs.set (off+j) v) (j+1) (by simp;omega),← R3 cs (off+j) v vs (by omega)]
  congr 1
theorem ABk (place:Nat→Option (Nat×Nat)) (cells:Array Value) (n:Nat) (v:Value) (rest:List (Nat×Value)) (off m:Nat) (hp:place n=some (off,m)) (hl:v.cells.size=m) (ho:off+m≤cells.size) :
  Instr.fill place cells ((n,v)::rest)=Instr.fill place (De cells.toList off (Cf v)).toArray rest:=by
 have hc:v.cells=(Cf v).toArray:=by rw [← Dz]
 have e:v.cells.zipIdx.foldl (fun (cs:Array Value) (c:Value×Nat)=>cs.setIfInBounds (off+c.2) c.1) cells=(De cells.toList off (Cf v)).toArray:=by
  have h1:=AEw (Cf v) off cells.toList 0 (by rw [← Dz];simp [hl];omega)
  simp only [Nat.add_zero,Array.toArray_toList] at h1
  rw [← h1,hc]
  simp
 have hcond:(decide (v.cells.size≠m) || decide (off+v.cells.size > cells.size))=false:=by
  simp [hl];omega
 simp only [Instr.fill,hp]
 rw [if_neg (by rw [hcond];simp)]
 exact congrArg (fun c=>Instr.fill place c rest) e
theorem AGM (m:Nat) {σ:Fr}{ρ:Operand→Value}(hρ:∀ x v,ev σ x=some v→ρ x=v):∀ (parts:List (Nat×Operand)) (n:Nat) (vss:List (List Value)) (pre:List Value) (cs:List Value),Im σ n parts=some vss→Y9 m vss=true →
  pre.length=n*m→cs.length=vss.length*m →
  Instr.fill (fun i=>some (i*m,m)) (pre++cs).toArray (parts.map fun (i,x)=>(i,ρ x))=some (pre++vss.flatten).toArray:=by
 intro parts
 induction parts with
 | nil =>
  intro n vss pre cs h _ _ hcs
  simp only [Im,Option.some.injEq] at h
  subst h
  have:cs=[]:=List.eq_nil_of_length_eq_zero (by simpa using hcs)
  subst this
  simp [Instr.fill]
 | cons q parts ih =>
  obtain ⟨j,x⟩:=q
  intro n vss pre cs h hall hpre hcs
  simp only [Im] at h
  cases hb:Nat.beq j n with
  | false=>rw [hb] at h;simp at h
  | true =>
   obtain rfl:j=n:=Nat.eq_of_beq_eq_true hb
   cases hx:ev σ x with
   | none=>rw [hb,hx] at h;simp at h
   | some v =>
    cases hr:Im σ (j+1) parts with
    | none=>rw [hb,hx,hr] at h;simp at h
    | some us =>
     rw [hb,hx,hr] at h
     obtain rfl:=Option.some.inj h
     simp only [Y9,Bool.and_eq_true] at hall
     have hvl:(Cf v).length=m:=Nat.eq_of_beq_eq_true hall.1
     have hvs:v.cells.size=m:=by rw [← Array.length_toList,Dz,hvl]
     simp only [List.length_cons,Nat.succ_mul] at hcs
     simp only [List.map_cons,hρ _ _ hx]
     rw [ABk _ _ _ _ _ (j*m) m rfl hvs (by simp [hpre,hcs])]
     have e:De (pre++cs) (j*m) (Cf v)=(pre++Cf v)++cs.drop m:=by
      unfold De
      rw [← hpre,List.take_left,hvl,List.drop_append]
      simp
     simp only [e]
     rw [ih (j+1) us (pre++Cf v) (cs.drop m) hr hall.2 (by simp [hpre,hvl,Nat.succ_mul]) (by simp [hcs])]
     simp
theorem Iu {t e:TypeId}{m n:Nat}{parts:List (Nat×Operand)}{vss:List (List Value)}{zs:List Value}(hT:Ev P t=some (e,m)) (hz:Cr P e=some zs) (hl:zs.length=m)
  (hv:Im σ 0 parts=some vss) (ha:Y9 m vss=true) (hn:vss.length=n) (hp:n*m≠0) (hs:n*m≤16777216) {cs:List Value}(hc:vss.flatten=cs)
  (h:∀ b,K (.slice (some ⟨b,0,none⟩) n n) ((some b,e,cs)::β) Γ):Fb P C (.buildSlice t n parts.toArray) ty σ β Γ K :=
 AC5 (f:=fun b=>.slice (some ⟨b,0,none⟩) n n) (fun ρ hρ w=>by
  refine ⟨.slice (some ⟨w.heap.size,0,none⟩) n n,?_,rfl⟩
  obtain ⟨hu,i,hi,hsz⟩:=Cu hT
  obtain ⟨i',z,hi',hz',hzc⟩:=Fj hz
  obtain rfl:i=i':=Option.some.inj (hi.symm.trans hi')
  have hzz:z.cells=zs.toArray:=by rw [← hzc,← Dz]
  have hm0:zs.length≠0:=by rw [hl];intro e;rw [e] at hp;simp at hp
  have hcells:((Array.range (n*m)).map (fun x=>zs.toArray[x % zs.toArray.size]!))=(List.replicate n zs).flatten.toArray:=by
   have:=I5 zs hm0 n
   rw [← hl,← this,Array.toArray_toList]
   rfl
  have hf:=AGM m hρ parts 0 vss [] (List.replicate n zs).flatten hv ha (by simp) (by simp [hl,hn])
  simp only [List.nil_append] at hf
  rw [hc] at hf
  have hns:¬ (16777216<n*m):=by omega
  simp only [execOp,Da,Instr.buildSlice,Sem.run_bind,run_underlying hu,Result.andThen_ok,sizeOf,typeInfo,Sem.run_pure,run_program,hi,hsz]
  simp only [gt_iff_lt,hns,hp,if_false,S4 hi hz',Sem.run_bind,Result.andThen_ok,Sem.run_pure,hzz,List.map_toArray,List.toList_toArray]
  rw [hcells,hf]
  simp [newRow]) h
end
def ad:Option Nat→Option Addr
 | none=>none
 | some b=>some ⟨b,0,none⟩
def Ml (bo:Option Nat) (n cap m:Nat) (cs:List Value):Prop :=
 (bo=none∧n=0∧cap=0∧cs=[])∨(∃ b,bo=some b∧n≤cap∧cap≤9223372036854775807∧cs.length=cap*m)
theorem Ml.nil (m:Nat):Ml none 0 0 m []:=.inl ⟨rfl,rfl,rfl,rfl⟩
theorem Ml.le {bo:Option Nat}{n cap m:Nat}{cs:List Value}(h:Ml bo n cap m cs):n≤cap:=by
 rcases h with ⟨_,rfl,rfl,_⟩|⟨_,_,h,_⟩
 ·exact Nat.le_refl _
 ·exact h
theorem Ml.len {bo:Option Nat}{n cap m:Nat}{cs:List Value}(h:Ml bo n cap m cs):n*m≤cs.length:=by
 rcases h with ⟨_,rfl,rfl,rfl⟩|⟨_,_,h1,_,h2⟩
 ·simp
 ·rw [h2];exact Nat.mul_le_mul_right _ h1
theorem Jq {β:List A4}:∀ {n:Nat}{b:Nat}{T:TypeId}{c:List Value},Ay β→A5 β n=some (some b,T,c)→∀ x∈β.eraseIdx n,x.1≠some b:=by
 induction β with
 | nil=>intro n b T c _ h;simp [A5] at h
 | cons y l ih =>
  intro n b T c hd h x hx
  cases n with
  | zero =>
   simp only [A5,Option.some.injEq] at h
   subst h
   exact hd.1 x hx b rfl
  | succ n =>
   simp only [A5] at h
   simp only [List.eraseIdx_cons_succ,List.mem_cons] at hx
   rcases hx with rfl|hx
   ·intro e
    have hm:(some b,T,c)∈l:=by rw [B8] at h;exact List.mem_of_getElem? h
    exact hd.1 _ hm b e rfl
   ·exact ih hd.2 h x hx
section
variable {P:Program}{F:Fun P}{C:Cx}{S:List It}{σ:Fr}{β:List A4}{Γ:List Fact}{R:Value→World→Prop}{p:List Nat}{i:Nat}{d:Option Tmp}{op:Op}{ty:TypeId}{K:Value→List A4→List Fact→Prop}
theorem Own.sub {w:World}{β':List A4}(ho:Own C w β) (hs:β'.Sublist β):Own C w β' :=
 ⟨ho.ext,fun x hx=>ho.new x (hs.subset hx),fun x hx=>ho.blk x (hs.subset hx),ho.apart.sub hs⟩
theorem Lg {w:World}{β':List A4}(hs:β'.Sublist β) (hG:∀ f∈Γ,f.holds w (ok C w β)):∀ f∈Γ,f.holds w (ok C w β') :=
 fun f hf=>f.stable (fun _ hk=>⟨⟨hk.1,hk.2.1,fun x hx=>hk.2.2 x (hs.subset hx)⟩,rfl⟩) (hG f hf)
theorem ALA (e:TypeId) (h:J F C S σ ((none,e,[])::β) Γ R):J F C S σ β Γ R:=fun w hO hG =>
 h w ⟨hO.ext,fun x hx b hb=>by rcases List.mem_cons.1 hx with rfl|hx;(cases hb);exact hO.new x hx b hb,
   fun x hx b hb=>by rcases List.mem_cons.1 hx with rfl|hx;(cases hb);exact hO.blk x hx b hb,⟨(fun y hy b hb=>by cases hb),hO.apart⟩⟩
  fun f hf=>f.stable (fun k hk=>⟨⟨hk.1,hk.2.1,fun x hx=>by
   rcases List.mem_cons.1 hx with rfl|hx
   ·intro e;cases e
   ·exact hk.2.2 x hx⟩,rfl⟩) (hG f hf)
theorem Own.drew {w:World}(h:Own C w β):Own C w.drew β:=⟨⟨h.ext.os,h.ext.tape,h.ext.output,h.ext.size,h.ext.block⟩,h.new,h.blk,h.apart⟩
theorem Mj {w:World}(hG:∀ f∈Γ,f.holds w (ok C w β)):∀ f∈Γ,f.holds w.drew (ok C w.drew β) :=
 fun f hf=>f.stable (w:=w) (fun _ hk=>⟨⟨hk.1,hk.2.1,hk.2.2⟩,rfl⟩) (hG f hf)
theorem Km {w:World}{t ty' e:TypeId}{i:TypeInfo}{base px:Option Addr}{n cap cx:Nat}(ht:P.underlying t=some (.slice e)) (hi:P.info? e=some i) (hn:n≤cap) :
  (Builtin.append_ #[t,t] ty' #[.slice base n cap,.slice px 0 cx]).run P w = .ok (.slice base n cap) w:=by
 cases px <;> cases base <;> simp [Builtin.append_,run_underlying ht,sizeOf,typeInfo,hi,Builtin.lenOf,hn,Builtin.firstCells,loadCells,loadCellsFrom,storeCells]
theorem T7 {w:World}{t ty' e:TypeId}{n m cap size k cx:Nat}{bo:Option Nat}{cs news:List Value}{px:Option Addr}{zs:List Value}(hT:Ev P t=some (e,size)) (hz:Cr P e=some zs) (hzl:zs.length=size)
  (hO:Own C w β) (hG:∀ f∈Γ,f.holds w (ok C w β)) (hn:A5 β k=some (bo,e,cs)) (hg:Ml bo n cap size cs)
  (hl:news.length=m*size) (hx:m=0∨∃ a,px=some a∧∀ j u,news[j]?=some u→w.cell? (a.add j)=some u) (h1:∀ u∈news,u.oneCell'=true)
  (hmax:n+m≤9223372036854775807) (hby:(n+m)*P.bytesOf e≤140737488355328) :
  ∃ bo' cap' cs' w',(Builtin.append_ #[t,t] ty' #[.slice (ad bo) n cap,.slice px m cx]).run P w = .ok (.slice (ad bo') (n+m) cap') w'∧Ml bo' (n+m) cap' size cs'∧cs'.take ((n+m)*size)=cs.take (n*size)++news ∧
   Own C w' ((bo',e,cs')::β.eraseIdx k)∧∀ f∈Γ,f.holds w' (ok C w' ((bo',e,cs')::β.eraseIdx k)):=by
 obtain ⟨hu,i,hi,hsz⟩:=Cu hT
 obtain ⟨i',z,hi',hz',hzc⟩:=Fj hz
 obtain rfl:i=i':=Option.some.inj (hi.symm.trans hi')
 have hbi:P.bytesOf e=i.bytes:=by simp [Program.bytesOf,hi]
 rw [hbi] at hby
 have hzs:z.cells.size=size:=by rw [← Array.length_toList,Dz,hzc,hzl]
 have hsub:(β.eraseIdx k).Sublist β:=List.eraseIdx_sublist _ _
 have fresh:∀ (old:List Value) (C':Nat),old=cs.take (n*size)→n+m≤C'→C'≤9223372036854775807 →
   ∀ w',w'=w.drew.alloc (.cells (old++news++(Builtin.zeroCells z.cells (C'-(n+m))).toList).toArray e) →
   Ml (some w.heap.size) (n+m) C' size (old++news++(Builtin.zeroCells z.cells (C'-(n+m))).toList)∧(old++news++(Builtin.zeroCells z.cells (C'-(n+m))).toList).take ((n+m)*size)=cs.take (n*size)++news ∧
   Own C w' ((some w.heap.size,e,old++news++(Builtin.zeroCells z.cells (C'-(n+m))).toList)::β.eraseIdx k)∧∀ f∈Γ,f.holds w' (ok C w' ((some w.heap.size,e,old++news++(Builtin.zeroCells z.cells (C'-(n+m))).toList)::β.eraseIdx k)):=by
  intro old C' hold hC hCm w' hw'
  subst hw'
  have hlo:old.length=n*size:=by rw [hold,List.length_take];have:=hg.len;omega
  have hlen:(old++news).length=(n+m)*size:=by rw [List.length_append,hlo,hl,Nat.add_mul]
  refine ⟨.inr ⟨_,rfl,hC,hCm,?_⟩,?_,(hO.drew.sub hsub).push e _,Uo (w:=w.drew) (Lg (w:=w.drew) hsub (Mj hG))⟩
  ·rw [List.length_append,hlen,Array.length_toList,size_zeroCells,hzs,← Nat.add_mul]
   congr 1;omega
  ·rw [← hlen,List.take_left,hold]
 by_cases hm:m=0
 ·subst hm
  have hnews:news=[]:=List.eq_nil_of_length_eq_zero (by simpa using hl)
  subst hnews
  refine ⟨bo,cap,cs,w,Km hu hi hg.le,hg,by simp,?_,?_⟩
  ·have hO':=hO.sub hsub
   refine ⟨hO.ext,?_,?_,?_,hO'.apart⟩
   ·intro x hx b hb
    rcases List.mem_cons.1 hx with rfl|hx
    ·exact hO.new _ (B7 hn) b hb
    ·exact hO'.new x hx b hb
   ·intro x hx b hb
    rcases List.mem_cons.1 hx with rfl|hx
    ·exact hO.blk _ (B7 hn) b hb
    ·exact hO'.blk x hx b hb
   ·intro y hy b hb
    have hb':bo=some b:=hb
    subst hb'
    exact Jq hO.apart hn y hy
  ·exact fun f hf=>f.stable (fun k' hk'=>⟨⟨hk'.1,hk'.2.1,fun x hx=>by
    rcases List.mem_cons.1 hx with rfl|hx
    ·exact hk'.2.2 _ (B7 hn)
    ·exact hk'.2.2 x (hsub.subset hx)⟩,rfl⟩) (hG f hf)
 ·obtain ⟨a,rfl,hnews⟩:=hx.resolve_left hm
  rcases hg with ⟨rfl,rfl,rfl,rfl⟩|⟨b,rfl,hnc,hcm,hcs⟩
  ·have hr:=run_append_nil (P:=P) w t ty' e i z hu hi hz' a m cx news (by rw [hsz];exact hl) hnews (by omega) (by omega) (by simp only [Nat.zero_add] at hby;omega)
   have hge:=grownCap_ge w m 0 e
   have hle:=grownCap_le_maxLen w m 0 e (by simp only [maxLen];omega)
   obtain ⟨f1,f2,f3,f4⟩:=fresh [] (grownCap w m 0 e) (by simp) (by omega) (by simpa [maxLen] using hle) _ rfl
   simp only [Nat.zero_add,List.nil_append] at *
   have e1:(news++(Builtin.zeroCells z.cells (grownCap w m 0 e-m)).toList).toArray=news.toArray++Builtin.zeroCells z.cells (grownCap w m 0 e-m):=by
    apply Array.ext';simp
   refine ⟨_,_,_,_,?_,f1,f2,f3,f4⟩
   rw [e1]
   exact hr
  ·have hblk:=hO.blk _ (B7 hn) b rfl
   by_cases hroom:n+m≤cap
   ·have hfit:n*i.size+news.length≤cs.toArray.size:=by rw [hsz,hl,← Nat.add_mul,List.size_toArray,hcs];exact Nat.mul_le_mul_right _ hroom
    have hr:=run_append_room (P:=P) w t ty' e i hu hi b n cap cs.toArray hblk a m cx news (by rw [hsz];exact hl) hnews h1 hroom hfit
    rw [hsz] at hr hfit
    have hcs':(cs.take (n*size)++news++cs.drop (n*size+news.length)).length=cap*size:=by
     simp only [List.length_append,List.length_take,List.length_drop]
     simp at hfit
     omega
    have hrow:(w.setRow b (cs.take (n*size)++news++cs.drop (n*size+news.length)).toArray).heap[b]?=some (.cells (cs.take (n*size)++news++cs.drop (n*size+news.length)).toArray e (0,0)):=setRow_heap w b _ _ e _ hblk
    have hoth:∀ k',k'≠b→(w.setRow b (cs.take (n*size)++news++cs.drop (n*size+news.length)).toArray).heap[k']?=w.heap[k']?:=fun k' hk'=>setRow_other w b k' _ (fun e=>hk' e)
    have hsize:(w.setRow b (cs.take (n*size)++news++cs.drop (n*size+news.length)).toArray).heap.size=w.heap.size:=by simp [World.setRow]
    have hO':=hO.sub hsub
    have hset:=hO.set (cs:=cs.take (n*size)++news++cs.drop (n*size+news.length)) (w':=w.setRow b (cs.take (n*size)++news++cs.drop (n*size+news.length)).toArray) hn rfl rfl rfl hsize hrow hoth
    have hlen:(cs.take (n*size)++news).length=(n+m)*size:=by
     rw [List.length_append,List.length_take,hl,Nat.add_mul]
     have:n*size≤cs.length:=by rw [hcs];exact Nat.mul_le_mul_right _ hnc
     omega
    refine ⟨some b,cap,cs.take (n*size)++news++cs.drop (n*size+news.length),_,hr,.inr ⟨b,rfl,hroom,hcm,hcs'⟩,by rw [← hlen,List.take_left],?_,?_⟩
    ·refine ⟨hset.ext,?_,?_,?_,hO'.apart⟩
     ·intro x hx bb hb
      rcases List.mem_cons.1 hx with rfl|hx
      ·exact hO.new _ (B7 hn) bb hb
      ·exact hO'.new x hx bb hb
     ·intro x hx bb hb
      rcases List.mem_cons.1 hx with rfl|hx
      ·obtain rfl:=Option.some.inj hb
       exact hrow
      ·rw [hoth bb (fun e=>Jq hO.apart hn x hx (e▸hb))]
       exact hO'.blk x hx bb hb
     ·intro y hy bb hb
      obtain rfl:=Option.some.inj hb
      exact Jq hO.apart hn y hy
    ·exact fun f hf=>f.stable (fun k' hk'=>by
      have hne:k'≠b:=fun e=>hk'.2.2 _ (B7 hn) (by rw [e])
      refine ⟨⟨hk'.1,by rw [hsize];exact hk'.2.1,fun x hx=>?_⟩,hoth k' hne⟩
      rcases List.mem_cons.1 hx with rfl|hx
      ·intro e;exact hne (Option.some.inj e).symm
      ·exact hk'.2.2 x (hsub.subset hx)) (hG f hf)
   ·have holds:∀ j u,(cs.take (n*size))[j]?=some u→w.cell? ((⟨b,0,none⟩:Addr).add j)=some u:=by
     intro j u hu'
     rw [Addr.add_mid,Nat.zero_add]
     rw [List.getElem?_take] at hu'
     split at hu'
     ·simp [World.cell?,hblk,hu']
     ·cases hu'
    have hlt:(cs.take (n*size)).length=n*size:=by
     rw [List.length_take,hcs]
     have:=Nat.mul_le_mul_right size hnc
     omega
    have hr:=run_append_grow (P:=P) w t ty' e i z hu hi hz' ⟨b,0,none⟩ n cap (cs.take (n*size)) (by rw [hlt,hsz]) holds a m cx news (by rw [hsz];exact hl) hnews (by omega) (by omega) (growslice_fits (by omega) hby)
    have hge:=grownCap_ge w (n+m) cap e
    have hle:=grownCap_le_maxLen w (n+m) cap e (by simp only [maxLen];omega)
    obtain ⟨f1,f2,f3,f4⟩:=fresh (cs.take (n*size)) (grownCap w (n+m) cap e) rfl (by omega) (by simpa [maxLen] using hle) _ rfl
    refine ⟨_,_,_,_,?_,f1,f2,f3,f4⟩
    have e1:(cs.take (n*size)++news++(Builtin.zeroCells z.cells (grownCap w (n+m) cap e-(n+m))).toList).toArray=(cs.take (n*size)).toArray++news.toArray++Builtin.zeroCells z.cells (grownCap w (n+m) cap e-(n+m)):=by
     apply Array.ext';simp
    rw [e1]
    exact hr
theorem Lh {w w':World}{t:TypeId}{x y:Operand}{vx vy v:Value}(hx:ev σ x=some vx) (hy:ev σ y=some vy) (hr:(Builtin.append_ #[t,t] ty #[vx,vy]).run P w = .ok v w') {post:Value→World→Prop}(h:post v w') :
  Ex P (.call { callee:=.builtin .append,args:=#[x,y],argTypes:=#[t,t] }) ty σ w post:=fun ρ hρ=>by
 simp only [execOp,Da,resolve,invoke,builtin,Sem.run_bind,Sem.run_pure,Result.andThen_ok,List.map_toArray,List.map_cons,List.map_nil,hρ _ _ hx,hρ _ _ hy,hr]
 exact h
theorem AMc {t e:TypeId}{size:Nat}{x y:Operand}{bo:Option Nat}{n cap m c b2:Nat}{cs cs2 zs news:List Value}{e2:TypeId}(k j:Nat)
  (hn:A5 β k=some (bo,e,cs)) (hj:A5 β j=some (some b2,e2,cs2)) (hx:ev σ x=some (.slice (ad bo) n cap)) (hy:ev σ y=some (.slice (some ⟨b2,0,none⟩) m c))
  (hT:Ev P t=some (e,size)) (hz:Cr P e=some zs) (hzl:zs.length=size) (hg:Ml bo n cap size cs) (hnews:cs2.take (m*size)=news) (hl:news.length=m*size) (h1:∀ u∈news,u.oneCell'=true)
  (hmax:n+m≤9223372036854775807) (by':Nat) (hbe:P.bytesOf e=by') (hby:(n+m)*by'≤140737488355328)
  (h:∀ bo' cap' cs',Ml bo' (n+m) cap' size cs'→cs'.take ((n+m)*size)=cs.take (n*size)++news→K (.slice (ad bo') (n+m) cap') ((bo',e,cs')::β.eraseIdx k) Γ) :
  Fb P C (.call { callee:=.builtin .append,args:=#[x,y],argTypes:=#[t,t] }) ty σ β Γ K:=fun w hO hG=>by
 subst hbe
 obtain ⟨bo',cap',cs',w',hr,h2,h3,h4,h5⟩:=T7 (P:=P) (ty':=ty) (cx:=c) (px:=some ⟨b2,0,none⟩) hT hz hzl hO hG hn hg hl (.inr ⟨_,rfl,fun jj u hu=>by
  rw [Addr.add_mid,Nat.zero_add]
  refine Oh hO hj ?_
  rw [← hnews,List.getElem?_take] at hu
  split at hu
  ·exact hu
  ·cases hu⟩) h1 hmax hby
 exact Lh hx hy hr ⟨_,Γ,h _ _ _ h2 h3,h4,h5⟩
def G2 {α:Type}(E:Enc α) (vss:List (List Value)) (l:List α) (w:World) (A:Nat→Prop):Prop :=
 vss.length=l.length∧∀ (i:Nat) (vs:List Value) (x:α),vss[i]?=some vs→l[i]?=some x→E.rd w A vs x
def Nl {α:Type}(E:Enc α) (vss:List (List Value)) (l:List α):Fact where
 holds:=fun w A=>G2 E vss l w A
 stable:=fun h hh=>⟨hh.1,fun i vs x hv hx=>E.stable h (hh.2 i vs x hv hx)⟩
theorem Gb {α:Type}{E:Enc α}{vss:List (List Value)}{l:List α}{w:World}{A:Nat→Prop}(h:G2 E vss l w A):∀ vs∈vss,vs.length=E.size:=by
 intro vs hv
 obtain ⟨i,hi⟩:=List.getElem?_of_mem hv
 have hlt:i<vss.length:=(List.getElem?_eq_some_iff.1 hi).1
 obtain ⟨x,hx⟩:∃ x,l[i]?=some x:=⟨l[i]'(h.1▸hlt),by simp⟩
 exact E.len (h.2 i vs x hi hx)
theorem ADv {α:Type}{E:Enc α}{vss:List (List Value)}{l:List α}{w:World}{A:Nat→Prop}(h:G2 E vss l w A):∀ v∈vss.flatten,v.oneCell'=true:=by
 intro v hv
 obtain ⟨vs,hvs,hv⟩:=List.mem_flatten.1 hv
 obtain ⟨i,hi⟩:=List.getElem?_of_mem hvs
 have hlt:i<vss.length:=(List.getElem?_eq_some_iff.1 hi).1
 obtain ⟨x,hx⟩:∃ x,l[i]?=some x:=⟨l[i]'(h.1▸hlt),by simp⟩
 exact E.one (h.2 i vs x hi hx) v hv
theorem Gf {vss:List (List Value)}{m:Nat}(h:∀ vs∈vss,vs.length=m):vss.flatten.length=vss.length*m:=by
 induction vss with
 | nil=>simp
 | cons x l ih =>
  rw [List.flatten_cons,List.length_append,h x (.head _),ih fun y hy=>h y (.tail _ hy),List.length_cons,Nat.succ_mul,Nat.add_comm]
theorem Hi {vss:List (List Value)}{m:Nat}(h:∀ vs∈vss,vs.length=m):∀ (i:Nat) (vs:List Value),vss[i]?=some vs→(vss.flatten.drop (i*m)).take m=vs:=by
 induction vss with
 | nil=>intro i vs hi;simp at hi
 | cons x l ih =>
  intro i vs hi
  have hx:=h x (.head _)
  cases i with
  | zero =>
   simp only [List.getElem?_cons_zero,Option.some.injEq] at hi
   subst hi
   rw [List.flatten_cons,Nat.zero_mul,List.drop_zero,← hx,List.take_left]
  | succ i =>
   simp only [List.getElem?_cons_succ] at hi
   rw [List.flatten_cons,Nat.succ_mul,Nat.add_comm,← List.drop_drop,← hx,List.drop_left,hx]
   exact ih (fun y hy=>h y (.tail _ hy)) i vs hi
theorem Np.all {α:Type}{E:Enc α}{w:World}{A:Nat→Prop}{b o:Nat}{l:List α}(h:∀ i x,l[i]?=some x→∃ vs,Fv w b (o+i*E.size) E.size vs∧E.rd w A vs x) :
  ∃ vss,G2 E vss l w A∧w.rangeAt b o vss.flatten:=by
 induction l generalizing o with
 | nil=>exact ⟨[],⟨rfl,fun i vs x hv=>by simp at hv⟩,fun j v hv=>by simp at hv⟩
 | cons x l ih =>
  obtain ⟨vs,h1,h2⟩:=h 0 x rfl
  obtain ⟨vss,h3,h4⟩:=ih (o:=o+E.size) (fun i y hy=>by
   have:=h (i+1) y (by simpa using hy)
   rwa [show o+(i+1)*E.size=o+E.size+i*E.size by rw [Nat.succ_mul];omega] at this)
  refine ⟨vs::vss,⟨by simp [h3.1],fun i us y hu hy=>?_⟩,fun j v hv=>?_⟩
  ·cases i with
   | zero=>simp at hu hy;subst hu;subst hy;exact h2
   | succ i=>exact h3.2 i us y (by simpa using hu) (by simpa using hy)
  ·have hlen:=E.len h2
   rw [Nat.zero_mul,Nat.add_zero] at h1
   rw [List.flatten_cons,List.getElem?_append] at hv
   split at hv
   ·exact h1.rangeAt j v hv
   ·have:=h4 (j-vs.length) v hv
    rwa [show o+E.size+(j-vs.length)=o+j by omega] at this
theorem AGP {α:Type}{E:Enc α}{t e:TypeId}{x y:Operand}{bo:Option Nat}{n cap m c:Nat}{pa:Option Addr}{cs zs:List Value}{l:List α}(k j:Nat)
  (hn:A5 β k=some (bo,e,cs)) (hj:A5 Γ j=some (Ap E pa m c l)) (hx:ev σ x=some (.slice (ad bo) n cap)) (hy:ev σ y=some (.slice pa m c))
  (hT:Ev P t=some (e,E.size)) (hz:Cr P e=some zs) (hzl:zs.length=E.size) (hg:Ml bo n cap E.size cs)
  (hmax:n+m≤9223372036854775807) (by':Nat) (hbe:P.bytesOf e=by') (hby:(n+m)*by'≤140737488355328)
  (h:∀ bo' cap' cs' vss,Ml bo' (n+m) cap' E.size cs'→cs'.take ((n+m)*E.size)=cs.take (n*E.size)++vss.flatten→K (.slice (ad bo') (n+m) cap') ((bo',e,cs')::β.eraseIdx k) (Nl E vss l::Γ)) :
  Fb P C (.call { callee:=.builtin .append,args:=#[x,y],argTypes:=#[t,t] }) ty σ β Γ K:=fun w hO hG=>by
 subst hbe
 obtain ⟨hml,_,_,hs⟩:=hG _ (Af hj)
 obtain ⟨vss,hall,hcell⟩:∃ vss,G2 E vss l w (ok C w β)∧(m=0∨∃ a,pa=some a∧∀ jj u,vss.flatten[jj]?=some u→w.cell? (a.add jj)=some u):=by
  rcases hs with rfl|⟨b,o,rfl,_,hel⟩
  ·exact ⟨[],⟨rfl,fun i vs x hv=>by simp at hv⟩,.inl (by simpa using hml)⟩
  ·obtain ⟨vss,h1,h2⟩:=Np.all (A:=ok C w β) hel
   exact ⟨vss,h1,.inr ⟨_,rfl,fun jj u hu=>by rw [Addr.add_mid];exact h2 jj u hu⟩⟩
 have hlen:vss.flatten.length=m*E.size:=by rw [Gf (Gb hall),hall.1,hml]
 have hG':∀ f∈Nl E vss l::Γ,f.holds w (ok C w β):=fun f hf=>by
  rcases List.mem_cons.1 hf with rfl|hf
  ·exact hall
  ·exact hG f hf
 obtain ⟨bo',cap',cs',w',hr,h2,h3,h4,h5⟩:=T7 (P:=P) (ty':=ty) (cx:=c) (px:=pa) hT hz hzl hO hG' hn hg hlen hcell (ADv hall) hmax hby
 exact Lh hx hy hr ⟨_,_,h _ _ _ vss h2 h3,h4,h5⟩
theorem AIc {α:Type}{E:Enc α}{e:TypeId}{bo:Option Nat}{n cap:Nat}{cs:List Value}{vss:List (List Value)}{l:List α}(k j:Nat)
  (hn:A5 β k=some (bo,e,cs)) (hj:A5 Γ j=some (Nl E vss l)) (hg:Ml bo n cap E.size cs) (hc:cs.take (n*E.size)=vss.flatten) (hl:n=l.length) (hby:n*E.bytes≤140737488355328)
  (h:J F C S σ (β.eraseIdx k) (Ap E (ad bo) n cap l::Γ) R):J F C S σ β Γ R:=fun w hO hG=>by
 have hsub:(β.eraseIdx k).Sublist β:=List.eraseIdx_sublist _ _
 have hall:G2 E vss l w (ok C w β):=hG _ (Af hj)
 refine h w (hO.sub hsub) fun f hf=>?_
 rcases List.mem_cons.1 hf with rfl|hf
 ·refine ⟨hl,?_⟩
  have hs:Np E w (ok C w (β.eraseIdx k)) (ad bo) cap l:=by
   subst hl
   rcases hg with ⟨rfl,hn0,rfl,rfl⟩|⟨b,rfl,hnc,hcm,hcs⟩
   ·have:l=[]:=List.eq_nil_of_length_eq_zero hn0
    subst this
    exact ⟨Nat.le_refl _,hby,.inl rfl⟩
   ·refine ⟨hnc,hby,.inr ⟨b,0,rfl,?_,fun i x hi=>?_⟩⟩
    ·have hlt:=hO.lt (B7 hn) rfl
     have hnew:=hO.new _ (B7 hn) b rfl
     refine ⟨?_,hlt,fun x hx e=>Jq hO.apart hn x hx e⟩
     rcases hnew with h1|h1
     ·exact .inr (.inr h1)
     ·exact .inr (.inl h1)
    ·have hlt:i<l.length:=(List.getElem?_eq_some_iff.1 hi).1
     obtain ⟨vs,hvs⟩:∃ vs,vss[i]?=some vs:=⟨vss[i]'(hall.1.symm▸hlt),by simp⟩
     have hpart:=Hi (Gb hall) i vs hvs
     have hrd:=hall.2 i vs x hvs hi
     refine ⟨vs,⟨cs.toArray,e,(0,0),hO.blk _ (B7 hn) b rfl,?_,E.len hrd⟩,E.stable (fun _ hk=>⟨⟨hk.1,hk.2.1,fun x hx=>hk.2.2 x (hsub.subset hx)⟩,rfl⟩) hrd⟩
     rw [← hpart,← hc,Nat.zero_add,List.drop_take,List.take_take]
     congr 1
     have h4:(i+1)*E.size≤l.length*E.size:=Nat.mul_le_mul_right _ hlt
     rw [Nat.succ_mul] at h4
     omega
  exact hs
 ·exact Lg hsub hG f hf
end
def AGi {α:Type}(t:Nat):List (Nat×α)→Option α
 | []=>none
 | (i,v)::l=>match Nat.beq i t with
  | true=>some v
  | false=>AGi t l
def Bw (P:Program) (it:List (TypeId×IntKind)):Prop:=∀ t k,AGi t it=some k→P.underlying t=some (.int k)
theorem Bw.nil (P:Program):Bw P []:=fun t k h=>by simp [AGi] at h
theorem Bw.cons {P:Program}{t:TypeId}{k:IntKind}{it:List (TypeId×IntKind)}(h:P.underlying t=some (.int k)) (ht:Bw P it):Bw P ((t,k)::it):=by
 intro t' k' h'
 simp only [AGi] at h'
 cases hb:Nat.beq t t' with
 | true =>
  rw [hb] at h'
  obtain rfl:t=t':=Nat.eq_of_beq_eq_true hb
  obtain rfl:=Option.some.inj h'
  exact h
 | false=>rw [hb] at h';exact ht t' k' h'
def Y2 (c:Int):Option Int :=
 if c=32 then some 4294967296 else if c=1 then some 2 else if c=63 then some 9223372036854775808 else if c=31 then some 2147483648 else if c=62 then some 4611686018427387904 else none
theorem Wj {c r:Int}(h:Y2 c=some r):0≤c∧c≤63∧(2:Int) ^ c.toNat=r:=by
 unfold Y2 at h
 split at h
 ·subst_vars;obtain rfl:=Option.some.inj h;decide
 ·split at h
  ·subst_vars;obtain rfl:=Option.some.inj h;decide
  ·split at h
   ·subst_vars;obtain rfl:=Option.some.inj h;decide
   ·split at h
    ·subst_vars;obtain rfl:=Option.some.inj h;decide
    ·split at h
     ·subst_vars;obtain rfl:=Option.some.inj h;decide
     ·simp at h
def AFZ (op:BinOp) (k:IntKind) (m n:Int):Option (Value×Prop) :=
 match op with
 | .add=>some (.int k (m+n),Bv k (m+n))
 | .sub=>some (.int k (m-n),Bv k (m-n))
 | .mul=>some (.int k (m*n),Bv k (m*n))
 | .quo=>some (.int k (m / n),0≤m∧0<n∧Bv k m)
 | .rem=>some (.int k (m % n),0≤m∧0<n)
 | .eql=>some (.bool (decide (m=n)),True)
 | .neq=>some (.bool (!decide (m=n)),True)
 | .lss=>some (.bool (decide (m<n)),True)
 | .leq=>some (.bool (decide (m≤n)),True)
 | .gtr=>some (.bool (decide (n<m)),True)
 | .geq=>some (.bool (decide (n≤m)),True)
 | _=>none
def Sv:IntKind→IntKind→Bool
 | .i8,.i8 | .i16,.i16 | .i32,.i32 | .i64,.i64 | .u8,.u8 | .u16,.u16 | .u32,.u32 | .u64,.u64=>true
 | _,_=>false
theorem AEt {a b:IntKind}(h:Sv a b=true):a=b:=by
 cases a <;> cases b <;> first|rfl|simp [Sv] at h
def AIw:IntKind→Bool
 | .i64 | .u64=>true
 | _=>false
theorem AHy (k:IntKind) (h:AIw k=true):k.bits=64:=by
 cases k <;> first|rfl|simp [AIw] at h
def pev (it:List (TypeId×IntKind)) (σ:Fr) (op:Op):Option (Value×Prop) :=
 match op with
 | .move x=>match ev σ x with
  | some v=>some (v,True)
  | none=>none
 | .assign x=>match ev σ x with
  | some v=>some (v,True)
  | none=>none
 | .pick c a b=>match ev σ c,ev σ a,ev σ b with
  | some (.bool true),some v,_=>some (v,True)
  | some (.bool false),_,some v=>some (v,True)
  | _,_,_=>none
 | .binOp .shl _ x y _=>match ev σ x,ev σ y with
  | some (.int k m),some (.int _ c)=>match AIw k,Y2 c with
   | true,some r=>some (.int k (m*r),Bv k (m*r))
   | _,_=>none
  | _,_=>none
 | .binOp .shr _ x y _=>match ev σ x,ev σ y with
  | some (.int k m),some (.int _ c)=>match AIw k,Y2 c with
   | true,some r=>some (.int k (m / r),True)
   | _,_=>none
  | _,_=>none
 | .binOp .eql _ x y _=>match ev σ x,ev σ y with
  | some (.int k m),some (.int k' n)=>match Sv k k' with
   | true=>AFZ .eql k m n
   | false=>none
  | _,_=>none
 | .binOp .neq _ x y _=>match ev σ x,ev σ y with
  | some (.int k m),some (.int k' n)=>match Sv k k' with
   | true=>AFZ .neq k m n
   | false=>none
  | _,_=>none
 | .binOp o _ x y _=>match ev σ x,ev σ y with
  | some (.int k m),some (.int k' n)=>match Sv k k' with
   | true=>AFZ o k m n
   | false=>none
  | _,_=>none
 | .unOp .not _ x=>match ev σ x with
  | some (.bool b)=>some (.bool (!b),True)
  | _=>none
 | .unOp .neg _ x=>match ev σ x with
  | some (.int k n)=>some (.int k (-n),Bv k (-n))
  | _=>none
 | .convert s t x=>match ev σ x,AGi s it,AGi t it with
  | some (.int _ n),some _,some k=>some (.int k n,Bv k n)
  | _,_,_=>none
 | .extract x i=>match ev σ x with
  | some (.tuple ⟨vs⟩)=>match A5 vs i with
   | some v=>some (v,True)
   | none=>none
  | _=>none
 | .nilCheck x=>match ev σ x with
  | some (.pointer (some a))=>some (.pointer (some a),True)
  | _=>none
 | .makeFunc fn ⟨first⟩ ⟨captured⟩=>match Yv σ first,Yv σ captured with
  | some us,some vs=>some (.func fn us.toArray vs.toArray,True)
  | _,_=>none
 | _=>none
theorem Ff {P:Program}{it:List (TypeId×IntKind)}(hit:Bw P it) {σ:Fr}{op:Op}{ty:TypeId}{v:Value}{q:Prop}(h:pev it σ op=some (v,q)) (hq:q) (w:World):Jp P op ty σ w v:=by
 intro ρ hρ
 have ibin_run:∀ (o:BinOp) (k:IntKind) (m n:Int) (v:Value) (q:Prop),AFZ o k m n=some (v,q)→q→∀ t x y u,ρ x = .int k m→ρ y = .int k n→(execOp ρ (Da (.binOp o t x y u) ty)).run P w = .ok (.value v) w:=by
  intro o k m n v q h hq t x y u hx hy
  cases o <;> simp only [AFZ,Option.some.injEq,Prod.mk.injEq,reduceCtorEq] at h
  case add=>obtain ⟨rfl,rfl⟩:=h;simp [execOp,Da,hx,hy,eqGuard,Go.binOp,Op.intArith,Ni hq]
  case sub=>obtain ⟨rfl,rfl⟩:=h;simp [execOp,Da,hx,hy,eqGuard,Go.binOp,Op.intArith,Ni hq]
  case mul=>obtain ⟨rfl,rfl⟩:=h;simp [execOp,Da,hx,hy,eqGuard,Go.binOp,Op.intArith,Ni hq]
  case quo =>
   obtain ⟨rfl,rfl⟩:=h
   obtain ⟨h0,h1,h2⟩:=hq
   have hne:¬ n=0:=by omega
   have e:m.tdiv n=m / n:=Int.tdiv_eq_ediv_of_nonneg h0
   have hr:Bv k (m / n):=by
    have hge:0≤m / n:=Int.ediv_nonneg h0 (by omega)
    have hle:m / n≤m:=Int.ediv_le_self _ h0
    cases k <;> simp only [Bv] at h2 ⊢ <;> omega
   simp [execOp,Da,hx,hy,eqGuard,Go.binOp,Op.intDiv,hne,e,Ni hr]
  case rem =>
   obtain ⟨rfl,rfl⟩:=h
   obtain ⟨h0,h1⟩:=hq
   have hne:¬ n=0:=by omega
   have e:m.tmod n=m % n:=Int.tmod_eq_emod_of_nonneg h0
   simp [execOp,Da,hx,hy,eqGuard,Go.binOp,Op.intDiv,hne,e]
  case eql=>obtain ⟨rfl,rfl⟩:=h;simp [execOp,Da,hx,hy,eqGuard,Go.binOp,Op.intCmp];rfl
  case neq=>obtain ⟨rfl,rfl⟩:=h;simp [execOp,Da,hx,hy,eqGuard,Go.binOp,Op.intCmp];rfl
  case lss=>obtain ⟨rfl,rfl⟩:=h;simp [execOp,Da,hx,hy,eqGuard,Go.binOp,Op.intCmp]
  case leq=>obtain ⟨rfl,rfl⟩:=h;simp [execOp,Da,hx,hy,eqGuard,Go.binOp,Op.intCmp]
  case gtr=>obtain ⟨rfl,rfl⟩:=h;simp [execOp,Da,hx,hy,eqGuard,Go.binOp,Op.intCmp]
  case geq=>obtain ⟨rfl,rfl⟩:=h;simp [execOp,Da,hx,hy,eqGuard,Go.binOp,Op.intCmp]
 have two:∀ (o:BinOp) t x y u,(match ev σ x,ev σ y with
   | some (.int k m),some (.int k' n)=>match Sv k k' with
    | true=>AFZ o k m n
    | false=>none
   | _,_=>none)=some (v,q)→(execOp ρ (Da (.binOp o t x y u) ty)).run P w = .ok (.value v) w:=by
  intro o t x y u h
  split at h
  ·rename_i k m k' n hx hy
   split at h
   ·rename_i hb
    obtain rfl:=AEt hb
    exact ibin_run o k m n v q h hq t x y u (hρ _ _ hx) (hρ _ _ hy)
   ·simp at h
  ·simp at h
 unfold pev at h
 split at h
 ·split at h
  ·rename_i hx;obtain ⟨rfl,rfl⟩:=Prod.mk.inj (Option.some.inj h)
   simp [execOp,Da,hρ _ _ hx]
  ·simp at h
 ·split at h
  ·rename_i hx;obtain ⟨rfl,rfl⟩:=Prod.mk.inj (Option.some.inj h)
   simp [execOp,Da,hρ _ _ hx]
  ·simp at h
 ·split at h
  ·rename_i hc ha;obtain ⟨rfl,rfl⟩:=Prod.mk.inj (Option.some.inj h)
   simp [execOp,Da,hρ _ _ hc,hρ _ _ ha,asBool]
  ·rename_i vv hc hb;obtain ⟨rfl,rfl⟩:=Prod.mk.inj (Option.some.inj h)
   simp [execOp,Da,hρ _ _ hc,hρ _ _ hb,asBool]
  ·simp at h
 ·split at h
  ·rename_i k m _ c hx hy
   split at h
   ·rename_i r hk hr
    obtain ⟨rfl,rfl⟩:=Prod.mk.inj (Option.some.inj h)
    obtain ⟨h0,h1,h2⟩:=Wj hr
    have hb:=AHy k hk
    have hn:¬ c<0:=by omega
    have hm:min c.toNat 64=c.toNat:=by omega
    simp [execOp,Da,hρ _ _ hx,hρ _ _ hy,eqGuard,Go.binOp,Op.shift,hn,hb,hm,h2,Ni hq]
   ·simp at h
  ·simp at h
 ·split at h
  ·rename_i k m _ c hx hy
   split at h
   ·rename_i r hk hr
    obtain ⟨rfl,rfl⟩:=Prod.mk.inj (Option.some.inj h)
    obtain ⟨h0,h1,h2⟩:=Wj hr
    have hb:=AHy k hk
    have hn:¬ c<0:=by omega
    have hm:min c.toNat 64=c.toNat:=by omega
    have hf:m.fdiv r=m / r:=Int.fdiv_eq_ediv_of_nonneg _ (by rw [← h2];exact Int.pow_nonneg (by decide))
    simp [execOp,Da,hρ _ _ hx,hρ _ _ hy,eqGuard,Go.binOp,Op.shift,hn,hb,hm,h2,hf]
   ·simp at h
  ·simp at h
 ·exact two _ _ _ _ _ h
 ·exact two _ _ _ _ _ h
 ·exact two _ _ _ _ _ h
 ·split at h
  ·rename_i b hx;obtain ⟨rfl,rfl⟩:=Prod.mk.inj (Option.some.inj h)
   simp [execOp,Da,hρ _ _ hx,Op.unary]
  ·simp at h
 ·split at h
  ·rename_i k n hx;obtain ⟨rfl,rfl⟩:=Prod.mk.inj (Option.some.inj h)
   simp [execOp,Da,hρ _ _ hx,Op.unary,Op.intArith,Ni hq]
  ·simp at h
 ·split at h
  ·rename_i n k0 k hx hs hk;obtain ⟨rfl,rfl⟩:=Prod.mk.inj (Option.some.inj h)
   simp [execOp,Da,hρ _ _ hx,convert,run_underlying (hit _ _ hs),run_underlying (hit _ _ hk),Conv.intToInt,Ni hq]
  ·simp at h
 ·split at h
  ·rename_i vs hx
   split at h
   ·rename_i hv
    obtain ⟨rfl,rfl⟩:=Prod.mk.inj (Option.some.inj h)
    rw [B8] at hv
    simp [execOp,Da,hρ _ _ hx,Instr.extract,hv]
   ·simp at h
  ·simp at h
 ·split at h
  ·rename_i hx;obtain ⟨rfl,rfl⟩:=Prod.mk.inj (Option.some.inj h)
   simp [execOp,Da,hρ _ _ hx]
  ·simp at h
 ·split at h
  ·rename_i us vs hu hv;obtain ⟨rfl,rfl⟩:=Prod.mk.inj (Option.some.inj h)
   simp [execOp,Da,Instr.makeFunc,T6 hρ hu,T6 hρ hv]
  ·simp at h
 ·simp at h
def Wa {P:Program}(it:List (TypeId×IntKind)) (F:Fun P) (p:List Nat):Nat→Nat→Fr→Prop→Option (Fr×Prop)
 | 0,_,σ,q=>some (σ,q)
 | n+1,i,σ,q=>match AAa F p i with
  | some (some d,op,_)=>match pev it σ op with
   | some (v,q')=>Wa it F p n (i+1) ((d,v)::σ) (q'∧q)
   | none=>none
  | some (none,_,_)=>none
  | none=>match Lo F p i with
   | some (g,want,some d,op,_)=>match Fr.get g σ with
    | some (.bool true)=>match want with
     | true=>match pev it σ op with
      | some (v,q')=>Wa it F p n (i+1) ((d,v)::σ) (q'∧q)
      | none=>none
     | false=>Wa it F p n (i+1) ((d,undef)::σ) q
    | some (.bool false)=>match want with
     | false=>match pev it σ op with
      | some (v,q')=>Wa it F p n (i+1) ((d,v)::σ) (q'∧q)
      | none=>none
     | true=>Wa it F p n (i+1) ((d,undef)::σ) q
    | _=>none
   | _=>none
section
variable {P:Program}{F:Fun P}{C:Cx}{S:List It}{σ:Fr}{β:List A4}{Γ:List Fact}{R:Value→World→Prop}{p:List Nat}{i:Nat}{d:Option Tmp}{op:Op}{ty:TypeId}{K:Value→List A4→List Fact→Prop}
theorem S5 {it:List (TypeId×IntKind)}:∀ (n i:Nat) (σ σ':Fr) (q q':Prop),Wa it F p n i σ q=some (σ',q')→q'→q:=by
 intro n
 induction n with
 | zero=>intro i σ σ' q q' h hq;simp only [Wa,Option.some.injEq,Prod.mk.injEq] at h;rw [h.2];exact hq
 | succ n ih =>
  intro i σ σ' q q' h hq
  simp only [Wa] at h
  repeat' split at h
  all_goals first|exact (ih _ _ _ _ _ h hq).2|exact ih _ _ _ _ _ h hq|simp at h
theorem AEx {it:List (TypeId×IntKind)}(hit:Bw P it):∀ (n i:Nat) (σ σ':Fr) (q q':Prop),Wa it F p n i σ q=some (σ',q')→q'→J F C (.o p (i+n)::S) σ' β Γ R→J F C (.o p i::S) σ β Γ R:=by
 intro n
 induction n with
 | zero=>intro i σ σ' q q' h hq hJ;simp only [Wa,Option.some.injEq,Prod.mk.injEq] at h;rw [h.1];exact hJ
 | succ n ih =>
  intro i σ σ' q q' h hq hJ
  have hJ':J F C (.o p (i+1+n)::S) σ' β Γ R:=by rw [Nat.add_assoc,Nat.add_comm 1 n];exact hJ
  simp only [Wa] at h
  split at h
  ·rename_i dd op' ty' ho
   split at h
   ·rename_i v q1 hv
    exact Aa ho (Fa (fun w=>Ff hit hv (S5 _ _ _ _ _ _ h hq).1 w) (ih _ _ _ _ _ h hq hJ'))
   ·simp at h
  ·simp at h
  ·split at h
   ·rename_i g want dd op' ty' ho
    split at h
    ·rename_i hb
     split at h
     ·split at h
      ·rename_i v q1 hv
       exact Bp ho hb (Fa (fun w=>Ff hit hv (S5 _ _ _ _ _ _ h hq).1 w) (ih _ _ _ _ _ h hq hJ'))
      ·simp at h
     ·exact AFz ho hb rfl (ih _ _ _ _ _ h hq hJ')
    ·rename_i hb
     split at h
     ·split at h
      ·rename_i v q1 hv
       exact Bp ho hb (Fa (fun w=>Ff hit hv (S5 _ _ _ _ _ _ h hq).1 w) (ih _ _ _ _ _ h hq hJ'))
      ·simp at h
     ·exact AFz ho hb rfl (ih _ _ _ _ _ h hq hJ')
    ·simp at h
   ·simp at h
theorem Ae {it:List (TypeId×IntKind)}(hit:Bw P it) (n:Nat) {σ':Fr}{q:Prop}(h:Wa it F p n i σ True=some (σ',q)) (hq:q) (hJ:J F C (.o p (i+n)::S) σ' β Γ R):J F C (.o p i::S) σ β Γ R :=
 AEx hit n i σ σ' True q h hq hJ
theorem Hf {x:Operand}{t e:TypeId}{m:Nat}{pa:Option Addr}{n ca:Nat}(hT:Ev P t=some (e,m)) (hx:ev σ x=some (.slice pa n ca)) (h:K (.int .i64 n) β Γ) :
  Fb P C (.call { callee:=.builtin .len,args:=#[x],argTypes:=#[t] }) ty σ β Γ K :=
 Fa (fun w ρ hρ=>by
  obtain ⟨hu,_⟩:=Cu hT
  simp [execOp,Da,resolve,invoke,builtin,Builtin.len_,run_underlying hu,hρ _ _ hx,goInt]) h
end
theorem Pj {P:Program}{t e:TypeId}(h:P.underlying t=some (.slice e)):P.elem t=e:=by simp [Program.elem,h]
theorem Np.take {α:Type}{E:Enc α}{w:World}{A:Nat→Prop}{pa:Option Addr}{ca m k:Nat}{l:List α}(h:Np E w A pa ca l) (hk:k≤m):Np E w A pa m (l.take k):=by
 refine ⟨by rw [List.length_take];omega,Nat.le_trans (Nat.mul_le_mul_right _ (List.length_take_le' k l)) h.2.1,?_⟩
 rcases h.2.2 with rfl|⟨b,o,e,hb,hx⟩
 ·exact .inl (by simp)
 ·refine .inr ⟨b,o,e,hb,fun i x hi=>hx i x ?_⟩
  rw [List.getElem?_take] at hi
  split at hi
  ·exact hi
  ·cases hi
theorem Np.drop {α:Type}{E:Enc α}{w:World}{A:Nat→Prop}{pa:Option Addr}{ca k:Nat}{l:List α}(h:Np E w A pa ca l) :
  Np E w A (if ca=k then pa else pa.map (·.add (k*E.size))) (ca-k) (l.drop k):=by
 refine ⟨by rw [List.length_drop];have:=h.1;omega,Nat.le_trans (Nat.mul_le_mul_right _ (by rw [List.length_drop];omega)) h.2.1,?_⟩
 rcases h.2.2 with rfl|⟨b,o,e,hb,hx⟩
 ·exact .inl (by simp)
 ·by_cases hck:ca=k
  ·refine .inl ?_
   have:=h.1
   simp;omega
  ·refine .inr ⟨b,o+k*E.size,by rw [if_neg hck,e];simp [Addr.add_mid],hb,fun i x hi=>?_⟩
   rw [List.getElem?_drop] at hi
   have:=hx (k+i) x hi
   rwa [show o+k*E.size+i*E.size=o+(k+i)*E.size by rw [Nat.add_mul];omega]
section
variable {P:Program}{F:Fun P}{C:Cx}{S:List It}{σ:Fr}{β:List A4}{Γ:List Fact}{R:Value→World→Prop}{p:List Nat}{i:Nat}{d:Option Tmp}{op:Op}{ty:TypeId}{K:Value→List A4→List Fact→Prop}
theorem J7 {w:World}{t e:TypeId}{m:Nat}{x:Value}{lo hi mx:Option Value}(hT:Ev P t=some (e,m)):(Instr.sliceAt t x lo hi mx).run P w=(Instr.slice t x lo hi mx).run P w:=by
 obtain ⟨hu,_⟩:=Cu hT
 exact run_sliceAt_slice w t x lo hi mx (by rw [Pj hu];exact hu)
theorem Kb {w:World}{t e:TypeId}{m:Nat}(hT:Ev P t=some (e,m)):(sizeOf (P.elem t)).run P w = .ok m w:=by
 obtain ⟨hu,i,hi,hs⟩:=Cu hT
 rw [Pj hu]
 simp [sizeOf,typeInfo,hi,hs]
theorem Z1 {α:Type}{E:Enc α}{t e:TypeId}{x y z:Operand}{pa:Option Addr}{len ca:Nat}{l:List α}{ky kz:IntKind}{hi mx:Int}(n k m:Nat) (hx:ev σ x=some (.slice pa len ca)) (hy:ev σ y=some (.int ky hi)) (hz:ev σ z=some (.int kz mx))
  (hn:A5 Γ n=some (Ap E pa len ca l)) (hT:Ev P t=some (e,E.size)) (hk:hi=(k:Int)) (hm:mx=(m:Int)) (h1:k≤m) (h2:k≤len) (h3:m≤ca)
  (h:K (.slice pa k m) β (Ap E pa k m (l.take k)::Γ)):Fb P C (.slice t x none (some y) (some z)) ty σ β Γ K:=fun w hO hG=>by
 obtain ⟨rfl,hs⟩:=hG _ (Af hn)
 have hp:Jp P (.slice t x none (some y) (some z)) ty σ w (.slice pa k m):=fun ρ hρ=>by
  obtain ⟨hu,_⟩:=Cu hT
  subst hk;subst hm
  have:=run_slice_hm (P:=P) w t pa l.length ca (by rw [Pj hu];exact hu) ky kz k m (by omega) (by omega) (by omega)
  have e1:sliced pa 0 k m E.size = .slice pa k m:=by cases pa <;> simp [sliced,Addr.add]
  simp [execOp,Da,hρ _ _ hx,hρ _ _ hy,hρ _ _ hz,J7 hT,this,Kb hT,e1]
 exact Jp.done hp h hO fun g hg=>by
  rcases List.mem_cons.1 hg with rfl|hg
  ·exact ⟨by rw [List.length_take];omega,hs.take h1⟩
  ·exact hG g hg
theorem AF9 {α:Type}{E:Enc α}{t e:TypeId}{x y:Operand}{pa:Option Addr}{len ca:Nat}{l:List α}{ky:IntKind}{hi:Int}(n k:Nat) (hx:ev σ x=some (.slice pa len ca)) (hy:ev σ y=some (.int ky hi))
  (hn:A5 Γ n=some (Ap E pa len ca l)) (hT:Ev P t=some (e,E.size)) (hk:hi=(k:Int)) (h2:k≤len)
  (h:K (.slice pa k ca) β (Ap E pa k ca (l.take k)::Γ)):Fb P C (.slice t x none (some y) none) ty σ β Γ K:=fun w hO hG=>by
 obtain ⟨rfl,hs⟩:=hG _ (Af hn)
 have hle:=hs.1
 have hp:Jp P (.slice t x none (some y) none) ty σ w (.slice pa k ca):=fun ρ hρ=>by
  obtain ⟨hu,_⟩:=Cu hT
  subst hk
  have:=run_slice_h (P:=P) w t pa l.length ca (by rw [Pj hu];exact hu) ky k (by omega) (by omega)
  have e1:sliced pa 0 k ca E.size = .slice pa k ca:=by cases pa <;> simp [sliced,Addr.add]
  simp [execOp,Da,hρ _ _ hx,hρ _ _ hy,J7 hT,this,Kb hT,e1]
 exact Jp.done hp h hO fun g hg=>by
  rcases List.mem_cons.1 hg with rfl|hg
  ·exact ⟨by rw [List.length_take];omega,hs.take (by omega)⟩
  ·exact hG g hg
def N6 (P:Program):List Field→Option (List (Nat×Nat))
 | []=>some []
 | f::l=>match P.info? f.type,N6 P l with
  | some i,some ps=>some ((f.offset,i.size)::ps)
  | _,_=>none
def I1 (P:Program) (t:TypeId):Option (List (Nat×Nat)) :=
 match P.underlying t with
 | some (.struct fields)=>N6 P fields.toList
 | _=>none
theorem AEE {w:World}:∀ {fs:List Field}{ps:List (Nat×Nat)},N6 P fs=some ps→(fs.mapM (m:=Sem) fun f=>do pure (f.offset,← sizeOf f.type)).run P w = .ok ps w:=by
 intro fs
 induction fs with
 | nil=>intro ps h;simp [N6] at h;subst h;simp
 | cons f l ih =>
  intro ps h
  simp only [N6] at h
  cases hi:P.info? f.type with
  | none=>rw [hi] at h;simp at h
  | some i =>
   cases hl:N6 P l with
   | none=>rw [hi,hl] at h;simp at h
   | some qs =>
    rw [hi,hl] at h
    obtain rfl:=Option.some.inj h
    have:=ih hl
    simp only [List.mapM_cons,Sem.run_bind,Sem.run_pure,Result.andThen_ok,sizeOf,typeInfo,run_program,hi] at this ⊢
    simp only [Result.andThen_ok,this]
def Vc (ps:List (Nat×Nat)):List Value→List (Nat×List Value)→Option (List Value)
 | cs,[]=>some cs
 | cs,(j,vs)::l=>match A5 ps j with
  | some (o,m)=>match Nat.beq vs.length m,Nat.ble (o+m) cs.length with
   | true,true=>Vc ps (De cs o vs) l
   | _,_=>none
  | none=>none
def S6 (σ:Fr):List (Nat×Operand)→Option (List (Nat×List Value))
 | []=>some []
 | (j,x)::l=>match ev σ x,S6 σ l with
  | some v,some vs=>some ((j,Cf v)::vs)
  | _,_=>none
theorem AD2 {ps:List (Nat×Nat)}{ρ:Operand→Value}(hρ:∀ x v,ev σ x=some v→ρ x=v):∀ (parts:List (Nat×Operand)) (vs:List (Nat×List Value)) (cs cs':List Value),S6 σ parts=some vs→Vc ps cs vs=some cs' →
  Instr.fill (ps.toArray[·]?) cs.toArray (parts.map fun (i,x)=>(i,ρ x))=some cs'.toArray:=by
 intro parts
 induction parts with
 | nil =>
  intro vs cs cs' h1 h2
  simp only [S6,Option.some.injEq] at h1
  subst h1
  simp only [Vc,Option.some.injEq] at h2
  subst h2
  simp [Instr.fill]
 | cons q parts ih =>
  obtain ⟨j,x⟩:=q
  intro vs cs cs' h1 h2
  simp only [S6] at h1
  cases hx:ev σ x with
  | none=>rw [hx] at h1;simp at h1
  | some v =>
   cases hr:S6 σ parts with
   | none=>rw [hx,hr] at h1;simp at h1
   | some us =>
    rw [hx,hr] at h1
    obtain rfl:=Option.some.inj h1
    simp only [Vc] at h2
    cases hp:A5 ps j with
    | none=>rw [hp] at h2;simp at h2
    | some om =>
     obtain ⟨o,m⟩:=om
     rw [hp] at h2
     simp only at h2
     cases hb:Nat.beq (Cf v).length m with
     | false=>rw [hb] at h2;simp at h2
     | true =>
      cases hc:Nat.ble (o+m) cs.length with
      | false=>rw [hb,hc] at h2;simp at h2
      | true =>
       rw [hb,hc] at h2
       have hvl:(Cf v).length=m:=Nat.eq_of_beq_eq_true hb
       have hvs:v.cells.size=m:=by rw [← Array.length_toList,Dz,hvl]
       have hle:=Nat.le_of_ble_eq_true hc
       simp only [List.map_cons,hρ _ _ hx]
       rw [B8] at hp
       rw [ABk (ps.toArray[·]?) cs.toArray j v _ o m (by simpa using hp) hvs (by simpa using hle)]
       simpa using ih us (De cs o (Cf v)) cs' hr h2
theorem Dn {t:TypeId}{parts:List (Nat×Operand)}{ps:List (Nat×Nat)}{zs cs:List Value}{vs:List (Nat×List Value)}(hT:I1 P t=some ps) (hz:Cr P t=some zs) (hv:S6 σ parts=some vs) (hf:Vc ps zs vs=some cs)
  (h:K (.agg cs.toArray) β Γ):Fb P C (.build t parts.toArray) ty σ β Γ K :=
 Fa (fun w ρ hρ=>by
  obtain ⟨i,z,hi,hz',hzc⟩:=Fj hz
  have hzz:z.cells=zs.toArray:=by rw [← hzc,← Dz]
  unfold I1 at hT
  split at hT
  ·rename_i fields hu
   have hpl:(fields.mapM (m:=Sem) fun f=>do pure (f.offset,← sizeOf f.type)).run P w = .ok ps.toArray w:=by
    have:=AEE (P:=P) (w:=w) hT
    rw [← Array.toArray_toList (xs:=fields)]
    simp only [List.mapM_toArray,Sem.run_map,this,Result.andThen_ok]
   have hfl:=AD2 hρ parts vs zs cs hv hf
   simp only [execOp,Da,Instr.build,Sem.run_bind,S4 hi hz',Result.andThen_ok,run_underlying hu,hpl,hzz,List.map_toArray,List.toList_toArray]
   rw [hfl]
   simp
  ·simp at hT) h
end
def Ao (k:IntKind) (l:List Nat):List Value:=l.map fun (n:Nat)=>.int k n
def Al (k:IntKind) (l:List Int):List Value:=l.map fun n=>.int k n
@[simp] theorem Qn (k:IntKind) (l:List Nat):(Ao k l).length=l.length:=by simp [Ao]
@[simp] theorem Ia (k:IntKind) (l:List Int):(Al k l).length=l.length:=by simp [Al]
theorem Vq (k:IntKind) (l:List Nat) (i:Nat):(Ao k l)[i]?=(l[i]?).map fun (n:Nat)=>.int k n:=by simp [Ao]
theorem ACh (k:IntKind) (l:List Nat) (i n:Nat):(Ao k l).set i (.int k n)=Ao k (l.set i n):=by simp [Ao,List.map_set]
theorem ABQ (k:IntKind) (l:List Int) (i:Nat) (n:Int):(Al k l).set i (.int k n)=Al k (l.set i n):=by simp [Al,List.map_set]
theorem Ok (k:IntKind) (l:List Int):(l.map fun n=>[Value.int k n]).flatten=Al k l:=by
 induction l with
 | nil=>rfl
 | cons x l ih=>simp only [List.map_cons,List.flatten_cons,ih,Al,List.singleton_append]
theorem ACT (n:Nat) (v:Value):(List.replicate n [v]).flatten=List.replicate n v:=by
 induction n with
 | zero=>rfl
 | succ n ih=>simp only [List.replicate_succ,List.flatten_cons,ih,List.singleton_append]
theorem ACF (k:IntKind) (n z:Nat):Ao k (List.replicate n z)=List.replicate n (.int k z):=by simp [Ao]
section
variable {P:Program}{F:Fun P}{C:Cx}{S:List It}{σ:Fr}{β:List A4}{Γ:List Fact}{R:Value→World→Prop}{p:List Nat}{i:Nat}{d:Option Tmp}{op:Op}{ty:TypeId}{K:Value→List A4→List Fact→Prop}
theorem AEC {t e:TypeId}{kd kx ky:IntKind}{x y:Operand}{nn:Int}(k by':Nat) (hx:ev σ x=some (.int kx nn)) (hy:ev σ y=some (.int ky nn)) (hT:Ev P t=some (e,1))
  (hz:Cr P e=some [.int kd 0]) (hby:P.bytesOf e=by') (hm:nn=(k:Int)) (hk:by'*k≤281474976710656) (h63:k≤9223372036854775807)
  (h:∀ b,K (.slice (some ⟨b,0,none⟩) k k) ((some b,e,Ao kd (List.replicate k 0))::β) Γ):Fb P C (.makeSlice t x y) ty σ β Γ K :=
 ACx k by' hx hy hT hz rfl rfl hby hm hk h63 fun b=>by
  have e:(List.replicate k [Value.int kd 0]).flatten=Ao kd (List.replicate k 0):=by rw [ACT,ACF];rfl
  rw [e];exact h b
theorem AGh {t:TypeId}{x:Operand}{b o:Nat}{T:TypeId}{kd:IntKind}{l:List Nat}(n:Nat) (hx:ev σ x=some (.pointer (some ⟨b,o,none⟩))) (hn:A5 β n=some (some b,T,Ao kd l))
  (hT:Eb P t=some (false,1)) (ho:o<l.length) (h:∀ z,l[o]?=some z→K (.int kd z) β Γ):Fb P C (.load t x) ty σ β Γ K:=by
 have hz:l[o]?=some l[o]:=by simp [ho]
 exact Bm n hx hn hT (by rw [Vq,hz];rfl) (h _ hz)
theorem ABu {t:TypeId}{x:Operand}{b o:Nat}{T:TypeId}{kd:IntKind}{l:List Int}(n:Nat) (hx:ev σ x=some (.pointer (some ⟨b,o,none⟩))) (hn:A5 β n=some (some b,T,Al kd l))
  (hT:Eb P t=some (false,1)) (ho:o<l.length) (h:∀ z,l[o]?=some z→K (.int kd z) β Γ):Fb P C (.load t x) ty σ β Γ K:=by
 have hz:l[o]?=some l[o]:=by simp [ho]
 exact Bm n hx hn hT (by simp [Al,hz]) (h _ hz)
theorem Wt {t:TypeId}{x y:Operand}{b o:Nat}{T:TypeId}{kd:IntKind}{l:List Nat}{v:Int}(n z:Nat) (hx:ev σ x=some (.pointer (some ⟨b,o,none⟩))) (hy:ev σ y=some (.int kd v)) (hn:A5 β n=some (some b,T,Ao kd l))
  (hT:Eb P t=some (false,1)) (hv:v=(z:Int)) (ho:o<l.length) (h:K undef (setB β n (Ao kd (l.set o z))) Γ):Fb P C (.store t x y) ty σ β Γ K:=by
 subst hv
 exact Nx n hx hy hn rfl hT rfl (by simpa using ho) (by rw [ACh];exact h)
theorem Xr {t:TypeId}{x y:Operand}{b o:Nat}{T:TypeId}{kd:IntKind}{l:List Int}{v:Int}(n:Nat) (hx:ev σ x=some (.pointer (some ⟨b,o,none⟩))) (hy:ev σ y=some (.int kd v)) (hn:A5 β n=some (some b,T,Al kd l))
  (hT:Eb P t=some (false,1)) (ho:o<l.length) (h:K undef (setB β n (Al kd (l.set o v))) Γ):Fb P C (.store t x y) ty σ β Γ K :=
 Nx n hx hy hn rfl hT rfl (by simpa using ho) (by rw [ABQ];exact h)
theorem ADE (k:IntKind) (by':Nat) (l:List Int) (hl:∀ x∈l,Bv k x) (w:World) (A:Nat→Prop):(Nl (Dy k by') (l.map fun n=>[.int k n]) l).holds w A:=by
 refine ⟨by simp,fun i vs x hv hx=>?_⟩
 rw [List.getElem?_map,hx] at hv
 simp only [Option.map_some,Option.some.injEq] at hv
 exact ⟨hv.symm,hl x (List.mem_of_getElem? hx)⟩
theorem Hh {kd:IntKind}{e:TypeId}{b n:Nat}(by':Nat) (l:List Int) (k:Nat)
  (hn:A5 β k=some (some b,e,Al kd l)) (hl:n=l.length) (hr:∀ x∈l,Bv kd x) (hby:n*by'≤140737488355328) (h63:n≤9223372036854775807)
  (h:J F C S σ (β.eraseIdx k) (Ap (Dy kd by') (some ⟨b,0,none⟩) n n l::Γ) R):J F C S σ β Γ R :=
 Eh (Nl (Dy kd by') (l.map fun n=>[.int kd n]) l) (fun w A _=>ADE kd by' l hr w A)
  (AIc (bo:=some b) (cap:=n) k 0 hn rfl (.inr ⟨b,rfl,Nat.le_refl _,h63,by simp [hl,Dy]⟩) (by show (Al kd l).take (n*1)=_;rw [Nat.mul_one,Ok,hl,← Ia kd l,List.take_length]) hl hby (Wu (fun f hf=>by
   rcases List.mem_cons.1 hf with rfl|hf
   ·exact .head _
   ·exact .tail _ (.tail _ hf)) h))
end
end Go.Fw
