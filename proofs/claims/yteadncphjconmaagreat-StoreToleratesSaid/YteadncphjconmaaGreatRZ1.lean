/-
The first text of a small frame of laws for walking loaded functions: a run of one function is stated over a stack of places in its body (paths, not code) and over a sparse list of the slots that still matter. The second text of the frame: one operation of a region, in its turn. The third text of the frame: what a function knows of memory while it runs: its own blocks, written out; and facts on memory that nobody writes any more, which outlast every step. The world itself is named no more. The fourth text of the frame: how data lie in memory: integers, bools, slices of what is read itself, structs; and the facts that say so. The fifth text of the frame: the function's own blocks: made, read, written, appended to, and given up for good. The sixth text of the frame: append; slices of slices; own rows that are given up for good. The seventh text of the frame: operations whose value is known outright, many at a time; wraps, shifts; slices of slices; structs by value. The eighth text of the frame: slices of slices, structs by value. The ninth text of the frame: own rows of numbers.
-/
import Derived.Calls
import Derived.Orders
import Derived.KernelRfl
import Derived.Laws.AppendOwn
import Derived.Laws.OwnMore
import Derived.AtR
import Derived.Deep.MidRow
import Derived.Below
import Derived.Laws.MakeOwn
import Derived.Laws.Small
import Derived.Laws.Slices
set_option linter.unusedVariables false
set_option linter.unusedSimpArgs false

namespace Go.Fw
def pLA:Nat→Nat→List Nat→List Nat
  | 0, _, l => l
  | f+1, n, l => match Nat.ble n 1 with|true => l|false => pLA f (n / 2) (n % 2 :: l)
def pL (n:Nat):List Nat := pLA 64 n []
end Go.Fw
namespace Go.Fw
abbrev Fr:=List (Nat×Value)
def Fr.get (t:Nat):Fr→Option Value
 | []=>none
 | (i,v)::l=>match Nat.beq i t with
  | true=>some v
  | false=>Fr.get t l
structure Fits (n:Nat) (D:List Deferred) (σ:Fr) (a:Act):Prop where
 size:a.tmps.size=n
 defers:a.defers=D
 get:∀ t v,Fr.get t σ=some v→a.tmps[t]?=some v
def ev (σ:Fr):Operand→Option Value
 | .tmp t=>Fr.get t σ
 | .const v=>some v
 | .global g=>some (.pointer (some ⟨g,0,none⟩))
 | .func f=>some (.func (.func f) #[] #[])
theorem Fits.eval {n:Nat}{D:List Deferred}{σ:Fr}{a:Act}(h:Fits n D σ a) {x:Operand}{v:Value}(hx:ev σ x=some v):a.eval x=v:=by
 cases x with
 | tmp t =>
  have:=h.get t v hx
  simp [Act.eval,this]
 | const u=>simpa [ev,Act.eval] using hx
 | global g=>simpa [ev,Act.eval] using hx
 | func f=>simpa [ev,Act.eval] using hx
theorem Fits.put {n:Nat}{D:List Deferred}{σ:Fr}{a:Act}(h:Fits n D σ a) {d:Nat}(hd:d<n) (v:Value):Fits n D ((d,v)::σ) (a.put (some d) v):=by
 refine ⟨by simpa [Act.put] using h.size,h.defers,fun t u hu=>?_⟩
 simp only [Fr.get] at hu
 simp only [Act.put]
 cases hb:Nat.beq d t with
 | true =>
  rw [hb] at hu
  have e:d=t:=Nat.eq_of_beq_eq_true hb
  subst e
  have:v=u:=by simpa using hu
  subst this
  have hs:d<a.tmps.size:=by rw [h.size];exact hd
  simp [hs]
 | false =>
  rw [hb] at hu
  have e:d≠t:=Nat.ne_of_beq_eq_false hb
  rw [Array.getElem?_setIfInBounds_ne e]
  exact h.get t u hu
def Fr.del (d:Nat):Fr→Fr
 | []=>[]
 | (i,v)::l=>match Nat.beq i d with
  | true=>Fr.del d l
  | false=>(i,v)::Fr.del d l
theorem Fr.get_del (d t:Nat) (σ:Fr) (v:Value) (h:Fr.get t (Fr.del d σ)=some v):t≠d∧Fr.get t σ=some v:=by
 induction σ with
 | nil=>simp [Fr.del,Fr.get] at h
 | cons p l ih =>
  obtain ⟨i,u⟩:=p
  simp only [Fr.del] at h
  cases hb:Nat.beq i d with
  | true =>
   rw [hb] at h
   have e:i=d:=Nat.eq_of_beq_eq_true hb
   obtain ⟨h1,h2⟩:=ih h
   refine ⟨h1,?_⟩
   simp only [Fr.get]
   have:Nat.beq i t=false:=by
    cases hc:Nat.beq i t with
    | true=>have:=Nat.eq_of_beq_eq_true hc;omega
    | false=>rfl
   rw [this];exact h2
  | false =>
   rw [hb] at h
   simp only [Fr.get] at h ⊢
   cases hc:Nat.beq i t with
   | true =>
    rw [hc] at h
    have e:i=t:=Nat.eq_of_beq_eq_true hc
    have e2:i≠d:=Nat.ne_of_beq_eq_false hb
    exact ⟨by omega,h⟩
   | false =>
    rw [hc] at h
    exact ih h
def Fr.sub (σ' σ:Fr):Prop:=∀ t v,Fr.get t σ'=some v→Fr.get t σ=some v
theorem Fr.sub_refl (σ:Fr):Fr.sub σ σ:=fun _ _ h=>h
theorem Fr.sub_nil (σ:Fr):Fr.sub [] σ:=fun _ _ h=>by simp [Fr.get] at h
theorem Fr.sub_cons {i:Nat}{v:Value}{σ' σ:Fr}(h:Fr.get i σ=some v) (hs:Fr.sub σ' σ):Fr.sub ((i,v)::σ') σ:=by
 intro t u hu
 simp only [Fr.get] at hu
 cases hb:Nat.beq i t with
 | true =>
  rw [hb] at hu
  have e:i=t:=Nat.eq_of_beq_eq_true hb
  subst e
  have:v=u:=by simpa using hu
  subst this
  exact h
 | false=>rw [hb] at hu;exact hs t u hu
theorem Fr.sub_consI {i:Nat}{k:IntKind}{m n:Int}{σ' σ:Fr}(h:Fr.get i σ=some (.int k m)) (e:m=n) (hs:Fr.sub σ' σ):Fr.sub ((i,.int k n)::σ') σ :=
 Fr.sub_cons (e▸h) hs
theorem Fr.sub_consS {i:Nat}{pa:Option Addr}{m n c c':Nat}{σ' σ:Fr}(h:Fr.get i σ=some (.slice pa m c)) (e:m=n) (e':c=c') (hs:Fr.sub σ' σ):Fr.sub ((i,.slice pa n c')::σ') σ :=
 Fr.sub_cons (e▸e'▸h) hs
theorem Zr {σ' σ:Fr}(h:σ'.map (fun x=>Fr.get x.1 σ)=σ'.map (fun x=>some x.2)):Fr.sub σ' σ:=by
 induction σ' with
 | nil=>exact Fr.sub_nil _
 | cons x l ih =>
  simp only [List.map_cons,List.cons.injEq] at h
  exact Fr.sub_cons h.1 (ih h.2)
theorem fzz (σ:Fr):Fr.sub [] σ:=Fr.sub_nil σ
theorem fcc {i:Nat}{v:Value}{σ' σ:Fr}(h:Fr.get i σ=some v) (hs:Fr.sub σ' σ):Fr.sub ((i,v)::σ') σ:=Fr.sub_cons h hs
theorem fii {i:Nat}{k:IntKind}{m n:Int}{σ' σ:Fr}(h:Fr.get i σ=some (.int k m)) (e:m=n) (hs:Fr.sub σ' σ):Fr.sub ((i,.int k n)::σ') σ:=Fr.sub_consI h e hs
theorem fss {i:Nat}{pa:Option Addr}{m n c c':Nat}{σ' σ:Fr}(h:Fr.get i σ=some (.slice pa m c)) (e:m=n) (e':c=c') (hs:Fr.sub σ' σ):Fr.sub ((i,.slice pa n c')::σ') σ:=Fr.sub_consS h e e' hs
theorem Fits.sub {n:Nat}{D:List Deferred}{σ σ':Fr}{a:Act}(h:Fits n D σ a) (hs:Fr.sub σ' σ):Fits n D σ' a :=
 ⟨h.size,h.defers,fun t v hv=>h.get t v (hs t v hv)⟩
def ABe:Code→Nat→Code
 | .seq a _,0=>a
 | .seq _ b,_+1=>b
 | .cond _ a _,0=>a
 | .cond _ _ b,_+1=>b
 | .block _ b,_=>b
 | .loop b,_=>b
 | .scope b,_=>b
 | .rangeFunc _ _ a _,0=>a
 | .rangeFunc _ _ _ b,_+1=>b
 | c,_=>c
def sub:List Nat→Code→Code
 | [],c=>c
 | k::p,c=>sub p (ABe c k)
theorem sub_append (p q:List Nat):∀ c:Code,sub (p++q) c=sub q (sub p c):=by
 induction p with
 | nil=>exact fun _=>rfl
 | cons k p ih=>exact fun c=>ih _
inductive It where
 | c (p:List Nat)
 | o (p:List Nat) (i:Nat)
 | blk (id:Nat)
 | lp (p:List Nat)
 /-- A round of a range over a function begins. -/
 | br
 /-- A mark: of the region ahead these operations may come late,but not behind the m-th. -/
 | win (A:List Nat) (m:Nat)
def Am:Code→List Oper
 | .region _ ops _=>ops.toList
 | _=>[]
def It.item (B:Code):It→Item
 | .c p=>.code (sub p B)
 | .o p i=>.inRegion (Am (sub p B)).toArray (List.range' i ((Am (sub p B)).length-i))
 | .blk id=>.inBlock id
 | .lp p=>.inLoop (sub p B)
 | .br=>.beginRound
 | .win _ _=>.code .skip
structure Fun (P:Program) where
 f:FuncId
 fn:Func
 B:Code
 hf:P.funcs[f]?=some fn
 hb:fn.body=some B
 hn : (fn.name == "runtime.NumGoroutine") = false
 /-- In a round of which loop;the marks among the deferred calls. -/
 rnd:Option Nat
 dfs:List Deferred
def Fun.base {P:Program}(F:Fun P):Frame:={ (default:Frame) with fn:=F.f,kind:=.normal,roundOf:=F.rnd }
def H4:List Value→Value
 | [v]=>v
 | vs=>.tuple vs.toArray
def U1 (tmps:Array Value):ResultVar→Sem Value
 | .tmp t=>pure (tmps.getD t undef)
 | .cell a t=>do loadVar t (← asAddr (tmps.getD a undef))
inductive ResAll (P:Program) (w:World) (tmps:Array Value):List ResultVar→List Value→Prop
 | nil:ResAll P w tmps [] []
 | cons {x:ResultVar}{v:Value}{l:List ResultVar}{vs:List Value}:(U1 tmps x).run P w = .ok v w→ResAll P w tmps l vs→ResAll P w tmps (x::l) (v::vs)
theorem ADF (fn:Func) (tmps:Array Value):results fn tmps=(do
  let vs ← fn.results.mapM (U1 tmps)
  pure (if h:vs.size=1 then vs[0] else .tuple vs)):=rfl
theorem X2 {fn:Func}{tmps:Array Value}{P:Program}{w:World}{vs:List Value}(h:ResAll P w tmps fn.results.toList vs) :
  (results fn tmps).run P w = .ok (H4 vs) w:=by
 have key:∀ (l:List ResultVar) (vs:List Value),ResAll P w tmps l vs→(l.mapM (U1 tmps)).run P w = .ok vs w:=by
  intro l vs h
  induction h with
  | nil=>simp
  | cons h1 _ ih=>simp only [List.mapM_cons,Sem.run_bind,h1,Result.andThen_ok,ih,Sem.run_pure]
 have hk:=key _ _ h
 rw [ADF,← Array.toArray_toList (xs:=fn.results)]
 simp only [List.mapM_toArray,Sem.run_bind,Sem.run_map,hk,Result.andThen_ok,Sem.run_pure]
 simp only [Result.ok.injEq,and_true,List.size_toArray]
 split
 ·rename_i hl
  match vs,hl with
  | [v],_=>rfl
 ·rename_i hl
  match vs,hl with
  | [],_=>rfl
  | [_],hl=>simp at hl
  | _::_::_,_=>rfl
def jv:Option (List Nat)→Value
 | none=>.bool true
 | some q=>.tuple (Value.bool false::q.map fun k=>Value.int .i64 (Int.ofNat k)).toArray
def AJc (B:Code):Option (List Nat)→List Item→Prop
 | none,k=>k=[]
 | some p,k=>(sub p B = .ret∧∃ k',k = .code .ret::k')∨∃ id k',sub p B = .exit id∧k = .code (.exit id)::k'∧exitTo id k'=none
def AEQ (w w':World):Prop:=∀ (k:Nat) (c:Array Value) (t:TypeId) (z:Nat×Nat),w.heap[k]?=some (Obj.cells c t z)→w'.heap[k]?=some (Obj.cells c t z)
theorem AEQ.refl (w:World):AEQ w w:=fun _ _ _ _ h=>h
def Xj {P:Program}(F:Fun P) (R:Value→World→Prop) (cs:List Frame) (m:Machine):Prop :=
 match F.rnd with
 | none=>∃ vs w' fr,R (H4 vs) w'∧Steps P m (lone fr cs w')∧fr.fn=F.f∧fr.mode = .returning∧fr.defers=F.dfs∧fr.kind = .normal∧∀ w5,AEQ w' w5→ResAll P w5 fr.tmps F.fn.results.toList vs
 | some _=>∃ q w' a k,R (jv q) w'∧a.defers=F.dfs∧Steps P m (lone (F.base.atR a k) cs w')∧AJc F.B q k
theorem Xj.step {P:Program}{F:Fun P}{R:Value→World→Prop}{cs:List Frame}{m m':Machine}(hs:Steps P m m') (h:Xj F R cs m'):Xj F R cs m:=by
 unfold Xj at h ⊢
 cases hr:F.rnd with
 | none =>
  rw [hr] at h
  obtain ⟨vs,w',fr,h1,h2,h3⟩:=h
  exact ⟨vs,w',fr,h1,hs.trans h2,h3⟩
 | some l =>
  rw [hr] at h
  obtain ⟨q,w',a,k,h1,h2,h3,h4⟩:=h
  exact ⟨q,w',a,k,h1,h2,hs.trans h3,h4⟩
theorem Xj.mono {P:Program}{F:Fun P}{R R':Value→World→Prop}{cs:List Frame}{m:Machine}(h:Xj F R cs m) (hr:∀ v w,R v w→R' v w):Xj F R' cs m:=by
 unfold Xj at h ⊢
 cases hk:F.rnd with
 | none =>
  rw [hk] at h
  obtain ⟨vs,w',fr,h1,h2⟩:=h
  exact ⟨vs,w',fr,hr _ _ h1,h2⟩
 | some l =>
  rw [hk] at h
  obtain ⟨q,w',a,k,h1,h2⟩:=h
  exact ⟨q,w',a,k,hr _ _ h1,h2⟩
def Ret (R:Value→World→Prop):Ending→World→Prop
 | .returned v,w=>R v w
 | _,_=>False
def Om {P:Program}(F:Fun P) (S:List It) (σ:Fr) (w:World) (R:Value→World→Prop):Prop :=
 ∀ a,Fits F.fn.ntmps F.dfs σ a→∀ cs:List Frame,Xj F R cs (lone (F.base.atR a (S.map (It.item F.B))) cs w)
section
variable {P:Program}{F:Fun P}{S:List It}{σ:Fr}{w:World}{R:Value→World→Prop}
theorem Ym {σ':Fr}(hs:Fr.sub σ' σ) (h:Om F S σ' w R):Om F S σ w R :=
 fun a ha cs=>h a (ha.sub hs) cs
theorem Sq {S':List It}(hs:∀ a,Fits F.fn.ntmps F.dfs σ a→∀ cs,step P (lone (F.base.atR a (S.map (It.item F.B))) cs w) = .next (lone (F.base.atR a (S'.map (It.item F.B))) cs w))
  (h:Om F S' σ w R):Om F S σ w R :=
 fun a ha cs=>(h a ha cs).step (.one (hs a ha cs))
theorem ABo {args:List Value}{σ:Fr}(h:Om F [.c []] σ w R)
  (hl:args.length≤F.fn.ntmps) (hσ:∀ t v,Fr.get t σ=some v→args[t]?=some v) (hk:F.rnd=none) (hd:F.dfs=[]):Calls P F.f args.toArray w (Ret R):=by
 intro cs
 have:=h { tmps:=args.toArray++Array.replicate (F.fn.ntmps-args.toArray.size) undef,defers:=[] } ?_ cs
 ·have henter:Frame.enter P F.f args.toArray .normal =
    F.base.atR { tmps:=args.toArray++Array.replicate (F.fn.ntmps-args.toArray.size) undef,defers:=[] } [.code F.B]:=by
   simp [Frame.enter,Frame.atR,F.hf,F.hb,Fun.base,hk]
  rw [henter]
  unfold Xj at this
  rw [hk] at this
  obtain ⟨vs,w',fr,h1,h2,h3,h4,h5,h6,h7⟩:=this
  exact ⟨.returned (H4 vs),w',fr,h1,h2,h3,h4,h5.trans hd,h6,F.fn,by rw [h3];exact F.hf,X2 (h7 _ (.refl _))⟩
 ·refine ⟨by simp;omega,hd.symm,fun t v ht=>?_⟩
  have:=hσ t v ht
  have hlt:t<args.length:=by
   rcases Nat.lt_or_ge t args.length with h|h
   ·exact h
   ·simp [List.getElem?_eq_none h] at this
  simp [Array.getElem?_append,hlt]
  rw [List.getElem?_eq_getElem hlt] at this
  exact Option.some.inj this
def Mn (id:Nat):List It→Option (List It)
 | []=>none
 | .blk j::S=>match Nat.beq id j with
  | true=>some S
  | false=>Mn id S
 | _::S=>Mn id S
theorem AAt (B:Code) (id:Nat):∀ (S S':List It),Mn id S=some S'→exitTo id (S.map (It.item B))=some (S'.map (It.item B)):=by
 intro S
 induction S with
 | nil=>intro S' h;simp [Mn] at h
 | cons x S ih =>
  intro S' h
  cases x with
  | blk j =>
   simp only [Mn] at h
   cases hb:Nat.beq id j with
   | true =>
    rw [hb] at h
    have e:id=j:=Nat.eq_of_beq_eq_true hb
    have:S=S':=by simpa using h
    subst this
    simp [It.item,exitTo,e]
   | false =>
    rw [hb] at h
    have hji:¬ j=id:=fun e=>(Nat.ne_of_beq_eq_false hb) e.symm
    simp [It.item,exitTo,hji,ih S' h]
  | c p=>simp only [Mn] at h;simp [It.item,exitTo,ih S' h]
  | o p i=>simp only [Mn] at h;simp [It.item,exitTo,ih S' h]
  | lp p=>simp only [Mn] at h;simp [It.item,exitTo,ih S' h]
  | br=>simp only [Mn] at h;simp [It.item,exitTo,ih S' h]
  | win A m=>simp only [Mn] at h;simp [It.item,exitTo,ih S' h]
def nx (B:Code):List It→Option (List It)
 | .blk _::S=>some S
 | .o p i::S=>match Nat.ble (Am (sub p B)).length i with
  | true=>some S
  | false=>none
 | .c p::S=>match sub p B with
  | .skip=>some S
  | .label _=>some S
  | .seq _ _=>some (.c (p++[0])::.c (p++[1])::S)
  | .block id _=>some (.c (p++[0])::.blk id::S)
  | .region _ _ false=>some (.o p 0::S)
  | .exit id=>Mn id S
  | _=>none
 | _=>none
theorem AD9 {S':List It}(hn:nx F.B S=some S') (h:Om F S' σ w R):Om F S σ w R:=by
 refine Sq (S':=S') (fun a _ cs=>?_) h
 cases S with
 | nil=>simp [nx] at hn
 | cons x S =>
  cases x with
  | blk id =>
   have:S=S':=by simpa [nx] using hn
   subst this
   exact stepR_inBlock
  | lp p=>simp [nx] at hn
  | br=>simp [nx] at hn
  | win A m=>simp [nx] at hn
  | o p i =>
   simp only [nx] at hn
   cases hb:Nat.ble (Am (sub p F.B)).length i with
   | false=>rw [hb] at hn;simp at hn
   | true =>
    rw [hb] at hn
    have:S=S':=by simpa using hn
    subst this
    have hle:=Nat.le_of_ble_eq_true hb
    have e:(Am (sub p F.B)).length-i=0:=by omega
    simp only [List.map_cons,It.item,e,List.range'_zero]
    exact stepR_region_end
  | c p =>
   simp only [nx] at hn
   simp only [List.map_cons,It.item]
   cases hc:sub p F.B with
   | skip =>
    rw [hc] at hn
    have:S=S':=by simpa using hn
    subst this
    exact stepR_skip
   | label l =>
    rw [hc] at hn
    have:S=S':=by simpa using hn
    subst this
    exact stepR_label
   | seq x y =>
    rw [hc] at hn
    have:S'=_:=(Option.some.inj hn).symm
    subst this
    simp only [List.map_cons,It.item,sub_append,hc,sub,ABe]
    exact stepR_seq
   | block id x =>
    rw [hc] at hn
    have:S'=_:=(Option.some.inj hn).symm
    subst this
    simp only [List.map_cons,It.item,sub_append,hc,sub,ABe]
    exact stepR_block
   | region id ops d =>
    rw [hc] at hn
    cases d with
    | true=>simp at hn
    | false =>
     have:S'=_:=(Option.some.inj hn).symm
     subst this
     simp only [List.map_cons,It.item,hc,Am,Array.toArray_toList,Array.length_toList,Nat.sub_zero]
     rw [← List.range_eq_range']
     exact stepR_region
   | exit id =>
    rw [hc] at hn
    exact stepR_exit (AAt F.B id S S' hn)
   | cond _ _ _=>rw [hc] at hn;simp at hn
   | loop _=>rw [hc] at hn;simp at hn
   | rangeFunc _ _ _ _=>rw [hc] at hn;simp at hn
   | scope _=>rw [hc] at hn;simp at hn
   | goto _=>rw [hc] at hn;simp at hn
   | ret=>rw [hc] at hn;simp at hn
   | refuse _=>rw [hc] at hn;simp at hn
def nf (B:Code):Nat→List It→List It
 | 0,S=>S
 | n+1,S=>match nx B S with
  | some S'=>nf B n S'
  | none=>S
theorem ADa (n:Nat):∀ {S:List It},Om F (nf F.B n S) σ w R→Om F S σ w R:=by
 induction n with
 | zero=>exact fun h=>h
 | succ n ih =>
  intro S h
  simp only [nf] at h
  cases hn:nx F.B S with
  | none=>rw [hn] at h;exact h
  | some S'=>rw [hn] at h;exact AD9 hn (ih h)
theorem AJR (S':List It) (hn:nf F.B 60 S=S') (h:Om F S' σ w R):Om F S σ w R:=ADa 60 (hn▸h)
def Iw (B:Code) (p:List Nat):Option Operand :=
 match sub p B with
 | .cond c _ _=>some c
 | _=>none
theorem ACW {p:List Nat}{c:Operand}{t:Bool}(hc:Iw F.B p=some c) (ht:ev σ c=some (.bool t))
  (h1:t=true→Om F (.c (p++[0])::S) σ w R) (h2:t=false→Om F (.c (p++[1])::S) σ w R):Om F (.c p::S) σ w R:=by
 obtain ⟨x,y,hs⟩:∃ x y,sub p F.B = .cond c x y:=by
  unfold Iw at hc
  cases hs:sub p F.B <;> rw [hs] at hc <;> simp at hc
  subst hc;exact ⟨_,_,rfl⟩
 cases t with
 | true =>
  refine Sq (fun a ha cs=>?_) (h1 rfl)
  simp only [List.map_cons,It.item,sub_append,hs,sub,ABe]
  exact stepR_cond (ha.eval ht)
 | false =>
  refine Sq (fun a ha cs=>?_) (h2 rfl)
  simp only [List.map_cons,It.item,sub_append,hs,sub,ABe]
  exact stepR_cond (ha.eval ht)
theorem AI8 {p:List Nat}{c:Operand}{q:Prop} [Decidable q] (hc:Iw F.B p=some c) (ht:ev σ c=some (.bool (decide q)))
  (h1:q→Om F (.c (p++[0])::S) σ w R) (h2:¬ q→Om F (.c (p++[1])::S) σ w R):Om F (.c p::S) σ w R :=
 ACW hc ht (fun h=>h1 (of_decide_eq_true h)) (fun h=>h2 (of_decide_eq_false h))
def AAf (B:Code) (p:List Nat):Bool :=
 match sub p B with
 | .loop _=>true
 | _=>false
theorem ADr {B:Code}{p:List Nat}(h:AAf B p=true):∃ c,sub p B = .loop c:=by
 unfold AAf at h
 cases hs:sub p B <;> rw [hs] at h <;> simp at h
 exact ⟨_,rfl⟩
theorem AGc {X:Type}{p:List Nat}(hp:AAf F.B p=true) (st:X→Fr) (I:X→World→Prop) (μ:X→Nat) (x:X) (hx:I x w) (hs:Fr.sub (st x) σ)
  (round:∀ x w,I x w→(∀ x' w',μ x'<μ x→I x' w'→Om F (.lp (p++[0])::S) (st x') w' R)→Om F (.c (p++[0])::.lp (p++[0])::S) (st x) w R) :
  Om F (.c p::S) σ w R:=by
 obtain ⟨c,hc⟩:=ADr hp
 have key:∀ n x w,μ x=n→I x w→Om F (.c (p++[0])::.lp (p++[0])::S) (st x) w R:=by
  intro n
  induction n using Nat.strongRecOn with
  | _ n ih =>
   intro x w hn hI
   refine round x w hI fun x' w' hlt hI'=>?_
   refine Sq (fun a ha cs=>?_) (ih (μ x') (hn▸hlt) x' w' rfl hI')
   simp only [List.map_cons,It.item]
   exact stepR_inLoop
 refine Ym hs ?_
 refine Sq (fun a ha cs=>?_) (key _ x w rfl hx)
 simp only [List.map_cons,It.item,sub_append,hc,sub,ABe]
 exact stepR_loop
def Uk (B:Code) (p:List Nat):Bool :=
 match sub p B with
 | .ret=>true
 | _=>false
def No (σ:Fr):List ResultVar→Option (List Value)
 | []=>some []
 | .tmp t::l=>match Fr.get t σ,No σ l with
  | some v,some vs=>some (v::vs)
  | _,_=>none
 | .cell _ _::_=>none
theorem ResAll.of_resOf {n:Nat}{D:List Deferred}{σ:Fr}{a:Act}(ha:Fits n D σ a) (P:Program) (w:World):∀ (l:List ResultVar) (vs:List Value),No σ l=some vs→ResAll P w a.tmps l vs:=by
 intro l
 induction l with
 | nil=>intro vs h;simp [No] at h;subst h;exact .nil
 | cons x l ih =>
  intro vs h
  cases x with
  | cell _ _=>simp [No] at h
  | tmp t =>
   simp only [No] at h
   cases h1:Fr.get t σ with
   | none=>rw [h1] at h;simp at h
   | some v =>
    cases h2:No σ l with
    | none=>rw [h1,h2] at h;simp at h
    | some us =>
     rw [h1,h2] at h
     have:v::us=vs:=by simpa using h
     subst this
     have hv:=ha.get t v h1
     exact .cons (by simp [U1,hv]) (ih us h2)
theorem U0 {p:List Nat}(hp:Uk F.B p=true) {vs:List Value}
  (hr:∀ a,Fits F.fn.ntmps F.dfs σ a→∀ w5,AEQ w w5→ResAll P w5 a.tmps F.fn.results.toList vs) (h:R (H4 vs) w) (hk:F.rnd=none):Om F (.c p::S) σ w R:=by
 intro a ha cs
 have hs:sub p F.B = .ret:=by
  unfold Uk at hp
  cases hs:sub p F.B <;> rw [hs] at hp <;> first|rfl|simp at hp
 unfold Xj
 rw [hk]
 refine ⟨vs,w,{ F.base.atR a (.code .ret::S.map (It.item F.B)) with mode:=.returning },h,?_,rfl,rfl,ha.defers,rfl,hr a ha⟩
 simp only [List.map_cons,It.item,hs]
 exact .one (stepR_ret hk)
theorem AIC {p:List Nat}{vs:List Value}(hp:Uk F.B p=true) (hr:No σ F.fn.results.toList=some vs) (h:R (H4 vs) w) (hk:F.rnd=none):Om F (.c p::S) σ w R :=
 U0 hp (fun _ ha w5 _=>ResAll.of_resOf ha P w5 _ _ hr) h hk
theorem AHU {vs:List Value}(hr:No σ F.fn.results.toList=some vs) (h:R (H4 vs) w) (hk:F.rnd=none):Om F [] σ w R:=by
 intro a ha cs
 unfold Xj
 rw [hk]
 exact ⟨vs,w,{ F.base.atR a [] with mode:=.returning },h,.one (stepR_end hk),rfl,rfl,ha.defers,rfl,fun w5 _=>ResAll.of_resOf ha P w5 _ _ hr⟩
end
def At {P:Program}(F:Fun P) (k:List Item) (a:Act) (w:World) (R:Value→World→Prop):Prop :=
 ∀ cs:List Frame,Xj F R cs (lone (F.base.atR a k) cs w)
def Rnd (P:Program) (l:Nat) (f:FuncId) (tmps:Array Value) (assign body:Code) (w:World) (post:Value→World→Prop):Prop :=
 ∀ (c:Frame) (cs:List Frame),∃ v w',post v w'∧Steps P (lone (Frame.round l f tmps assign body .normal) (c::cs) w) (lone (c.finish v) cs w')
theorem Rnd.mono {P:Program}{l:Nat}{f:FuncId}{tmps:Array Value}{assign body:Code}{w:World}{post post':Value→World→Prop}(h:Rnd P l f tmps assign body w post) (hh:∀ v w,post v w→post' v w):Rnd P l f tmps assign body w post' :=
 fun c cs=>let ⟨v,w',h1,h2⟩:=h c cs;⟨v,w',hh _ _ h1,h2⟩
def Out (P:Program) (post:Value→World→Prop):Result Next→Prop
 | .ok (.value v) w=>post v w
 | .ok .skip w=>post undef w
 | .ok (.enter f args) w=>Calls P f args w (Ret post)
 | .ok (.round l f tmps assign body) w=>Rnd P l f tmps assign body w post
 | _=>False
theorem Out.mono {P:Program}{post post':Value→World→Prop}(h:∀ v w,post v w→post' v w):∀ {r:Result Next},Out P post r→Out P post' r:=by
 intro r hr
 cases r with
 | halt x w=>exact hr.elim
 | ok n w =>
  cases n with
  | value v=>exact h _ _ hr
  | skip=>exact h _ _ hr
  | enter f args =>
   refine Calls.mono hr fun e w' he=>?_
   cases e with
   | returned v=>exact h _ _ he
   | panicked _=>exact he
   | outgrown=>exact he
  | round l f tmps assign body=>exact Rnd.mono hr h
  | _=>exact hr.elim
theorem Out.semAt {P:Program}{post:Value→World→Prop}{ρ:Operand→Value}{o:Oper}{w:World}(h:Out P post ((execOp ρ o).run P w)) (ro:Option Nat):o.semAt ro ρ=execOp ρ o:=by
 refine Oper.semAt_eq ro ρ o fun c hc=>?_
 have:execOp ρ o=(do pure (.defer (← resolve ρ c o.type))):=by
  obtain ⟨dst,op,ty,pos,after,guard⟩:=o
  simp only at hc
  subst hc
  rfl
 rw [this,Sem.run_bind] at h
 cases hr:(resolve ρ c o.type).run P w with
 | halt x w'=>rw [hr] at h;exact h
 | ok d w'=>rw [hr] at h;exact h
theorem At.of_step {P:Program}{F:Fun P}{k k':List Item}{a a':Act}{w w':World}{R:Value→World→Prop}
  (hs:∀ cs,step P (lone (F.base.atR a k) cs w) = .next (lone (F.base.atR a' k') cs w')) (h:At F k' a' w' R):At F k a w R:=fun cs =>
 (h cs).step (.one (hs cs))
section
variable {P:Program}{F:Fun P}{k:List Item}{a:Act}{w:World}{R:Value→World→Prop}{ops:Array Oper}{i:Nat}{rest:List Nat}{o:Oper}
theorem Mf (ho:ops[i]?=some o) (hw:Region.wanted o (yielded ops a.tmps)=true) {post:Value→World→Prop}(hx:Out P post ((execOp a.eval o).run P w))
  (h:∀ v w',post v w'→At F (.inRegion ops rest::k) (a.put o.dst v) w' R):At F (.inRegion ops (i::rest)::k) a w R:=by
 intro cs
 have hg:=fun cs=>stepGR_op (P:=P) (b:=F.base) (k:=k) (cs:=cs) (w:=w) (rest:=rest) ho hw
 rw [hx.semAt] at hg
 have hfin:∀ v,(F.base.atR a (.inRegion ops (i::rest)::k)).finish v=F.base.atR (a.put o.dst v) (.inRegion ops rest::k):=by
  intro v;rw [Frame.finish_atR,ho];rfl
 generalize hr:(execOp a.eval o).run P w=r at hx
 cases r with
 | halt x w'=>exact hx.elim
 | ok n w' =>
  cases n with
  | value v =>
   refine At.of_step (fun cs=>step_lone_go ?_) (h v w' hx) cs
   rw [hg cs,← hfin];simp [stepG.apply,hr]
  | skip =>
   refine At.of_step (fun cs=>step_lone_go ?_) (h undef w' hx) cs
   rw [hg cs,← hfin];simp [stepG.apply,hr]
  | enter f args =>
   obtain ⟨e,w'',fr,hR,hsteps,_,hleave⟩:=hx (F.base.atR a (.inRegion ops (i::rest)::k)::cs)
   have henter:step P (lone (F.base.atR a (.inRegion ops (i::rest)::k)) cs w) =
     .next (lone (Frame.enter P f args .normal) (F.base.atR a (.inRegion ops (i::rest)::k)::cs) w') :=
    step_lone_go (by rw [hg cs];simp [stepG.apply,hr,Frame.atR])
   cases e with
   | returned v =>
    refine (h v w'' hR cs).step (.head henter (Steps.trans hsteps (.one ?_)))
    rw [← hfin];exact step_leave_returned hleave
   | panicked _=>exact hR.elim
   | outgrown=>exact hR.elim
  | round l f tmps assign body =>
   obtain ⟨v,w'',hR,hsteps⟩:=hx (F.base.atR a (.inRegion ops (i::rest)::k)) cs
   have henter:step P (lone (F.base.atR a (.inRegion ops (i::rest)::k)) cs w) =
     .next (lone (Frame.round l f tmps assign body .normal) (F.base.atR a (.inRegion ops (i::rest)::k)::cs) w') :=
    step_lone_go (by rw [hg cs];simp [stepG.apply,hr,Frame.atR])
   refine (h v w'' hR cs).step (.head henter ?_)
   rw [← hfin];exact hsteps
  | _=>exact hx.elim
theorem ACd (ho:ops[i]?=some o) (hw:Region.wanted o (yielded ops a.tmps)=false)
  (h:At F (.inRegion ops rest::k) (a.put o.dst undef) w R):At F (.inRegion ops (i::rest)::k) a w R:=by
 refine At.of_step (fun cs=>?_) h
 have:=stepR_op_skip (P:=P) (b:=F.base) (a:=a) (k:=k) (cs:=cs) (w:=w) (ops:=ops) (i:=i) (rest:=rest) (by simp [ho,hw])
 rw [ho] at this
 exact this
end
def A8 {α:Type}:List α→Nat→Option α
 | [],_=>none
 | x::_,0=>some x
 | _::l,n+1=>A8 l n
theorem B8 {α:Type}(l:List α):∀ n,A8 l n=l[n]?:=by
 induction l with
 | nil=>intro n;simp [A8]
 | cons x l ih=>intro n;cases n with
  | zero=>simp [A8]
  | succ n=>simp [A8,ih]
def AAB {P:Program}(F:Fun P) (p:List Nat) (i:Nat):Option (Option Tmp×Op×TypeId) :=
 match A8 (Am (sub p F.B)) i with
 | some ⟨dst,op,ty,_,_,none⟩=>match dst with
  | none=>some (none,op,ty)
  | some d=>match Nat.blt d F.fn.ntmps with
   | true=>some (some d,op,ty)
   | false=>none
 | _=>none
def Cp (op : Op) (ty : TypeId) : Oper:={ dst:=none,op:=op,type:=ty,pos:="",after:=#[],guard:=none }
theorem Gt (ρ:Operand→Value) (o:Oper):execOp ρ o=execOp ρ (Cp o.op o.type):=by
 cases o with
 | mk dst op ty pos after guard=>cases op <;> rfl
def Ex (P:Program) (op:Op) (ty:TypeId) (σ:Fr) (w:World) (post:Value→World→Prop):Prop :=
 ∀ ρ:Operand→Value,(∀ x v,ev σ x=some v→ρ x=v)→Out P post ((execOp ρ (Cp op ty)).run P w)
theorem Ex.mono {P:Program}{op:Op}{ty:TypeId}{σ:Fr}{w:World}{post post':Value→World→Prop}(h:Ex P op ty σ w post) (hh:∀ v w,post v w→post' v w):Ex P op ty σ w post' :=
 fun ρ hρ=>(h ρ hρ).mono hh
def putF (d:Option Tmp) (v:Value) (σ:Fr):Fr :=
 match d with
 | none=>σ
 | some d=>(d,v)::σ
section
variable {P:Program}{F:Fun P}{S:List It}{σ:Fr}{w:World}{R:Value→World→Prop}{p:List Nat}{i:Nat}{d:Option Tmp}{op:Op}{ty:TypeId}
theorem W9 (ho:AAB F p i=some (d,op,ty)):∃ pos after,A8 (Am (sub p F.B)) i=some ⟨d,op,ty,pos,after,none⟩∧∀ t,d=some t→t<F.fn.ntmps:=by
 unfold AAB at ho
 cases h:A8 (Am (sub p F.B)) i with
 | none=>rw [h] at ho;simp at ho
 | some o =>
  rw [h] at ho
  obtain ⟨dst,op',ty',pos,after,guard⟩:=o
  cases guard with
  | some g=>simp at ho
  | none =>
   cases dst with
   | none =>
    simp at ho
    obtain ⟨rfl,rfl,rfl⟩:=ho
    exact ⟨pos,after,rfl,fun t ht=>by simp at ht⟩
   | some dd =>
    simp only at ho
    cases hb:Nat.blt dd F.fn.ntmps with
    | false=>rw [hb] at ho;simp at ho
    | true =>
     rw [hb] at ho
     simp at ho
     obtain ⟨rfl,rfl,rfl⟩:=ho
     refine ⟨pos,after,rfl,fun t ht=>?_⟩
     obtain rfl:=Option.some.inj ht
     exact Nat.le_of_ble_eq_true hb
theorem Fits.putF {n:Nat}{D:List Deferred}{a:Act}(h:Fits n D σ a) (hd:∀ t,d=some t→t<n) (v:Value):Fits n D (putF d v σ) (a.put d v):=by
 cases d with
 | none=>exact h
 | some d=>exact h.put (hd d rfl) v
theorem ABN {o:Oper}(h:A8 (Am (sub p F.B)) i=some o) :
  It.item F.B (.o p i) = .inRegion (Am (sub p F.B)).toArray (i::List.range' (i+1) ((Am (sub p F.B)).length-(i+1)))∧(Am (sub p F.B)).toArray[i]?=some o:=by
 rw [B8] at h
 have hlt:i<(Am (sub p F.B)).length:=by
  rcases Nat.lt_or_ge i (Am (sub p F.B)).length with h'|h'
  ·exact h'
  ·simp [List.getElem?_eq_none h'] at h
 refine ⟨?_,by simpa using h⟩
 have e:(Am (sub p F.B)).length-i=((Am (sub p F.B)).length-(i+1))+1:=by omega
 simp only [It.item,e,List.range'_succ]
theorem AGW {post:Value→World→Prop}(ho:AAB F p i=some (d,op,ty)) (hx:Ex P op ty σ w post)
  (h:∀ v w',post v w'→Om F (.o p (i+1)::S) (putF d v σ) w' R):Om F (.o p i::S) σ w R:=by
 obtain ⟨pos,after,hn,hd⟩:=W9 ho
 obtain ⟨e1,e2⟩:=ABN (F:=F) hn
 intro a ha
 simp only [List.map_cons,e1]
 refine Mf e2 (by simp [Region.wanted]) (post:=post) ?_ fun v w' hv=>?_
 ·rw [Gt]
  exact hx a.eval fun x v hv=>ha.eval hv
 ·exact h v w' hv (a.put d v) (ha.putF hd v)
def Io (P:Program) (op:Op) (ty:TypeId) (σ:Fr) (w:World) (v:Value):Prop :=
 ∀ ρ:Operand→Value,(∀ x v,ev σ x=some v→ρ x=v)→(execOp ρ (Cp op ty)).run P w = .ok (.value v) w
theorem Io.ex {v:Value}(h:Io P op ty σ w v):Ex P op ty σ w (fun u w'=>u=v∧w'=w):=fun ρ hρ=>by
 rw [h ρ hρ];exact ⟨rfl,rfl⟩
theorem run_pure {v:Value}(ho:AAB F p i=some (d,op,ty)) (hx:Io P op ty σ w v)
  (h:Om F (.o p (i+1)::S) (putF d v σ) w R):Om F (.o p i::S) σ w R :=
 AGW ho hx.ex fun u w' ⟨h1,h2⟩=>by subst h1;subst h2;exact h
def Mx {P:Program}(F:Fun P) (p:List Nat) (i:Nat):Option (Tmp×Bool×Option Tmp×Op×TypeId) :=
 match A8 (Am (sub p F.B)) i with
 | some ⟨dst,op,ty,_,_,some (j,want)⟩ =>
  match (A8 (Am (sub p F.B)) j).bind (·.dst) with
  | some g=>match dst with
   | none=>some (g,want,none,op,ty)
   | some d=>match Nat.blt d F.fn.ntmps with
    | true=>some (g,want,some d,op,ty)
    | false=>none
  | none=>none
 | _=>none
theorem U2 {g:Tmp}{want:Bool}(ho:Mx F p i=some (g,want,d,op,ty)):∃ pos after j,A8 (Am (sub p F.B)) i=some ⟨d,op,ty,pos,after,some (j,want)⟩ ∧
  (A8 (Am (sub p F.B)) j).bind (·.dst)=some g∧∀ t,d=some t→t<F.fn.ntmps:=by
 unfold Mx at ho
 cases h:A8 (Am (sub p F.B)) i with
 | none=>rw [h] at ho;simp at ho
 | some o =>
  rw [h] at ho
  obtain ⟨dst,op',ty',pos,after,guard⟩:=o
  cases guard with
  | none=>simp at ho
  | some gg =>
   obtain ⟨j,want'⟩:=gg
   simp only at ho
   cases hj:(A8 (Am (sub p F.B)) j).bind (·.dst) with
   | none=>rw [hj] at ho;simp at ho
   | some g' =>
    rw [hj] at ho
    cases dst with
    | none =>
     simp at ho
     obtain ⟨rfl,rfl,rfl,rfl,rfl⟩:=ho
     exact ⟨pos,after,j,rfl,hj,fun t ht=>by simp at ht⟩
    | some dd =>
     simp only at ho
     cases hb:Nat.blt dd F.fn.ntmps with
     | false=>rw [hb] at ho;simp at ho
     | true =>
      rw [hb] at ho
      simp at ho
      obtain ⟨rfl,rfl,rfl,rfl,rfl⟩:=ho
      refine ⟨pos,after,j,rfl,hj,fun t ht=>?_⟩
      obtain rfl:=Option.some.inj ht
      exact Nat.le_of_ble_eq_true hb
end
theorem V4 {ops:Array Oper}{tmps:Array Value}{j g:Nat}{b:Bool}(hj:(ops[j]?).bind (·.dst)=some g) (hv:tmps[g]?=some (.bool b)):yielded ops tmps j=some b:=by
 cases ho:ops[j]? with
 | none=>rw [ho] at hj;simp at hj
 | some o =>
  rw [ho] at hj
  have hd:o.dst=some g:=by simpa using hj
  simp [yielded,ho,hd,hv]
section
variable {P:Program}{F:Fun P}{S:List It}{σ:Fr}{w:World}{R:Value→World→Prop}{p:List Nat}{i:Nat}{d:Option Tmp}{op:Op}{ty:TypeId}
theorem Zn {j g:Nat}{b:Bool}{a:Act}(ha:Fits F.fn.ntmps F.dfs σ a) (hj:(A8 (Am (sub p F.B)) j).bind (·.dst)=some g) (hb:Fr.get g σ=some (.bool b)) :
  yielded (Am (sub p F.B)).toArray a.tmps j=some b:=by
 refine V4 (g:=g) ?_ (ha.get _ _ hb)
 rw [B8] at hj
 simpa using hj
theorem AFH {g:Tmp}{want:Bool}{post:Value→World→Prop}(ho:Mx F p i=some (g,want,d,op,ty)) (hb:Fr.get g σ=some (.bool want)) (hx:Ex P op ty σ w post)
  (h:∀ v w',post v w'→Om F (.o p (i+1)::S) (putF d v σ) w' R):Om F (.o p i::S) σ w R:=by
 obtain ⟨pos,after,j,hn,hj,hd⟩:=U2 ho
 obtain ⟨e1,e2⟩:=ABN (F:=F) hn
 intro a ha
 simp only [List.map_cons,e1]
 have hy:=Zn (F:=F) (p:=p) ha hj hb
 refine Mf e2 (by simp [Region.wanted,hy]) (post:=post) ?_ fun v w' hv=>?_
 ·rw [Gt]
  exact hx a.eval fun x v hv=>ha.eval hv
 ·exact h v w' hv (a.put d v) (ha.putF hd v)
theorem Zu {g:Tmp}{want b:Bool}(ho:Mx F p i=some (g,want,d,op,ty)) (hb:Fr.get g σ=some (.bool b)) (hne:(b == want)=false)
  (h:Om F (.o p (i+1)::S) (putF d undef σ) w R):Om F (.o p i::S) σ w R:=by
 obtain ⟨pos,after,j,hn,hj,hd⟩:=U2 ho
 obtain ⟨e1,e2⟩:=ABN (F:=F) hn
 intro a ha
 simp only [List.map_cons,e1]
 have hy:=Zn (F:=F) (p:=p) ha hj hb
 refine ACd e2 (by simp [Region.wanted,hy];simpa using hne) ?_
 exact h (a.put d undef) (ha.putF hd undef)
theorem AAS {t:Tmp}{b:Bool}(hb:Fr.get t σ=some (.bool b)) (h1:b=true→Om F S ((t,.bool true)::σ) w R) (h2:b=false→Om F S ((t,.bool false)::σ) w R):Om F S σ w R:=by
 cases b with
 | true=>exact Ym (Fr.sub_cons hb (Fr.sub_refl σ)) (h1 rfl)
 | false=>exact Ym (Fr.sub_cons hb (Fr.sub_refl σ)) (h2 rfl)
theorem AAr {t:Tmp}{q:Prop} [Decidable q] (hb:Fr.get t σ=some (.bool (decide q))) (h1:q→Om F S ((t,.bool true)::σ) w R) (h2:¬ q→Om F S ((t,.bool false)::σ) w R):Om F S σ w R :=
 AAS hb (fun h=>h1 (of_decide_eq_true h)) (fun h=>h2 (of_decide_eq_false h))
end
open Go.RowKit (Below)
abbrev Bb:=Option Nat×TypeId×List Value
structure Cx where
 w0:World
 A:Nat→Prop
 M:Nat→Prop
def ok (C:Cx) (w:World) (β:List Bb) (k:Nat):Prop:=(C.A k∨C.M k∨C.w0.heap.size≤k)∧k<w.heap.size∧∀ x∈β,x.1≠some k
def Bc:List Bb→Prop
 | []=>True
 | x::l=>(∀ y∈l,∀ b,x.1=some b→y.1≠some b)∧Bc l
structure Keep (w0:World) (M:Nat→Prop) (w:World):Prop where
 os:w.os=w0.os
 tape:w.tape=w0.tape
 output:w.output=w0.output
 size:w0.heap.size≤w.heap.size
 block:∀ k,k<w0.heap.size→¬ M k→w.heap[k]?=w0.heap[k]?
structure Own (C:Cx) (w:World) (β:List Bb):Prop where
 ext:Keep C.w0 C.M w
 new:∀ x∈β,∀ b,x.1=some b→C.w0.heap.size≤b∨C.M b
 blk:∀ x∈β,∀ b,x.1=some b→w.heap[b]?=some (.cells x.2.2.toArray x.2.1 (0,0))
 apart:Bc β
structure Fact where
 holds:World→(Nat→Prop)→Prop
 stable:∀ {w w':World}{A A':Nat→Prop},(∀ k,A k→A' k∧w'.heap[k]?=w.heap[k]?)→holds w A→holds w' A'
def J {P:Program}(F:Fun P) (C:Cx) (S:List It) (σ:Fr) (β:List Bb) (Γ:List Fact) (R:Value→World→Prop):Prop :=
 ∀ w,Own C w β→(∀ f∈Γ,f.holds w (ok C w β))→Om F S σ w R
abbrev Ext (w w':World):Prop:=Below w.heap.size w w'
theorem Keep.refl (w:World) (M:Nat→Prop):Keep w M w:=⟨rfl,rfl,rfl,Nat.le_refl _,fun _ _ _=>rfl⟩
theorem Keep.step {w0 w w':World}{M:Nat→Prop}(h:Keep w0 M w) (hx:Ext w w'):Keep w0 M w' :=
 ⟨hx.os.trans h.os,hx.tape.trans h.tape,hx.output.trans h.output,Nat.le_trans h.size hx.size,fun k hk hm=>(hx.block k (Nat.lt_of_lt_of_le hk h.size)).trans (h.block k hk hm)⟩
theorem Own.lt {C:Cx}{w:World}{β:List Bb}(h:Own C w β) {x:Bb}(hx:x∈β) {b:Nat}(hb:x.1=some b):b<w.heap.size :=
 (Array.getElem?_eq_some_iff.1 (h.blk x hx b hb)).1
theorem Own.step {C:Cx}{w w':World}{β:List Bb}(h:Own C w β) (hx:Ext w w'):Own C w' β :=
 ⟨h.ext.step hx,h.new,fun x hm b hb=>by rw [hx.block _ (h.lt hm hb)];exact h.blk x hm b hb,h.apart⟩
theorem AEK {C:Cx}{w w':World}{β:List Bb}(hx:Ext w w'):∀ k,ok C w β k→ok C w' β k∧w'.heap[k]?=w.heap[k]? :=
 fun k hk=>⟨⟨hk.1,Nat.lt_of_lt_of_le hk.2.1 hx.size,hk.2.2⟩,hx.block k hk.2.1⟩
theorem ADi {C:Cx}{w w':World}{β:List Bb}{Γ:List Fact}(hx:Ext w w') (h:∀ f∈Γ,f.holds w (ok C w β)):∀ f∈Γ,f.holds w' (ok C w' β) :=
 fun f hf=>f.stable (AEK hx) (h f hf)
theorem Own.push {C:Cx}{w:World}{β:List Bb}(h:Own C w β) (T:TypeId) (cs:List Value):Own C (w.alloc (.cells cs.toArray T)) ((some w.heap.size,T,cs)::β):=by
 have hx:Ext w (w.alloc (.cells cs.toArray T)):=(Below.refl _ _).alloc (Nat.le_refl _) _
 have h':=h.step hx
 refine ⟨h'.ext,?_,?_,?_,h'.apart⟩
 ·intro x hm b hb
  rcases List.mem_cons.1 hm with rfl|hm
  ·obtain rfl:=Option.some.inj hb
   exact .inl h.ext.size
  ·exact h'.new x hm b hb
 ·intro x hm b hb
  rcases List.mem_cons.1 hm with rfl|hm
  ·obtain rfl:=Option.some.inj hb
   exact heap_alloc_new w _
  ·exact h'.blk x hm b hb
 ·intro y hy b hb hyb
  obtain rfl:=Option.some.inj hb
  have:=h.lt hy hyb
  omega
theorem Yu {C:Cx}{w:World}{β:List Bb}{Γ:List Fact}{T:TypeId}{cs:List Value}(h:∀ f∈Γ,f.holds w (ok C w β)) :
  ∀ f∈Γ,f.holds (w.alloc (.cells cs.toArray T)) (ok C (w.alloc (.cells cs.toArray T)) ((some w.heap.size,T,cs)::β)) :=
 fun f hf=>f.stable (fun k hk=>⟨⟨hk.1,by simp;have:=hk.2.1;omega,fun x hx=>by
  rcases List.mem_cons.1 hx with rfl|hx
  ·intro e
   have:=Option.some.inj e
   have:=hk.2.1;omega
  ·exact hk.2.2 x hx⟩,heap_alloc_old w _ k hk.2.1⟩) (h f hf)
def setB:List Bb→Nat→List Value→List Bb
 | [],_,_=>[]
 | (b,T,_)::l,0,cs=>(b,T,cs)::l
 | x::l,n+1,cs=>x::setB l n cs
theorem Z4 {β:List Bb}:∀ {n:Nat}{cs:List Value}{x:Bb},x∈setB β n cs→∃ y∈β,y.1=x.1:=by
 induction β with
 | nil=>intro n cs x h;simp [setB] at h
 | cons y l ih =>
  intro n cs x h
  obtain ⟨b,T,c⟩:=y
  cases n with
  | zero =>
   simp only [setB,List.mem_cons] at h
   rcases h with rfl|h
   ·exact ⟨_,.head _,rfl⟩
   ·exact ⟨x,.tail _ h,rfl⟩
  | succ n =>
   simp only [setB,List.mem_cons] at h
   rcases h with rfl|h
   ·exact ⟨_,.head _,rfl⟩
   ·obtain ⟨z,hz,e⟩:=ih h
    exact ⟨z,.tail _ hz,e⟩
theorem Bc.setB {β:List Bb}:∀ {n:Nat}{cs:List Value},Bc β→Bc (setB β n cs):=by
 induction β with
 | nil=>intro n cs h;simp [Fw.setB,Bc]
 | cons y l ih =>
  intro n cs h
  obtain ⟨b,T,c⟩:=y
  cases n with
  | zero=>exact h
  | succ n =>
   refine ⟨fun z hz bb hb=>?_,ih h.2⟩
   obtain ⟨u,hu,e⟩:=Z4 hz
   rw [← e]
   exact h.1 u hu bb hb
theorem AHO {C:Cx}{w:World}{β:List Bb}{n:Nat}{cs:List Value}{k:Nat}(h:ok C w β k):ok C w (setB β n cs) k :=
 ⟨h.1,h.2.1,fun x hx=>by obtain ⟨y,hy,e⟩:=Z4 hx;rw [← e];exact h.2.2 y hy⟩
theorem AGI {β:List Bb}:∀ {n:Nat}{cs:List Value}{b:Nat}{T:TypeId}{c:List Value},Bc β→A8 β n=some (some b,T,c)→∀ x∈setB β n cs,x=(some b,T,cs)∨(x∈β∧x.1≠some b):=by
 induction β with
 | nil=>intro n cs b T c _ h;simp [A8] at h
 | cons y l ih =>
  intro n cs b T c hd h x hx
  obtain ⟨b',T',c'⟩:=y
  cases n with
  | zero =>
   simp only [A8,Option.some.injEq,Prod.mk.injEq] at h
   obtain ⟨rfl,rfl,rfl⟩:=h
   simp only [setB,List.mem_cons] at hx
   rcases hx with rfl|hx
   ·exact .inl rfl
   ·exact .inr ⟨.tail _ hx,hd.1 x hx b rfl⟩
  | succ n =>
   simp only [A8] at h
   simp only [setB,List.mem_cons] at hx
   rcases hx with rfl|hx
   ·refine .inr ⟨.head _,fun e=>?_⟩
    have hm:(some b,T,c)∈l:=by rw [B8] at h;exact List.mem_of_getElem? h
    exact hd.1 _ hm b e rfl
   ·rcases ih hd.2 h x hx with rfl|⟨h1,h2⟩
    ·exact .inl rfl
    ·exact .inr ⟨.tail _ h1,h2⟩
theorem B1 {β:List Bb}{n:Nat}{x:Bb}(h:A8 β n=some x):x∈β:=by
 rw [B8] at h;exact List.mem_of_getElem? h
theorem Own.set {C:Cx}{w w':World}{β:List Bb}(h:Own C w β) {n b:Nat}{T:TypeId}{c cs:List Value}(hn:A8 β n=some (some b,T,c))
  (ho:w'.os=w.os) (ht:w'.tape=w.tape) (hp:w'.output=w.output) (hs:w'.heap.size=w.heap.size)
  (hb:w'.heap[b]?=some (.cells cs.toArray T (0,0))) (hk:∀ k,k≠b→w'.heap[k]?=w.heap[k]?):Own C w' (setB β n cs):=by
 have hnew:=h.new _ (B1 hn) b rfl
 refine ⟨⟨ho.trans h.ext.os,ht.trans h.ext.tape,hp.trans h.ext.output,by rw [hs];exact h.ext.size,fun k hk' hm=>(hk k (fun e=>?_)).trans (h.ext.block k hk' hm)⟩,?_,?_,h.apart.setB⟩
 ·subst e
  rcases hnew with h1|h1
  ·omega
  ·exact hm h1
 ·intro x hx
  obtain ⟨y,hy,e⟩:=Z4 hx
  rw [← e];exact h.new y hy
 ·intro x hx bb hbb
  rcases AGI h.apart hn x hx with rfl|⟨h1,h2⟩
  ·obtain rfl:=Option.some.inj hbb
   exact hb
  ·rw [hk _ (fun e=>h2 (e▸hbb))];exact h.blk x h1 bb hbb
theorem AFm {C:Cx}{w w':World}{β:List Bb}{Γ:List Fact}{n b:Nat}{T:TypeId}{c cs:List Value}(hn:A8 β n=some (some b,T,c))
  (hs:w'.heap.size=w.heap.size) (hk:∀ k,k≠b→w'.heap[k]?=w.heap[k]?) (h:∀ f∈Γ,f.holds w (ok C w β)) :
  ∀ f∈Γ,f.holds w' (ok C w' (setB β n cs)) :=
 fun f hf=>f.stable (fun k hk'=>by
  have hne:k≠b:=fun e=>hk'.2.2 _ (B1 hn) (by rw [e])
  exact ⟨AHO ⟨hk'.1,by rw [hs];exact hk'.2.1,hk'.2.2⟩,hk k hne⟩) (h f hf)
section
variable {P:Program}{F:Fun P}{C:Cx}{S:List It}{σ:Fr}{β:List Bb}{Γ:List Fact}{R:Value→World→Prop}{p:List Nat}{i:Nat}{d:Option Tmp}{op:Op}{ty:TypeId}
theorem Xt {σ':Fr}(hs:Fr.sub σ' σ) (h:J F C S σ' β Γ R):J F C S σ β Γ R:=fun w ho hf=>Ym hs (h w ho hf)
theorem Ww {Γ':List Fact}(hs:∀ f∈Γ',f∈Γ) (h:J F C S σ β Γ' R):J F C S σ β Γ R:=fun w ho hf=>h w ho fun f hm=>hf f (hs f hm)
theorem Bc.sub {β β':List Bb}(hs:β'.Sublist β) (h:Bc β):Bc β':=by
 induction hs with
 | slnil=>exact h
 | cons _ _ ih=>exact ih h.2
 | cons_cons _ hsub ih=>exact ⟨fun y hy b hb=>h.1 y (hsub.subset hy) b hb,ih h.2⟩
theorem AIl {β':List Bb}(hs:β'.Sublist β) (h:J F C S σ β' Γ R):J F C S σ β Γ R:=fun w ho hf =>
 h w ⟨ho.ext,fun x hx=>ho.new x (hs.subset hx),fun x hx=>ho.blk x (hs.subset hx),ho.apart.sub hs⟩
  fun f hm=>f.stable (fun _ hk=>⟨⟨hk.1,hk.2.1,fun x hx=>hk.2.2 x (hs.subset hx)⟩,rfl⟩) (hf f hm)
theorem Be (S':List It) (hn:nf F.B 60 S=S') (h:J F C S' σ β Γ R):J F C S σ β Γ R:=fun w ho hf=>AJR S' hn (h w ho hf)
theorem Mj (n:Nat) (S':List It) (hn:nf F.B n S=S') (h:J F C S' σ β Γ R):J F C S σ β Γ R:=fun w ho hf=>ADa n (hn▸h w ho hf)
theorem ADj {c:Operand}{t:Bool}(hc:Iw F.B p=some c) (ht:ev σ c=some (.bool t))
  (h1:t=true→J F C (.c (p++[0])::S) σ β Γ R) (h2:t=false→J F C (.c (p++[1])::S) σ β Γ R):J F C (.c p::S) σ β Γ R :=
 fun w ho hf=>ACW hc ht (fun e=>h1 e w ho hf) (fun e=>h2 e w ho hf)
theorem Sf {c:Operand}(hc:Iw F.B p=some c) (ht:ev σ c=some (.bool true)) (h1:J F C (.c (p++[0])::S) σ β Γ R):J F C (.c p::S) σ β Γ R :=
 ADj hc ht (fun _=>h1) (fun e=>by cases e)
theorem T5 {c:Operand}(hc:Iw F.B p=some c) (ht:ev σ c=some (.bool false)) (h1:J F C (.c (p++[1])::S) σ β Γ R):J F C (.c p::S) σ β Γ R :=
 ADj hc ht (fun e=>by cases e) (fun _=>h1)
theorem M1 {c:Operand}{q:Prop} [Decidable q] (hc:Iw F.B p=some c) (ht:ev σ c=some (.bool (decide q)))
  (h1:q→J F C (.c (p++[0])::S) σ β Γ R) (h2:¬ q→J F C (.c (p++[1])::S) σ β Γ R):J F C (.c p::S) σ β Γ R :=
 fun w ho hf=>AI8 hc ht (fun e=>h1 e w ho hf) (fun e=>h2 e w ho hf)
theorem ACr {c:Operand}{q:Prop} [Decidable q] (hc:Iw F.B p=some c) (ht:ev σ c=some (.bool (!decide q)))
  (h1:¬ q→J F C (.c (p++[0])::S) σ β Γ R) (h2:q→J F C (.c (p++[1])::S) σ β Γ R):J F C (.c p::S) σ β Γ R :=
 ADj hc ht (fun e=>h1 (by simpa using e)) (fun e=>h2 (by simpa using e))
theorem AIw {t:Tmp}{b:Bool}(hb:Fr.get t σ=some (.bool b)) (h1:b=true→J F C S ((t,.bool true)::σ) β Γ R) (h2:b=false→J F C S ((t,.bool false)::σ) β Γ R):J F C S σ β Γ R :=
 fun w ho hf=>AAS hb (fun e=>h1 e w ho hf) (fun e=>h2 e w ho hf)
theorem Bp {t:Tmp}{q:Prop} [Decidable q] (hb:Fr.get t σ=some (.bool (decide q))) (h1:q→J F C S ((t,.bool true)::σ) β Γ R) (h2:¬ q→J F C S ((t,.bool false)::σ) β Γ R):J F C S σ β Γ R :=
 fun w ho hf=>AAr hb (fun e=>h1 e w ho hf) (fun e=>h2 e w ho hf)
theorem ACg {t:Tmp}{q:Prop} [Decidable q] (hb:Fr.get t σ=some (.bool (!decide q))) (h1:¬ q→J F C S ((t,.bool true)::σ) β Γ R) (h2:q→J F C S ((t,.bool false)::σ) β Γ R):J F C S σ β Γ R :=
 AIw hb (fun e=>h1 (by simpa using e)) (fun e=>h2 (by simpa using e))
theorem AJI {X:Type}(hp:AAf F.B p=true) (st:X→Fr) (bl:X→List Bb) (fa:X→List Fact) (I:X→Prop) (μ:X→Nat)
  (x:X) (hx:I x) (hs:Fr.sub (st x) σ) (hb:β=bl x) (hf:∀ f∈fa x,f∈Γ)
  (round:∀ x,I x→(∀ x',μ x'<μ x→I x'→J F C (.lp (p++[0])::S) (st x') (bl x') (fa x') R)→J F C (.c (p++[0])::.lp (p++[0])::S) (st x) (bl x) (fa x) R) :
  J F C (.c p::S) σ β Γ R:=by
 intro w ho hG
 subst hb
 refine AGc (X:=X) hp st (fun x w=>I x∧Own C w (bl x)∧∀ f∈fa x,f.holds w (ok C w (bl x))) μ x ⟨hx,ho,fun f hm=>hG f (hf f hm)⟩ hs ?_
 intro x w ⟨hI,ho,hG⟩ ih
 exact round x hI (fun x' hlt hI' w' ho' hG'=>ih x' w' hlt ⟨hI',ho',hG'⟩) w ho hG
def Ej (P:Program) (C:Cx) (op:Op) (ty:TypeId) (σ:Fr) (β:List Bb) (Γ:List Fact) (K:Value→List Bb→List Fact→Prop):Prop :=
 ∀ w,Own C w β→(∀ f∈Γ,f.holds w (ok C w β))→Ex P op ty σ w fun v w'=>∃ β' Γ',K v β' Γ'∧Own C w' β'∧∀ f∈Γ',f.holds w' (ok C w' β')
theorem Ej.mono {K K':Value→List Bb→List Fact→Prop}(h:Ej P C op ty σ β Γ K) (hh:∀ v β' Γ',K v β' Γ'→K' v β' Γ'):Ej P C op ty σ β Γ K' :=
 fun w hO hG=>(h w hO hG).mono fun _ _ ⟨β',Γ',hk,h1,h2⟩=>⟨β',Γ',hh _ _ _ hk,h1,h2⟩
theorem Ab (ho:AAB F p i=some (d,op,ty)) (hx:Ej P C op ty σ β Γ fun v β' Γ'=>J F C (.o p (i+1)::S) (putF d v σ) β' Γ' R):J F C (.o p i::S) σ β Γ R :=
 fun w hO hG=>AGW ho (hx w hO hG) fun _ w' ⟨_,_,hk,h1,h2⟩=>hk w' h1 h2
theorem Bg {g:Tmp}{want:Bool}(ho:Mx F p i=some (g,want,d,op,ty)) (hb:Fr.get g σ=some (.bool want)) (hx:Ej P C op ty σ β Γ fun v β' Γ'=>J F C (.o p (i+1)::S) (putF d v σ) β' Γ' R):J F C (.o p i::S) σ β Γ R :=
 fun w hO hG=>AFH ho hb (hx w hO hG) fun _ w' ⟨_,_,hk,h1,h2⟩=>hk w' h1 h2
theorem Io.done {K:Value→List Bb→List Fact→Prop}{w:World}{v:Value}{β':List Bb}{Γ':List Fact}(hp:Io P op ty σ w v) (hk:K v β' Γ') (hO:Own C w β') (hG:∀ f∈Γ',f.holds w (ok C w β')) :
  Ex P op ty σ w fun v w'=>∃ β' Γ',K v β' Γ'∧Own C w' β'∧∀ f∈Γ',f.holds w' (ok C w' β') :=
 hp.ex.mono fun u w' ⟨h1,h2⟩=>by subst h1;subst h2;exact ⟨β',Γ',hk,hO,hG⟩
theorem Dg {K:Value→List Bb→List Fact→Prop}{v:Value}(hx:∀ w,Io P op ty σ w v) (h:K v β Γ):Ej P C op ty σ β Γ K :=
 fun w hO hG=>(hx w).ex.mono fun u w' ⟨h1,h2⟩=>by subst h1;subst h2;exact ⟨β,Γ,h,hO,hG⟩
theorem AEe {g:Tmp}{want b:Bool}(ho:Mx F p i=some (g,want,d,op,ty)) (hb:Fr.get g σ=some (.bool b)) (hne:(b == want)=false)
  (h:J F C (.o p (i+1)::S) (putF d undef σ) β Γ R):J F C (.o p i::S) σ β Γ R :=
 fun w hO hG=>Zu ho hb hne (h w hO hG)
theorem AIN {vs:List Value}(hp:Uk F.B p=true) (hr:No σ F.fn.results.toList=some vs)
  (h:∀ w,Own C w β→(∀ f∈Γ,f.holds w (ok C w β))→R (H4 vs) w) (hk:F.rnd=none:=by rfl):J F C (.c p::S) σ β Γ R :=
 fun w hO hG=>AIC hp hr (h w hO hG) hk
theorem AKo {vs:List Value}(hr:No σ F.fn.results.toList=some vs)
  (h:∀ w,Own C w β→(∀ f∈Γ,f.holds w (ok C w β))→R (H4 vs) w) (hk:F.rnd=none:=by rfl):J F C [] σ β Γ R :=
 fun w hO hG=>AHU hr (h w hO hG) hk
def Ga (C:Cx) (Q:Value→List Fact→List Bb→Prop):Value→World→Prop:=fun v w=>∃ Φ β,Q v Φ β∧Own C w β∧∀ f∈Φ,f.holds w (ok C w β)
def inB (β:List Bb) (k:Nat):Prop:=∃ x∈β,x.1=some k
def Vo (P:Program) (f:FuncId):Bool :=
 match P.funcs[f]? with
 | some fn=>fn.body.isSome && !(fn.name == "runtime.NumGoroutine")
 | none=>false
theorem Fun.plain (F:Fun P):Vo P F.f=true:=by
 simp only [Vo,F.hf,F.hb,F.hn,Option.isSome_some,Bool.not_false,Bool.and_self]
def Br (P:Program) (f:FuncId) (args:List Value) (β:List Bb) (Γ:List Fact) (Q:Value→List Fact→List Bb→Prop):Prop :=
 Vo P f=true∧∀ w A,(∀ k,A k→k<w.heap.size)→(∀ x∈β,∀ b,x.1=some b→w.heap[b]?=some (.cells x.2.2.toArray x.2.1 (0,0)))→Bc β →
  (∀ g∈Γ,g.holds w (fun k=>A k∧¬ inB β k))→Calls P f args.toArray w (Ret (Ga ⟨w,A,inB β⟩ Q))
theorem AGv {args:List Value}{β:List Bb}{Γ:List Fact}{Q:Value→List Fact→List Bb→Prop}(σ:Fr) (hl:Nat.ble args.length F.fn.ntmps=true) (hσ:∀ t v,Fr.get t σ=some v→args[t]?=some v)
  (h:∀ C,J F C [.c []] σ β Γ (Ga C Q)) (hk:F.rnd=none:=by rfl) (hd:F.dfs=[]:=by rfl):Br P F.f args β Γ Q:=⟨F.plain,fun w A hlt hb hd' hG =>
 ABo (h ⟨w,A,inB β⟩ w ⟨Keep.refl _ _,fun x hx _ hxb=>.inr ⟨x,hx,hxb⟩,hb,hd'⟩
  fun f hf=>f.stable (fun k hk=>⟨⟨.inl hk.1,hlt k hk.1,fun x hx e=>hk.2 ⟨x,hx,e⟩⟩,rfl⟩) (hG f hf)) (Nat.le_of_ble_eq_true hl) hσ hk hd⟩
def AHv:Nat→List Value→Fr
 | _,[]=>[]
 | n,v::l=>(n,v)::AHv (n+1) l
theorem AGi (l:List Value):∀ (n t:Nat) (v:Value),Fr.get t (AHv n l)=some v→n≤t∧l[t-n]?=some v:=by
 induction l with
 | nil=>intro n t v h;simp [AHv,Fr.get] at h
 | cons x l ih =>
  intro n t v h
  simp only [AHv,Fr.get] at h
  cases hb:Nat.beq n t with
  | true =>
   rw [hb] at h
   have e:n=t:=Nat.eq_of_beq_eq_true hb
   subst e
   exact ⟨Nat.le_refl _,by simpa using h⟩
  | false =>
   rw [hb] at h
   have e:n≠t:=Nat.ne_of_beq_eq_false hb
   obtain ⟨h1,h2⟩:=ih _ _ _ h
   refine ⟨by omega,?_⟩
   rw [show t-n=(t-(n+1))+1 by omega]
   simpa using h2
theorem Ad {args:List Value}{β:List Bb}{Γ:List Fact}{Q:Value→List Fact→List Bb→Prop}(hl:Nat.ble args.length F.fn.ntmps=true)
  (h:∀ C,J F C [.c []] (AHv 0 args) β Γ (Ga C Q)) (hk:F.rnd=none:=by rfl) (hd:F.dfs=[]:=by rfl):Br P F.f args β Γ Q :=
 AGv _ hl (fun t v ht=>by simpa using (AGi _ _ _ _ ht).2) h hk hd
theorem Bc.append {l l':List Bb}(h:Bc l) (h':Bc l') (hh:∀ x∈l,∀ y∈l',∀ b,x.1=some b→y.1≠some b):Bc (l++l'):=by
 induction l with
 | nil=>exact h'
 | cons x l ih =>
  refine ⟨fun y hy b hb=>?_,ih h.2 fun x hx=>hh x (.tail _ hx)⟩
  rcases List.mem_append.1 hy with hy|hy
  ·exact h.1 y hy b hb
  ·exact hh x (.head _) y hy b hb
theorem ABD {w : World} {f : FuncId} {fn : Func} {args : Array Value} (h : P.funcs[f]? = some fn) (hb : fn.body.isSome = true) (hn : (fn.name == "runtime.NumGoroutine") = false) :
  (callFunc f args).run P w = .ok (.enter f args) w:=by
 have h1 : ¬ fn.name = "runtime.NumGoroutine":=by simpa using hn
 have h2:¬ fn.body=none:=fun e=>by rw [e] at hb;simp at hb
 simp [callFunc,h,h1,h2]
def evs (σ:Fr):List Operand→Option (List Value)
 | []=>some []
 | x::l=>match ev σ x,evs σ l with
  | some v,some vs=>some (v::vs)
  | _,_=>none
theorem St {σ:Fr}{ρ:Operand→Value}(hρ:∀ x v,ev σ x=some v→ρ x=v):∀ {l:List Operand}{vs:List Value},evs σ l=some vs→l.map ρ=vs:=by
 intro l
 induction l with
 | nil=>intro vs h;simp [evs] at h;subst h;rfl
 | cons x l ih =>
  intro vs h
  simp only [evs] at h
  cases h1:ev σ x with
  | none=>rw [h1] at h;simp at h
  | some v =>
   cases h2:evs σ l with
   | none=>rw [h1,h2] at h;simp at h
   | some us =>
    rw [h1,h2] at h
    have:v::us=vs:=by simpa using h
    subst this
    simp [hρ _ _ h1,ih h2]
theorem ABs {w:World}{f:FuncId}{xs:List Operand}{ts:Array TypeId}{args:List Value}{post:Value→World→Prop}(hf:Vo P f=true)
  (hx:evs σ xs=some args) (h:Calls P f args.toArray w (Ret post)):Ex P (.call { callee:=.value (.func f),args:=xs.toArray,argTypes:=ts }) ty σ w post:=fun ρ hρ=>by
 unfold Vo at hf
 cases hp:P.funcs[f]? with
 | none=>rw [hp] at hf;simp at hf
 | some fn =>
  rw [hp] at hf
  simp at hf
  have e:=ABD (P:=P) (w:=w) (args:=args.toArray) hp hf.1 (by simpa using hf.2)
  have hr:ρ (.func f) = .func (.func f) #[] #[]:=hρ _ _ rfl
  have ha:xs.toArray.map ρ=args.toArray:=by rw [List.map_toArray,St hρ hx]
  simp only [execOp,Cp,resolve,ha,hr,Deferred.ofValue,Sem.run_bind,Sem.run_pure,Result.andThen_ok,invoke,Array.append_empty,Array.empty_append,e]
  exact h
def pick (Γ:List Fact):List Nat→Option (List Fact)
 | []=>some []
 | n::l=>match A8 Γ n,pick Γ l with
  | some f,some fs=>some (f::fs)
  | _,_=>none
theorem F5 {Γ:List Fact}:∀ {l:List Nat}{Γ':List Fact},pick Γ l=some Γ'→∀ f∈Γ',f∈Γ:=by
 intro l
 induction l with
 | nil=>intro Γ' h f hf;simp [pick] at h;subst h;cases hf
 | cons n l ih =>
  intro Γ' h f hf
  simp only [pick] at h
  cases h1:A8 Γ n with
  | none=>rw [h1] at h;simp at h
  | some g =>
   cases h2:pick Γ l with
   | none=>rw [h1,h2] at h;simp at h
   | some gs =>
    rw [h1,h2] at h
    have:g::gs=Γ':=by simpa using h
    subst this
    rcases List.mem_cons.1 hf with rfl|hf
    ·rw [B8] at h1;exact List.mem_of_getElem? h1
    ·exact ih h2 f hf
theorem AG0 {Γ':List Fact}(l:List Nat) (hp:pick Γ l=some Γ') (h:J F C S σ β Γ' R):J F C S σ β Γ R:=Ww (F5 hp) h
theorem Ai {K:Value→List Bb→List Fact→Prop}{f:FuncId}{xs:List Operand}{ts:Array TypeId}{args:List Value}{Γ':List Fact}{Q:Value→List Fact→List Bb→Prop}(l:List Nat)
  (hx:evs σ xs=some args) (hc:Br P f args [] Γ' Q) (hp:pick Γ l=some Γ')
  (h:∀ v Φ β',Q v Φ β'→K v (β'++β) (Φ++Γ)):Ej P C (.call { callee:=.value (.func f),args:=xs.toArray,argTypes:=ts }) ty σ β Γ K:=by
 intro w hO hG
 have hcall:=hc.2 w (ok C w β) (fun k hk=>hk.2.1) (fun x hx=>by cases hx) trivial (fun g hg=>g.stable (fun k hk=>⟨⟨hk,fun ⟨x,hx,_⟩=>by cases hx⟩,rfl⟩) (hG g (F5 hp g hg)))
 refine (ABs hc.1 hx hcall).mono ?_
 rintro v w' ⟨Φ,β',hQ,hO',hΦ⟩
 have hx:Ext w w':=⟨hO'.ext.os,hO'.ext.tape,hO'.ext.output,hO'.ext.size,fun k hk=>hO'.ext.block k hk (fun ⟨x,hx,_⟩=>by cases hx)⟩
 have hnew:∀ x∈β',∀ b,x.1=some b→w.heap.size≤b:=fun x hx b hb=>by
  rcases hO'.new x hx b hb with h|⟨y,hy,_⟩
  ·exact h
  ·cases hy
 have hO2:=hO.step hx
 refine ⟨_,_,h v Φ β' hQ,⟨hO2.ext,?_,?_,?_⟩,?_⟩
 ·intro x hm b hb
  rcases List.mem_append.1 hm with hm|hm
  ·exact .inl (Nat.le_trans hO.ext.size (hnew x hm b hb))
  ·exact hO.new x hm b hb
 ·intro x hm b hb
  rcases List.mem_append.1 hm with hm|hm
  ·exact hO'.blk x hm b hb
  ·exact hO2.blk x hm b hb
 ·refine hO'.apart.append hO.apart fun x hx y hy b hb e=>?_
  have h1:=hnew x hx b hb
  have h2:=hO.lt hy e
  omega
 ·intro g hg
  rcases List.mem_append.1 hg with hg|hg
  ·refine g.stable (fun k hk=>⟨⟨?_,hk.2.1,fun x hx=>?_⟩,rfl⟩) (hΦ g hg)
   ·rcases hk.1 with h1|⟨x,hx,_⟩|h1
    ·exact h1.1
    ·cases hx
    ·exact .inr (.inr (Nat.le_trans hO.ext.size h1))
   ·rcases List.mem_append.1 hx with hx|hx
    ·exact hk.2.2 x hx
    ·intro e
     have h2:=hO.lt hx e
     rcases hk.1 with h1|⟨y,hy,_⟩|h1
     ·exact h1.2.2 x hx e
     ·cases hy
     ·have:w.heap.size≤k:=h1
      omega
  ·refine g.stable (fun k hk=>⟨⟨hk.1,Nat.lt_of_lt_of_le hk.2.1 hx.size,fun x hx=>?_⟩,hx.block k hk.2.1⟩) (hG g hg)
   rcases List.mem_append.1 hx with hx|hx
   ·intro e
    have h1:=hnew x hx k e
    have:=hk.2.1
    omega
   ·exact hk.2.2 x hx
theorem E4 {vs:List Value}{Q:Value→List Fact→List Bb→Prop}{Φ:List Fact}(l:List Nat) (hp:Uk F.B p=true) (hr:No σ F.fn.results.toList=some vs) (hl:pick Γ l=some Φ)
  (h:Q (H4 vs) Φ β) (hk:F.rnd=none:=by rfl):J F C (.c p::S) σ β Γ (Ga C Q) :=
 AIN (hk:=hk) hp hr fun _ hO hG=>⟨Φ,β,h,hO,fun f hf=>hG f (F5 hl f hf)⟩
theorem Cj {vs:List Value}{Q:Value→List Fact→List Bb→Prop}{Φ:List Fact}(l:List Nat) (hr:No σ F.fn.results.toList=some vs) (hl:pick Γ l=some Φ)
  (h:Q (H4 vs) Φ β) (hk:F.rnd=none:=by rfl):J F C [] σ β Γ (Ga C Q) :=
 AKo (hk:=hk) hr fun _ hO hG=>⟨Φ,β,h,hO,fun f hf=>hG f (F5 hl f hf)⟩
theorem AKl {σ':Fr}{β':List Bb}{Γ':List Fact}(l:List Nat) (hs:Fr.sub σ' σ) (hb:β'=β) (hp:pick Γ l=some Γ') (h:J F C S σ' β' Γ' R):J F C S σ β Γ R:=by
 subst hb
 exact Xt hs (AG0 l hp h)
end
def Fg (w:World) (b o n:Nat) (vs:List Value):Prop:=∃ cs T fr,w.heap[b]?=some (.cells cs T fr)∧(cs.toList.drop o).take n=vs∧vs.length=n
theorem Fg.rangeAt {w:World}{b o n:Nat}{vs:List Value}(h:Fg w b o n vs):w.rangeAt b o vs:=by
 obtain ⟨cs,T,fr,h1,h2,h3⟩:=h
 intro j v hv
 have hj:j<vs.length:=by
  rcases Nat.lt_or_ge j vs.length with h|h
  ·exact h
  ·simp [List.getElem?_eq_none h] at hv
 subst h2
 simp only [List.getElem?_take,List.getElem?_drop] at hv
 rw [if_pos (by omega)] at hv
 simp [World.cell?,h1]
 simpa using hv
theorem Fg.same {w w':World}{b o n:Nat}{vs:List Value}(h:Fg w b o n vs) (hb:w'.heap[b]?=w.heap[b]?):Fg w' b o n vs:=by
 obtain ⟨cs,T,fr,h1,h2⟩:=h
 exact ⟨cs,T,fr,hb.trans h1,h2⟩
theorem Fg.cell {w:World}{b o:Nat}{v:Value}(h:Fg w b o 1 [v]):w.cell? ⟨b,o,none⟩=some v:=by
 simpa using h.rangeAt 0 v rfl
structure Enc (α:Type) where
 size:Nat
 bytes:Nat
 rd:World→(Nat→Prop)→List Value→α→Prop
 len:∀ {w:World}{A:Nat→Prop}{vs:List Value}{x:α},rd w A vs x→vs.length=size
 one:∀ {w:World}{A:Nat→Prop}{vs:List Value}{x:α},rd w A vs x→∀ v∈vs,v.oneCell'=true
 stable:∀ {w w':World}{A A':Nat→Prop}{vs:List Value}{x:α},(∀ k,A k→A' k∧w'.heap[k]?=w.heap[k]?)→rd w A vs x→rd w' A' vs x
def N6 {α:Type}(E:Enc α) (w:World) (A:Nat→Prop) (pa:Option Addr) (ca:Nat) (l:List α):Prop :=
 l.length≤ca∧l.length*E.bytes≤140737488355328 ∧
  (l=[]∨∃ b o,pa=some ⟨b,o,none⟩∧A b∧∀ i x,l[i]?=some x→∃ vs,Fg w b (o+i*E.size) E.size vs∧E.rd w A vs x)
theorem N6.stable {α:Type}{E:Enc α}{w w':World}{A A':Nat→Prop}{pa:Option Addr}{ca:Nat}{l:List α}(h:∀ k,A k→A' k∧w'.heap[k]?=w.heap[k]?) (hs:N6 E w A pa ca l):N6 E w' A' pa ca l:=by
 refine ⟨hs.1,hs.2.1,?_⟩
 rcases hs.2.2 with h0|⟨b,o,e,hb,hx⟩
 ·exact .inl h0
 ·refine .inr ⟨b,o,e,(h b hb).1,fun i x hi=>?_⟩
  obtain ⟨vs,h1,h2⟩:=hx i x hi
  exact ⟨vs,h1.same (h b hb).2,E.stable h h2⟩
def Bf:IntKind→Int→Prop
 | .i8,n=>-128≤n∧n≤127
 | .i16,n=>-32768≤n∧n≤32767
 | .i32,n=>-2147483648≤n∧n≤2147483647
 | .i64,n=>-9223372036854775808≤n∧n≤9223372036854775807
 | .u8,n=>0≤n∧n≤255
 | .u16,n=>0≤n∧n≤65535
 | .u32,n=>0≤n∧n≤4294967295
 | .u64,n=>0≤n∧n≤18446744073709551615
theorem Lc {k:IntKind}{n:Int}(h:Bf k n):k.wrap n=n:=by
 cases k <;> simp only [Bf] at h <;> simp [IntKind.wrap,IntKind.bits,IntKind.signed] <;> omega
def Ca (k:IntKind) (bytes:Nat):Enc Int where
 size:=1
 bytes:=bytes
 rd:=fun _ _ vs n=>vs=[.int k n]∧Bf k n
 len:=fun h=>by rw [h.1];rfl
 one:=fun h v hv=>by rw [h.1] at hv;obtain rfl:=List.mem_singleton.1 hv;rfl
 stable:=fun _ h=>h
def AG5 (k:IntKind) (bytes:Nat):Enc Nat where
 size:=1
 bytes:=bytes
 rd:=fun _ _ vs n=>vs=[.int k n]∧Bf k n
 len:=fun h=>by rw [h.1];rfl
 one:=fun h v hv=>by rw [h.1] at hv;obtain rfl:=List.mem_singleton.1 hv;rfl
 stable:=fun _ h=>h
def AB6:Enc Bool where
 size:=1
 bytes:=1
 rd:=fun _ _ vs b=>vs=[.bool b]
 len:=fun h=>by rw [h];rfl
 one:=fun h v hv=>by rw [h] at hv;obtain rfl:=List.mem_singleton.1 hv;rfl
 stable:=fun _ h=>h
def Ar {α:Type}(E:Enc α):Enc (List α) where
 size:=1
 bytes:=24
 rd:=fun w A vs l=>∃ pa ca,vs=[.slice pa l.length ca]∧N6 E w A pa ca l
 len:=fun ⟨_,_,h,_⟩=>by rw [h];rfl
 one:=fun ⟨_,_,h,_⟩ v hv=>by rw [h] at hv;obtain rfl:=List.mem_singleton.1 hv;rfl
 stable:=fun h ⟨pa,ca,h1,h2⟩=>⟨pa,ca,h1,h2.stable h⟩
def C7 {α β:Type}(E:Enc α) (F:Enc β) (bytes:Nat):Enc (α×β) where
 size:=E.size+F.size
 bytes:=bytes
 rd:=fun w A vs x=>∃ v1 v2,vs=v1++v2∧E.rd w A v1 x.1∧F.rd w A v2 x.2
 len:=fun ⟨_,_,h,h1,h2⟩=>by rw [h,List.length_append,E.len h1,F.len h2]
 one:=fun ⟨_,_,h,h1,h2⟩ v hv=>by
  rw [h] at hv
  rcases List.mem_append.1 hv with hv|hv
  ·exact E.one h1 v hv
  ·exact F.one h2 v hv
 stable:=fun h ⟨v1,v2,e,h1,h2⟩=>⟨v1,v2,e,E.stable h h1,F.stable h h2⟩
abbrev U32:Enc Nat:=AG5 .u32 4
abbrev Ak:Enc Int:=Ca .i64 8
abbrev ALt:Enc (List Nat):=Ar U32
def vF {α:Type}(E:Enc α) (vs:List Value) (x:α):Fact where
 holds:=fun w A=>E.rd w A vs x
 stable:=fun h=>E.stable h
def A2 {α:Type}(E:Enc α) (pa:Option Addr) (n ca:Nat) (l:List α):Fact where
 holds:=fun w A=>n=l.length∧N6 E w A pa ca l
 stable:=fun h hs=>⟨hs.1,N6.stable h hs.2⟩
def ptF {α:Type}(E:Enc α) (b o:Nat) (x:α):Fact where
 holds:=fun w A=>A b∧∃ vs,Fg w b o E.size vs∧E.rd w A vs x
 stable:=fun h ⟨hb,vs,h1,h2⟩=>⟨(h _ hb).1,vs,h1.same (h _ hb).2,E.stable h h2⟩
theorem Wl {α:Type}(E:Enc α) (w:World) (A:Nat→Prop) (pa:Option Addr) (ca:Nat):(A2 E pa 0 ca []).holds w A:=⟨rfl,Nat.zero_le _,by simp,.inl rfl⟩
section
variable {P:Program}{F:Fun P}{C:Cx}{S:List It}{σ:Fr}{β:List Bb}{Γ:List Fact}{R:Value→World→Prop}{p:List Nat}{i:Nat}{d:Option Tmp}{op:Op}{ty:TypeId}
theorem Al {n:Nat}{f:Fact}(h:A8 Γ n=some f):f∈Γ:=by rw [B8] at h;exact List.mem_of_getElem? h
theorem Jh (f:Fact) (hf:∀ w A,(∀ g∈Γ,g.holds w A)→f.holds w A) (h:J F C S σ β (f::Γ) R):J F C S σ β Γ R :=
 fun w hO hG=>h w hO fun g hg=>by
  rcases List.mem_cons.1 hg with rfl|hg
  ·exact hf _ _ hG
  ·exact hG g hg
theorem Zp {q:Prop}(hq:∀ w A,(∀ g∈Γ,g.holds w A)→q) (h:q→J F C S σ β Γ R):J F C S σ β Γ R :=
 fun w hO hG=>h (hq _ _ hG) w hO hG
theorem Bd {α:Type}{E:Enc α}{pa:Option Addr}{m ca:Nat}{l:List α}(n:Nat) (hn:A8 Γ n=some (A2 E pa m ca l)) (h:m=l.length→l.length*E.bytes≤140737488355328→l.length≤ca→J F C S σ β Γ R):J F C S σ β Γ R :=
 fun w hO hG=>h (hG _ (Al hn)).1 (hG _ (Al hn)).2.2.1 (hG _ (Al hn)).2.1 w hO hG
def Ek (P:Program) (t:TypeId):Option (TypeId×Nat) :=
 match P.underlying t with
 | some (.slice e)=>match P.info? e with
  | some i=>some (e,i.size)
  | none=>none
 | _=>none
theorem Ct {t e:TypeId}{n:Nat}(h:Ek P t=some (e,n)):P.underlying t=some (.slice e)∧∃ i,P.info? e=some i∧i.size=n:=by
 unfold Ek at h
 split at h
 ·rename_i e' hu
  split at h
  ·rename_i i hi
   simp only [Option.some.injEq,Prod.mk.injEq] at h
   obtain ⟨rfl,rfl⟩:=h
   exact ⟨hu,i,hi,rfl⟩
  ·simp at h
 ·simp at h
theorem Wt {w:World}{t e:TypeId}{n k len cap:Nat}{kd:IntKind}{b o:Nat}(h:Ek P t=some (e,n)) (hk:k<len) :
  (Instr.indexAt t (.slice (some ⟨b,o,none⟩) len cap) (.int kd k)).run P w = .ok (.pointer (some ⟨b,o+k*n,none⟩)) w:=by
 obtain ⟨h1,i,h2,h3⟩:=Ct h
 simp [Instr.indexAt,asIntOf,run_underlying h1,sizeOf,typeInfo,h2,h3,hk,Addr.add_mid]
theorem AC9 {w:World}{t e:TypeId}{n k len cap:Nat}{kd:IntKind}{b o:Nat}{x y:Operand}{m:Int}(h:Ek P t=some (e,n)) (hx:ev σ x=some (.slice (some ⟨b,o,none⟩) len cap)) (hy:ev σ y=some (.int kd m)) (hm:m=(k:Int)) (hk:k<len) :
  Io P (.indexAddr t x y) ty σ w (.pointer (some ⟨b,o+k*n,none⟩)):=fun ρ hρ=>by
 subst hm
 simp only [execOp,Cp,hρ _ _ hx,hρ _ _ hy,Sem.run_bind,Wt (P:=P) h hk,Result.andThen_ok,Sem.run_pure]
theorem E0 {K:Value→List Bb→List Fact→Prop}{α:Type}{E:Enc α}{t e:TypeId}{kd:IntKind}{x y:Operand}{pa:Option Addr}{len ca:Nat}{l:List α}{m:Int}(n k:Nat)
  (hx:ev σ x=some (.slice pa len ca)) (hy:ev σ y=some (.int kd m))
  (hn:A8 Γ n=some (A2 E pa len ca l)) (hT:Ek P t=some (e,E.size)) (hm:m=(k:Int)) (hk:k<len)
  (h:∀ z,l[k]?=some z→∀ b o,K (.pointer (some ⟨b,o,none⟩)) β (ptF E b o z::Γ)):Ej P C (.indexAddr t x y) ty σ β Γ K:=by
 intro w hO hG
 obtain ⟨rfl,_,_,hs⟩:=hG _ (Al hn)
 rcases hs with rfl|⟨b,o,rfl,hb,hel⟩
 ·simp at hk
 ·obtain ⟨z,hz⟩:∃ z,l[k]?=some z:=⟨l[k],by simp [hk]⟩
  obtain ⟨vs,h1,h2⟩:=hel k z hz
  exact Io.done (AC9 hT hx hy hm hk) (h z hz b (o+k*E.size)) hO (fun g hg=>by
   rcases List.mem_cons.1 hg with rfl|hg
   ·exact ⟨hb,vs,h1,h2⟩
   ·exact hG g hg)
def De (P:Program) (t:TypeId):Option (Bool×Nat) :=
 match P.underlying t,P.info? t with
 | some (.struct _),some i=>some (true,i.size)
 | some (.array _ _),some i=>some (true,i.size)
 | some _,some i=>some (false,i.size)
 | _,_=>none
theorem Wp {w:World}{t:TypeId}{n b o:Nat}{v:Value}(h:De P t=some (false,n)) (hc:w.cell? ⟨b,o,none⟩=some v) :
  (Instr.loadAt t (.pointer (some ⟨b,o,none⟩))).run P w = .ok v w:=by
 unfold De at h
 cases hu:P.underlying t with
 | none=>rw [hu] at h;simp at h
 | some dd =>
  have hagg:(isAgg t).run P w = .ok false w:=by
   unfold isAgg
   rw [Sem.run_bind,run_underlying hu w]
   rw [hu] at h
   cases hi:P.info? t with
   | none=>rw [hi] at h;cases dd <;> simp at h
   | some i=>rw [hi] at h;cases dd <;> simp_all
  simp [Instr.loadAt,Instr.sureAddr,loadVar,hagg,hc]
theorem V7 {w:World}{t:TypeId}{n b o:Nat}{vs:List Value}(h:De P t=some (true,n)) (hl:vs.length=n) (hc:w.rangeAt b o vs) :
  (Instr.loadAt t (.pointer (some ⟨b,o,none⟩))).run P w = .ok (.agg vs.toArray) w:=by
 unfold De at h
 cases hu:P.underlying t with
 | none=>rw [hu] at h;simp at h
 | some dd =>
  rw [hu] at h
  cases hi:P.info? t with
  | none=>rw [hi] at h;cases dd <;> simp at h
  | some i =>
   rw [hi] at h
   refine run_loadAt_mid w b o t vs dd hc hu ?_ ?_
   ·cases dd <;> simp_all
   ·cases dd <;> simp_all
theorem Fq {w:World}{t:TypeId}{n b o:Nat}{v:Value}{x:Operand}(hT:De P t=some (false,n)) (hx:ev σ x=some (.pointer (some ⟨b,o,none⟩))) (hc:w.cell? ⟨b,o,none⟩=some v) :
  Io P (.load t x) ty σ w v:=fun ρ hρ=>by
 simp only [execOp,Cp,hρ _ _ hx,Sem.run_bind,Wp (P:=P) hT hc,Result.andThen_ok,Sem.run_pure]
theorem Ge {w:World}{t:TypeId}{n b o:Nat}{vs:List Value}{x:Operand}(hT:De P t=some (true,n)) (hl:vs.length=n) (hx:ev σ x=some (.pointer (some ⟨b,o,none⟩))) (hc:w.rangeAt b o vs) :
  Io P (.load t x) ty σ w (.agg vs.toArray):=fun ρ hρ=>by
 simp only [execOp,Cp,hρ _ _ hx,Sem.run_bind,V7 (P:=P) hT hl hc,Result.andThen_ok,Sem.run_pure]
theorem AC1 {K:Value→List Bb→List Fact→Prop}{t:TypeId}{kd:IntKind}{by' b o z:Nat}{x:Operand}(n:Nat) (hx:ev σ x=some (.pointer (some ⟨b,o,none⟩)))
  (hn:A8 Γ n=some (ptF (AG5 kd by') b o z)) (hT:De P t=some (false,1)) (h:Bf kd z→K (.int kd z) β Γ):Ej P C (.load t x) ty σ β Γ K:=by
 intro w hO hG
 obtain ⟨hb,vs,h1,rfl,hz⟩:=hG _ (Al hn)
 exact Io.done (Fq hT hx h1.cell) (h hz) hO (hG)
theorem Aj {K:Value→List Bb→List Fact→Prop}{t:TypeId}{kd:IntKind}{by' b o:Nat}{z:Int}{x:Operand}(n:Nat) (hx:ev σ x=some (.pointer (some ⟨b,o,none⟩)))
  (hn:A8 Γ n=some (ptF (Ca kd by') b o z)) (hT:De P t=some (false,1)) (h:Bf kd z→K (.int kd z) β Γ):Ej P C (.load t x) ty σ β Γ K:=by
 intro w hO hG
 obtain ⟨hb,vs,h1,rfl,hz⟩:=hG _ (Al hn)
 exact Io.done (Fq hT hx h1.cell) (h hz) hO (hG)
theorem AAT {K:Value→List Bb→List Fact→Prop}{t:TypeId}{b o:Nat}{z:Bool}{x:Operand}(n:Nat) (hx:ev σ x=some (.pointer (some ⟨b,o,none⟩)))
  (hn:A8 Γ n=some (ptF AB6 b o z)) (hT:De P t=some (false,1)) (h:K (.bool z) β Γ):Ej P C (.load t x) ty σ β Γ K:=by
 intro w hO hG
 obtain ⟨hb,vs,h1,h2⟩:=hG _ (Al hn)
 have:vs=[.bool z]:=h2
 subst this
 exact Io.done (Fq hT hx h1.cell) (h) hO (hG)
theorem Jz {K:Value→List Bb→List Fact→Prop}{α:Type}{E:Enc α}{t:TypeId}{b o:Nat}{l:List α}{x:Operand}(n:Nat) (hx:ev σ x=some (.pointer (some ⟨b,o,none⟩)))
  (hn:A8 Γ n=some (ptF (Ar E) b o l)) (hT:De P t=some (false,1)) (h:∀ pa ca,K (.slice pa l.length ca) β (A2 E pa l.length ca l::Γ)):Ej P C (.load t x) ty σ β Γ K:=by
 intro w hO hG
 obtain ⟨hb,vs,h1,pa,ca,rfl,hs⟩:=hG _ (Al hn)
 exact Io.done (Fq hT hx h1.cell) (h pa ca) hO (fun g hg=>by
   rcases List.mem_cons.1 hg with rfl|hg
   ·exact ⟨rfl,hs⟩
   ·exact hG g hg)
theorem AG7 {K:Value→List Bb→List Fact→Prop}{α:Type}{E:Enc α}{t:TypeId}{b o:Nat}{z:α}{x:Operand}(n:Nat) (hx:ev σ x=some (.pointer (some ⟨b,o,none⟩)))
  (hn:A8 Γ n=some (ptF E b o z)) (hT:De P t=some (true,E.size)) (h:∀ vs,K (.agg vs.toArray) β (vF E vs z::Γ)):Ej P C (.load t x) ty σ β Γ K:=by
 intro w hO hG
 obtain ⟨hb,vs,h1,hs⟩:=hG _ (Al hn)
 exact Io.done (Ge hT (E.len hs) hx h1.rangeAt) (h vs) hO (fun g hg=>by
   rcases List.mem_cons.1 hg with rfl|hg
   ·exact hs
   ·exact hG g hg)
def Ht (P:Program) (t:TypeId) (j:Nat):Option Nat :=
 match P.underlying t with
 | some (.struct fields)=>match A8 fields.toList j with
  | some f=>match P.info? f.type with
   | some i=>match Nat.beq i.size 0 with
    | true=>none
    | false=>some f.offset
   | none=>none
  | none=>none
 | _=>none
theorem Wv {w:World}{t:TypeId}{j off b o:Nat}(h:Ht P t j=some off) :
  (Instr.fieldAt t (.pointer (some ⟨b,o,none⟩)) j).run P w = .ok (.pointer (some ⟨b,o+off,none⟩)) w:=by
 unfold Ht at h
 split at h
 ·rename_i fields hu
  split at h
  ·rename_i f hf
   split at h
   ·rename_i ii hi
    cases hb:Nat.beq ii.size 0 with
    | true=>rw [hb] at h;simp at h
    | false =>
     rw [hb] at h
     obtain rfl:=Option.some.inj h
     have hne:ii.size≠0:=Nat.ne_of_beq_eq_false hb
     rw [B8] at hf
     have hf':fields[j]?=some f:=by simpa using hf
     simp [Instr.fieldAt,run_underlying hu,hf',Instr.sureAddr,fieldPlace,sizeOf,typeInfo,hi,hne,Addr.add_mid]
   ·simp at h
  ·simp at h
 ·simp at h
theorem ADD {w:World}{t:TypeId}{j off b o:Nat}{x:Operand}(hT:Ht P t j=some off) (hx:ev σ x=some (.pointer (some ⟨b,o,none⟩))) :
  Io P (.fieldAddr t x j) ty σ w (.pointer (some ⟨b,o+off,none⟩)):=fun ρ hρ=>by
 simp only [execOp,Cp,hρ _ _ hx,Sem.run_bind,Wv (P:=P) hT,Result.andThen_ok,Sem.run_pure]
theorem A3 {K:Value→List Bb→List Fact→Prop}{t:TypeId}{j off b o:Nat}{x:Operand}(hx:ev σ x=some (.pointer (some ⟨b,o,none⟩))) (hT:Ht P t j=some off)
  (h:K (.pointer (some ⟨b,o+off,none⟩)) β Γ):Ej P C (.fieldAddr t x j) ty σ β Γ K :=
 Dg (fun _=>ADD hT hx) h
end
def C8:Value→List Value
 | .agg cs=>cs.toList
 | v=>[v]
theorem Dr (v:Value):v.cells.toList=C8 v:=by cases v <;> rfl
theorem ABh {w:World}{b o:Nat}{v:Value}{cs:Array Value}{T:TypeId}{fr:Nat×Nat}(h:w.heap[b]?=some (.cells cs T fr)) :
  (w.setCell ⟨b,o,none⟩ v).heap[b]?=some (.cells (cs.setIfInBounds o v) T fr):=by
 simp [World.setCell,Array.getElem?_modify,h]
theorem AAz {w:World}{b o k:Nat}{v:Value}(h:k≠b):(w.setCell ⟨b,o,none⟩ v).heap[k]?=w.heap[k]?:=by
 have:¬ b=k:=fun e=>h e.symm
 simp [World.setCell,Array.getElem?_modify,this]
def Dq (cs:List Value) (o:Nat) (vs:List Value):List Value:=cs.take o++vs++cs.drop (o+vs.length)
theorem Se (cs:List Value) (o:Nat) (v:Value) (vs:List Value) (h:o<cs.length):Dq (cs.set o v) (o+1) vs=Dq cs o (v::vs):=by
 unfold Dq
 rw [List.drop_set_of_lt (by omega)]
 have:(cs.set o v).take (o+1)=cs.take o++[v]:=by
  rw [List.take_succ_eq_append_getElem (by simpa using h)]
  simp [List.take_set_of_le]
 rw [this]
 simp [Nat.add_comm,Nat.add_left_comm]
theorem Ur {b:Nat}{T:TypeId}{fr:Nat×Nat}:∀ (vs:List Value) (o:Nat) (w:World) (cs:List Value),w.heap[b]?=some (.cells cs.toArray T fr)→o+vs.length≤cs.length →
  (w.setCells b o vs).heap[b]?=some (.cells (Dq cs o vs).toArray T fr)
 | [],o,w,cs,h,_=>by simp [World.setCells,Dq,h]
 | v::vs,o,w,cs,h,hl=>by
  simp only [List.length_cons] at hl
  have h1:=ABh (o:=o) (v:=v) h
  rw [List.setIfInBounds_toArray] at h1
  rw [World.setCells,Ur vs (o+1) _ (cs.set o v) h1 (by simp;omega),Se _ _ _ _ (by omega)]
theorem Me {b k:Nat}(hk:k≠b):∀ (vs:List Value) (o:Nat) (w:World),(w.setCells b o vs).heap[k]?=w.heap[k]?
 | [],_,_=>rfl
 | v::vs,o,w=>by rw [World.setCells,Me hk vs,AAz hk]
theorem Uq {b:Nat}:∀ (vs:List Value) (o:Nat) (w:World),(w.setCells b o vs).os=w.os∧(w.setCells b o vs).tape=w.tape∧(w.setCells b o vs).output=w.output∧(w.setCells b o vs).heap.size=w.heap.size
 | [],_,_=>⟨rfl,rfl,rfl,rfl⟩
 | v::vs,o,w=>by
  obtain ⟨h1,h2,h3,h4⟩:=Uq (b:=b) vs (o+1) (w.setCell ⟨b,o,none⟩ v)
  exact ⟨h1,h2,h3,h4.trans (by simp)⟩
section
variable {P:Program}{F:Fun P}{C:Cx}{S:List It}{σ:Fr}{β:List Bb}{Γ:List Fact}{R:Value→World→Prop}{p:List Nat}{i:Nat}{d:Option Tmp}{op:Op}{ty:TypeId}{K:Value→List Bb→List Fact→Prop}
theorem ACo {T:TypeId}{cs:List Value}{f:Nat→Value}(hr:∀ ρ:Operand→Value,(∀ x v,ev σ x=some v→ρ x=v)→∀ w,∃ v,(execOp ρ (Cp op ty)).run P w = .ok (.value v) (w.alloc (.cells cs.toArray T))∧v=f w.heap.size)
  (h:∀ b,K (f b) ((some b,T,cs)::β) Γ):Ej P C op ty σ β Γ K:=fun w hO hG ρ hρ=>by
 obtain ⟨v,hv,e⟩:=hr ρ hρ w
 rw [hv]
 exact ⟨_,Γ,by rw [e];exact h _,hO.push T cs,Yu hG⟩
theorem AIU {T:TypeId}{x:Operand}{v:Value}{cs:List Value}(hx:ev σ x=some v) (hc:C8 v=cs)
  (h:∀ b,K (.pointer (some ⟨b,0,none⟩)) ((some b,T,cs)::β) Γ):Ej P C (.box T x) ty σ β Γ K :=
 ACo (f:=fun b=>.pointer (some ⟨b,0,none⟩)) (fun ρ hρ w=>by
  have e:v.cells=cs.toArray:=by rw [← hc,← Dr]
  refine ⟨.pointer (some ⟨w.heap.size,0,none⟩),?_,rfl⟩
  simp [execOp,Cp,hρ _ _ hx,Instr.box,newVar,newRow,e]) h
def C0 (P:Program) (t:TypeId):Option (List Value) :=
 match P.info? t with
 | some i=>i.zero.map C8
 | none=>none
theorem Fx {t:TypeId}{cs:List Value}(h:C0 P t=some cs):∃ i z,P.info? t=some i∧i.zero=some z∧C8 z=cs:=by
 unfold C0 at h
 cases hi:P.info? t with
 | none=>rw [hi] at h;simp at h
 | some i =>
  rw [hi] at h
  cases hz:i.zero with
  | none=>simp [hz] at h
  | some z=>exact ⟨i,z,rfl,hz,by simpa [hz] using h⟩
theorem T9 {w:World}{t:TypeId}{i:TypeInfo}{z:Value}(hi:P.info? t=some i) (hz:i.zero=some z):(zeroValue t).run P w = .ok z w:=by
 simp [zeroValue,typeInfo,hi,hz]
theorem Qh {T:TypeId}{cs:List Value}(hT:C0 P T=some cs) (h:∀ b,K (.pointer (some ⟨b,0,none⟩)) ((some b,T,cs)::β) Γ):Ej P C (.alloc T) ty σ β Γ K :=
 ACo (f:=fun b=>.pointer (some ⟨b,0,none⟩)) (fun ρ hρ w=>by
  obtain ⟨i,z,hi,hz,hc⟩:=Fx hT
  have e:z.cells=cs.toArray:=by rw [← hc,← Dr]
  refine ⟨.pointer (some ⟨w.heap.size,0,none⟩),?_,rfl⟩
  simp [execOp,Cp,Instr.alloc,T9 hi hz,newVar,newRow,e]) h
theorem Py {w:World}{n b o:Nat}{T:TypeId}{cs:List Value}{v:Value}(hO:Own C w β) (hn:A8 β n=some (some b,T,cs)) (hv:cs[o]?=some v):w.cell? ⟨b,o,none⟩=some v:=by
 have:=hO.blk _ (B1 hn) b rfl
 simp [World.cell?,this,hv]
theorem Dt {t:TypeId}{x:Operand}{b o:Nat}{T:TypeId}{cs:List Value}{v:Value}(n:Nat) (hx:ev σ x=some (.pointer (some ⟨b,o,none⟩))) (hn:A8 β n=some (some b,T,cs))
  (hT:De P t=some (false,1)) (hv:cs[o]?=some v) (h:K v β Γ):Ej P C (.load t x) ty σ β Γ K:=fun _ hO hG =>
 Io.done (Fq hT hx (Py hO hn hv)) h hO hG
theorem AA2 {t:TypeId}{x:Operand}{b o m:Nat}{T:TypeId}{cs vs:List Value}(n:Nat) (hx:ev σ x=some (.pointer (some ⟨b,o,none⟩))) (hn:A8 β n=some (some b,T,cs))
  (hT:De P t=some (true,m)) (hv:(cs.drop o).take m=vs) (hl:vs.length=m) (h:K (.agg vs.toArray) β Γ):Ej P C (.load t x) ty σ β Γ K:=fun w hO hG=>by
 have hb:=hO.blk _ (B1 hn) b rfl
 exact Io.done (Ge hT hl hx (Fg.rangeAt ⟨cs.toArray,T,(0,0),hb,hv,hl⟩)) h hO hG
theorem AFc {w:World}{n b o m:Nat}{T:TypeId}{cs:List Value}(hO:Own C w β) (hn:A8 β n=some (some b,T,cs)) (hm:o+m≤cs.length):w.there b o m:=by
 intro j hj
 have hb:=hO.blk _ (B1 hn) b rfl
 refine ⟨?_,?_⟩
 ·have:o+j<cs.length:=by omega
  simp [World.cell?,hb,this]
 ·simp [World.frozen?,hb]
theorem W8 {w:World}{t:TypeId}{b o:Nat}{v:Value}{vs:List Value}{fl:Bool}(hT:De P t=some (fl,vs.length)) (hv:C8 v=vs) (h1:∀ u∈vs,u.oneCell'=true) (ht:w.there b o vs.length) :
  (Instr.storeAt t (.pointer (some ⟨b,o,none⟩)) v).run P w = .ok () (w.setCells b o vs):=by
 have hc:v.cells.toList=vs:=by rw [Dr,hv]
 have hs:v.cells.size=vs.length:=by rw [← Array.length_toList,hc]
 obtain ⟨i,hi,hsz⟩:∃ i,P.info? t=some i∧i.size=vs.length:=by
  unfold De at hT
  cases hu:P.underlying t with
  | none=>rw [hu] at hT;simp at hT
  | some dd =>
   cases hi:P.info? t with
   | none=>rw [hu,hi] at hT;cases dd <;> simp at hT
   | some i =>
    refine ⟨i,rfl,?_⟩
    rw [hu,hi] at hT
    cases dd <;> simp_all
 have:=run_storeCells_cells (P:=P) b o vs 0 w (fun j hj=>by simpa using (ht j hj).1) (fun j hj=>by simpa using (ht j hj).2) h1
 simp only [Nat.add_zero] at this
 simp [Instr.storeAt,Instr.sureAddr,storeVar,sizeOf,typeInfo,hi,hsz,hs,hc,this]
theorem AEm {t:TypeId}{x y:Operand}{b o:Nat}{T:TypeId}{cs vs cs':List Value}{v:Value}{fl:Bool}(n:Nat) (hx:ev σ x=some (.pointer (some ⟨b,o,none⟩))) (hy:ev σ y=some v) (hn:A8 β n=some (some b,T,cs))
  (hv:C8 v=vs) (hT:De P t=some (fl,vs.length)) (h1:∀ u∈vs,u.oneCell'=true) (hm:o+vs.length≤cs.length) (hc:Dq cs o vs=cs') (h:K undef (setB β n cs') Γ) :
  Ej P C (.store t x y) ty σ β Γ K:=fun w hO hG ρ hρ=>by
 have hst:=W8 (P:=P) hT hv h1 (AFc hO hn hm)
 have e:(execOp ρ (Cp (.store t x y) ty)).run P w = .ok .skip (w.setCells b o vs):=by
  simp only [execOp,Cp,hρ _ _ hx,hρ _ _ hy,Sem.run_bind,hst,Result.andThen_ok,Sem.run_pure]
 rw [e]
 have hb:=Ur (fr:=(0,0)) vs o w cs (hO.blk _ (B1 hn) b rfl) hm
 rw [hc] at hb
 obtain ⟨r1,r2,r3,r4⟩:=Uq (b:=b) vs o w
 exact ⟨_,Γ,h,hO.set hn r1 r2 r3 r4 hb (fun k hk=>Me hk vs o w),AFm hn r4 (fun k hk=>Me hk vs o w) hG⟩
theorem Qd {t:TypeId}{x y:Operand}{b o:Nat}{T:TypeId}{cs:List Value}{v:Value}(n:Nat) (hx:ev σ x=some (.pointer (some ⟨b,o,none⟩))) (hy:ev σ y=some v) (hn:A8 β n=some (some b,T,cs))
  (hv:C8 v=[v]) (hT:De P t=some (false,1)) (h1:v.oneCell'=true) (hm:o<cs.length) (h:K undef (setB β n (cs.set o v)) Γ) :
  Ej P C (.store t x y) ty σ β Γ K :=
 AEm n hx hy hn hv hT (fun u hu=>by obtain rfl:=List.mem_singleton.1 hu;exact h1) (by show o+1≤cs.length;omega)
  (by rw [← Se cs o v [] hm];simp [Dq]) h
theorem Ah {t e:TypeId}{m':Nat}{x y:Operand}{b len ca:Nat}{kd:IntKind}{m:Int}(k o:Nat) (hx:ev σ x=some (.slice (some ⟨b,0,none⟩) len ca)) (hy:ev σ y=some (.int kd m)) (hT:Ek P t=some (e,m'))
  (hm:m=(k:Int)) (hk:k<len) (ho:k*m'=o) (h:K (.pointer (some ⟨b,o,none⟩)) β Γ):Ej P C (.indexAddr t x y) ty σ β Γ K :=
 Dg (fun _=>by
  have:=AC9 (P:=P) (ty:=ty) (w:=‹World›) (o:=0) hT hx hy hm hk
  rw [Nat.zero_add,ho] at this
  exact this) h
theorem Iu (zs:List Value) (hp:zs.length≠0):∀ k:Nat,(madeCells zs.toArray (k*zs.length)).toList=(List.replicate k zs).flatten:=by
 intro k
 induction k with
 | zero=>simp [madeCells]
 | succ k ih =>
  have e:(madeCells zs.toArray ((k+1)*zs.length)).toList=(madeCells zs.toArray (k*zs.length)).toList++zs:=by
   simp only [madeCells,Array.toList_map,Array.toList_range,List.size_toArray,Nat.succ_mul,List.range_add,List.map_append,List.map_map]
   congr 1
   refine List.ext_getElem (by simp) fun j h1 h2=>?_
   simp [Nat.mod_eq_of_lt h2,h2]
  rw [e,ih,List.replicate_succ']
  simp
theorem ADC {t e:TypeId}{m:Nat}{x y:Operand}{kd kc:IntKind}{nn:Int}{zs:List Value}(k by':Nat) (hx:ev σ x=some (.int kd nn)) (hy:ev σ y=some (.int kc nn)) (hT:Ek P t=some (e,m))
  (hz:C0 P e=some zs) (hl:zs.length=m) (hp:Nat.beq m 0=false) (hby:P.bytesOf e=by') (hm:nn=(k:Int)) (hk:by'*k≤281474976710656) (h63:k≤9223372036854775807)
  (h:∀ b,K (.slice (some ⟨b,0,none⟩) k k) ((some b,e,(List.replicate k zs).flatten)::β) Γ):Ej P C (.makeSlice t x y) ty σ β Γ K :=
 ACo (f:=fun b=>.slice (some ⟨b,0,none⟩) k k) (fun ρ hρ w=>by
  refine ⟨.slice (some ⟨w.heap.size,0,none⟩) k k,?_,rfl⟩
  obtain ⟨hu,i,hi,hs⟩:=Ct hT
  obtain ⟨i',z,hi',hz',hc⟩:=Fx hz
  obtain rfl:i=i':=Option.some.inj (hi.symm.trans hi')
  have hbi:i.bytes=by':=by simpa [Program.bytesOf,hi] using hby
  subst hm
  have hp':=hp
  have hr := run_make (P := P) w t e i z hu hi hz' kd kc k k (by omega) (Int.le_refl _) (by rw [hbi]; have : ((by' * k : Nat) : Int) ≤ 281474976710656 := by omega
                                                                                            rwa [Int.natCast_mul] at this) (by omega)
  have hzc:z.cells=zs.toArray:=by rw [← hc,← Dr]
  have hcells:madeCells z.cells ((k:Int).toNat*i.size)=(List.replicate k zs).flatten.toArray:=by
   rw [hzc,hs,← hl,Int.toNat_natCast]
   have:=Nat.ne_of_beq_eq_false hp
   exact Array.toList_inj.1 (by rw [Iu zs (by omega)])
  rw [hcells,Int.toNat_natCast] at hr
  simp only [execOp,Cp,hρ _ _ hx,hρ _ _ hy,Sem.run_bind,hr,Result.andThen_ok,Sem.run_pure]) h
def Jv (σ:Fr):Nat→List (Nat×Operand)→Option (List (List Value))
 | _,[]=>some []
 | n,(j,x)::l=>match Nat.beq j n,ev σ x,Jv σ (n+1) l with
  | true,some v,some vs=>some (C8 v::vs)
  | _,_,_=>none
def ABM (m:Nat):List (List Value)→Bool
 | []=>true
 | x::l=>Nat.beq x.length m && ABM m l
theorem AD3 (vs:List Value) (off:Nat):∀ (cs:List Value) (j:Nat),off+j+vs.length≤cs.length →
  ((vs.zipIdx j).foldl (fun (acc:Array Value) (c:Value×Nat)=>acc.setIfInBounds (off+c.2) c.1) cs.toArray)=(Dq cs (off+j) vs).toArray:=by
 induction vs with
 | nil=>intro cs j h;simp [Dq]
 | cons v vs ih =>
  intro cs j h
  simp only [List.length_cons] at h
  simp only [List.zipIdx_cons,List.foldl_cons,List.setIfInBounds_toArray]
  rw [ih (cs.set (off+j) v) (j+1) (by simp;omega),← Se cs (off+j) v vs (by omega)]
  congr 1
theorem AAQ (place:Nat→Option (Nat×Nat)) (cells:Array Value) (n:Nat) (v:Value) (rest:List (Nat×Value)) (off m:Nat) (hp:place n=some (off,m)) (hl:v.cells.size=m) (ho:off+m≤cells.size) :
  Instr.fill place cells ((n,v)::rest)=Instr.fill place (Dq cells.toList off (C8 v)).toArray rest:=by
 have hc:v.cells=(C8 v).toArray:=by rw [← Dr]
 have e:v.cells.zipIdx.foldl (fun (cs:Array Value) (c:Value×Nat)=>cs.setIfInBounds (off+c.2) c.1) cells=(Dq cells.toList off (C8 v)).toArray:=by
  have h1:=AD3 (C8 v) off cells.toList 0 (by rw [← Dr];simp [hl];omega)
  simp only [Nat.add_zero,Array.toArray_toList] at h1
  rw [← h1,hc]
  simp
 have hcond:(decide (v.cells.size≠m) || decide (off+v.cells.size > cells.size))=false:=by
  simp [hl];omega
 simp only [Instr.fill,hp]
 rw [if_neg (by rw [hcond];simp)]
 exact congrArg (fun c=>Instr.fill place c rest) e
theorem AG8 (m:Nat) {σ:Fr}{ρ:Operand→Value}(hρ:∀ x v,ev σ x=some v→ρ x=v):∀ (parts:List (Nat×Operand)) (n:Nat) (vss:List (List Value)) (pre:List Value) (cs:List Value),Jv σ n parts=some vss→ABM m vss=true →
  pre.length=n*m→cs.length=vss.length*m →
  Instr.fill (fun i=>some (i*m,m)) (pre++cs).toArray (parts.map fun (i,x)=>(i,ρ x))=some (pre++vss.flatten).toArray:=by
 intro parts
 induction parts with
 | nil =>
  intro n vss pre cs h _ _ hcs
  simp only [Jv,Option.some.injEq] at h
  subst h
  have:cs=[]:=List.eq_nil_of_length_eq_zero (by simpa using hcs)
  subst this
  simp [Instr.fill]
 | cons q parts ih =>
  obtain ⟨j,x⟩:=q
  intro n vss pre cs h hall hpre hcs
  simp only [Jv] at h
  cases hb:Nat.beq j n with
  | false=>rw [hb] at h;simp at h
  | true =>
   obtain rfl:j=n:=Nat.eq_of_beq_eq_true hb
   cases hx:ev σ x with
   | none=>rw [hb,hx] at h;simp at h
   | some v =>
    cases hr:Jv σ (j+1) parts with
    | none=>rw [hb,hx,hr] at h;simp at h
    | some us =>
     rw [hb,hx,hr] at h
     obtain rfl:=Option.some.inj h
     simp only [ABM,Bool.and_eq_true] at hall
     have hvl:(C8 v).length=m:=Nat.eq_of_beq_eq_true hall.1
     have hvs:v.cells.size=m:=by rw [← Array.length_toList,Dr,hvl]
     simp only [List.length_cons,Nat.succ_mul] at hcs
     simp only [List.map_cons,hρ _ _ hx]
     rw [AAQ _ _ _ _ _ (j*m) m rfl hvs (by simp [hpre,hcs])]
     have e:Dq (pre++cs) (j*m) (C8 v)=(pre++C8 v)++cs.drop m:=by
      unfold Dq
      rw [← hpre,List.take_left,hvl,List.drop_append]
      simp
     simp only [e]
     rw [ih (j+1) us (pre++C8 v) (cs.drop m) hr hall.2 (by simp [hpre,hvl,Nat.succ_mul]) (by simp [hcs])]
     simp
theorem ACX {t e:TypeId}{m n:Nat}{parts:List (Nat×Operand)}{vss:List (List Value)}{zs:List Value}(hT:Ek P t=some (e,m)) (hz:C0 P e=some zs) (hl:zs.length=m)
  (hv:Jv σ 0 parts=some vss) (ha:ABM m vss=true) (hn:vss.length=n) (hp:n*m≠0) (hs:n*m≤16777216) {cs:List Value}(hc:vss.flatten=cs)
  (h:∀ b,K (.slice (some ⟨b,0,none⟩) n n) ((some b,e,cs)::β) Γ):Ej P C (.buildSlice t n parts.toArray) ty σ β Γ K :=
 ACo (f:=fun b=>.slice (some ⟨b,0,none⟩) n n) (fun ρ hρ w=>by
  refine ⟨.slice (some ⟨w.heap.size,0,none⟩) n n,?_,rfl⟩
  obtain ⟨hu,i,hi,hsz⟩:=Ct hT
  obtain ⟨i',z,hi',hz',hzc⟩:=Fx hz
  obtain rfl:i=i':=Option.some.inj (hi.symm.trans hi')
  have hzz:z.cells=zs.toArray:=by rw [← hzc,← Dr]
  have hm0:zs.length≠0:=by rw [hl];intro e;rw [e] at hp;simp at hp
  have hcells:((Array.range (n*m)).map (fun x=>zs.toArray[x % zs.toArray.size]!))=(List.replicate n zs).flatten.toArray:=by
   have:=Iu zs hm0 n
   rw [← hl,← this,Array.toArray_toList]
   rfl
  have hf:=AG8 m hρ parts 0 vss [] (List.replicate n zs).flatten hv ha (by simp) (by simp [hl,hn])
  simp only [List.nil_append] at hf
  rw [hc] at hf
  have hns:¬ (16777216<n*m):=by omega
  simp only [execOp,Cp,Instr.buildSlice,Sem.run_bind,run_underlying hu,Result.andThen_ok,sizeOf,typeInfo,Sem.run_pure,run_program,hi,hsz]
  simp only [gt_iff_lt,hns,hp,if_false,T9 hi hz',Sem.run_bind,Result.andThen_ok,Sem.run_pure,hzz,List.map_toArray,List.toList_toArray]
  rw [hcells,hf]
  simp [newRow]) h
end
def ad:Option Nat→Option Addr
 | none=>none
 | some b=>some ⟨b,0,none⟩
def Mb (bo:Option Nat) (n cap m:Nat) (cs:List Value):Prop :=
 (bo=none∧n=0∧cap=0∧cs=[])∨(∃ b,bo=some b∧n≤cap∧cap≤9223372036854775807∧cs.length=cap*m)
theorem Mb.nil (m:Nat):Mb none 0 0 m []:=.inl ⟨rfl,rfl,rfl,rfl⟩
theorem Mb.le {bo:Option Nat}{n cap m:Nat}{cs:List Value}(h:Mb bo n cap m cs):n≤cap:=by
 rcases h with ⟨_,rfl,rfl,_⟩|⟨_,_,h,_⟩
 ·exact Nat.le_refl _
 ·exact h
theorem Mb.len {bo:Option Nat}{n cap m:Nat}{cs:List Value}(h:Mb bo n cap m cs):n*m≤cs.length:=by
 rcases h with ⟨_,rfl,rfl,rfl⟩|⟨_,_,h1,_,h2⟩
 ·simp
 ·rw [h2];exact Nat.mul_le_mul_right _ h1
theorem Jl {β:List Bb}:∀ {n:Nat}{b:Nat}{T:TypeId}{c:List Value},Bc β→A8 β n=some (some b,T,c)→∀ x∈β.eraseIdx n,x.1≠some b:=by
 induction β with
 | nil=>intro n b T c _ h;simp [A8] at h
 | cons y l ih =>
  intro n b T c hd h x hx
  cases n with
  | zero =>
   simp only [A8,Option.some.injEq] at h
   subst h
   exact hd.1 x hx b rfl
  | succ n =>
   simp only [A8] at h
   simp only [List.eraseIdx_cons_succ,List.mem_cons] at hx
   rcases hx with rfl|hx
   ·intro e
    have hm:(some b,T,c)∈l:=by rw [B8] at h;exact List.mem_of_getElem? h
    exact hd.1 _ hm b e rfl
   ·exact ih hd.2 h x hx
section
variable {P:Program}{F:Fun P}{C:Cx}{S:List It}{σ:Fr}{β:List Bb}{Γ:List Fact}{R:Value→World→Prop}{p:List Nat}{i:Nat}{d:Option Tmp}{op:Op}{ty:TypeId}{K:Value→List Bb→List Fact→Prop}
theorem Own.sub {w:World}{β':List Bb}(ho:Own C w β) (hs:β'.Sublist β):Own C w β' :=
 ⟨ho.ext,fun x hx=>ho.new x (hs.subset hx),fun x hx=>ho.blk x (hs.subset hx),ho.apart.sub hs⟩
theorem Tr {w:World}{β':List Bb}(hs:β'.Sublist β) (hG:∀ f∈Γ,f.holds w (ok C w β)):∀ f∈Γ,f.holds w (ok C w β') :=
 fun f hf=>f.stable (fun _ hk=>⟨⟨hk.1,hk.2.1,fun x hx=>hk.2.2 x (hs.subset hx)⟩,rfl⟩) (hG f hf)
theorem AKJ (e:TypeId) (h:J F C S σ ((none,e,[])::β) Γ R):J F C S σ β Γ R:=fun w hO hG =>
 h w ⟨hO.ext,fun x hx b hb=>by rcases List.mem_cons.1 hx with rfl|hx;(cases hb);exact hO.new x hx b hb,
   fun x hx b hb=>by rcases List.mem_cons.1 hx with rfl|hx;(cases hb);exact hO.blk x hx b hb,⟨(fun y hy b hb=>by cases hb),hO.apart⟩⟩
  fun f hf=>f.stable (fun k hk=>⟨⟨hk.1,hk.2.1,fun x hx=>by
   rcases List.mem_cons.1 hx with rfl|hx
   ·intro e;cases e
   ·exact hk.2.2 x hx⟩,rfl⟩) (hG f hf)
theorem Own.drew {w:World}(h:Own C w β):Own C w.drew β:=⟨⟨h.ext.os,h.ext.tape,h.ext.output,h.ext.size,h.ext.block⟩,h.new,h.blk,h.apart⟩
theorem U5 {w:World}(hG:∀ f∈Γ,f.holds w (ok C w β)):∀ f∈Γ,f.holds w.drew (ok C w.drew β) :=
 fun f hf=>f.stable (w:=w) (fun _ hk=>⟨⟨hk.1,hk.2.1,hk.2.2⟩,rfl⟩) (hG f hf)
theorem Rl {w:World}{t ty' e:TypeId}{i:TypeInfo}{base px:Option Addr}{n cap cx:Nat}(ht:P.underlying t=some (.slice e)) (hi:P.info? e=some i) (hn:n≤cap) :
  (Builtin.append_ #[t,t] ty' #[.slice base n cap,.slice px 0 cx]).run P w = .ok (.slice base n cap) w:=by
 cases px <;> cases base <;> simp [Builtin.append_,run_underlying ht,sizeOf,typeInfo,hi,Builtin.lenOf,hn,Builtin.firstCells,loadCells,loadCellsFrom,storeCells]
theorem Qk {w:World}{t ty' e:TypeId}{n m cap size k cx:Nat}{bo:Option Nat}{cs news:List Value}{px:Option Addr}{zs:List Value}(hT:Ek P t=some (e,size)) (hz:C0 P e=some zs) (hzl:zs.length=size)
  (hO:Own C w β) (hG:∀ f∈Γ,f.holds w (ok C w β)) (hn:A8 β k=some (bo,e,cs)) (hg:Mb bo n cap size cs)
  (hl:news.length=m*size) (hx:m=0∨∃ a,px=some a∧∀ j u,news[j]?=some u→w.cell? (a.add j)=some u) (h1:∀ u∈news,u.oneCell'=true)
  (hmax:n+m≤9223372036854775807) (hby:(n+m)*P.bytesOf e≤140737488355328) :
  ∃ bo' cap' cs' w',(Builtin.append_ #[t,t] ty' #[.slice (ad bo) n cap,.slice px m cx]).run P w = .ok (.slice (ad bo') (n+m) cap') w'∧Mb bo' (n+m) cap' size cs'∧cs'.take ((n+m)*size)=cs.take (n*size)++news ∧
   Own C w' ((bo',e,cs')::β.eraseIdx k)∧∀ f∈Γ,f.holds w' (ok C w' ((bo',e,cs')::β.eraseIdx k)):=by
 obtain ⟨hu,i,hi,hsz⟩:=Ct hT
 obtain ⟨i',z,hi',hz',hzc⟩:=Fx hz
 obtain rfl:i=i':=Option.some.inj (hi.symm.trans hi')
 have hbi:P.bytesOf e=i.bytes:=by simp [Program.bytesOf,hi]
 rw [hbi] at hby
 have hzs:z.cells.size=size:=by rw [← Array.length_toList,Dr,hzc,hzl]
 have hsub:(β.eraseIdx k).Sublist β:=List.eraseIdx_sublist _ _
 have fresh:∀ (old:List Value) (C':Nat),old=cs.take (n*size)→n+m≤C'→C'≤9223372036854775807 →
   ∀ w',w'=w.drew.alloc (.cells (old++news++(Builtin.zeroCells z.cells (C'-(n+m))).toList).toArray e) →
   Mb (some w.heap.size) (n+m) C' size (old++news++(Builtin.zeroCells z.cells (C'-(n+m))).toList)∧(old++news++(Builtin.zeroCells z.cells (C'-(n+m))).toList).take ((n+m)*size)=cs.take (n*size)++news ∧
   Own C w' ((some w.heap.size,e,old++news++(Builtin.zeroCells z.cells (C'-(n+m))).toList)::β.eraseIdx k)∧∀ f∈Γ,f.holds w' (ok C w' ((some w.heap.size,e,old++news++(Builtin.zeroCells z.cells (C'-(n+m))).toList)::β.eraseIdx k)):=by
  intro old C' hold hC hCm w' hw'
  subst hw'
  have hlo:old.length=n*size:=by rw [hold,List.length_take];have:=hg.len;omega
  have hlen:(old++news).length=(n+m)*size:=by rw [List.length_append,hlo,hl,Nat.add_mul]
  refine ⟨.inr ⟨_,rfl,hC,hCm,?_⟩,?_,(hO.drew.sub hsub).push e _,Yu (w:=w.drew) (Tr (w:=w.drew) hsub (U5 hG))⟩
  ·rw [List.length_append,hlen,Array.length_toList,size_zeroCells,hzs,← Nat.add_mul]
   congr 1;omega
  ·rw [← hlen,List.take_left,hold]
 by_cases hm:m=0
 ·subst hm
  have hnews:news=[]:=List.eq_nil_of_length_eq_zero (by simpa using hl)
  subst hnews
  refine ⟨bo,cap,cs,w,Rl hu hi hg.le,hg,by simp,?_,?_⟩
  ·have hO':=hO.sub hsub
   refine ⟨hO.ext,?_,?_,?_,hO'.apart⟩
   ·intro x hx b hb
    rcases List.mem_cons.1 hx with rfl|hx
    ·exact hO.new _ (B1 hn) b hb
    ·exact hO'.new x hx b hb
   ·intro x hx b hb
    rcases List.mem_cons.1 hx with rfl|hx
    ·exact hO.blk _ (B1 hn) b hb
    ·exact hO'.blk x hx b hb
   ·intro y hy b hb
    have hb':bo=some b:=hb
    subst hb'
    exact Jl hO.apart hn y hy
  ·exact fun f hf=>f.stable (fun k' hk'=>⟨⟨hk'.1,hk'.2.1,fun x hx=>by
    rcases List.mem_cons.1 hx with rfl|hx
    ·exact hk'.2.2 _ (B1 hn)
    ·exact hk'.2.2 x (hsub.subset hx)⟩,rfl⟩) (hG f hf)
 ·obtain ⟨a,rfl,hnews⟩:=hx.resolve_left hm
  rcases hg with ⟨rfl,rfl,rfl,rfl⟩|⟨b,rfl,hnc,hcm,hcs⟩
  ·have hr:=run_append_nil (P:=P) w t ty' e i z hu hi hz' a m cx news (by rw [hsz];exact hl) hnews (by omega) (by omega) (by simp only [Nat.zero_add] at hby;omega)
   have hge:=grownCap_ge w m 0 e
   have hle:=grownCap_le_maxLen w m 0 e (by simp only [maxLen];omega)
   obtain ⟨f1,f2,f3,f4⟩:=fresh [] (grownCap w m 0 e) (by simp) (by omega) (by simpa [maxLen] using hle) _ rfl
   simp only [Nat.zero_add,List.nil_append] at *
   have e1:(news++(Builtin.zeroCells z.cells (grownCap w m 0 e-m)).toList).toArray=news.toArray++Builtin.zeroCells z.cells (grownCap w m 0 e-m):=by
    apply Array.ext';simp
   refine ⟨_,_,_,_,?_,f1,f2,f3,f4⟩
   rw [e1]
   exact hr
  ·have hblk:=hO.blk _ (B1 hn) b rfl
   by_cases hroom:n+m≤cap
   ·have hfit:n*i.size+news.length≤cs.toArray.size:=by rw [hsz,hl,← Nat.add_mul,List.size_toArray,hcs];exact Nat.mul_le_mul_right _ hroom
    have hr:=run_append_room (P:=P) w t ty' e i hu hi b n cap cs.toArray hblk a m cx news (by rw [hsz];exact hl) hnews h1 hroom hfit
    rw [hsz] at hr hfit
    have hcs':(cs.take (n*size)++news++cs.drop (n*size+news.length)).length=cap*size:=by
     simp only [List.length_append,List.length_take,List.length_drop]
     simp at hfit
     omega
    have hrow:(w.setRow b (cs.take (n*size)++news++cs.drop (n*size+news.length)).toArray).heap[b]?=some (.cells (cs.take (n*size)++news++cs.drop (n*size+news.length)).toArray e (0,0)):=setRow_heap w b _ _ e _ hblk
    have hoth:∀ k',k'≠b→(w.setRow b (cs.take (n*size)++news++cs.drop (n*size+news.length)).toArray).heap[k']?=w.heap[k']?:=fun k' hk'=>setRow_other w b k' _ (fun e=>hk' e)
    have hsize:(w.setRow b (cs.take (n*size)++news++cs.drop (n*size+news.length)).toArray).heap.size=w.heap.size:=by simp [World.setRow]
    have hO':=hO.sub hsub
    have hset:=hO.set (cs:=cs.take (n*size)++news++cs.drop (n*size+news.length)) (w':=w.setRow b (cs.take (n*size)++news++cs.drop (n*size+news.length)).toArray) hn rfl rfl rfl hsize hrow hoth
    have hlen:(cs.take (n*size)++news).length=(n+m)*size:=by
     rw [List.length_append,List.length_take,hl,Nat.add_mul]
     have:n*size≤cs.length:=by rw [hcs];exact Nat.mul_le_mul_right _ hnc
     omega
    refine ⟨some b,cap,cs.take (n*size)++news++cs.drop (n*size+news.length),_,hr,.inr ⟨b,rfl,hroom,hcm,hcs'⟩,by rw [← hlen,List.take_left],?_,?_⟩
    ·refine ⟨hset.ext,?_,?_,?_,hO'.apart⟩
     ·intro x hx bb hb
      rcases List.mem_cons.1 hx with rfl|hx
      ·exact hO.new _ (B1 hn) bb hb
      ·exact hO'.new x hx bb hb
     ·intro x hx bb hb
      rcases List.mem_cons.1 hx with rfl|hx
      ·obtain rfl:=Option.some.inj hb
       exact hrow
      ·rw [hoth bb (fun e=>Jl hO.apart hn x hx (e▸hb))]
       exact hO'.blk x hx bb hb
     ·intro y hy bb hb
      obtain rfl:=Option.some.inj hb
      exact Jl hO.apart hn y hy
    ·exact fun f hf=>f.stable (fun k' hk'=>by
      have hne:k'≠b:=fun e=>hk'.2.2 _ (B1 hn) (by rw [e])
      refine ⟨⟨hk'.1,by rw [hsize];exact hk'.2.1,fun x hx=>?_⟩,hoth k' hne⟩
      rcases List.mem_cons.1 hx with rfl|hx
      ·intro e;exact hne (Option.some.inj e).symm
      ·exact hk'.2.2 x (hsub.subset hx)) (hG f hf)
   ·have holds:∀ j u,(cs.take (n*size))[j]?=some u→w.cell? ((⟨b,0,none⟩:Addr).add j)=some u:=by
     intro j u hu'
     rw [Addr.add_mid,Nat.zero_add]
     rw [List.getElem?_take] at hu'
     split at hu'
     ·simp [World.cell?,hblk,hu']
     ·cases hu'
    have hlt:(cs.take (n*size)).length=n*size:=by
     rw [List.length_take,hcs]
     have:=Nat.mul_le_mul_right size hnc
     omega
    have hr:=run_append_grow (P:=P) w t ty' e i z hu hi hz' ⟨b,0,none⟩ n cap (cs.take (n*size)) (by rw [hlt,hsz]) holds a m cx news (by rw [hsz];exact hl) hnews (by omega) (by omega) (growslice_fits (by omega) hby)
    have hge:=grownCap_ge w (n+m) cap e
    have hle:=grownCap_le_maxLen w (n+m) cap e (by simp only [maxLen];omega)
    obtain ⟨f1,f2,f3,f4⟩:=fresh (cs.take (n*size)) (grownCap w (n+m) cap e) rfl (by omega) (by simpa [maxLen] using hle) _ rfl
    refine ⟨_,_,_,_,?_,f1,f2,f3,f4⟩
    have e1:(cs.take (n*size)++news++(Builtin.zeroCells z.cells (grownCap w (n+m) cap e-(n+m))).toList).toArray=(cs.take (n*size)).toArray++news.toArray++Builtin.zeroCells z.cells (grownCap w (n+m) cap e-(n+m)):=by
     apply Array.ext';simp
    rw [e1]
    exact hr
theorem Pa {w w':World}{t:TypeId}{x y:Operand}{vx vy v:Value}(hx:ev σ x=some vx) (hy:ev σ y=some vy) (hr:(Builtin.append_ #[t,t] ty #[vx,vy]).run P w = .ok v w') {post:Value→World→Prop}(h:post v w') :
  Ex P (.call { callee:=.builtin .append,args:=#[x,y],argTypes:=#[t,t] }) ty σ w post:=fun ρ hρ=>by
 simp only [execOp,Cp,resolve,invoke,builtin,Sem.run_bind,Sem.run_pure,Result.andThen_ok,List.map_toArray,List.map_cons,List.map_nil,hρ _ _ hx,hρ _ _ hy,hr]
 exact h
theorem AIM {t e:TypeId}{size:Nat}{x y:Operand}{bo:Option Nat}{n cap m c b2:Nat}{cs cs2 zs news:List Value}{e2:TypeId}(k j:Nat)
  (hn:A8 β k=some (bo,e,cs)) (hj:A8 β j=some (some b2,e2,cs2)) (hx:ev σ x=some (.slice (ad bo) n cap)) (hy:ev σ y=some (.slice (some ⟨b2,0,none⟩) m c))
  (hT:Ek P t=some (e,size)) (hz:C0 P e=some zs) (hzl:zs.length=size) (hg:Mb bo n cap size cs) (hnews:cs2.take (m*size)=news) (hl:news.length=m*size) (h1:∀ u∈news,u.oneCell'=true)
  (hmax:n+m≤9223372036854775807) (by':Nat) (hbe:P.bytesOf e=by') (hby:(n+m)*by'≤140737488355328)
  (h:∀ bo' cap' cs',Mb bo' (n+m) cap' size cs'→cs'.take ((n+m)*size)=cs.take (n*size)++news→K (.slice (ad bo') (n+m) cap') ((bo',e,cs')::β.eraseIdx k) Γ) :
  Ej P C (.call { callee:=.builtin .append,args:=#[x,y],argTypes:=#[t,t] }) ty σ β Γ K:=fun w hO hG=>by
 subst hbe
 obtain ⟨bo',cap',cs',w',hr,h2,h3,h4,h5⟩:=Qk (P:=P) (ty':=ty) (cx:=c) (px:=some ⟨b2,0,none⟩) hT hz hzl hO hG hn hg hl (.inr ⟨_,rfl,fun jj u hu=>by
  rw [Addr.add_mid,Nat.zero_add]
  refine Py hO hj ?_
  rw [← hnews,List.getElem?_take] at hu
  split at hu
  ·exact hu
  ·cases hu⟩) h1 hmax hby
 exact Pa hx hy hr ⟨_,Γ,h _ _ _ h2 h3,h4,h5⟩
def Fu {α:Type}(E:Enc α) (vss:List (List Value)) (l:List α) (w:World) (A:Nat→Prop):Prop :=
 vss.length=l.length∧∀ (i:Nat) (vs:List Value) (x:α),vss[i]?=some vs→l[i]?=some x→E.rd w A vs x
def N7 {α:Type}(E:Enc α) (vss:List (List Value)) (l:List α):Fact where
 holds:=fun w A=>Fu E vss l w A
 stable:=fun h hh=>⟨hh.1,fun i vs x hv hx=>E.stable h (hh.2 i vs x hv hx)⟩
theorem Hh {α:Type}{E:Enc α}{vss:List (List Value)}{l:List α}{w:World}{A:Nat→Prop}(h:Fu E vss l w A):∀ vs∈vss,vs.length=E.size:=by
 intro vs hv
 obtain ⟨i,hi⟩:=List.getElem?_of_mem hv
 have hlt:i<vss.length:=(List.getElem?_eq_some_iff.1 hi).1
 obtain ⟨x,hx⟩:∃ x,l[i]?=some x:=⟨l[i]'(h.1▸hlt),by simp⟩
 exact E.len (h.2 i vs x hi hx)
theorem Zx {α:Type}{E:Enc α}{vss:List (List Value)}{l:List α}{w:World}{A:Nat→Prop}(h:Fu E vss l w A):∀ v∈vss.flatten,v.oneCell'=true:=by
 intro v hv
 obtain ⟨vs,hvs,hv⟩:=List.mem_flatten.1 hv
 obtain ⟨i,hi⟩:=List.getElem?_of_mem hvs
 have hlt:i<vss.length:=(List.getElem?_eq_some_iff.1 hi).1
 obtain ⟨x,hx⟩:∃ x,l[i]?=some x:=⟨l[i]'(h.1▸hlt),by simp⟩
 exact E.one (h.2 i vs x hi hx) v hv
theorem Gq {vss:List (List Value)}{m:Nat}(h:∀ vs∈vss,vs.length=m):vss.flatten.length=vss.length*m:=by
 induction vss with
 | nil=>simp
 | cons x l ih =>
  rw [List.flatten_cons,List.length_append,h x (.head _),ih fun y hy=>h y (.tail _ hy),List.length_cons,Nat.succ_mul,Nat.add_comm]
theorem Is {vss:List (List Value)}{m:Nat}(h:∀ vs∈vss,vs.length=m):∀ (i:Nat) (vs:List Value),vss[i]?=some vs→(vss.flatten.drop (i*m)).take m=vs:=by
 induction vss with
 | nil=>intro i vs hi;simp at hi
 | cons x l ih =>
  intro i vs hi
  have hx:=h x (.head _)
  cases i with
  | zero =>
   simp only [List.getElem?_cons_zero,Option.some.injEq] at hi
   subst hi
   rw [List.flatten_cons,Nat.zero_mul,List.drop_zero,← hx,List.take_left]
  | succ i =>
   simp only [List.getElem?_cons_succ] at hi
   rw [List.flatten_cons,Nat.succ_mul,Nat.add_comm,← List.drop_drop,← hx,List.drop_left,hx]
   exact ih (fun y hy=>h y (.tail _ hy)) i vs hi
theorem N6.all {α:Type}{E:Enc α}{w:World}{A:Nat→Prop}{b o:Nat}{l:List α}(h:∀ i x,l[i]?=some x→∃ vs,Fg w b (o+i*E.size) E.size vs∧E.rd w A vs x) :
  ∃ vss,Fu E vss l w A∧w.rangeAt b o vss.flatten:=by
 induction l generalizing o with
 | nil=>exact ⟨[],⟨rfl,fun i vs x hv=>by simp at hv⟩,fun j v hv=>by simp at hv⟩
 | cons x l ih =>
  obtain ⟨vs,h1,h2⟩:=h 0 x rfl
  obtain ⟨vss,h3,h4⟩:=ih (o:=o+E.size) (fun i y hy=>by
   have:=h (i+1) y (by simpa using hy)
   rwa [show o+(i+1)*E.size=o+E.size+i*E.size by rw [Nat.succ_mul];omega] at this)
  refine ⟨vs::vss,⟨by simp [h3.1],fun i us y hu hy=>?_⟩,fun j v hv=>?_⟩
  ·cases i with
   | zero=>simp at hu hy;subst hu;subst hy;exact h2
   | succ i=>exact h3.2 i us y (by simpa using hu) (by simpa using hy)
  ·have hlen:=E.len h2
   rw [Nat.zero_mul,Nat.add_zero] at h1
   rw [List.flatten_cons,List.getElem?_append] at hv
   split at hv
   ·exact h1.rangeAt j v hv
   ·have:=h4 (j-vs.length) v hv
    rwa [show o+E.size+(j-vs.length)=o+j by omega] at this
theorem AF2 {α:Type}{E:Enc α}{t e:TypeId}{x y:Operand}{bo:Option Nat}{n cap m c:Nat}{pa:Option Addr}{cs zs:List Value}{l:List α}(k j:Nat)
  (hn:A8 β k=some (bo,e,cs)) (hj:A8 Γ j=some (A2 E pa m c l)) (hx:ev σ x=some (.slice (ad bo) n cap)) (hy:ev σ y=some (.slice pa m c))
  (hT:Ek P t=some (e,E.size)) (hz:C0 P e=some zs) (hzl:zs.length=E.size) (hg:Mb bo n cap E.size cs)
  (hmax:n+m≤9223372036854775807) (by':Nat) (hbe:P.bytesOf e=by') (hby:(n+m)*by'≤140737488355328)
  (h:∀ bo' cap' cs' vss,Mb bo' (n+m) cap' E.size cs'→cs'.take ((n+m)*E.size)=cs.take (n*E.size)++vss.flatten→K (.slice (ad bo') (n+m) cap') ((bo',e,cs')::β.eraseIdx k) (N7 E vss l::Γ)) :
  Ej P C (.call { callee:=.builtin .append,args:=#[x,y],argTypes:=#[t,t] }) ty σ β Γ K:=fun w hO hG=>by
 subst hbe
 obtain ⟨hml,_,_,hs⟩:=hG _ (Al hj)
 obtain ⟨vss,hall,hcell⟩:∃ vss,Fu E vss l w (ok C w β)∧(m=0∨∃ a,pa=some a∧∀ jj u,vss.flatten[jj]?=some u→w.cell? (a.add jj)=some u):=by
  rcases hs with rfl|⟨b,o,rfl,_,hel⟩
  ·exact ⟨[],⟨rfl,fun i vs x hv=>by simp at hv⟩,.inl (by simpa using hml)⟩
  ·obtain ⟨vss,h1,h2⟩:=N6.all (A:=ok C w β) hel
   exact ⟨vss,h1,.inr ⟨_,rfl,fun jj u hu=>by rw [Addr.add_mid];exact h2 jj u hu⟩⟩
 have hlen:vss.flatten.length=m*E.size:=by rw [Gq (Hh hall),hall.1,hml]
 have hG':∀ f∈N7 E vss l::Γ,f.holds w (ok C w β):=fun f hf=>by
  rcases List.mem_cons.1 hf with rfl|hf
  ·exact hall
  ·exact hG f hf
 obtain ⟨bo',cap',cs',w',hr,h2,h3,h4,h5⟩:=Qk (P:=P) (ty':=ty) (cx:=c) (px:=pa) hT hz hzl hO hG' hn hg hlen hcell (Zx hall) hmax hby
 exact Pa hx hy hr ⟨_,_,h _ _ _ vss h2 h3,h4,h5⟩
theorem AHl {α:Type}{E:Enc α}{e:TypeId}{bo:Option Nat}{n cap:Nat}{cs:List Value}{vss:List (List Value)}{l:List α}(k j:Nat)
  (hn:A8 β k=some (bo,e,cs)) (hj:A8 Γ j=some (N7 E vss l)) (hg:Mb bo n cap E.size cs) (hc:cs.take (n*E.size)=vss.flatten) (hl:n=l.length) (hby:n*E.bytes≤140737488355328)
  (h:J F C S σ (β.eraseIdx k) (A2 E (ad bo) n cap l::Γ) R):J F C S σ β Γ R:=fun w hO hG=>by
 have hsub:(β.eraseIdx k).Sublist β:=List.eraseIdx_sublist _ _
 have hall:Fu E vss l w (ok C w β):=hG _ (Al hj)
 refine h w (hO.sub hsub) fun f hf=>?_
 rcases List.mem_cons.1 hf with rfl|hf
 ·refine ⟨hl,?_⟩
  have hs:N6 E w (ok C w (β.eraseIdx k)) (ad bo) cap l:=by
   subst hl
   rcases hg with ⟨rfl,hn0,rfl,rfl⟩|⟨b,rfl,hnc,hcm,hcs⟩
   ·have:l=[]:=List.eq_nil_of_length_eq_zero hn0
    subst this
    exact ⟨Nat.le_refl _,hby,.inl rfl⟩
   ·refine ⟨hnc,hby,.inr ⟨b,0,rfl,?_,fun i x hi=>?_⟩⟩
    ·have hlt:=hO.lt (B1 hn) rfl
     have hnew:=hO.new _ (B1 hn) b rfl
     refine ⟨?_,hlt,fun x hx e=>Jl hO.apart hn x hx e⟩
     rcases hnew with h1|h1
     ·exact .inr (.inr h1)
     ·exact .inr (.inl h1)
    ·have hlt:i<l.length:=(List.getElem?_eq_some_iff.1 hi).1
     obtain ⟨vs,hvs⟩:∃ vs,vss[i]?=some vs:=⟨vss[i]'(hall.1.symm▸hlt),by simp⟩
     have hpart:=Is (Hh hall) i vs hvs
     have hrd:=hall.2 i vs x hvs hi
     refine ⟨vs,⟨cs.toArray,e,(0,0),hO.blk _ (B1 hn) b rfl,?_,E.len hrd⟩,E.stable (fun _ hk=>⟨⟨hk.1,hk.2.1,fun x hx=>hk.2.2 x (hsub.subset hx)⟩,rfl⟩) hrd⟩
     rw [← hpart,← hc,Nat.zero_add,List.drop_take,List.take_take]
     congr 1
     have h4:(i+1)*E.size≤l.length*E.size:=Nat.mul_le_mul_right _ hlt
     rw [Nat.succ_mul] at h4
     omega
  exact hs
 ·exact Tr hsub hG f hf
end
def AFk {α:Type}(t:Nat):List (Nat×α)→Option α
 | []=>none
 | (i,v)::l=>match Nat.beq i t with
  | true=>some v
  | false=>AFk t l
def Bw (P:Program) (it:List (TypeId×IntKind)):Prop:=∀ t k,AFk t it=some k→P.underlying t=some (.int k)
theorem Bw.nil (P:Program):Bw P []:=fun t k h=>by simp [AFk] at h
theorem Bw.cons {P:Program}{t:TypeId}{k:IntKind}{it:List (TypeId×IntKind)}(h:P.underlying t=some (.int k)) (ht:Bw P it):Bw P ((t,k)::it):=by
 intro t' k' h'
 simp only [AFk] at h'
 cases hb:Nat.beq t t' with
 | true =>
  rw [hb] at h'
  obtain rfl:t=t':=Nat.eq_of_beq_eq_true hb
  obtain rfl:=Option.some.inj h'
  exact h
 | false=>rw [hb] at h';exact ht t' k' h'
def Yk (c:Int):Option Int :=
 if c=32 then some 4294967296 else if c=1 then some 2 else if c=63 then some 9223372036854775808 else if c=31 then some 2147483648 else if c=62 then some 4611686018427387904 else none
theorem Vq {c r:Int}(h:Yk c=some r):0≤c∧c≤63∧(2:Int) ^ c.toNat=r:=by
 unfold Yk at h
 split at h
 ·subst_vars;obtain rfl:=Option.some.inj h;decide
 ·split at h
  ·subst_vars;obtain rfl:=Option.some.inj h;decide
  ·split at h
   ·subst_vars;obtain rfl:=Option.some.inj h;decide
   ·split at h
    ·subst_vars;obtain rfl:=Option.some.inj h;decide
    ·split at h
     ·subst_vars;obtain rfl:=Option.some.inj h;decide
     ·simp at h
def AFa (op:BinOp) (k:IntKind) (m n:Int):Option (Value×Prop) :=
 match op with
 | .add=>some (.int k (m+n),Bf k (m+n))
 | .sub=>some (.int k (m-n),Bf k (m-n))
 | .mul=>some (.int k (m*n),Bf k (m*n))
 | .quo=>some (.int k (m / n),0≤m∧0<n∧Bf k m)
 | .rem=>some (.int k (m % n),0≤m∧0<n)
 | .eql=>some (.bool (decide (m=n)),True)
 | .neq=>some (.bool (!decide (m=n)),True)
 | .lss=>some (.bool (decide (m<n)),True)
 | .leq=>some (.bool (decide (m≤n)),True)
 | .gtr=>some (.bool (decide (n<m)),True)
 | .geq=>some (.bool (decide (n≤m)),True)
 | _=>none
def Tx:IntKind→IntKind→Bool
 | .i8,.i8 | .i16,.i16 | .i32,.i32 | .i64,.i64 | .u8,.u8 | .u16,.u16 | .u32,.u32 | .u64,.u64=>true
 | _,_=>false
theorem ADR {a b:IntKind}(h:Tx a b=true):a=b:=by
 cases a <;> cases b <;> first|rfl|simp [Tx] at h
def AIt:IntKind→Bool
 | .i64 | .u64=>true
 | _=>false
theorem AGO (k:IntKind) (h:AIt k=true):k.bits=64:=by
 cases k <;> first|rfl|simp [AIt] at h
def pev (it:List (TypeId×IntKind)) (σ:Fr) (op:Op):Option (Value×Prop) :=
 match op with
 | .move x=>match ev σ x with
  | some v=>some (v,True)
  | none=>none
 | .assign x=>match ev σ x with
  | some v=>some (v,True)
  | none=>none
 | .pick c a b=>match ev σ c,ev σ a,ev σ b with
  | some (.bool true),some v,_=>some (v,True)
  | some (.bool false),_,some v=>some (v,True)
  | _,_,_=>none
 | .binOp .shl _ x y _=>match ev σ x,ev σ y with
  | some (.int k m),some (.int _ c)=>match AIt k,Yk c with
   | true,some r=>some (.int k (m*r),Bf k (m*r))
   | _,_=>none
  | _,_=>none
 | .binOp .shr _ x y _=>match ev σ x,ev σ y with
  | some (.int k m),some (.int _ c)=>match AIt k,Yk c with
   | true,some r=>some (.int k (m / r),True)
   | _,_=>none
  | _,_=>none
 | .binOp .eql _ x y _=>match ev σ x,ev σ y with
  | some (.int k m),some (.int k' n)=>match Tx k k' with
   | true=>AFa .eql k m n
   | false=>none
  | _,_=>none
 | .binOp .neq _ x y _=>match ev σ x,ev σ y with
  | some (.int k m),some (.int k' n)=>match Tx k k' with
   | true=>AFa .neq k m n
   | false=>none
  | _,_=>none
 | .binOp o _ x y _=>match ev σ x,ev σ y with
  | some (.int k m),some (.int k' n)=>match Tx k k' with
   | true=>AFa o k m n
   | false=>none
  | _,_=>none
 | .unOp .not _ x=>match ev σ x with
  | some (.bool b)=>some (.bool (!b),True)
  | _=>none
 | .unOp .neg _ x=>match ev σ x with
  | some (.int k n)=>some (.int k (-n),Bf k (-n))
  | _=>none
 | .convert s t x=>match ev σ x,AFk s it,AFk t it with
  | some (.int _ n),some _,some k=>some (.int k n,Bf k n)
  | _,_,_=>none
 | .extract x i=>match ev σ x with
  | some (.tuple ⟨vs⟩)=>match A8 vs i with
   | some v=>some (v,True)
   | none=>none
  | _=>none
 | .nilCheck x=>match ev σ x with
  | some (.pointer (some a))=>some (.pointer (some a),True)
  | _=>none
 | .makeFunc fn ⟨first⟩ ⟨captured⟩=>match evs σ first,evs σ captured with
  | some us,some vs=>some (.func fn us.toArray vs.toArray,True)
  | _,_=>none
 | _=>none
theorem Fm {P:Program}{it:List (TypeId×IntKind)}(hit:Bw P it) {σ:Fr}{op:Op}{ty:TypeId}{v:Value}{q:Prop}(h:pev it σ op=some (v,q)) (hq:q) (w:World):Io P op ty σ w v:=by
 intro ρ hρ
 have ibin_run:∀ (o:BinOp) (k:IntKind) (m n:Int) (v:Value) (q:Prop),AFa o k m n=some (v,q)→q→∀ t x y u,ρ x = .int k m→ρ y = .int k n→(execOp ρ (Cp (.binOp o t x y u) ty)).run P w = .ok (.value v) w:=by
  intro o k m n v q h hq t x y u hx hy
  cases o <;> simp only [AFa,Option.some.injEq,Prod.mk.injEq,reduceCtorEq] at h
  case add=>obtain ⟨rfl,rfl⟩:=h;simp [execOp,Cp,hx,hy,eqGuard,Go.binOp,Op.intArith,Lc hq]
  case sub=>obtain ⟨rfl,rfl⟩:=h;simp [execOp,Cp,hx,hy,eqGuard,Go.binOp,Op.intArith,Lc hq]
  case mul=>obtain ⟨rfl,rfl⟩:=h;simp [execOp,Cp,hx,hy,eqGuard,Go.binOp,Op.intArith,Lc hq]
  case quo =>
   obtain ⟨rfl,rfl⟩:=h
   obtain ⟨h0,h1,h2⟩:=hq
   have hne:¬ n=0:=by omega
   have e:m.tdiv n=m / n:=Int.tdiv_eq_ediv_of_nonneg h0
   have hr:Bf k (m / n):=by
    have hge:0≤m / n:=Int.ediv_nonneg h0 (by omega)
    have hle:m / n≤m:=Int.ediv_le_self _ h0
    cases k <;> simp only [Bf] at h2 ⊢ <;> omega
   simp [execOp,Cp,hx,hy,eqGuard,Go.binOp,Op.intDiv,hne,e,Lc hr]
  case rem =>
   obtain ⟨rfl,rfl⟩:=h
   obtain ⟨h0,h1⟩:=hq
   have hne:¬ n=0:=by omega
   have e:m.tmod n=m % n:=Int.tmod_eq_emod_of_nonneg h0
   simp [execOp,Cp,hx,hy,eqGuard,Go.binOp,Op.intDiv,hne,e]
  case eql=>obtain ⟨rfl,rfl⟩:=h;simp [execOp,Cp,hx,hy,eqGuard,Go.binOp,Op.intCmp];rfl
  case neq=>obtain ⟨rfl,rfl⟩:=h;simp [execOp,Cp,hx,hy,eqGuard,Go.binOp,Op.intCmp];rfl
  case lss=>obtain ⟨rfl,rfl⟩:=h;simp [execOp,Cp,hx,hy,eqGuard,Go.binOp,Op.intCmp]
  case leq=>obtain ⟨rfl,rfl⟩:=h;simp [execOp,Cp,hx,hy,eqGuard,Go.binOp,Op.intCmp]
  case gtr=>obtain ⟨rfl,rfl⟩:=h;simp [execOp,Cp,hx,hy,eqGuard,Go.binOp,Op.intCmp]
  case geq=>obtain ⟨rfl,rfl⟩:=h;simp [execOp,Cp,hx,hy,eqGuard,Go.binOp,Op.intCmp]
 have two:∀ (o:BinOp) t x y u,(match ev σ x,ev σ y with
   | some (.int k m),some (.int k' n)=>match Tx k k' with
    | true=>AFa o k m n
    | false=>none
   | _,_=>none)=some (v,q)→(execOp ρ (Cp (.binOp o t x y u) ty)).run P w = .ok (.value v) w:=by
  intro o t x y u h
  split at h
  ·rename_i k m k' n hx hy
   split at h
   ·rename_i hb
    obtain rfl:=ADR hb
    exact ibin_run o k m n v q h hq t x y u (hρ _ _ hx) (hρ _ _ hy)
   ·simp at h
  ·simp at h
 unfold pev at h
 split at h
 ·split at h
  ·rename_i hx;obtain ⟨rfl,rfl⟩:=Prod.mk.inj (Option.some.inj h)
   simp [execOp,Cp,hρ _ _ hx]
  ·simp at h
 ·split at h
  ·rename_i hx;obtain ⟨rfl,rfl⟩:=Prod.mk.inj (Option.some.inj h)
   simp [execOp,Cp,hρ _ _ hx]
  ·simp at h
 ·split at h
  ·rename_i hc ha;obtain ⟨rfl,rfl⟩:=Prod.mk.inj (Option.some.inj h)
   simp [execOp,Cp,hρ _ _ hc,hρ _ _ ha,asBool]
  ·rename_i vv hc hb;obtain ⟨rfl,rfl⟩:=Prod.mk.inj (Option.some.inj h)
   simp [execOp,Cp,hρ _ _ hc,hρ _ _ hb,asBool]
  ·simp at h
 ·split at h
  ·rename_i k m _ c hx hy
   split at h
   ·rename_i r hk hr
    obtain ⟨rfl,rfl⟩:=Prod.mk.inj (Option.some.inj h)
    obtain ⟨h0,h1,h2⟩:=Vq hr
    have hb:=AGO k hk
    have hn:¬ c<0:=by omega
    have hm:min c.toNat 64=c.toNat:=by omega
    simp [execOp,Cp,hρ _ _ hx,hρ _ _ hy,eqGuard,Go.binOp,Op.shift,hn,hb,hm,h2,Lc hq]
   ·simp at h
  ·simp at h
 ·split at h
  ·rename_i k m _ c hx hy
   split at h
   ·rename_i r hk hr
    obtain ⟨rfl,rfl⟩:=Prod.mk.inj (Option.some.inj h)
    obtain ⟨h0,h1,h2⟩:=Vq hr
    have hb:=AGO k hk
    have hn:¬ c<0:=by omega
    have hm:min c.toNat 64=c.toNat:=by omega
    have hf:m.fdiv r=m / r:=Int.fdiv_eq_ediv_of_nonneg _ (by rw [← h2];exact Int.pow_nonneg (by decide))
    simp [execOp,Cp,hρ _ _ hx,hρ _ _ hy,eqGuard,Go.binOp,Op.shift,hn,hb,hm,h2,hf]
   ·simp at h
  ·simp at h
 ·exact two _ _ _ _ _ h
 ·exact two _ _ _ _ _ h
 ·exact two _ _ _ _ _ h
 ·split at h
  ·rename_i b hx;obtain ⟨rfl,rfl⟩:=Prod.mk.inj (Option.some.inj h)
   simp [execOp,Cp,hρ _ _ hx,Op.unary]
  ·simp at h
 ·split at h
  ·rename_i k n hx;obtain ⟨rfl,rfl⟩:=Prod.mk.inj (Option.some.inj h)
   simp [execOp,Cp,hρ _ _ hx,Op.unary,Op.intArith,Lc hq]
  ·simp at h
 ·split at h
  ·rename_i n k0 k hx hs hk;obtain ⟨rfl,rfl⟩:=Prod.mk.inj (Option.some.inj h)
   simp [execOp,Cp,hρ _ _ hx,convert,run_underlying (hit _ _ hs),run_underlying (hit _ _ hk),Conv.intToInt,Lc hq]
  ·simp at h
 ·split at h
  ·rename_i vs hx
   split at h
   ·rename_i hv
    obtain ⟨rfl,rfl⟩:=Prod.mk.inj (Option.some.inj h)
    rw [B8] at hv
    simp [execOp,Cp,hρ _ _ hx,Instr.extract,hv]
   ·simp at h
  ·simp at h
 ·split at h
  ·rename_i hx;obtain ⟨rfl,rfl⟩:=Prod.mk.inj (Option.some.inj h)
   simp [execOp,Cp,hρ _ _ hx]
  ·simp at h
 ·split at h
  ·rename_i us vs hu hv;obtain ⟨rfl,rfl⟩:=Prod.mk.inj (Option.some.inj h)
   simp [execOp,Cp,Instr.makeFunc,St hρ hu,St hρ hv]
  ·simp at h
 ·simp at h
def V3 {P:Program}(it:List (TypeId×IntKind)) (F:Fun P) (p:List Nat):Nat→Nat→Fr→Prop→Option (Fr×Prop)
 | 0,_,σ,q=>some (σ,q)
 | n+1,i,σ,q=>match AAB F p i with
  | some (some d,op,_)=>match pev it σ op with
   | some (v,q')=>V3 it F p n (i+1) ((d,v)::σ) (q'∧q)
   | none=>none
  | some (none,_,_)=>none
  | none=>match Mx F p i with
   | some (g,want,some d,op,_)=>match Fr.get g σ with
    | some (.bool true)=>match want with
     | true=>match pev it σ op with
      | some (v,q')=>V3 it F p n (i+1) ((d,v)::σ) (q'∧q)
      | none=>none
     | false=>V3 it F p n (i+1) ((d,undef)::σ) q
    | some (.bool false)=>match want with
     | false=>match pev it σ op with
      | some (v,q')=>V3 it F p n (i+1) ((d,v)::σ) (q'∧q)
      | none=>none
     | true=>V3 it F p n (i+1) ((d,undef)::σ) q
    | _=>none
   | _=>none
section
variable {P:Program}{F:Fun P}{C:Cx}{S:List It}{σ:Fr}{β:List Bb}{Γ:List Fact}{R:Value→World→Prop}{p:List Nat}{i:Nat}{d:Option Tmp}{op:Op}{ty:TypeId}{K:Value→List Bb→List Fact→Prop}
theorem Tw {it:List (TypeId×IntKind)}:∀ (n i:Nat) (σ σ':Fr) (q q':Prop),V3 it F p n i σ q=some (σ',q')→q'→q:=by
 intro n
 induction n with
 | zero=>intro i σ σ' q q' h hq;simp only [V3,Option.some.injEq,Prod.mk.injEq] at h;rw [h.2];exact hq
 | succ n ih =>
  intro i σ σ' q q' h hq
  simp only [V3] at h
  repeat' split at h
  all_goals first|exact (ih _ _ _ _ _ h hq).2|exact ih _ _ _ _ _ h hq|simp at h
theorem ADN {it:List (TypeId×IntKind)}(hit:Bw P it):∀ (n i:Nat) (σ σ':Fr) (q q':Prop),V3 it F p n i σ q=some (σ',q')→q'→J F C (.o p (i+n)::S) σ' β Γ R→J F C (.o p i::S) σ β Γ R:=by
 intro n
 induction n with
 | zero=>intro i σ σ' q q' h hq hJ;simp only [V3,Option.some.injEq,Prod.mk.injEq] at h;rw [h.1];exact hJ
 | succ n ih =>
  intro i σ σ' q q' h hq hJ
  have hJ':J F C (.o p (i+1+n)::S) σ' β Γ R:=by rw [Nat.add_assoc,Nat.add_comm 1 n];exact hJ
  simp only [V3] at h
  split at h
  ·rename_i dd op' ty' ho
   split at h
   ·rename_i v q1 hv
    exact Ab ho (Dg (fun w=>Fm hit hv (Tw _ _ _ _ _ _ h hq).1 w) (ih _ _ _ _ _ h hq hJ'))
   ·simp at h
  ·simp at h
  ·split at h
   ·rename_i g want dd op' ty' ho
    split at h
    ·rename_i hb
     split at h
     ·split at h
      ·rename_i v q1 hv
       exact Bg ho hb (Dg (fun w=>Fm hit hv (Tw _ _ _ _ _ _ h hq).1 w) (ih _ _ _ _ _ h hq hJ'))
      ·simp at h
     ·exact AEe ho hb rfl (ih _ _ _ _ _ h hq hJ')
    ·rename_i hb
     split at h
     ·split at h
      ·rename_i v q1 hv
       exact Bg ho hb (Dg (fun w=>Fm hit hv (Tw _ _ _ _ _ _ h hq).1 w) (ih _ _ _ _ _ h hq hJ'))
      ·simp at h
     ·exact AEe ho hb rfl (ih _ _ _ _ _ h hq hJ')
    ·simp at h
   ·simp at h
theorem Au {it:List (TypeId×IntKind)}(hit:Bw P it) (n:Nat) {σ':Fr}{q:Prop}(h:V3 it F p n i σ True=some (σ',q)) (hq:q) (hJ:J F C (.o p (i+n)::S) σ' β Γ R):J F C (.o p i::S) σ β Γ R :=
 ADN hit n i σ σ' True q h hq hJ
theorem P1 {x:Operand}{t e:TypeId}{m:Nat}{pa:Option Addr}{n ca:Nat}(hT:Ek P t=some (e,m)) (hx:ev σ x=some (.slice pa n ca)) (h:K (.int .i64 n) β Γ) :
  Ej P C (.call { callee:=.builtin .len,args:=#[x],argTypes:=#[t] }) ty σ β Γ K :=
 Dg (fun w ρ hρ=>by
  obtain ⟨hu,_⟩:=Ct hT
  simp [execOp,Cp,resolve,invoke,builtin,Builtin.len_,run_underlying hu,hρ _ _ hx,goInt]) h
end
theorem Rc {P:Program}{t e:TypeId}(h:P.underlying t=some (.slice e)):P.elem t=e:=by simp [Program.elem,h]
theorem N6.take {α:Type}{E:Enc α}{w:World}{A:Nat→Prop}{pa:Option Addr}{ca m k:Nat}{l:List α}(h:N6 E w A pa ca l) (hk:k≤m):N6 E w A pa m (l.take k):=by
 refine ⟨by rw [List.length_take];omega,Nat.le_trans (Nat.mul_le_mul_right _ (List.length_take_le' k l)) h.2.1,?_⟩
 rcases h.2.2 with rfl|⟨b,o,e,hb,hx⟩
 ·exact .inl (by simp)
 ·refine .inr ⟨b,o,e,hb,fun i x hi=>hx i x ?_⟩
  rw [List.getElem?_take] at hi
  split at hi
  ·exact hi
  ·cases hi
theorem N6.drop {α:Type}{E:Enc α}{w:World}{A:Nat→Prop}{pa:Option Addr}{ca k:Nat}{l:List α}(h:N6 E w A pa ca l) :
  N6 E w A (if ca=k then pa else pa.map (·.add (k*E.size))) (ca-k) (l.drop k):=by
 refine ⟨by rw [List.length_drop];have:=h.1;omega,Nat.le_trans (Nat.mul_le_mul_right _ (by rw [List.length_drop];omega)) h.2.1,?_⟩
 rcases h.2.2 with rfl|⟨b,o,e,hb,hx⟩
 ·exact .inl (by simp)
 ·by_cases hck:ca=k
  ·refine .inl ?_
   have:=h.1
   simp;omega
  ·refine .inr ⟨b,o+k*E.size,by rw [if_neg hck,e];simp [Addr.add_mid],hb,fun i x hi=>?_⟩
   rw [List.getElem?_drop] at hi
   have:=hx (k+i) x hi
   rwa [show o+k*E.size+i*E.size=o+(k+i)*E.size by rw [Nat.add_mul];omega]
section
variable {P:Program}{F:Fun P}{C:Cx}{S:List It}{σ:Fr}{β:List Bb}{Γ:List Fact}{R:Value→World→Prop}{p:List Nat}{i:Nat}{d:Option Tmp}{op:Op}{ty:TypeId}{K:Value→List Bb→List Fact→Prop}
theorem J3 {w:World}{t e:TypeId}{m:Nat}{x:Value}{lo hi mx:Option Value}(hT:Ek P t=some (e,m)):(Instr.sliceAt t x lo hi mx).run P w=(Instr.slice t x lo hi mx).run P w:=by
 obtain ⟨hu,_⟩:=Ct hT
 exact run_sliceAt_slice w t x lo hi mx (by rw [Rc hu];exact hu)
theorem Kc {w:World}{t e:TypeId}{m:Nat}(hT:Ek P t=some (e,m)):(sizeOf (P.elem t)).run P w = .ok m w:=by
 obtain ⟨hu,i,hi,hs⟩:=Ct hT
 rw [Rc hu]
 simp [sizeOf,typeInfo,hi,hs]
theorem ADX {α:Type}{E:Enc α}{t e:TypeId}{x y z:Operand}{pa:Option Addr}{len ca:Nat}{l:List α}{ky kz:IntKind}{hi mx:Int}(n k m:Nat) (hx:ev σ x=some (.slice pa len ca)) (hy:ev σ y=some (.int ky hi)) (hz:ev σ z=some (.int kz mx))
  (hn:A8 Γ n=some (A2 E pa len ca l)) (hT:Ek P t=some (e,E.size)) (hk:hi=(k:Int)) (hm:mx=(m:Int)) (h1:k≤m) (h2:k≤len) (h3:m≤ca)
  (h:K (.slice pa k m) β (A2 E pa k m (l.take k)::Γ)):Ej P C (.slice t x none (some y) (some z)) ty σ β Γ K:=fun w hO hG=>by
 obtain ⟨rfl,hs⟩:=hG _ (Al hn)
 have hp:Io P (.slice t x none (some y) (some z)) ty σ w (.slice pa k m):=fun ρ hρ=>by
  obtain ⟨hu,_⟩:=Ct hT
  subst hk;subst hm
  have:=run_slice_hm (P:=P) w t pa l.length ca (by rw [Rc hu];exact hu) ky kz k m (by omega) (by omega) (by omega)
  have e1:sliced pa 0 k m E.size = .slice pa k m:=by cases pa <;> simp [sliced,Addr.add]
  simp [execOp,Cp,hρ _ _ hx,hρ _ _ hy,hρ _ _ hz,J3 hT,this,Kc hT,e1]
 exact Io.done hp h hO fun g hg=>by
  rcases List.mem_cons.1 hg with rfl|hg
  ·exact ⟨by rw [List.length_take];omega,hs.take h1⟩
  ·exact hG g hg
theorem T6 {α:Type}{E:Enc α}{t e:TypeId}{x y:Operand}{pa:Option Addr}{len ca:Nat}{l:List α}{ky:IntKind}{hi:Int}(n k:Nat) (hx:ev σ x=some (.slice pa len ca)) (hy:ev σ y=some (.int ky hi))
  (hn:A8 Γ n=some (A2 E pa len ca l)) (hT:Ek P t=some (e,E.size)) (hk:hi=(k:Int)) (h2:k≤len)
  (h:K (.slice pa k ca) β (A2 E pa k ca (l.take k)::Γ)):Ej P C (.slice t x none (some y) none) ty σ β Γ K:=fun w hO hG=>by
 obtain ⟨rfl,hs⟩:=hG _ (Al hn)
 have hle:=hs.1
 have hp:Io P (.slice t x none (some y) none) ty σ w (.slice pa k ca):=fun ρ hρ=>by
  obtain ⟨hu,_⟩:=Ct hT
  subst hk
  have:=run_slice_h (P:=P) w t pa l.length ca (by rw [Rc hu];exact hu) ky k (by omega) (by omega)
  have e1:sliced pa 0 k ca E.size = .slice pa k ca:=by cases pa <;> simp [sliced,Addr.add]
  simp [execOp,Cp,hρ _ _ hx,hρ _ _ hy,J3 hT,this,Kc hT,e1]
 exact Io.done hp h hO fun g hg=>by
  rcases List.mem_cons.1 hg with rfl|hg
  ·exact ⟨by rw [List.length_take];omega,hs.take (by omega)⟩
  ·exact hG g hg
theorem AFp {α:Type}{E:Enc α}{t e:TypeId}{x y:Operand}{pa:Option Addr}{len ca:Nat}{l:List α}{ky:IntKind}{lo:Int}(n k:Nat) (hx:ev σ x=some (.slice pa len ca)) (hy:ev σ y=some (.int ky lo))
  (hn:A8 Γ n=some (A2 E pa len ca l)) (hT:Ek P t=some (e,E.size)) (hk:lo=(k:Int)) (h2:k≤len)
  (h:∀ pa',K (.slice pa' (len-k) (ca-k)) β (A2 E pa' (len-k) (ca-k) (l.drop k)::Γ)):Ej P C (.slice t x (some y) none none) ty σ β Γ K:=fun w hO hG=>by
 obtain ⟨rfl,hs⟩:=hG _ (Al hn)
 have hle:=hs.1
 have hp:Io P (.slice t x (some y) none none) ty σ w (.slice (if ca=k then pa else pa.map (·.add (k*E.size))) (l.length-k) (ca-k)):=fun ρ hρ=>by
  obtain ⟨hu,_⟩:=Ct hT
  subst hk
  have:=run_slice_l (P:=P) w t pa l.length ca (by rw [Rc hu];exact hu) ky k (by omega) (by omega)
  simp [execOp,Cp,hρ _ _ hx,hρ _ _ hy,J3 hT,this,Kc hT,sliced]
 exact Io.done hp (h _) hO fun g hg=>by
  rcases List.mem_cons.1 hg with rfl|hg
  ·exact ⟨by rw [List.length_drop],hs.drop⟩
  ·exact hG g hg
def Ov (P:Program):List Field→Option (List (Nat×Nat))
 | []=>some []
 | f::l=>match P.info? f.type,Ov P l with
  | some i,some ps=>some ((f.offset,i.size)::ps)
  | _,_=>none
def Kl (P:Program) (t:TypeId):Option (List (Nat×Nat)) :=
 match P.underlying t with
 | some (.struct fields)=>Ov P fields.toList
 | _=>none
theorem ADJ {w:World}:∀ {fs:List Field}{ps:List (Nat×Nat)},Ov P fs=some ps→(fs.mapM (m:=Sem) fun f=>do pure (f.offset,← sizeOf f.type)).run P w = .ok ps w:=by
 intro fs
 induction fs with
 | nil=>intro ps h;simp [Ov] at h;subst h;simp
 | cons f l ih =>
  intro ps h
  simp only [Ov] at h
  cases hi:P.info? f.type with
  | none=>rw [hi] at h;simp at h
  | some i =>
   cases hl:Ov P l with
   | none=>rw [hi,hl] at h;simp at h
   | some qs =>
    rw [hi,hl] at h
    obtain rfl:=Option.some.inj h
    have:=ih hl
    simp only [List.mapM_cons,Sem.run_bind,Sem.run_pure,Result.andThen_ok,sizeOf,typeInfo,run_program,hi] at this ⊢
    simp only [Result.andThen_ok,this]
def Y2 (ps:List (Nat×Nat)):List Value→List (Nat×List Value)→Option (List Value)
 | cs,[]=>some cs
 | cs,(j,vs)::l=>match A8 ps j with
  | some (o,m)=>match Nat.beq vs.length m,Nat.ble (o+m) cs.length with
   | true,true=>Y2 ps (Dq cs o vs) l
   | _,_=>none
  | none=>none
def Tk (σ:Fr):List (Nat×Operand)→Option (List (Nat×List Value))
 | []=>some []
 | (j,x)::l=>match ev σ x,Tk σ l with
  | some v,some vs=>some ((j,C8 v)::vs)
  | _,_=>none
theorem ADE {ps:List (Nat×Nat)}{ρ:Operand→Value}(hρ:∀ x v,ev σ x=some v→ρ x=v):∀ (parts:List (Nat×Operand)) (vs:List (Nat×List Value)) (cs cs':List Value),Tk σ parts=some vs→Y2 ps cs vs=some cs' →
  Instr.fill (ps.toArray[·]?) cs.toArray (parts.map fun (i,x)=>(i,ρ x))=some cs'.toArray:=by
 intro parts
 induction parts with
 | nil =>
  intro vs cs cs' h1 h2
  simp only [Tk,Option.some.injEq] at h1
  subst h1
  simp only [Y2,Option.some.injEq] at h2
  subst h2
  simp [Instr.fill]
 | cons q parts ih =>
  obtain ⟨j,x⟩:=q
  intro vs cs cs' h1 h2
  simp only [Tk] at h1
  cases hx:ev σ x with
  | none=>rw [hx] at h1;simp at h1
  | some v =>
   cases hr:Tk σ parts with
   | none=>rw [hx,hr] at h1;simp at h1
   | some us =>
    rw [hx,hr] at h1
    obtain rfl:=Option.some.inj h1
    simp only [Y2] at h2
    cases hp:A8 ps j with
    | none=>rw [hp] at h2;simp at h2
    | some om =>
     obtain ⟨o,m⟩:=om
     rw [hp] at h2
     simp only at h2
     cases hb:Nat.beq (C8 v).length m with
     | false=>rw [hb] at h2;simp at h2
     | true =>
      cases hc:Nat.ble (o+m) cs.length with
      | false=>rw [hb,hc] at h2;simp at h2
      | true =>
       rw [hb,hc] at h2
       have hvl:(C8 v).length=m:=Nat.eq_of_beq_eq_true hb
       have hvs:v.cells.size=m:=by rw [← Array.length_toList,Dr,hvl]
       have hle:=Nat.le_of_ble_eq_true hc
       simp only [List.map_cons,hρ _ _ hx]
       rw [B8] at hp
       rw [AAQ (ps.toArray[·]?) cs.toArray j v _ o m (by simpa using hp) hvs (by simpa using hle)]
       simpa using ih us (Dq cs o (C8 v)) cs' hr h2
theorem Tq {t:TypeId}{parts:List (Nat×Operand)}{ps:List (Nat×Nat)}{zs cs:List Value}{vs:List (Nat×List Value)}(hT:Kl P t=some ps) (hz:C0 P t=some zs) (hv:Tk σ parts=some vs) (hf:Y2 ps zs vs=some cs)
  (h:K (.agg cs.toArray) β Γ):Ej P C (.build t parts.toArray) ty σ β Γ K :=
 Dg (fun w ρ hρ=>by
  obtain ⟨i,z,hi,hz',hzc⟩:=Fx hz
  have hzz:z.cells=zs.toArray:=by rw [← hzc,← Dr]
  unfold Kl at hT
  split at hT
  ·rename_i fields hu
   have hpl:(fields.mapM (m:=Sem) fun f=>do pure (f.offset,← sizeOf f.type)).run P w = .ok ps.toArray w:=by
    have:=ADJ (P:=P) (w:=w) hT
    rw [← Array.toArray_toList (xs:=fields)]
    simp only [List.mapM_toArray,Sem.run_map,this,Result.andThen_ok]
   have hfl:=ADE hρ parts vs zs cs hv hf
   simp only [execOp,Cp,Instr.build,Sem.run_bind,T9 hi hz',Result.andThen_ok,run_underlying hu,hpl,hzz,List.map_toArray,List.toList_toArray]
   rw [hfl]
   simp
  ·simp at hT) h
theorem AGK {t:TypeId}{j o m:Nat}{x:Operand}{cs:List Value}{fl:Bool}{fields:Array Field}{f:Field}(hu:P.underlying t=some (.struct fields)) (hf:fields[j]?=some f) (hT:De P f.type=some (fl,m)) (ho:f.offset=o) (hx:ev σ x=some (.agg cs.toArray))
  (h1:fl=false→∀ v,cs[o]?=some v→K v β Γ) (h2:fl=true→K (.agg ((cs.drop o).take m).toArray) β Γ) (hl:fl=false→o<cs.length):Ej P C (.field t x j) ty σ β Γ K:=by
 subst ho
 unfold De at hT
 cases hu2:P.underlying f.type with
 | none=>rw [hu2] at hT;simp at hT
 | some dd =>
  cases hi:P.info? f.type with
  | none=>rw [hu2,hi] at hT;cases dd <;> simp at hT
  | some i =>
   rw [hu2,hi] at hT
   have hagg:∀ w:World,(isAgg f.type).run P w = .ok fl w:=by
    intro w
    unfold isAgg
    rw [Sem.run_bind,run_underlying hu2 w]
    cases dd <;> simp_all
   have hm:i.size=m:=by cases dd <;> simp_all
   cases fl with
   | false =>
    have hlt:=hl rfl
    refine Dg (v:=cs[f.offset]) (fun w ρ hρ=>?_) (h1 rfl _ (by simp [hlt]))
    simp [execOp,Cp,hρ _ _ hx,Instr.field,run_underlying hu,hf,asAgg,part,hagg,hlt]
   | true =>
    refine Dg (v:=.agg ((cs.drop f.offset).take m).toArray) (fun w ρ hρ=>?_) (h2 rfl)
    simp [execOp,Cp,hρ _ _ hx,Instr.field,run_underlying hu,hf,asAgg,part,hagg,sizeOf,typeInfo,hi,hm]
end
def Ap (k:IntKind) (l:List Nat):List Value:=l.map fun (n:Nat)=>.int k n
def Az (k:IntKind) (l:List Int):List Value:=l.map fun n=>.int k n
@[simp] theorem Rn (k:IntKind) (l:List Nat):(Ap k l).length=l.length:=by simp [Ap]
@[simp] theorem Hx (k:IntKind) (l:List Int):(Az k l).length=l.length:=by simp [Az]
theorem Wg (k:IntKind) (l:List Nat) (i:Nat):(Ap k l)[i]?=(l[i]?).map fun (n:Nat)=>.int k n:=by simp [Ap]
theorem ABF (k:IntKind) (l:List Nat) (i n:Nat):(Ap k l).set i (.int k n)=Ap k (l.set i n):=by simp [Ap,List.map_set]
theorem ACh (k:IntKind) (l:List Int) (i:Nat) (n:Int):(Az k l).set i (.int k n)=Az k (l.set i n):=by simp [Az,List.map_set]
theorem Px (k:IntKind) (l:List Int):(l.map fun n=>[Value.int k n]).flatten=Az k l:=by
 induction l with
 | nil=>rfl
 | cons x l ih=>simp only [List.map_cons,List.flatten_cons,ih,Az,List.singleton_append]
theorem AC2 (n:Nat) (v:Value):(List.replicate n [v]).flatten=List.replicate n v:=by
 induction n with
 | zero=>rfl
 | succ n ih=>simp only [List.replicate_succ,List.flatten_cons,ih,List.singleton_append]
theorem ABY (k:IntKind) (n z:Nat):Ap k (List.replicate n z)=List.replicate n (.int k z):=by simp [Ap]
section
variable {P:Program}{F:Fun P}{C:Cx}{S:List It}{σ:Fr}{β:List Bb}{Γ:List Fact}{R:Value→World→Prop}{p:List Nat}{i:Nat}{d:Option Tmp}{op:Op}{ty:TypeId}{K:Value→List Bb→List Fact→Prop}
theorem ADv {t e:TypeId}{kd kx ky:IntKind}{x y:Operand}{nn:Int}(k by':Nat) (hx:ev σ x=some (.int kx nn)) (hy:ev σ y=some (.int ky nn)) (hT:Ek P t=some (e,1))
  (hz:C0 P e=some [.int kd 0]) (hby:P.bytesOf e=by') (hm:nn=(k:Int)) (hk:by'*k≤281474976710656) (h63:k≤9223372036854775807)
  (h:∀ b,K (.slice (some ⟨b,0,none⟩) k k) ((some b,e,Ap kd (List.replicate k 0))::β) Γ):Ej P C (.makeSlice t x y) ty σ β Γ K :=
 ADC k by' hx hy hT hz rfl rfl hby hm hk h63 fun b=>by
  have e:(List.replicate k [Value.int kd 0]).flatten=Ap kd (List.replicate k 0):=by rw [AC2,ABY];rfl
  rw [e];exact h b
theorem Xn {t:TypeId}{x:Operand}{b o:Nat}{T:TypeId}{kd:IntKind}{l:List Nat}(n:Nat) (hx:ev σ x=some (.pointer (some ⟨b,o,none⟩))) (hn:A8 β n=some (some b,T,Ap kd l))
  (hT:De P t=some (false,1)) (ho:o<l.length) (h:∀ z,l[o]?=some z→K (.int kd z) β Γ):Ej P C (.load t x) ty σ β Γ K:=by
 have hz:l[o]?=some l[o]:=by simp [ho]
 exact Dt n hx hn hT (by rw [Wg,hz];rfl) (h _ hz)
theorem ABg {t:TypeId}{x:Operand}{b o:Nat}{T:TypeId}{kd:IntKind}{l:List Int}(n:Nat) (hx:ev σ x=some (.pointer (some ⟨b,o,none⟩))) (hn:A8 β n=some (some b,T,Az kd l))
  (hT:De P t=some (false,1)) (ho:o<l.length) (h:∀ z,l[o]?=some z→K (.int kd z) β Γ):Ej P C (.load t x) ty σ β Γ K:=by
 have hz:l[o]?=some l[o]:=by simp [ho]
 exact Dt n hx hn hT (by simp [Az,hz]) (h _ hz)
theorem Tn {t:TypeId}{x y:Operand}{b o:Nat}{T:TypeId}{kd:IntKind}{l:List Nat}{v:Int}(n z:Nat) (hx:ev σ x=some (.pointer (some ⟨b,o,none⟩))) (hy:ev σ y=some (.int kd v)) (hn:A8 β n=some (some b,T,Ap kd l))
  (hT:De P t=some (false,1)) (hv:v=(z:Int)) (ho:o<l.length) (h:K undef (setB β n (Ap kd (l.set o z))) Γ):Ej P C (.store t x y) ty σ β Γ K:=by
 subst hv
 exact Qd n hx hy hn rfl hT rfl (by simpa using ho) (by rw [ABF];exact h)
theorem AAM {t:TypeId}{x y:Operand}{b o:Nat}{T:TypeId}{kd:IntKind}{l:List Int}{v:Int}(n:Nat) (hx:ev σ x=some (.pointer (some ⟨b,o,none⟩))) (hy:ev σ y=some (.int kd v)) (hn:A8 β n=some (some b,T,Az kd l))
  (hT:De P t=some (false,1)) (ho:o<l.length) (h:K undef (setB β n (Az kd (l.set o v))) Γ):Ej P C (.store t x y) ty σ β Γ K :=
 Qd n hx hy hn rfl hT rfl (by simpa using ho) (by rw [ACh];exact h)
theorem ACZ (k:IntKind) (by':Nat) (l:List Int) (hl:∀ x∈l,Bf k x) (w:World) (A:Nat→Prop):(N7 (Ca k by') (l.map fun n=>[.int k n]) l).holds w A:=by
 refine ⟨by simp,fun i vs x hv hx=>?_⟩
 rw [List.getElem?_map,hx] at hv
 simp only [Option.map_some,Option.some.injEq] at hv
 exact ⟨hv.symm,hl x (List.mem_of_getElem? hx)⟩
theorem Gn {kd:IntKind}{e:TypeId}{b n:Nat}(by':Nat) (l:List Int) (k:Nat)
  (hn:A8 β k=some (some b,e,Az kd l)) (hl:n=l.length) (hr:∀ x∈l,Bf kd x) (hby:n*by'≤140737488355328) (h63:n≤9223372036854775807)
  (h:J F C S σ (β.eraseIdx k) (A2 (Ca kd by') (some ⟨b,0,none⟩) n n l::Γ) R):J F C S σ β Γ R :=
 Jh (N7 (Ca kd by') (l.map fun n=>[.int kd n]) l) (fun w A _=>ACZ kd by' l hr w A)
  (AHl (bo:=some b) (cap:=n) k 0 hn rfl (.inr ⟨b,rfl,Nat.le_refl _,h63,by simp [hl,Ca]⟩) (by show (Az kd l).take (n*1)=_;rw [Nat.mul_one,Px,hl,← Hx kd l,List.take_length]) hl hby (Ww (fun f hf=>by
   rcases List.mem_cons.1 hf with rfl|hf
   ·exact .head _
   ·exact .tail _ (.tail _ hf)) h))
end
end Go.Fw
