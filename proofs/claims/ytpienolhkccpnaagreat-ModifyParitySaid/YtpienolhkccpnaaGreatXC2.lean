/-
The tenth text of the frame: a region that draws its order. Its operations are gone through once, in the order of the text; what each leaves is a value that is known outright, or a fact; a fact is lent to those operations alone that wait for it. The eleventh text of the frame: short words for regions that draw their order, and for rows that are given up. The twelfth text of the frame: bitwise operations, the lesser of two integers, a sign of a text, an empty literal. The thirteenth text of the frame: loops that keep what they do not touch, results that lie in memory, blocks that are handed to a callee and come back, parts of own slices, fractions as results. The fourteenth text of the frame: own rows that read as lists while they grow and change; structs that are read by a view of their cells.
-/
import Derived.Test.YtpienolhkccpnaaGreatXC1
set_option linter.unusedVariables false
set_option linter.unusedSimpArgs false
namespace Go.Fw
open Go.RowKit (Below)
abbrev Gh:=Nat→Option Addr×Nat×Nat×List Value
inductive Po where
 | auto
 | eq (v:Value)
 | fa (val:Gh→Value) (f:Gh→List Fact)
 | al (T:TypeId) (cs:List Value) (val:Nat→Value)
 | pv (ts:List Tmp) (g:List Value→Value)
 | sg (bl:Gh→List A4) (val:Gh→Value) (f:Gh→List Fact)
 | sh (bl:Gh→List A4) (val:Gh→Value) (f:Gh→List Fact)
 | si (bl:Gh→List A4) (val:Gh→Value) (f:Gh→List Fact)
 | st (cs:List Value)
abbrev Pb:=Option (List A4)
def Nz:Pb→List A4
 | none=>[]
 | some l=>l
def N9 (pb:Pb) (k:Nat):Prop:=∃ x∈Nz pb,x.1=some k
structure Other (b:Nat) (w w':World):Prop where
 os:w'.os=w.os
 tape:w'.tape=w.tape
 output:w'.output=w.output
 size:w'.heap.size=w.heap.size
 block:∀ k,k≠b→w'.heap[k]?=w.heap[k]?
structure ExtP (pb:Pb) (w w':World):Prop where
 os:w'.os=w.os
 tape:w'.tape=w.tape
 output:w'.output=w.output
 size:w.heap.size≤w'.heap.size
 block:∀ k,k<w.heap.size→¬ N9 pb k→w'.heap[k]?=w.heap[k]?
theorem ExtP.of {pb:Pb}{w w':World}(h:Ext w w'):ExtP pb w w':=⟨h.os,h.tape,h.output,h.size,fun k hk _=>h.block k hk⟩
theorem ExtP.refl (pb:Pb) (w:World):ExtP pb w w:=.of (Below.refl _ _)
theorem ExtP.trans {pb:Pb}{a b c:World}(h:ExtP pb a b) (h':ExtP pb b c):ExtP pb a c :=
 ⟨h'.os.trans h.os,h'.tape.trans h.tape,h'.output.trans h.output,Nat.le_trans h.size h'.size,fun k hk hn=>(h'.block k (Nat.lt_of_lt_of_le hk h.size) hn).trans (h.block k hk hn)⟩
structure ExtQ (Q:Nat→Prop) (w w':World):Prop where
 os:w'.os=w.os
 tape:w'.tape=w.tape
 output:w'.output=w.output
 size:w.heap.size≤w'.heap.size
 block:∀ k,k<w.heap.size→¬ Q k→w'.heap[k]?=w.heap[k]?
theorem ExtQ.of {Q:Nat→Prop}{w w':World}(h:Ext w w'):ExtQ Q w w':=⟨h.os,h.tape,h.output,h.size,fun k hk _=>h.block k hk⟩
theorem ExtQ.refl (Q:Nat→Prop) (w:World):ExtQ Q w w:=.of (Below.refl _ _)
theorem ExtP.transQ {pb:Pb}{Q:Nat→Prop}{a b c:World}(h:ExtP pb a b) (h':ExtQ Q b c) (hq:∀ k,k<a.heap.size→Q k→N9 pb k):ExtP pb a c :=
 ⟨h'.os.trans h.os,h'.tape.trans h.tape,h'.output.trans h.output,Nat.le_trans h.size h'.size,fun k hk hn=>(h'.block k (Nat.lt_of_lt_of_le hk h.size) fun h=>hn (hq k hk h)).trans (h.block k hk hn)⟩
def JD (P:Program) (op:Op) (ty:TypeId) (σ:Fr) (β:List A4) (Γ:List Fact) (val:Gh→Value) (f:Gh→List Fact):Prop :=
 ∀ C w,Own C w β→(∀ g∈Γ,g.holds w (ok C w β))→Ex P op ty σ w fun v w'=>Ext w w'∧∃ x,v=val x∧∀ g∈f x,g.holds w' (ok C w' β)
def JA (P:Program) (op:Op) (ty:TypeId) (σ:Fr) (T:TypeId) (cs:List Value) (val:Nat→Value):Prop :=
 ∀ w,Ex P op ty σ w fun v w'=>v=val w.heap.size∧w'=w.alloc (.cells cs.toArray T)
def JS (P:Program) (op:Op) (ty:TypeId) (σ:Fr) (b:Nat) (T:TypeId) (cs0 cs:List Value):Prop :=
 ∀ w,w.heap[b]?=some (.cells cs0.toArray T (0,0))→Ex P op ty σ w fun v w'=>v=undef∧Other b w w'∧w'.heap[b]?=some (.cells cs.toArray T (0,0))
def JG (P:Program) (op:Op) (ty:TypeId) (σ:Fr) (pb:Pb) (Γ:List Fact) (bl:Gh→List A4) (val:Gh→Value) (f:Gh→List Fact):Prop :=
 ∀ w A,(∀ k,A k→k<w.heap.size∧¬ N9 pb k)→(∀ x∈Nz pb,∀ b,x.1=some b→w.heap[b]?=some (.cells x.2.2.toArray x.2.1 (0,0)))→Ay (Nz pb)→(∀ g∈Γ,g.holds w A) →
  Ex P op ty σ w fun v w'=>∃ x,v=val x∧Keep w (N9 pb) w'∧Ay (bl x)∧(∀ y∈bl x,∀ b,y.1=some b→(w.heap.size≤b∨N9 pb b)∧w'.heap[b]?=some (.cells y.2.2.toArray y.2.1 (0,0))) ∧
   ∀ g∈f x,g.holds w' (fun k=>(A k∨w.heap.size≤k)∧k<w'.heap.size∧∀ y∈bl x,y.1≠some k)
def Hx (o:Oper):List Nat:=(o.after.toList.filter (Region.binds .any)).map (·.on)
def AJt (xs:List Operand):List Tmp:=xs.filterMap fun
 | .tmp t=>some t
 | _=>none
def ABj (L:List Oper) (o:Oper):List Tmp :=
 match o.guard with
 | some (j,_)=>match A5 L j with
  | some g=>g.dst.toList
  | none=>[]
 | none=>[]
def Jv (L:List Oper) (o:Oper):List Tmp:=AJt o.op.operands.toList++ABj L o
def Bc (n:Nat):List Nat→Bool
 | []=>false
 | m::l=>match Nat.beq n m with
  | true=>true
  | false=>Bc n l
theorem C6 {n:Nat}{l:List Nat}:Bc n l=true↔n∈l:=by
 induction l with
 | nil=>simp [Bc]
 | cons m l ih =>
  simp only [Bc,List.mem_cons]
  cases hb:Nat.beq n m with
  | true=>simp [Nat.eq_of_beq_eq_true hb]
  | false=>simp [Nat.ne_of_beq_eq_false hb,ih]
def B3 (pt:List (List Nat)) (i:Nat):List Nat:=(A5 pt i).getD []
def AJW (l:List Nat) (n:Nat):List Nat:=match Bc n l with
 | true=>l
 | false=>n::l
def Iq:List Oper→List (List Nat)→List (List Nat)
 | [],acc=>acc
 | o::l,acc=>Iq l (acc++[((Hx o).foldl (fun s e=>(B3 acc e).foldl AJW (AJW s e)) [])])
def U8 {α:Type}(f:Nat→α→Bool):Nat→List α→Bool
 | _,[]=>true
 | n,x::l=>f n x && U8 f (n+1) l
theorem Lj {α:Type}{f:Nat→α→Bool}:∀ {l:List α}{n:Nat},U8 f n l=true→∀ {i:Nat}{x:α},l[i]?=some x→f (n+i) x=true:=by
 intro l
 induction l with
 | nil=>intro n _ i x h;simp at h
 | cons y l ih =>
  intro n h i x hi
  simp only [U8,Bool.and_eq_true] at h
  cases i with
  | zero=>simp at hi;subst hi;exact h.1
  | succ i=>have:=ih h.2 (i:=i) (by simpa using hi);rwa [show n+(i+1)=n+1+i by omega]
def Ur (L:List Oper) (pt:List (List Nat)) (i:Nat) (a:Oper) (j:Nat) (b:Oper):Bool :=
 match Nat.blt i j with
 | false=>true
 | true=>Bc i (B3 pt j) ||
  ((match b.dst with
   | some d=>!(Bc d (Jv L a))
   | none=>true) &&
   (match a.dst with
   | some d=>!(Bc d (Jv L b)) && (match b.dst with
    | some e=>!(Nat.beq d e)
    | none=>true)
   | none=>true))
structure RegB (L:List Oper) (pt:List (List Nat)) (k:Nat):Prop where
 le:k≤L.length
 deps:∀ i o,L[i]?=some o→∀ e∈Hx o,e<i
 pre:∀ i o,L[i]?=some o→∀ j∈B3 pt i,∃ e∈Hx o,j=e∨j∈B3 pt e
 pair:∀ i j a b,i<k→j<k→L[i]?=some a→L[j]?=some b→Ur L pt i a j b=true
 noSel:∀ (i:Nat) (o:Oper) cs b,L[i]?=some o→o.op≠Op.select cs b
structure RegOk (L:List Oper) (pt:List (List Nat)) (k:Nat):Prop extends RegB L pt k where
 tail:∀ i,k≤i→i<L.length→∀ j,j<i→j∈B3 pt i
structure RegW (L:List Oper) (pt:List (List Nat)) (k:Nat) (A:List Nat) (m:Nat):Prop extends RegB L pt k where
 late:∀ i,k≤i→i<L.length→∀ j,j<i→j∈B3 pt i∨(j∈A∧i<k+m)
def AFs:Op→Bool
 | .select _ _=>true
 | _=>false
def Tu (L:List Oper) (pt:List (List Nat)) (k:Nat):Bool :=
 Nat.ble k L.length &&
 U8 (fun i (o:Oper)=>(Hx o).all (fun e=>Nat.blt e i) && (B3 pt i).all (fun j=>(Hx o).any fun e=>Nat.beq j e || Bc j (B3 pt e)) &&
  (Nat.blt i k || (List.range i).all fun j=>Bc j (B3 pt i)) && !AFs o.op) 0 L &&
 U8 (fun i (a:Oper)=>U8 (fun j (b:Oper)=>Ur L pt i a j b) 0 (L.take k)) 0 (L.take k)
theorem AD7 {L:List Oper}{pt:List (List Nat)}{k:Nat}(h:Tu L pt k=true):RegOk L pt k:=by
 simp only [Tu,Bool.and_eq_true] at h
 obtain ⟨⟨h1,h2⟩,h3⟩:=h
 have g2:=fun {i o}(hi:L[i]?=some o)=>Lj h2 (i:=i) hi
 simp only [Nat.zero_add,Bool.and_eq_true,List.all_eq_true,List.any_eq_true,Bool.or_eq_true] at g2
 have tail:∀ i,k≤i→i<L.length→∀ j,j<i→j∈B3 pt i:=fun i hk hi j hj=>by
  have hx:L[i]?=some L[i]:=by simp [hi]
  rcases (g2 hx).1.2 with h|h
  ·have:=Nat.le_of_ble_eq_true h;omega
  ·exact C6.1 (h j (by simpa using hj))
 refine ⟨⟨Nat.le_of_ble_eq_true h1,fun i o hi e he=>?_,fun i o hi j hj=>?_,fun i j a b hi hj ha hb=>?_,fun i o cs b hi e=>?_⟩,tail⟩
 ·exact Nat.le_of_ble_eq_true ((g2 hi).1.1.1 e he)
 ·obtain ⟨e,he,h⟩:=(g2 hi).1.1.2 j hj
  refine ⟨e,he,?_⟩
  rcases h with h|h
  ·exact .inl (Nat.eq_of_beq_eq_true h)
  ·exact .inr (C6.1 h)
 ·have e1:=Lj h3 (i:=i) (x:=a) (by rw [List.getElem?_take,if_pos hi];exact ha)
  have e2:=Lj e1 (i:=j) (x:=b) (by rw [List.getElem?_take,if_pos hj];exact hb)
  simpa using e2
 ·have:=(g2 hi).2
  rw [e] at this
  simp [AFs] at this
def AGt (L:List Oper) (pt:List (List Nat)) (k:Nat) (A:List Nat) (m:Nat):Bool :=
 Nat.ble k L.length &&
 U8 (fun i (o:Oper)=>(Hx o).all (fun e=>Nat.blt e i) && (B3 pt i).all (fun j=>(Hx o).any fun e=>Nat.beq j e || Bc j (B3 pt e)) &&
  (Nat.blt i k || (List.range i).all fun j=>Bc j (B3 pt i) || (Bc j A && Nat.blt i (k+m))) && !AFs o.op) 0 L &&
 U8 (fun i (a:Oper)=>U8 (fun j (b:Oper)=>Ur L pt i a j b) 0 (L.take k)) 0 (L.take k)
theorem AA7 {L:List Oper}{pt:List (List Nat)}{k m:Nat}{A:List Nat}(h:AGt L pt k A m=true):RegW L pt k A m:=by
 simp only [AGt,Bool.and_eq_true] at h
 obtain ⟨⟨h1,h2⟩,h3⟩:=h
 have g2:=fun {i o}(hi:L[i]?=some o)=>Lj h2 (i:=i) hi
 simp only [Nat.zero_add,Bool.and_eq_true,List.all_eq_true,List.any_eq_true,Bool.or_eq_true] at g2
 have late:∀ i,k≤i→i<L.length→∀ j,j<i→j∈B3 pt i∨(j∈A∧i<k+m):=fun i hk hi j hj=>by
  have hx:L[i]?=some L[i]:=by simp [hi]
  rcases (g2 hx).1.2 with h|h
  ·have:=Nat.le_of_ble_eq_true h;omega
  ·rcases h j (by simpa using hj) with h|⟨h,h'⟩
   ·exact .inl (C6.1 h)
   ·exact .inr ⟨C6.1 h,Nat.le_of_ble_eq_true h'⟩
 refine ⟨⟨Nat.le_of_ble_eq_true h1,fun i o hi e he=>?_,fun i o hi j hj=>?_,fun i j a b hi hj ha hb=>?_,fun i o cs b hi e=>?_⟩,late⟩
 ·exact Nat.le_of_ble_eq_true ((g2 hi).1.1.1 e he)
 ·obtain ⟨e,he,h⟩:=(g2 hi).1.1.2 j hj
  refine ⟨e,he,?_⟩
  rcases h with h|h
  ·exact .inl (Nat.eq_of_beq_eq_true h)
  ·exact .inr (C6.1 h)
 ·have e1:=Lj h3 (i:=i) (x:=a) (by rw [List.getElem?_take,if_pos hi];exact ha)
  have e2:=Lj e1 (i:=j) (x:=b) (by rw [List.getElem?_take,if_pos hj];exact hb)
  simpa using e2
 ·have:=(g2 hi).2
  rw [e] at this
  simp [AFs] at this
theorem ACm {L:List Oper}{pt:List (List Nat)}{k:Nat}(hr:RegB L pt k) {T:Nat→Prop}(hT:∀ i o,T i→L[i]?=some o→∀ e∈Hx o,T e) :
  ∀ i,i<L.length→(∀ o,L[i]?=some o→∀ e∈Hx o,T e)→∀ j∈B3 pt i,T j:=by
 intro i
 induction i using Nat.strongRecOn with
 | _ i ih =>
  intro hi hd j hj
  have hx:L[i]?=some L[i]:=by simp [hi]
  obtain ⟨e,he,h⟩:=hr.pre i _ hx j hj
  have hTe:=hd _ hx e he
  have hlt:=hr.deps i _ hx e he
  rcases h with rfl|h
  ·exact hTe
  ·exact ih e hlt (by omega) (fun o ho=>hT e o hTe ho) j h
def Hb (d:Option Tmp) (κ:Fr):Fr :=
 match d with
 | some d=>Fr.del d κ
 | none=>κ
def gd (L:List Oper) (κ:Fr) (o:Oper):Option Bool :=
 match o.guard with
 | none=>some true
 | some (j,want)=>match A5 L j with
  | some g=>match g.dst with
   | some s=>match Fr.get s κ with
    | some (.bool true)=>some want
    | some (.bool false)=>some (!want)
    | some (.tuple ⟨[]⟩)=>some false
    | _=>none
   | none=>none
  | none=>none
def Cj (it:List (TypeId×IntKind)) (L:List Oper) (κ:Fr) (o:Oper) (po:Po):Option Value :=
 match gd L κ o with
 | some false=>some undef
 | _=>match po with
  | .eq v=>some v
  | .auto=>(pev it κ o.op).map (·.1)
  | .fa _ _=>none
  | .al _ _ _=>none
  | .pv _ _=>none
  | .sg _ _ _=>none
  | .sh _ _ _=>none
  | .si _ _ _=>none
  | .st _=>none
def Ox (it:List (TypeId×IntKind)) (L:List Oper) (κ:Fr) (o:Oper) (po:Po):Fr :=
 match Cj it L κ o po with
 | some v=>putF o.dst v κ
 | none=>Hb o.dst κ
section
variable {P:Program}{F:Fun P}{C:Cx}{S:List It}{R:Value→World→Prop}{β:List A4}
def Sk (pre:List Nat):List (Nat×Fact)→List Fact
 | []=>[]
 | (i,f)::l=>match Bc i pre with
  | true=>f::Sk pre l
  | false=>Sk pre l
def Nj (d:Option Tmp) (n:Nat):Bool :=
 match d with
 | some d=>Nat.blt d n
 | none=>true
def Nm (σ:Fr) (ts:List Tmp):List Value:=ts.map fun t=>(Fr.get t σ).getD undef
def Cd (L:List Oper) (i:Nat):Option Tmp:=(A5 L i).bind (·.dst)
def dpA (L:List Oper) (j:Nat):List Nat :=
 match A5 L j with
 | some o=>Hx o
 | none=>[]
inductive Inter (L:List Oper) (A:List Nat) (e:Nat):List Nat→Nat→List Nat→Prop
 | done {i:Nat}:Inter L A e [] i (List.range' i (L.length-i))
 | pend {i:Nat}{l pend:List Nat}{j:Nat}:j∈pend→(∀ x∈dpA L j,x∉pend)→Inter L A e (pend.erase j) i l→Inter L A e pend i (j::l)
 | tail {i:Nat}{l pend:List Nat}:i<L.length→i<e→i∉A→Inter L A e pend (i+1) l→Inter L A e pend i (i::l)
 | issue {i:Nat}{l pend:List Nat}:i<L.length→i<e→i∈A→Inter L A e (i::pend) (i+1) l→Inter L A e pend i l
def WIN (F:Fun P) (C:Cx) (p:List Nat) (A:List Nat) (m i:Nat) (S:List It) (σ:Fr) (β:List A4) (Γ:List Fact) (R:Value→World→Prop):Prop :=
 ∀ pend sched,(∀ j∈pend,j∈A∧j<i)→pend.Nodup→Inter (Ak (sub p F.B)) A (i+m) pend i sched→∀ w,Own C w β→(∀ g∈Γ,g.holds w (ok C w β))→∀ a:Act,a.tmps.size=F.fn.ntmps→a.defers=F.dfs →
  (∀ t v,(∀ j∈pend,Cd (Ak (sub p F.B)) j≠some t)→Fr.get t σ=some v→a.tmps[t]?=some v)→At F (.inRegion (Ak (sub p F.B)).toArray sched::S.map (It.item F.B)) a w R
def Xu:List It→Bool
 | .win _ _::_=>true
 | _=>false
def ALl (F:Fun P) (C:Cx) (p:List Nat) (S:List It) (i:Nat) (σ:Fr) (β:List A4) (Γ:List Fact) (R:Value→World→Prop):Prop :=
 match S with
 | .win A m::S'=>WIN F C p A m i S' σ β Γ R
 | S=>J F C (.o p i::S) σ β Γ R
theorem AAt {S:List It}(hS:Xu S=false) {p:List Nat}{i:Nat}{σ:Fr}{β:List A4}{Γ:List Fact}:ALl F C p S i σ β Γ R=J F C (.o p i::S) σ β Γ R:=by
 unfold ALl
 split
 ·simp [Xu] at hS
 ·rfl
def Gp (pt:List (List Nat)) (i:Nat):Nat→List Po→Bool
 | _,[]=>true
 | n,po::pos=>(match po with
  | .sg _ _ _=>Bc i (B3 pt n)
  | .sh _ _ _=>Bc i (B3 pt n)
  | .si _ _ _=>Bc i (B3 pt n)
  | .st _=>false
  | _=>true) && Gp pt i (n+1) pos
theorem ACw {pt:List (List Nat)}{i:Nat}:∀ {pos:List Po}{n:Nat},Gp pt i n pos=true→∀ k,(∀ cs,A5 pos k≠some (.st cs))∧((∃ bl val f,A5 pos k=some (.sg bl val f)∨A5 pos k=some (.sh bl val f)∨A5 pos k=some (.si bl val f))→i∈B3 pt (n+k)):=by
 intro pos
 induction pos with
 | nil=>intro n _ k;exact ⟨fun cs h=>by simp [A5] at h,fun ⟨_,_,_,h⟩=>by rcases h with h|h|h <;> simp [A5] at h⟩
 | cons po pos ih =>
  intro n h k
  simp only [Gp,Bool.and_eq_true] at h
  cases k with
  | zero =>
   refine ⟨fun cs hc=>?_,fun ⟨bl,val,f,hc⟩=>?_⟩
   ·obtain rfl:po = .st cs:=by simpa [A5] using hc
    exact absurd h.1 (by simp)
   ·rcases hc with hc|hc|hc
    ·obtain rfl:po = .sg bl val f:=by simpa [A5] using hc
     exact C6.1 h.1
    ·obtain rfl:po = .sh bl val f:=by simpa [A5] using hc
     exact C6.1 h.1
    ·obtain rfl:po = .si bl val f:=by simpa [A5] using hc
     exact C6.1 h.1
  | succ k =>
   obtain ⟨h1,h2⟩:=ih h.2 k
   have e:n+(k+1)=n+1+k:=by omega
   rw [e]
   exact ⟨fun cs hc=>h1 cs (by simpa [A5] using hc),fun ⟨bl,val,f,hc⟩=>h2 ⟨bl,val,f,by simpa [A5] using hc⟩⟩
def Lx (it:List (TypeId×IntKind)) (F:Fun P) (C:Cx) (p:List Nat) (S:List It) (L:List Oper) (pt:List (List Nat)) (β:List A4) (Γ:List Fact) (R:Value→World→Prop):Nat→List Po→Fr→Fr→List (Nat×Fact)→List A4→Pb→Prop
 | i,[],_,σ,fs,al,pb=>ALl F C p S i σ (al++(Nz pb++β)) (fs.map (·.2)++Γ) R
 | i,po::pos,κ,σ,fs,al,pb=>match A5 L i with
  | none=>False
  | some o=>match Nj o.dst F.fn.ntmps,gd L κ o with
   | true,some false=>Lx it F C p S L pt β Γ R (i+1) pos (putF o.dst undef κ) (putF o.dst undef σ) fs al pb
   | true,some true=>match po with
    | .auto=>match pev it κ o.op with
     | some (v,q)=>q∧Lx it F C p S L pt β Γ R (i+1) pos (putF o.dst v κ) (putF o.dst v σ) fs al pb
     | none=>False
    | .eq v=>JD P o.op o.type σ β (Sk (B3 pt i) fs++Γ) (fun _=>v) (fun _=>[])∧Lx it F C p S L pt β Γ R (i+1) pos (putF o.dst v κ) (putF o.dst v σ) fs al pb
    | .fa val f=>JD P o.op o.type σ β (Sk (B3 pt i) fs++Γ) val f∧∀ x,Lx it F C p S L pt β Γ R (i+1) pos (Hb o.dst κ) (putF o.dst (val x) σ) ((f x).map (fun g=>(i,g))++fs) al pb
    | .al T cs val=>JA P o.op o.type σ T cs val∧∀ b,Lx it F C p S L pt β Γ R (i+1) pos (Hb o.dst κ) (putF o.dst (val b) σ) fs ((some b,T,cs)::al) pb
    | .pv ts g=>(ts.all fun t=>Bc t (Jv L o))=true∧JD P o.op o.type σ β (Sk (B3 pt i) fs++Γ) (fun _=>g (Nm σ ts)) (fun _=>[])∧Lx it F C p S L pt β Γ R (i+1) pos (Hb o.dst κ) (putF o.dst (g (Nm σ ts)) σ) fs al pb
    | .st cs=>match pb with
     | some [(some b,T,cs0)]=>JS P o.op o.type σ b T cs0 cs∧Lx it F C p S L pt β Γ R (i+1) pos (Hb o.dst κ) (putF o.dst undef σ) fs ((some b,T,cs)::al) none
     | _=>False
    | .sg bl val f=>pb.isSome=true∧JG P o.op o.type σ pb (Sk (B3 pt i) fs++Γ) bl val f∧∀ x,Lx it F C p S L pt β Γ R (i+1) pos (Hb o.dst κ) (putF o.dst (val x) σ) ((f x).map (fun g=>(i,g))++fs) (bl x++al) none
    | .sh bl val f=>(pb.isSome=true∧Gp pt i (i+1) pos=true)∧JG P o.op o.type σ pb (Sk (B3 pt i) fs++Γ) bl val f∧∀ x,Lx it F C p S L pt β Γ R (i+1) pos (Hb o.dst κ) (putF o.dst (val x) σ) ((f x).map (fun g=>(i,g))++fs) al (some (bl x))
    | .si bl val f=>(pb.isSome=true∧Gp pt i (i+1) pos=true)∧JG P o.op o.type σ pb (Sk (B3 pt i) fs++Γ) bl val f∧∀ x,Lx it F C p S L pt β Γ R (i+1) pos (Hb o.dst κ) (putF o.dst (val x) σ) ((f x).map (fun g=>(i,g))++fs) (bl x++al) (some [])
   | _,_=>False
end
def Mx (it:List (TypeId×IntKind)) (L:List Oper) (pos:List Po) (κ:Fr):Nat→Fr
 | 0=>κ
 | i+1=>match A5 L i,A5 pos i with
  | some o,some po=>Ox it L (Mx it L pos κ i) o po
  | _,_=>Mx it L pos κ i
def kv (it:List (TypeId×IntKind)) (L:List Oper) (pos:List Po) (κ:Fr) (i:Nat):Option Value :=
 match A5 L i,A5 pos i with
 | some o,some po=>Cj it L (Mx it L pos κ i) o po
 | _,_=>none
def vlA (it:List (TypeId×IntKind)) (L:List Oper) (pos:List Po) (κ:Fr) (vs:Nat→Gh) (i:Nat) (φ:Fr):Value :=
 match kv it L pos κ i with
 | some v=>v
 | none=>match A5 pos i with
  | some (.fa val _)=>val (vs i)
  | some (.al _ _ val)=>val (vs i 0).2.1
  | some (.pv ts g)=>g (Nm φ ts)
  | some (.sg _ val _)=>val (vs i)
  | some (.sh _ val _)=>val (vs i)
  | some (.si _ val _)=>val (vs i)
  | _=>undef
def Fi (it:List (TypeId×IntKind)) (L:List Oper) (pos:List Po) (σ:Fr) (vs:Nat→Gh):Nat→Fr
 | 0=>σ
 | i+1=>putF (Cd L i) (vlA it L pos σ vs i (Fi it L pos σ vs i)) (Fi it L pos σ vs i)
def vl (it:List (TypeId×IntKind)) (L:List Oper) (pos:List Po) (κ:Fr) (vs:Nat→Gh) (i:Nat):Value:=vlA it L pos κ vs i (Fi it L pos κ vs i)
def AAx:Option Po→Gh→List Fact
 | some (.fa _ f),x=>f x
 | some (.sg _ _ f),x=>f x
 | some (.sh _ _ f),x=>f x
 | some (.si _ _ f),x=>f x
 | _,_=>[]
def AEu:Option Po→Gh→List A4
 | some (.al T cs _),x=>[(some (x 0).2.1,T,cs)]
 | some (.sg bl _ _),x=>bl x
 | some (.sh bl _ _),x=>bl x
 | some (.si bl _ _),x=>bl x
 | _,_=>[]
def Kq:Option Po→Gh→List A4
 | some (.al T cs _),x=>[(some (x 0).2.1,T,cs)]
 | some (.sg bl _ _),x=>bl x
 | some (.si bl _ _),x=>bl x
 | _,_=>[]
theorem Wb {po:Option Po}{x:Gh}{y:A4}(h:y∈Kq po x):y∈AEu po x∧∀ bl val f,po≠some (.sh bl val f):=by
 unfold Kq at h
 split at h
 ·exact ⟨h,fun _ _ _ e=>by cases e⟩
 ·exact ⟨h,fun _ _ _ e=>by cases e⟩
 ·exact ⟨h,fun _ _ _ e=>by cases e⟩
 ·cases h
def X8:Option Po→Pb→List A4
 | some (.st cs),some [(some b,T,_)]=>[(some b,T,cs)]
 | _,_=>[]
def F1 (it:List (TypeId×IntKind)) (L:List Oper) (pos:List Po) (σ:Fr) (vs:Nat→Gh):Nat→List (Nat×Fact)
 | 0=>[]
 | i+1=>match kv it L pos σ i with
  | none=>(AAx (A5 pos i) (vs i)).map (fun g=>(i,g))++F1 it L pos σ vs i
  | _=>F1 it L pos σ vs i
def B6 (it:List (TypeId×IntKind)) (L:List Oper) (pos:List Po) (σ:Fr) (pb:Pb) (vs:Nat→Gh):Nat→Pb
 | 0=>pb
 | i+1=>match kv it L pos σ i,A5 pos i with
  | none,some (.st _)=>none
  | none,some (.sg _ _ _)=>none
  | none,some (.sh bl _ _)=>some (bl (vs i))
  | none,some (.si _ _ _)=>some []
  | _,_=>B6 it L pos σ pb vs i
def Dw (it:List (TypeId×IntKind)) (L:List Oper) (pos:List Po) (σ:Fr) (pb:Pb) (vs:Nat→Gh):Nat→List A4
 | 0=>[]
 | i+1=>match kv it L pos σ i with
  | none=>Kq (A5 pos i) (vs i)++(X8 (A5 pos i) (B6 it L pos σ pb vs i)++Dw it L pos σ pb vs i)
  | _=>Dw it L pos σ pb vs i
def Td (it:List (TypeId×IntKind)) (L:List Oper) (pos:List Po) (σ:Fr) (i:Nat) (cs:List Value):Prop:=i<pos.length∧kv it L pos σ i=none∧A5 pos i=some (.st cs)
def ABI (it:List (TypeId×IntKind)) (L:List Oper) (pos:List Po) (σ:Fr) (i:Nat):Prop:=i<pos.length∧kv it L pos σ i=none∧∃ T val f,A5 pos i=some (.sg T val f)∨A5 pos i=some (.sh T val f)∨A5 pos i=some (.si T val f)
def AEr (it:List (TypeId×IntKind)) (L:List Oper) (pos:List Po) (σ:Fr) (i:Nat):Prop:=i<pos.length∧kv it L pos σ i=none∧∃ T val f,A5 pos i=some (.sh T val f)
def ABE (it:List (TypeId×IntKind)) (L:List Oper) (pos:List Po) (σ:Fr) (i:Nat):Prop:=i<pos.length∧kv it L pos σ i=none∧∃ T val f,A5 pos i=some (.si T val f)
def Mk (it:List (TypeId×IntKind)) (L:List Oper) (pos:List Po) (σ:Fr):Nat→Nat
 | 0=>0
 | i+1=>match kv it L pos σ i,A5 pos i with
  | none,some (.si _ _ _)=>Mk it L pos σ i+1
  | _,_=>Mk it L pos σ i
theorem AH0 {it:List (TypeId×IntKind)}{L:List Oper}{pos:List Po}{σ:Fr}{i j:Nat}(h:i≤j):Mk it L pos σ i≤Mk it L pos σ j:=by
 induction j with
 | zero=>rw [Nat.le_zero.1 h];exact Nat.le_refl _
 | succ j ih =>
  rcases Nat.lt_or_ge i (j+1) with h1|h1
  ·refine Nat.le_trans (ih (by omega)) ?_
   simp only [Mk]
   split
   ·omega
   ·exact Nat.le_refl _
  ·have e:i=j+1:=by omega
   rw [e];exact Nat.le_refl _
theorem Y8 {it:List (TypeId×IntKind)}{L:List Oper}{pos:List Po}{σ:Fr}{i j:Nat}(hji:j≤i) (h:∀ m,j≤m→m<i→¬ ABE it L pos σ m):Mk it L pos σ i=Mk it L pos σ j:=by
 induction i with
 | zero=>rw [Nat.le_zero.1 hji]
 | succ i ih =>
  rcases Nat.lt_or_ge j (i+1) with h1|h1
  ·have ih:=ih (by omega) fun m h2 h3=>h m h2 (by omega)
   rw [← ih]
   simp only [Mk]
   split
   ·rename_i h2 h3
    have hlt:i<pos.length:=by
     rw [B8] at h3
     exact (List.getElem?_eq_some_iff.1 h3).1
    exact absurd ⟨hlt,h2,_,_,_,h3⟩ (h i (by omega) (by omega))
   ·rfl
  ·have e:j=i+1:=by omega
   rw [e]
theorem AG7 {it:List (TypeId×IntKind)}{L:List Oper}{pos:List Po}{σ:Fr}{i j:Nat}(hi:ABE it L pos σ i) (h:i<j):Mk it L pos σ i<Mk it L pos σ j:=by
 obtain ⟨_,h1,_,_,_,h2⟩:=hi
 have h3:Mk it L pos σ (i+1)=Mk it L pos σ i+1:=by simp only [Mk,h1,h2]
 have:=AH0 (it:=it) (L:=L) (pos:=pos) (σ:=σ) (show i+1≤j by omega)
 omega
def Rr (it:List (TypeId×IntKind)) (L:List Oper) (pos:List Po) (σ:Fr) (i:Nat):Prop:=(∃ cs,Td it L pos σ i cs)∨ABI it L pos σ i
def Sc (it:List (TypeId×IntKind)) (L:List Oper) (pos:List Po) (σ:Fr) (vs:Nat→Gh) (i:Nat) (y:A4):Prop:=i<pos.length∧kv it L pos σ i=none∧y∈AEu (A5 pos i) (vs i)
def NA (it:List (TypeId×IntKind)) (L:List Oper) (pos:List Po) (σ:Fr) (T:Nat→Prop) (vs:Nat→Gh) (k:Nat):Prop:=∃ i y,T i∧Sc it L pos σ vs i y∧y.1=some k
def cuk (it:List (TypeId×IntKind)) (L:List Oper) (pos:List Po) (σ:Fr) (pb:Pb) (c:Nat) (T:Nat→Prop) (vs:Nat→Gh) (k:Nat):Prop:=(c=0∧N9 pb k)∨∃ i y,T i∧ABI it L pos σ i∧Mk it L pos σ i=c∧Sc it L pos σ vs i y∧y.1=some k
def NAp (it:List (TypeId×IntKind)) (L:List Oper) (pos:List Po) (σ:Fr) (pb:Pb) (T:Nat→Prop) (vs:Nat→Gh) (k:Nat):Prop:=NA it L pos σ T vs k∨N9 pb k
def okN (C:Cx) (w:World) (β:List A4) (N:Nat→Prop) (k:Nat):Prop:=ok C w β k∧¬ N k
section
variable {P:Program}{F:Fun P}{C:Cx}{S:List It}{R:Value→World→Prop}{β:List A4}{Γ:List Fact}{it:List (TypeId×IntKind)}{L:List Oper}{pos:List Po}{pt:List (List Nat)}{p:List Nat}{σ:Fr}{pb:Pb}
theorem Ix {α:Type}{l:List α}{i:Nat}{x:α}(h:A5 l i=some x):l.drop i=x::l.drop (i+1):=by
 rw [B8] at h
 have hi:i<l.length:=(List.getElem?_eq_some_iff.1 h).1
 rw [List.drop_eq_getElem_cons hi]
 congr 1
 exact (List.getElem?_eq_some_iff.1 h).2
theorem Rs (h:Lx it F C p S L pt β Γ R 0 pos σ σ [] [] pb) (vs:Nat→Gh):∀ i,i≤pos.length→Lx it F C p S L pt β Γ R i (pos.drop i) (Mx it L pos σ i) (Fi it L pos σ vs i) (F1 it L pos σ vs i) (Dw it L pos σ pb vs i) (B6 it L pos σ pb vs i):=by
 intro i
 induction i with
 | zero=>intro _;exact h
 | succ i ih =>
  intro hi
  have h':=ih (by omega)
  obtain ⟨po,hpo⟩:∃ po,A5 pos i=some po:=⟨pos[i],by rw [B8];simp⟩
  rw [Ix hpo] at h'
  simp only [Lx] at h'
  cases ho:A5 L i with
  | none=>rw [ho] at h';exact h'.elim
  | some o =>
   rw [ho] at h'
   simp only at h'
   cases hout:Nj o.dst F.fn.ntmps with
   | false=>rw [hout] at h';exact h'.elim
   | true =>
    rw [hout] at h'
    have hd:Cd L i=o.dst:=by simp [Cd,ho]
    cases hg:gd L (Mx it L pos σ i) o with
    | none=>rw [hg] at h';exact h'.elim
    | some b =>
     rw [hg] at h'
     have hkap:Mx it L pos σ (i+1)=Ox it L (Mx it L pos σ i) o po:=by simp only [Mx,ho,hpo]
     have hkv:kv it L pos σ i=Cj it L (Mx it L pos σ i) o po:=by simp only [kv,ho,hpo]
     cases b with
     | false =>
      have hk:Cj it L (Mx it L pos σ i) o po=some undef:=by simp only [Cj,hg]
      simp only [Fi,F1,Dw,B6,hd,vlA,hkap,Ox,hkv,hk]
      exact h'
     | true =>
      cases po with
      | auto =>
       simp only at h'
       cases hp:pev it (Mx it L pos σ i) o.op with
       | none=>rw [hp] at h';exact h'.elim
       | some vq =>
        obtain ⟨v,q⟩:=vq
        rw [hp] at h'
        have hk:Cj it L (Mx it L pos σ i) o .auto=some v:=by simp only [Cj,hg,hp,Option.map_some]
        simp only [Fi,F1,Dw,B6,hd,vlA,hkap,Ox,hkv,hk]
        exact h'.2
      | eq v =>
       have hk:Cj it L (Mx it L pos σ i) o (.eq v)=some v:=by simp only [Cj,hg]
       simp only [Fi,F1,Dw,B6,hd,vlA,hkap,Ox,hkv,hk]
       exact h'.2
      | fa val f =>
       have hk:Cj it L (Mx it L pos σ i) o (.fa val f)=none:=by simp only [Cj,hg]
       simp only [Fi,F1,Dw,B6,hd,vlA,hkap,Ox,hkv,hk,hpo,AAx,Kq,X8,List.nil_append]
       exact h'.2 (vs i)
      | al T cs val =>
       have hk:Cj it L (Mx it L pos σ i) o (.al T cs val)=none:=by simp only [Cj,hg]
       simp only [Fi,F1,Dw,B6,hd,vlA,hkap,Ox,hkv,hk,hpo,AAx,Kq,X8,List.map_nil,List.nil_append,List.cons_append]
       exact h'.2 (vs i 0).2.1
      | pv ts g =>
       have hk:Cj it L (Mx it L pos σ i) o (.pv ts g)=none:=by simp only [Cj,hg]
       simp only [Fi,F1,Dw,B6,hd,vlA,hkap,Ox,hkv,hk,hpo,AAx,Kq,X8,List.map_nil,List.nil_append]
       exact h'.2.2
      | sg bl val f =>
       have hk:Cj it L (Mx it L pos σ i) o (.sg bl val f)=none:=by simp only [Cj,hg]
       simp only [Fi,F1,Dw,B6,hd,vlA,hkap,Ox,hkv,hk,hpo,AAx,Kq,X8,List.nil_append]
       exact h'.2.2 (vs i)
      | sh bl val f =>
       have hk:Cj it L (Mx it L pos σ i) o (.sh bl val f)=none:=by simp only [Cj,hg]
       simp only [Fi,F1,Dw,B6,hd,vlA,hkap,Ox,hkv,hk,hpo,AAx,Kq,X8,List.nil_append]
       exact h'.2.2 (vs i)
      | si bl val f =>
       have hk:Cj it L (Mx it L pos σ i) o (.si bl val f)=none:=by simp only [Cj,hg]
       simp only [Fi,F1,Dw,B6,hd,vlA,hkap,Ox,hkv,hk,hpo,AAx,Kq,X8,List.nil_append]
       exact h'.2.2 (vs i)
      | st cs =>
       have hk:Cj it L (Mx it L pos σ i) o (.st cs)=none:=by simp only [Cj,hg]
       simp only at h'
       split at h'
       ·rename_i b T cs0 hpb
        simp only [Fi,F1,Dw,B6,hd,vlA,hkap,Ox,hkv,hk,hpo,hpb,AAx,Kq,X8,List.map_nil,List.nil_append,List.cons_append]
        exact h'.2
       ·exact h'.elim
theorem AEr.sg {i:Nat}(h:AEr it L pos σ i):ABI it L pos σ i:=⟨h.1,h.2.1,by obtain ⟨T,val,f,h⟩:=h.2.2;exact ⟨T,val,f,.inr (.inl h)⟩⟩
theorem ABE.sg {i:Nat}(h:ABE it L pos σ i):ABI it L pos σ i:=⟨h.1,h.2.1,by obtain ⟨T,val,f,h⟩:=h.2.2;exact ⟨T,val,f,.inr (.inr h)⟩⟩
theorem Rr.lt {i:Nat}(h:Rr it L pos σ i):i<pos.length:=by
 rcases h with ⟨_,h⟩|h
 ·exact h.1
 ·exact h.1
theorem Rr.kv {i:Nat}(h:Rr it L pos σ i):Go.Fw.kv it L pos σ i=none:=by
 rcases h with ⟨_,h⟩|h
 ·exact h.2.1
 ·exact h.2.1
theorem W0 {α:Type}{l:List α}{i:Nat}{x:α}(h:A5 l i=some x):i<l.length:=by
 rw [B8] at h
 exact (List.getElem?_eq_some_iff.1 h).1
theorem Gd (vs:Nat→Gh) (i:Nat):(B6 it L pos σ pb vs i=pb∧∀ j,j<i→¬ Rr it L pos σ j)∨(∃ j,j<i∧AEr it L pos σ j∧B6 it L pos σ pb vs i=some (AEu (A5 pos j) (vs j))∧∀ j',j'<i→Rr it L pos σ j'→j'≤j) ∨
  B6 it L pos σ pb vs i=none∨(B6 it L pos σ pb vs i=some []∧∃ j,j<i∧ABE it L pos σ j):=by
 induction i with
 | zero=>exact .inl ⟨rfl,fun j hj=>by omega⟩
 | succ i ih =>
  by_cases hC:Rr it L pos σ i
  ·rcases hC with ⟨cs,h1,h2,h3⟩|⟨h1,h2,T,val,f,h3|h3|h3⟩
   ·exact .inr (.inr (.inl (by simp only [B6,h2,h3])))
   ·exact .inr (.inr (.inl (by simp only [B6,h2,h3])))
   ·exact .inr (.inl ⟨i,by omega,⟨h1,h2,T,val,f,h3⟩,by simp only [B6,h2,h3,AEu],fun j' hj' _=>by omega⟩)
   ·exact .inr (.inr (.inr ⟨by simp only [B6,h2,h3],i,by omega,h1,h2,T,val,f,h3⟩))
  ·have e:B6 it L pos σ pb vs (i+1)=B6 it L pos σ pb vs i:=by
    simp only [B6]
    split
    ·rename_i h2 h3;exact absurd (.inl ⟨_,W0 h3,h2,h3⟩) hC
    ·rename_i h2 h3;exact absurd (.inr ⟨W0 h3,h2,_,_,_,.inl h3⟩) hC
    ·rename_i h2 h3;exact absurd (.inr ⟨W0 h3,h2,_,_,_,.inr (.inl h3)⟩) hC
    ·rename_i h2 h3;exact absurd (.inr ⟨W0 h3,h2,_,_,_,.inr (.inr h3)⟩) hC
    ·rfl
   rw [e]
   rcases ih with ⟨h1,h2⟩|⟨j,h1,h2,h3,h4⟩|h1|⟨h1,j,h2,h3⟩
   ·refine .inl ⟨h1,fun j hj=>?_⟩
    by_cases ej:j=i
    ·rw [ej];exact hC
    ·exact h2 j (by omega)
   ·refine .inr (.inl ⟨j,by omega,h2,h3,fun j' hj' hc=>?_⟩)
    by_cases ej:j'=i
    ·rw [ej] at hc;exact absurd hc hC
    ·exact h4 j' (by omega) hc
   ·exact .inr (.inr (.inl h1))
   ·exact .inr (.inr (.inr ⟨h1,j,by omega,h3⟩))
def Ord (it:List (TypeId×IntKind)) (L:List Oper) (pos:List Po) (pt:List (List Nat)) (σ:Fr):Prop:=∀ j i,Rr it L pos σ j→Rr it L pos σ i→j<i→(AEr it L pos σ j∨ABE it L pos σ j)∧j∈B3 pt i∧∀ cs,¬ Td it L pos σ i cs
theorem Ord.one (h:Ord it L pos pt σ) {j i:Nat}{cs:List Value}(hs:Td it L pos σ j cs) (hc:Rr it L pos σ i):i=j:=by
 rcases Nat.lt_trichotomy i j with h1|h1|h1
 ·exact absurd hs ((h i j hc (.inl ⟨cs,hs⟩) h1).2.2 cs)
 ·exact h1
 ·rcases (h j i (.inl ⟨cs,hs⟩) hc h1).1 with ⟨_,_,_,_,_,h2⟩|⟨_,_,_,_,_,h2⟩
  ·rw [hs.2.2] at h2;cases h2
  ·rw [hs.2.2] at h2;cases h2
theorem AIU (vs:Nat→Gh):∀ i,i≤pos.length→Fr.sub (Mx it L pos σ i) (Fi it L pos σ vs i):=by
 intro i
 induction i with
 | zero=>intro _;exact Fr.sub_refl _
 | succ i ih =>
  intro hi
  have ih:=ih (by omega)
  have put:∀ (d:Option Tmp) (v:Value),Fr.sub (putF d v (Mx it L pos σ i)) (putF d v (Fi it L pos σ vs i)):=by
   intro d v
   cases d with
   | none=>exact ih
   | some d =>
    intro t u hu
    simp only [putF,Fr.get] at hu ⊢
    cases hb:Nat.beq d t with
    | true=>rw [hb] at hu;exact hu
    | false=>rw [hb] at hu;exact ih t u hu
  have del:∀ (d:Option Tmp) (v:Value),Fr.sub (Hb d (Mx it L pos σ i)) (putF d v (Fi it L pos σ vs i)):=by
   intro d v
   cases d with
   | none=>exact ih
   | some d =>
    intro t u hu
    obtain ⟨hne,hg⟩:=Fr.get_del _ _ _ _ hu
    simp only [putF,Fr.get]
    have:Nat.beq d t=false:=by
     cases hb:Nat.beq d t with
     | true=>exact absurd (Nat.eq_of_beq_eq_true hb).symm hne
     | false=>rfl
    rw [this]
    exact ih t u hg
  simp only [Mx,Fi]
  split
  ·rename_i o po ho hpo
   have hd:Cd L i=o.dst:=by simp [Cd,ho]
   have hkv:kv it L pos σ i=Cj it L (Mx it L pos σ i) o po:=by simp only [kv,ho,hpo]
   simp only [Ox,vlA,hkv,hd]
   cases Cj it L (Mx it L pos σ i) o po with
   | some v=>exact put _ _
   | none=>exact del _ _
  ·rename_i hne
   cases ho:A5 L i with
   | none =>
    have hd:Cd L i=none:=by simp [Cd,ho]
    rw [hd];exact ih
   | some o =>
    cases hpo:A5 pos i with
    | some po=>exact absurd hpo (hne o po ho)
    | none =>
     rw [B8] at hpo
     have:=List.getElem?_eq_none_iff.1 hpo
     omega
theorem Wk (vs:Nat→Gh) (t:Tmp):∀ i v,Fr.get t (Fi it L pos σ vs i)=some v →
  (∃ j,j<i∧Cd L j=some t∧(∀ j',j'<i→Cd L j'=some t→j'≤j)∧v=vl it L pos σ vs j)∨((∀ j,j<i→Cd L j≠some t)∧Fr.get t σ=some v):=by
 intro i
 induction i with
 | zero=>intro v h;exact .inr ⟨fun j hj=>by omega,h⟩
 | succ i ih =>
  intro v h
  have old:Cd L i≠some t→Fr.get t (Fi it L pos σ vs i)=some v →
    (∃ j,j<i+1∧Cd L j=some t∧(∀ j',j'<i+1→Cd L j'=some t→j'≤j)∧v=vl it L pos σ vs j)∨((∀ j,j<i+1→Cd L j≠some t)∧Fr.get t σ=some v):=fun hne h'=>by
   rcases ih v h' with ⟨j,h1,h2,h3,h4⟩|⟨h1,h2⟩
   ·refine Or.inl ⟨j,by omega,h2,fun j' hj' hd=>?_,h4⟩
    rcases Nat.lt_or_ge j' i with h|h
    ·exact h3 j' h hd
    ·have:j'=i:=by omega
     subst this;exact absurd hd hne
   ·refine Or.inr ⟨fun j hj=>?_,h2⟩
    rcases Nat.lt_or_ge j i with h|h
    ·exact h1 j h
    ·have:j=i:=by omega
     subst this;exact hne
  simp only [Fi] at h
  cases hd:Cd L i with
  | none=>rw [hd] at h;exact old (by rw [hd];simp) h
  | some d =>
   rw [hd] at h
   simp only [putF,Fr.get] at h
   cases hb:Nat.beq d t with
   | true =>
    rw [hb] at h
    have e:d=t:=Nat.eq_of_beq_eq_true hb
    subst e
    exact .inl ⟨i,by omega,hd,fun j' hj' _=>by omega,(Option.some.inj h).symm⟩
   | false =>
    rw [hb] at h
    exact old (by rw [hd];intro e;exact Nat.ne_of_beq_eq_false hb (Option.some.inj e)) h
theorem AD8 {vs vs':Nat→Gh}:∀ i,(∀ j,j<i→vs j=vs' j)→Fi it L pos σ vs i=Fi it L pos σ vs' i:=by
 intro i
 induction i with
 | zero=>intro _;rfl
 | succ i ih =>
  intro h
  simp only [Fi]
  rw [ih fun j hj=>h j (by omega)]
  simp only [vlA,h i (by omega)]
theorem AGn {vs vs':Nat→Gh}{t:Tmp}:∀ n,(∀ m,m<n→Cd L m=some t→vl it L pos σ vs m=vl it L pos σ vs' m)→Fr.get t (Fi it L pos σ vs n)=Fr.get t (Fi it L pos σ vs' n):=by
 intro n
 induction n with
 | zero=>intro _;rfl
 | succ n ih =>
  intro h
  have ih:=ih fun m hm=>h m (by omega)
  have hn:=h n (by omega)
  simp only [Fi]
  cases hd:Cd L n with
  | none=>exact ih
  | some d =>
   simp only [putF,Fr.get]
   cases hb:Nat.beq d t with
   | true =>
    have e:d=t:=Nat.eq_of_beq_eq_true hb
    subst e
    have:=hn hd
    simp only [vl] at this
    simp only [this]
   | false=>exact ih
theorem Xd {vs:Nat→Gh}:∀ {i j:Nat}{g:Fact},(j,g)∈F1 it L pos σ vs i→j<i∧kv it L pos σ j=none∧g∈AAx (A5 pos j) (vs j):=by
 intro i
 induction i with
 | zero=>intro j g h;simp [F1] at h
 | succ i ih =>
  intro j g h
  simp only [F1] at h
  cases hk:kv it L pos σ i with
  | some v =>
   rw [hk] at h
   obtain ⟨h1,h2⟩:=ih h;exact ⟨by omega,h2⟩
  | none =>
   rw [hk] at h
   rcases List.mem_append.1 h with h|h
   ·obtain ⟨g',hg',e⟩:=List.mem_map.1 h
    obtain ⟨rfl,rfl⟩:=Prod.mk.inj e
    exact ⟨by omega,hk,hg'⟩
   ·obtain ⟨h1,h2⟩:=ih h;exact ⟨by omega,h2⟩
theorem AAl {po:Option Po}{pb:Pb}{x:A4}(h:x∈X8 po pb):∃ cs b T cs0,po=some (.st cs)∧pb=some [(some b,T,cs0)]∧x=(some b,T,cs):=by
 unfold X8 at h
 split at h
 ·rename_i cs b T cs0
  exact ⟨cs,b,T,cs0,rfl,rfl,List.mem_singleton.1 h⟩
 ·cases h
theorem Is {vs:Nat→Gh}:∀ {i:Nat}{x:A4},x∈Dw it L pos σ pb vs i→(∃ j,j<i∧kv it L pos σ j=none∧x∈Kq (A5 pos j) (vs j)) ∨
  ∃ j b T cs0 cs,j<i∧kv it L pos σ j=none∧A5 pos j=some (.st cs)∧B6 it L pos σ pb vs j=some [(some b,T,cs0)]∧x=(some b,T,cs):=by
 intro i
 induction i with
 | zero=>intro x h;simp [Dw] at h
 | succ i ih =>
  intro x h
  have old:x∈Dw it L pos σ pb vs i→(∃ j,j<i+1∧kv it L pos σ j=none∧x∈Kq (A5 pos j) (vs j)) ∨
    ∃ j b T cs0 cs,j<i+1∧kv it L pos σ j=none∧A5 pos j=some (.st cs)∧B6 it L pos σ pb vs j=some [(some b,T,cs0)]∧x=(some b,T,cs):=fun h=>by
   rcases ih h with ⟨j,h1,h2⟩|⟨j,b,T,cs0,cs,h1,h2⟩
   ·exact .inl ⟨j,by omega,h2⟩
   ·exact .inr ⟨j,b,T,cs0,cs,by omega,h2⟩
  simp only [Dw] at h
  cases hk:kv it L pos σ i with
  | some v=>rw [hk] at h;exact old h
  | none =>
   rw [hk] at h
   rcases List.mem_append.1 h with h|h
   ·exact .inl ⟨i,by omega,hk,h⟩
   ·rcases List.mem_append.1 h with h|h
    ·obtain ⟨cs,b,T,cs0,h1,h2,rfl⟩:=AAl h
     exact .inr ⟨i,b,T,cs0,cs,by omega,hk,h1,h2,rfl⟩
    ·exact old h
theorem Sf {vs:Nat→Gh}:∀ i,i≤pos.length→(∀ j,j<i→kv it L pos σ j=none→Ay (Kq (A5 pos j) (vs j)))→(∀ j j' y z,j<i→j'<i→kv it L pos σ j=none→kv it L pos σ j'=none→y∈Kq (A5 pos j) (vs j)→z∈Kq (A5 pos j') (vs j')→j≠j'→∀ b,y.1=some b→z.1≠some b) →
  (∀ j b T cs0 cs,j<i→kv it L pos σ j=none→A5 pos j=some (.st cs)→B6 it L pos σ pb vs j=some [(some b,T,cs0)]→(∀ j' y,j'<i→kv it L pos σ j'=none→y∈Kq (A5 pos j') (vs j')→y.1≠some b)∧∀ j' cs',j'<i→kv it L pos σ j'=none→A5 pos j'=some (.st cs')→j'=j)→Ay (Dw it L pos σ pb vs i):=by
 intro i
 induction i with
 | zero=>intro _ _ _ _;simp [Dw,Ay]
 | succ i ih =>
  intro hi hd h hp0
  have ih:=ih (by omega) (fun j hj=>hd j (by omega)) (fun j j' y z h1 h2=>h j j' y z (by omega) (by omega)) (fun j b T cs0 cs h1 h2 h3 h4=>by
   obtain ⟨g1,g2⟩:=hp0 j b T cs0 cs (by omega) h2 h3 h4
   exact ⟨fun j' y hj'=>g1 j' y (by omega),fun j' cs' hj'=>g2 j' cs' (by omega)⟩)
  simp only [Dw]
  cases hk:kv it L pos σ i with
  | some v=>exact ih
  | none =>
   have hst:Ay (X8 (A5 pos i) (B6 it L pos σ pb vs i)):=by
    unfold X8
    split
    ·exact ⟨fun y hy=>(by cases hy),trivial⟩
    ·exact trivial
   refine (hd i (by omega) hk).append (hst.append ih fun x hx y hy b hb hyb=>?_) fun x hx y hy b hb hyb=>?_
   ·obtain ⟨cs,b',T,cs0,h1,h2,rfl⟩:=AAl hx
    obtain rfl:b'=b:=Option.some.inj hb
    obtain ⟨g1,g2⟩:=hp0 i b' T cs0 cs (by omega) hk h1 h2
    rcases Is hy with ⟨j,h3,h4,h5⟩|⟨j,b2,T',cs1,cs',h3,h4,h5,h6,rfl⟩
    ·exact g1 j y (by omega) h4 h5 hyb
    ·have:=g2 j cs' (by omega) h4 h5
     omega
   ·rcases List.mem_append.1 hy with hy|hy
    ·obtain ⟨cs,b',T,cs0,h1,h2,rfl⟩:=AAl hy
     rw [h1] at hx;cases hx
    ·rcases Is hy with ⟨j,h3,h4,h5⟩|⟨j,b2,T',cs1,cs',h3,h4,h5,h6,rfl⟩
     ·exact h i j x y (by omega) (by omega) hk h4 hx h5 (by omega) b hb hyb
     ·obtain rfl:b2=b:=Option.some.inj hyb
      exact (hp0 j b2 T' cs1 cs' (by omega) h4 h5 h6).1 i x (by omega) hk hx hb
theorem AIW {pre:List Nat}{g:Fact}:∀ {l:List (Nat×Fact)},g∈Sk pre l→∃ j,j∈pre∧(j,g)∈l:=by
 intro l
 induction l with
 | nil=>intro h;simp [Sk] at h
 | cons x l ih =>
  obtain ⟨i,f⟩:=x
  intro h
  simp only [Sk] at h
  cases hb:Bc i pre with
  | true =>
   rw [hb] at h
   rcases List.mem_cons.1 h with rfl|h
   ·exact ⟨i,C6.1 hb,.head _⟩
   ·obtain ⟨j,h1,h2⟩:=ih h;exact ⟨j,h1,.tail _ h2⟩
  | false =>
   rw [hb] at h
   obtain ⟨j,h1,h2⟩:=ih h;exact ⟨j,h1,.tail _ h2⟩
structure Mid (F:Fun P) (C:Cx) (it:List (TypeId×IntKind)) (L:List Oper) (pos:List Po) (β:List A4) (σ:Fr) (pb:Pb) (w0:World) (T:Nat→Prop) (vs:Nat→Gh) (a:Act) (w:World):Prop where
 size:a.tmps.size=F.fn.ntmps
 defers:a.defers=F.dfs
 ext:ExtP pb w0 w
 low:∀ k,N9 pb k→k<w0.heap.size
 pend:(∀ i,T i→¬ Rr it L pos σ i)→∀ x∈Nz pb,∀ b,x.1=some b→w.heap[b]?=some (.cells x.2.2.toArray x.2.1 (0,0))
 sted:∀ b Ty cs0,pb=some [(some b,Ty,cs0)]→∀ i cs,T i→Td it L pos σ i cs→w.heap[b]?=some (.cells cs.toArray Ty (0,0))
 fact:∀ i,T i→i<pos.length→kv it L pos σ i=none→∀ g∈AAx (A5 pos i) (vs i),g.holds w (okN C w β (NAp it L pos σ pb T vs))
 made:∀ i y,T i→Sc it L pos σ vs i y→∀ b,y.1=some b→b<w.heap.size∧((∀ j,T j→Rr it L pos σ j→Rr it L pos σ i→Mk it L pos σ j=Mk it L pos σ i→j≤i)→w.heap[b]?=some (.cells y.2.2.toArray y.2.1 (0,0)))∧(w0.heap.size≤b∨(ABI it L pos σ i∧Mk it L pos σ i=0∧N9 pb b))
 mdist:∀ i,T i→i<pos.length→kv it L pos σ i=none→Ay (AEu (A5 pos i) (vs i))
 apart:∀ i j y z,T i→T j→Sc it L pos σ vs i y→Sc it L pos σ vs j z→i≠j→¬ (Rr it L pos σ i∧Rr it L pos σ j∧Mk it L pos σ i=Mk it L pos σ j)→∀ b,y.1=some b→z.1≠some b
 last:∀ t i,T i→i<pos.length→Cd L i=some t→(∀ j,T j→j<pos.length→Cd L j=some t→j≤i)→a.tmps[t]?=some (vl it L pos σ vs i)
 rest:∀ t v,(∀ i,T i→i<pos.length→Cd L i≠some t)→Fr.get t σ=some v→a.tmps[t]?=some v
theorem Mid.step {w0 w w':World}{T:Nat→Prop}{vs:Nat→Gh}{a:Act}{i:Nat}{o:Oper}{v:Value}{x:Gh}(hr:RegB L pt pos.length) (hm:Mid F C it L pos β σ pb w0 T vs a w) (hi:i<pos.length) (ho:L[i]?=some o) (hT:¬ T i)
  (hcl:∀ j,T j→j<L.length∧∀ m∈B3 pt j,T m) (hout:Nj o.dst F.fn.ntmps=true) (hx:ExtQ (cuk it L pos σ pb (Mk it L pos σ i) T vs) w w') (hord:Ord it L pos pt σ)
  (hpb:¬ Rr it L pos σ i→∀ k,k<w.heap.size→w'.heap[k]?=w.heap[k]?) (hst:∀ cs,Td it L pos σ i cs→∀ b Ty cs0,pb=some [(some b,Ty,cs0)]→w'.heap[b]?=some (.cells cs.toArray Ty (0,0)))
  (hv:∀ u,kv it L pos σ i=some u→v=u) (hf:kv it L pos σ i=none→((∃ val f,A5 pos i=some (.fa val f)∧v=val x∧∀ g∈f x,g.holds w' (okN C w' β (NAp it L pos σ pb T vs))) ∨
   ∃ Ty cs val,A5 pos i=some (.al Ty cs val)∧v=val (x 0).2.1∧(x 0).2.1=w.heap.size∧w'=w.alloc (.cells cs.toArray Ty))∨(∃ cs,A5 pos i=some (.st cs)∧v=undef)∨(∃ ts g,A5 pos i=some (.pv ts g)∧v=g (Nm (Fi it L pos σ vs i) ts)) ∨
   ∃ bl val f,(A5 pos i=some (.sg bl val f)∨A5 pos i=some (.sh bl val f)∨A5 pos i=some (.si bl val f))∧v=val x∧Ay (bl x)∧(∀ y∈bl x,∀ b,y.1=some b→(w.heap.size≤b∨cuk it L pos σ pb (Mk it L pos σ i) T vs b)∧w'.heap[b]?=some (.cells y.2.2.toArray y.2.1 (0,0)))∧∀ g∈f x,g.holds w' (fun k=>(okN C w β (NAp it L pos σ pb T vs) k∨w.heap.size≤k)∧k<w'.heap.size∧∀ y∈bl x,y.1≠some k))
  (hpv:∀ j ts g,j<pos.length→kv it L pos σ j=none→A5 pos j=some (.pv ts g)→∀ o,L[j]?=some o→∀ t∈ts,t∈Jv L o)
  (hw0:C.w0.heap.size≤w0.heap.size) (hβ:∀ y∈β,∀ k,y.1=some k→k<w0.heap.size) :
  Mid F C it L pos β σ pb w0 (fun j=>T j∨j=i) (fun j=>if j=i then x else vs j) (a.put o.dst v) w':=by
 have hdi:Cd L i=o.dst:=by simp [Cd,B8,ho]
 have hval:vl it L pos σ (fun j=>if j=i then x else vs j) i=v:=by
  unfold vl vlA
  cases h:kv it L pos σ i with
  | some u=>exact (hv u h).symm
  | none =>
   rcases hf h with (⟨val,f,hp,rfl,_⟩|⟨Ty,cs,val,hp,rfl,_⟩)|⟨cs,hp,rfl⟩|⟨ts,g,hp,rfl⟩|⟨Ty,val,f,hp|hp|hp,rfl,_⟩
   ·simp [hp]
   ·simp [hp]
   ·simp [hp]
   ·simp only [hp]
    rw [AD8 (vs':=vs) i fun j hj=>if_neg (by omega)]
   ·simp [hp]
   ·simp [hp]
   ·simp [hp]
 have hoth:∀ j,T j→j<pos.length→vl it L pos σ (fun j=>if j=i then x else vs j) j=vl it L pos σ vs j:=by
  intro j
  induction j using Nat.strongRecOn with
  | _ j ih =>
   intro hj hjk
   have hne:j≠i:=fun e=>hT (e▸hj)
   unfold vl vlA
   cases hk:kv it L pos σ j with
   | some u=>rfl
   | none =>
    cases hp:A5 pos j with
    | none=>rfl
    | some po =>
     cases po with
     | fa val f=>simp only [if_neg hne]
     | al Ty cs val=>simp only [if_neg hne]
     | sg Ty val f=>simp only [if_neg hne]
     | sh Ty val f=>simp only [if_neg hne]
     | si Ty val f=>simp only [if_neg hne]
     | pv ts g =>
      obtain ⟨b,hb⟩:∃ b,L[j]?=some b:=⟨L[j]'(hcl j hj).1,by simp⟩
      have hts:=hpv j ts g hjk hk hp b hb
      have e:Nm (Fi it L pos σ (fun j=>if j=i then x else vs j) j) ts=Nm (Fi it L pos σ vs j) ts:=by
       refine List.map_congr_left fun t ht=>?_
       rw [AGn (vs':=vs) j fun m hm hd=>?_]
       obtain ⟨c,hc⟩:∃ c,L[m]?=some c:=⟨L[m]'(by have:=(hcl j hj).1;omega),by simp⟩
       have hpr:=hr.pair m j c b (by omega) hjk hc hb
       have hdc:c.dst=some t:=by simpa [Cd,B8,hc] using hd
       have hblt:Nat.blt m j=true:=Nat.ble_eq_true_of_le hm
       simp only [Ur,hblt,hdc,Bool.or_eq_true,Bool.and_eq_true] at hpr
       rcases hpr with hpr|⟨_,hpr,_⟩
       ·exact ih m hm ((hcl j hj).2 m (C6.1 hpr)) (by omega)
       ·simp [C6.2 (hts t ht)] at hpr
      simp only [e]
     | _=>rfl
 -- of two that write one slot the done one comes first
 have later:∀ j t,T j→j<pos.length→Cd L j=some t→o.dst=some t→j<i:=by
  intro j t hj hjk hdj hdo
  rcases Nat.lt_trichotomy j i with h|h|h
  ·exact h
  ·subst h;exact absurd hj hT
  ·obtain ⟨b,hb⟩:∃ b,L[j]?=some b:=⟨L[j]'(hcl j hj).1,by simp⟩
   have hp:=hr.pair i j o b hi hjk ho hb
   have hdb:b.dst=some t:=by simpa [Cd,B8,hb] using hdj
   have hblt:Nat.blt i j=true:=Nat.ble_eq_true_of_le h
   simp only [Ur,hblt,hdb,hdo,Bool.or_eq_true] at hp
   rcases hp with hp|hp
   ·exact absurd ((hcl j hj).2 i (C6.1 hp)) hT
   ·have:Nat.beq t t=true:=Nat.beq_refl t
    simp [this] at hp
 have hsize:∀ j y,T j→Sc it L pos σ vs j y→∀ b,y.1=some b→b<w.heap.size:=fun j y hj hA b hb =>
  (hm.made j y hj hA b hb).1
 have hlow:∀ k,N9 pb k→k<w.heap.size:=fun k hk=>Nat.lt_of_lt_of_le (hm.low k hk) hm.ext.size
 -- of a done operation nothing has turned
 have mkSame:∀ j y,j≠i→Sc it L pos σ (fun j=>if j=i then x else vs j) j y→Sc it L pos σ vs j y:=fun j y hj h=>by
  unfold Sc at h ⊢
  simp only [if_neg hj] at h
  exact h
 -- a block of this operation is new,or one that was handed in
 have mkNew:∀ y,Sc it L pos σ (fun j=>if j=i then x else vs j) i y→∀ b,y.1=some b→w'.heap[b]?=some (.cells y.2.2.toArray y.2.1 (0,0))∧(w.heap.size≤b∨(ABI it L pos σ i∧cuk it L pos σ pb (Mk it L pos σ i) T vs b)):=fun y hA b hb=>by
  have h3:=hA.2.2
  simp only [if_true] at h3
  rcases hf hA.2.1 with (⟨val,f,hp,_⟩|⟨Ty',cs',val',hp,_,hbb,rfl⟩)|⟨cs',hp,_⟩|⟨ts,g',hp,_⟩|⟨bl,val',f',hp,_,_,h4,_⟩
  ·rw [hp] at h3;cases h3
  ·rw [hp] at h3
   obtain rfl:=List.mem_singleton.1 h3
   have hb':(x 0).2.1=b:=Option.some.inj hb
   rw [← hb',hbb]
   exact ⟨heap_alloc_new w _,.inl (Nat.le_refl _)⟩
  ·rw [hp] at h3;cases h3
  ·rw [hp] at h3;cases h3
  ·have h3:y∈bl x:=by
    rcases hp with hp|hp|hp
    ·rw [hp] at h3;exact h3
    ·rw [hp] at h3;exact h3
    ·rw [hp] at h3;exact h3
   obtain ⟨h5,h6⟩:=h4 y h3 b hb
   exact ⟨h6,h5.imp id fun h=>⟨⟨hi,hA.2.1,_,_,_,hp⟩,h⟩⟩
 -- what is handed on
 have cukLow:∀ k,cuk it L pos σ pb (Mk it L pos σ i) T vs k→k<w.heap.size∧(w0.heap.size≤k∨N9 pb k):=by
  rintro k (⟨_,h⟩|⟨m,y,hm',_,_,hA,e⟩)
  ·exact ⟨hlow k h,.inr h⟩
  ·obtain ⟨h1,_,h2⟩:=hm.made m y hm' hA k e
   exact ⟨h1,h2.imp id (·.2.2)⟩
 have cukN:∀ k,cuk it L pos σ pb (Mk it L pos σ i) T vs k→NAp it L pos σ pb T vs k:=by
  rintro k (⟨_,h⟩|⟨m,y,hm',_,_,hA,e⟩)
  ·exact .inr h
  ·exact .inl ⟨m,y,hm',hA,e⟩
 -- what was allowed stays allowed
 have hN:∀ k,k<w.heap.size→¬ NAp it L pos σ pb T vs k→¬ NAp it L pos σ pb (fun j=>T j∨j=i) (fun j=>if j=i then x else vs j) k:=by
  rintro k hk hno (⟨j,y,hj,hA,e⟩|hp)
  ·by_cases hji:j=i
   ·subst hji
    rcases (mkNew y hA k e).2 with h|⟨_,h⟩
    ·omega
    ·exact hno (cukN k h)
   ·exact hno (.inl ⟨j,y,hj.resolve_right hji,mkSame j y hji hA,e⟩)
  ·exact hno (.inr hp)
 have hok:∀ k,okN C w β (NAp it L pos σ pb T vs) k→okN C w' β (NAp it L pos σ pb (fun j=>T j∨j=i) (fun j=>if j=i then x else vs j)) k∧w'.heap[k]?=w.heap[k]? :=
  fun k hk=>⟨⟨⟨hk.1.1,Nat.lt_of_lt_of_le hk.1.2.1 hx.size,hk.1.2.2⟩,hN k hk.1.2.1 hk.2⟩,hx.block k hk.1.2.1 fun hp=>hk.2 (cukN k hp)⟩
 refine ⟨?_,?_,hm.ext.transQ hx (fun k hk hq=>(cukLow k hq).2.resolve_left (by omega)),hm.low,fun hno y hy b hb=>?_,fun b Ty cs0 hb j cs hj hS=>?_,?_,?_,?_,?_,?_,?_⟩
 ·cases hd:o.dst <;> simp [Act.put,hm.size]
 ·cases hd:o.dst <;> simp [Act.put,hm.defers]
 ·rw [hpb (hno i (.inr rfl)) b (hlow b ⟨y,hy,hb⟩)]
  exact hm.pend (fun j hj=>hno j (.inl hj)) y hy b hb
 ·by_cases e:j=i
  ·subst e
   exact hst cs hS b Ty cs0 hb
  ·rw [hpb (fun hS'=>e (hord.one hS hS').symm) b (hlow b ⟨(some b,Ty,cs0),by rw [hb];exact .head _,rfl⟩)]
   exact hm.sted b Ty cs0 hb j cs (hj.resolve_right e) hS
 ·intro j hj hjk hk g hg
  by_cases e:j=i
  ·subst e
   simp only [if_true] at hg
   have hmk:∀ {bl:Gh→List A4}{val2:Gh→Value}{f':Gh→List Fact},(A5 pos j=some (.sg bl val2 f')∨A5 pos j=some (.sh bl val2 f')∨A5 pos j=some (.si bl val2 f'))→AAx (A5 pos j) x=f' x∧AEu (A5 pos j) x=bl x:=fun h=>by
    rcases h with h|h|h <;> rw [h] <;> exact ⟨rfl,rfl⟩
   rcases hf hk with (⟨val',f',hp',_,hh⟩|⟨Ty,cs,val2,hp',_⟩)|⟨cs,hp',_⟩|⟨ts,g',hp',_⟩|⟨bl,val2,f',hp',_,_,hbl,hh⟩
   ·rw [hp'] at hg
    refine g.stable (fun k hk'=>⟨⟨hk'.1,?_⟩,rfl⟩) (hh g hg)
    rintro (⟨m,y,hmm,hA,e⟩|hpk)
    ·by_cases hmj:m=j
     ·subst hmj;have:=hA.2.2;rw [hp'] at this;cases this
     ·exact hk'.2 (.inl ⟨m,y,hmm.resolve_right hmj,mkSame m y hmj hA,e⟩)
    ·exact hk'.2 (.inr hpk)
   ·rw [hp'] at hg;cases hg
   ·rw [hp'] at hg;cases hg
   ·rw [hp'] at hg;cases hg
   ·rw [(hmk hp').1] at hg
    refine g.stable (fun k hk'=>⟨?_,rfl⟩) (hh g hg)
    rcases hk'.1 with h|h
    ·exact (hok k h).1
    ·refine ⟨⟨.inr (.inr (Nat.le_trans (Nat.le_trans hw0 hm.ext.size) h)),hk'.2.1,fun y hy e=>?_⟩,?_⟩
     ·have:=hβ y hy k e
      have:=hm.ext.size
      omega
     ·rintro (⟨m,y,hmm,hA,e⟩|hpk)
      ·by_cases hmj:m=j
       ·subst hmj
        have h3:=hA.2.2
        simp only [if_true] at h3
        rw [(hmk hp').2] at h3
        exact hk'.2.2 y h3 e
       ·have:=hsize m y (hmm.resolve_right hmj) (mkSame m y hmj hA) k e
        omega
      ·have:=hlow k hpk
       omega
  ·simp only [e,if_false] at hg
   exact g.stable hok (hm.fact j (hj.resolve_right e) hjk hk g hg)
 ·intro j y hj hA b hb
  by_cases e:j=i
  ·subst e
   obtain ⟨h1,h2⟩:=mkNew y hA b hb
   refine ⟨(Array.getElem?_eq_some_iff.1 h1).1,fun _=>h1,?_⟩
   rcases h2 with h|⟨h,h'⟩
   ·exact .inl (Nat.le_trans hm.ext.size h)
   ·rcases h' with ⟨h0,h'⟩|⟨m,z,hm',_,hc,hB,hz⟩
    ·exact .inr ⟨h,h0,h'⟩
    ·exact (hm.made m z hm' hB b hz).2.2.imp id fun g=>⟨h,hc▸g.2.1,g.2.2⟩
  ·have hTj:=hj.resolve_right e
   have hA':=mkSame j y e hA
   obtain ⟨h0,h1,h2⟩:=hm.made j y hTj hA' b hb
   refine ⟨Nat.lt_of_lt_of_le h0 hx.size,fun hmax=>?_,h2⟩
   have h1:=h1 fun m hm'=>hmax m (.inl hm')
   by_cases hCi:Rr it L pos σ i
   ·have hnj:¬ (Rr it L pos σ j∧Mk it L pos σ j=Mk it L pos σ i):=fun ⟨hCj,hce⟩=>by
     have h3:=hmax i (.inr rfl) hCi hCj hce.symm
     exact hT ((hcl j hTj).2 i (hord i j hCi hCj (by omega)).2.1)
    rw [hx.block _ h0 fun hp=>?_];exact h1
    rcases hp with ⟨hc0,hp⟩|⟨m,z,hm',hSm,hcm,hB,hz⟩
    ·rcases h2 with h2|⟨h2,h3,_⟩
     ·have:=hm.low _ hp
      omega
     ·exact hnj ⟨.inr h2,by rw [h3,hc0]⟩
    ·exact hm.apart j m y z hTj hm' hA' hB (fun e=>hnj (by rw [e];exact ⟨.inr hSm,hcm⟩)) (fun h=>hnj ⟨h.1,by rw [h.2.2,hcm]⟩) b hb hz
   ·rw [hpb hCi b h0];exact h1
 ·intro j hj hjk hk
  by_cases e:j=i
  ·subst e
   simp only [if_true]
   rcases hf hk with (⟨val',f',hp',_,hh⟩|⟨Ty,cs,val2,hp',_⟩)|⟨cs,hp',_⟩|⟨ts,g',hp',_⟩|⟨bl,val2,f',hp'|hp'|hp',_,hd2,_,_⟩
   ·rw [hp'];exact trivial
   ·rw [hp'];exact ⟨fun y hy=>(by cases hy),trivial⟩
   ·rw [hp'];exact trivial
   ·rw [hp'];exact trivial
   ·rw [hp'];exact hd2
   ·rw [hp'];exact hd2
   ·rw [hp'];exact hd2
  ·simp only [e,if_false]
   exact hm.mdist j (hj.resolve_right e) hjk hk
 ·intro j m y z hj hmm hA hB hne hnc b hb hzb
  -- a new one against an old one
  have one:∀ m y z,T m→Sc it L pos σ (fun j=>if j=i then x else vs j) i y→Sc it L pos σ vs m z→m≠i→¬ (Rr it L pos σ i∧Rr it L pos σ m∧Mk it L pos σ i=Mk it L pos σ m)→∀ b,y.1=some b→z.1=some b→False:=by
   intro m y z hTm hA hB hmi hnc b hb hzb
   obtain ⟨g0,_,g2⟩:=hm.made m z hTm hB b hzb
   rcases (mkNew y hA b hb).2 with h|⟨hs,h⟩
   ·omega
   ·have hnm:¬ (Rr it L pos σ m∧Mk it L pos σ m=Mk it L pos σ i):=fun h=>hnc ⟨.inr hs,h.1,h.2.symm⟩
    rcases h with ⟨hc0,h⟩|⟨m',y',hm',hSm,hcm,hB',hz'⟩
    ·rcases g2 with g2|⟨g2,g3,_⟩
     ·have:=hm.low _ h
      omega
     ·exact hnm ⟨.inr g2,by rw [g3,hc0]⟩
    ·exact hm.apart m' m y' z hm' hTm hB' hB (fun e=>hnm (by rw [← e];exact ⟨.inr hSm,hcm⟩)) (fun h=>hnm ⟨h.2.1,by rw [← h.2.2,hcm]⟩) b hz' hzb
  by_cases e1:j=i
  ·subst e1
   have e2:m≠j:=fun e=>hne e.symm
   exact one m y z (hmm.resolve_right e2) hA (mkSame m z e2 hB) e2 hnc b hb hzb
  ·by_cases e2:m=i
   ·subst e2
    exact one j z y (hj.resolve_right e1) hB (mkSame j y e1 hA) e1 (fun h=>hnc ⟨h.2.1,h.1,h.2.2.symm⟩) b hzb hb
   ·exact hm.apart j m y z (hj.resolve_right e1) (hmm.resolve_right e2) (mkSame j y e1 hA) (mkSame m z e2 hB) hne hnc b hb hzb
 ·intro t j hj hjk hd hmax
  by_cases e:j=i
  ·subst e
   rw [hval]
   have hdo:o.dst=some t:=hdi▸hd
   rw [hdo] at hout ⊢
   have hlt:t<a.tmps.size:=by rw [hm.size];exact Nat.le_of_ble_eq_true hout
   simp [Act.put,hlt]
  ·have hTj:=hj.resolve_right e
   have hne:o.dst≠some t:=fun hdo=>by
    have h1:=later j t hTj hjk hd hdo
    have h2:=hmax i (.inr rfl) hi (hdi.trans hdo)
    omega
   have:=hm.last t j hTj hjk hd (fun m hm' hmk hmd=>hmax m (.inl hm') hmk hmd)
   rw [hoth j hTj hjk,← this]
   cases hdo:o.dst with
   | none=>rfl
   | some d =>
    have:d≠t:=fun e=>hne (by rw [hdo,e])
    simp only [Act.put]
    rw [Array.getElem?_setIfInBounds_ne this]
 ·intro t u hno hu
  have hne:o.dst≠some t:=fun hdo=>hno i (.inr rfl) hi (hdi.trans hdo)
  have:=hm.rest t u (fun j hj hjk=>hno j (.inl hj) hjk) hu
  rw [← this]
  cases hdo:o.dst with
  | none=>rfl
  | some d =>
   have:d≠t:=fun e=>hne (by rw [hdo,e])
   simp only [Act.put]
   rw [Array.getElem?_setIfInBounds_ne this]
theorem Mid.reads {w0 w:World}{T:Nat→Prop}{vs:Nat→Gh}{a:Act}{i:Nat}{o:Oper}(hr:RegB L pt pos.length) (hm:Mid F C it L pos β σ pb w0 T vs a w) (hi:i<pos.length) (ho:L[i]?=some o) (hT:¬ T i)
  (hcl:∀ j,T j→j<L.length∧∀ m∈B3 pt j,T m) (hpre:∀ m∈B3 pt i,T m):∀ t∈Jv L o,∀ v,Fr.get t (Fi it L pos σ vs i)=some v→a.tmps[t]?=some v:=by
 intro t ht v hv
 have hlt:=hr.le
 -- a writer before it is done
 have before:∀ j,j<i→Cd L j=some t→T j:=by
  intro j hj hd
  obtain ⟨b,hb⟩:∃ b,L[j]?=some b:=⟨L[j]'(by omega),by simp⟩
  have hp:=hr.pair j i b o (by omega) hi hb ho
  have hdb:b.dst=some t:=by simpa [Cd,B8,hb] using hd
  have hblt:Nat.blt j i=true:=Nat.ble_eq_true_of_le hj
  simp only [Ur,hblt,hdb,Bool.or_eq_true,Bool.and_eq_true] at hp
  rcases hp with hp|⟨_,hp,_⟩
  ·exact hpre j (C6.1 hp)
  ·simp [C6.2 ht] at hp
 have behind:∀ j,T j→j<pos.length→Cd L j=some t→j<i:=by
  intro j hj hjk hd
  rcases Nat.lt_trichotomy j i with h|h|h
  ·exact h
  ·subst h;exact absurd hj hT
  ·obtain ⟨b,hb⟩:∃ b,L[j]?=some b:=⟨L[j]'(hcl j hj).1,by simp⟩
   have hp:=hr.pair i j o b hi hjk ho hb
   have hdb:b.dst=some t:=by simpa [Cd,B8,hb] using hd
   have hblt:Nat.blt i j=true:=Nat.ble_eq_true_of_le h
   simp only [Ur,hblt,hdb,Bool.or_eq_true,Bool.and_eq_true] at hp
   rcases hp with hp|⟨hp,_⟩
   ·exact absurd ((hcl j hj).2 i (C6.1 hp)) hT
   ·simp [C6.2 ht] at hp
 rcases Wk vs t i v hv with ⟨j,h1,h2,h3,rfl⟩|⟨h1,h2⟩
 ·exact hm.last t j (before j h1 h2) (by omega) h2 fun m hm' hmk hmd=>h3 m (behind m hm' hmk hmd) hmd
 ·exact hm.rest t v (fun j hj hjk hd=>h1 j (behind j hj hjk hd) hd) h2
def cf:List Bool→Nat
 | []=>0
 | true::l=>cf l
 | false::l=>cf l+1
theorem AEN:∀ (l:List Bool) (i:Nat),l[i]?=some false→cf (l.set i true)+1=cf l:=by
 intro l
 induction l with
 | nil=>intro i h;simp at h
 | cons b l ih =>
  intro i h
  cases i with
  | zero=>simp at h;subst h;simp [cf]
  | succ i =>
   have:=ih i (by simpa using h)
   cases b <;> simp [cf] <;> omega
theorem AG0:∀ (l:List Bool) (i:Nat),l[i]?=some false→0<cf l:=by
 intro l i h
 have:=AEN l i h
 omega
theorem ADX:∀ n,cf (List.replicate n false)=n:=by
 intro n
 induction n with
 | zero=>rfl
 | succ n ih=>simp [List.replicate_succ,cf,ih]
theorem AEv (p:Nat→Bool) (m:Nat):∀ n,(∀ i,i<n→(p i=true↔i=m))→m<n→(List.range n).filter p=[m]:=by
 intro n
 induction n with
 | zero=>intro _ h;omega
 | succ n ih =>
  intro h hm
  rw [List.range_succ,List.filter_append]
  by_cases e:m=n
  ·subst e
   have h0:(List.range m).filter p=[]:=by
    rw [List.filter_eq_nil_iff]
    intro i hi
    have hi':i<m:=by simpa using hi
    intro hp
    have:=(h i (by omega)).1 hp
    omega
   rw [h0]
   simp [(h m (by omega)).2 rfl]
  ·rw [ih (fun i hi=>h i (by omega)) (by omega)]
   have:p n=false:=by
    cases hp:p n with
    | false=>rfl
    | true=>exact absurd ((h n (by omega)).1 hp).symm e
   simp [this]
theorem Le {L:List Oper}{listed:Array Bool}(hs:listed.size=L.length) {i:Nat}:i∈Region.ready .any L.toArray listed↔listed[i]?=some false∧∃ o,L[i]?=some o∧∀ e∈Hx o,listed[e]?=some true:=by
 simp only [Region.ready,List.mem_filter,List.mem_range,List.size_toArray,Bool.and_eq_true]
 constructor
 ·rintro ⟨hi,h1,h2⟩
  have hl:listed[i]?=some listed[i]:=by simp [hs,hi]
  refine ⟨?_,L[i],by simp [hi],fun e he=>?_⟩
  ·simp [hl] at h1;rw [hl,h1]
  ·simp only [List.getElem?_toArray,List.getElem?_eq_getElem hi,Option.map_some,Option.getD_some,Array.all_eq_true_iff_forall_mem] at h2
   obtain ⟨ed,hed,rfl⟩:=List.mem_map.1 he
   obtain ⟨hm,hb⟩:=List.mem_filter.1 hed
   have:=h2 ed (by simpa using hm)
   rw [hb] at this
   simp at this
   cases hh:listed[ed.on]? with
   | none=>simp [hh] at this
   | some b=>simp [hh] at this;rw [this]
 ·rintro ⟨h1,o,ho,h2⟩
  have hi:i<L.length:=(List.getElem?_eq_some_iff.1 ho).1
  refine ⟨hi,by simp [h1],?_⟩
  simp only [List.getElem?_toArray,ho,Option.map_some,Option.getD_some,Array.all_eq_true_iff_forall_mem]
  intro ed hed
  cases hb:Region.binds .any ed with
  | false=>simp
  | true =>
   have:=h2 ed.on (List.mem_map.2 ⟨ed,List.mem_filter.2 ⟨by simpa using hed,hb⟩,rfl⟩)
   simp [this]
theorem ACH (ops:Array Oper) (fuel t:Nat) (listed:Array Bool):Region.linearise.go .any ops (fuel+1) t listed [] =
  match (Region.ready .any ops listed)[t % (Region.ready .any ops listed).length]? with
  | some i=>i::Region.linearise.go .any ops fuel (t / (Region.ready .any ops listed).length) (listed.setIfInBounds i true) []
  | none=>[]:=by
 simp only [Region.linearise.go]
 change (match (Region.ready .any ops listed)[t % (Region.ready .any ops listed).length]? with
   | some i=>Region.linearise.go .any ops fuel (t / (Region.ready .any ops listed).length) (listed.setIfInBounds i true) [i]
   | none=>[].reverse)=_
 cases (Region.ready .any ops listed)[t % (Region.ready .any ops listed).length]? with
 | none=>rfl
 | some i=>simp only [];rw [linearise_go_acc];rfl
theorem AAs (ops:Array Oper) (t:Nat) (listed:Array Bool):((Region.ready .any ops listed)=[]∧(Region.ready .any ops listed)[t % (Region.ready .any ops listed).length]?=none) ∨
  ∃ i,i∈Region.ready .any ops listed∧(Region.ready .any ops listed)[t % (Region.ready .any ops listed).length]?=some i:=by
 cases hr:Region.ready .any ops listed with
 | nil=>left;simp
 | cons x xs =>
  right
  have hlt:t % (x::xs).length<(x::xs).length:=Nat.mod_lt _ (by simp)
  exact ⟨(x::xs)[t % (x::xs).length],List.getElem_mem _,List.getElem?_eq_getElem hlt⟩
theorem AFr {k m0:Nat}(hr:RegB L pt k) (hord:∀ i,i<L.length→∀ j,m0≤j→j<i→j∈B3 pt i):∀ (fuel t m:Nat) (listed:Array Bool),m0≤m→m≤L.length→listed.size=L.length→(∀ i,i<L.length→listed[i]?=some (decide (i<m)))→L.length-m≤fuel →
  Region.linearise.go .any L.toArray fuel t listed []=List.range' m (L.length-m):=by
 intro fuel
 induction fuel with
 | zero => intro t m listed _ hm _ _ hf; have : L.length - m = 0 := by omega
           rw [this]; simp [Region.linearise.go]
 | succ fuel ih =>
  intro t m listed hkm hm hs hl hf
  rw [ACH]
  by_cases e:m=L.length
  ·have hnil:Region.ready .any L.toArray listed=[]:=by
    rw [List.eq_nil_iff_forall_not_mem]
    intro i hi
    obtain ⟨h1,o,ho,_⟩:=(Le hs).1 hi
    have hi':i<L.length:=(List.getElem?_eq_some_iff.1 ho).1
    have:=hl i hi'
    rw [h1] at this
    simp at this
    omega
   rw [hnil,e]
   simp
  ·have hone:Region.ready .any L.toArray listed=[m]:=by
    refine AEv _ m _ (fun i hi=>?_) (by simp;omega)
    have hi':i<L.length:=by simpa using hi
    have hmem:(i∈Region.ready .any L.toArray listed)↔i=m:=by
     rw [Le hs]
     constructor
     ·rintro ⟨h1,o,ho,h2⟩
      have h3:=hl i hi'
      rw [h1] at h3
      simp at h3
      rcases Nat.lt_or_ge m i with hmi|hmi
      ·have hcl:∀ j∈B3 pt i,j<m:=ACm hr (T:=fun j=>j<m) (fun j o' hj ho' e he=>Nat.lt_trans (hr.deps j o' ho' e he) hj) i hi' (fun o' ho' e he=>by
        rw [ho] at ho'
        obtain rfl:=Option.some.inj ho'
        have h4:=h2 e he
        have h5:=hr.deps i o ho e he
        have h6:=hl e (by omega)
        rw [h4] at h6
        simpa using h6.symm)
       have:=hcl m (hord i hi' m hkm hmi)
       omega
      ·omega
     ·rintro rfl
      refine ⟨by rw [hl i hi'];simp,L[i],by simp [hi'],fun e he=>?_⟩
      have h5:=hr.deps i L[i] (by simp [hi']) e he
      rw [hl e (by omega)]
      simp [h5]
    simp only [Region.ready,List.mem_filter,List.mem_range] at hmem
    constructor
    ·intro hp;exact hmem.1 ⟨hi,hp⟩
    ·intro e;exact (hmem.2 e).2
   rw [hone]
   simp only [List.length_singleton,Nat.mod_one,List.getElem?_cons_zero,Nat.div_one]
   rw [ih t (m+1) (listed.setIfInBounds m true) (by omega) (by omega) (by simpa using hs) (fun i hi=>?_) (by omega)]
   ·rw [show L.length-m=(L.length-(m+1))+1 by omega,List.range'_succ]
   ·rw [Array.getElem?_setIfInBounds]
    by_cases e2:m=i
    ·subst e2;simp [hs,hi]
    ·rw [if_neg e2,hl i hi]
     congr 1
     simp only [decide_eq_decide]
     omega
theorem Jw {β:List A4}:Ay β↔β.Pairwise (fun x y=>∀ b,x.1=some b→y.1≠some b):=by
 induction β with
 | nil=>simp [Ay]
 | cons x l ih=>rw [List.pairwise_cons,← ih];rfl
theorem ABT {w0 w:World}(hO:Own C w0 (Nz pb++β)) (hx:ExtP pb w0 w):Own C w β:=by
 have hsubB:β.Sublist (Nz pb++β):=List.sublist_append_right _ _
 have hin:∀ {k},N9 pb k→∃ x∈Nz pb++β,x.1=some k:=fun ⟨x,hx,e⟩=>⟨x,List.mem_append_left _ hx,e⟩
 have hnb:∀ k,N9 pb k→∀ x∈β,x.1≠some k:=by
  rintro k ⟨y,hy,e⟩ x hxx hxk
  have hd:=Jw.1 hO.apart
  rw [List.pairwise_append] at hd
  exact hd.2.2 y hy x hxx k e hxk
 refine ⟨⟨hx.os.trans hO.ext.os,hx.tape.trans hO.ext.tape,hx.output.trans hO.ext.output,Nat.le_trans hO.ext.size hx.size,fun k hk hM=>?_⟩,fun x hxx=>hO.new x (hsubB.subset hxx),fun x hxx b hb=>?_,hO.apart.sub hsubB⟩
 ·rw [hx.block k (Nat.lt_of_lt_of_le hk hO.ext.size) fun hp=>?_]
  ·exact hO.ext.block k hk hM
  ·obtain ⟨y,hy,hyk⟩:=hin hp
   rcases hO.new y hy k hyk with h|h
   ·omega
   ·exact hM h
 ·have hblt:b<w0.heap.size:=hO.lt (hsubB.subset hxx) hb
  rw [hx.block b hblt fun hp=>hnb b hp x hxx hb]
  exact hO.blk x (hsubB.subset hxx) b hb
theorem U1 (hL:∀ (vs:Nat→Gh) (i:Nat),i≤pos.length→Lx it F C p S L pt β Γ R i (pos.drop i) (Mx it L pos σ i) (Fi it L pos σ vs i) (F1 it L pos σ vs i) (Dw it L pos σ pb vs i) (B6 it L pos σ pb vs i)) (vs:Nat→Gh) (i:Nat) (hC:Rr it L pos σ i) :
  (∃ x,B6 it L pos σ pb vs i=some x∧∀ cs,Td it L pos σ i cs→∃ b T cs0,x=[(some b,T,cs0)])∧(AEr it L pos σ i∨ABE it L pos σ i→Gp pt i (i+1) (pos.drop (i+1))=true):=by
 obtain ⟨hi,hkv⟩:i<pos.length∧kv it L pos σ i=none:=by
  rcases hC with ⟨cs,h⟩|h
  ·exact ⟨h.1,h.2.1⟩
  ·exact ⟨h.1,h.2.1⟩
 have hlx:=hL vs i (Nat.le_of_lt hi)
 obtain ⟨po,hpo⟩:∃ po,A5 pos i=some po:=⟨pos[i],by rw [B8];simp⟩
 rw [Ix hpo] at hlx
 simp only [Lx] at hlx
 cases ho:A5 L i with
 | none=>rw [ho] at hlx;exact hlx.elim
 | some o =>
  rw [ho] at hlx
  simp only at hlx
  have hk:kv it L pos σ i=Cj it L (Mx it L pos σ i) o po:=by simp only [kv,ho,hpo]
  cases hout:Nj o.dst F.fn.ntmps with
  | false=>rw [hout] at hlx;exact hlx.elim
  | true =>
   rw [hout] at hlx
   cases hg:gd L (Mx it L pos σ i) o with
   | none=>rw [hg] at hlx;exact hlx.elim
   | some b =>
    cases b with
    | false=>rw [hk] at hkv;simp [Cj,hg] at hkv
    | true =>
     rw [hg] at hlx
     rcases hC with ⟨cs,_,_,hp⟩|⟨_,_,T,val,f,hp|hp|hp⟩
     ·rw [hpo] at hp
      obtain rfl:=Option.some.inj hp
      simp only at hlx
      refine ⟨?_,fun h=>by rcases h with ⟨_,_,_,_,_,h⟩|⟨_,_,_,_,_,h⟩ <;> (rw [hpo] at h;cases h)⟩
      split at hlx
      ·rename_i b T cs0 hpb
       exact ⟨_,hpb,fun _ _=>⟨b,T,cs0,rfl⟩⟩
      ·exact hlx.elim
     ·rw [hpo] at hp
      obtain rfl:=Option.some.inj hp
      simp only at hlx
      refine ⟨?_,fun h=>by rcases h with ⟨_,_,_,_,_,h⟩|⟨_,_,_,_,_,h⟩ <;> (rw [hpo] at h;cases h)⟩
      cases hpb:B6 it L pos σ pb vs i with
      | none=>rw [hpb] at hlx;simp at hlx
      | some x=>exact ⟨x,rfl,fun cs hS=>by have:=hS.2.2;rw [hpo] at this;cases this⟩
     ·rw [hpo] at hp
      obtain rfl:=Option.some.inj hp
      simp only at hlx
      refine ⟨?_,fun _=>hlx.1.2⟩
      cases hpb:B6 it L pos σ pb vs i with
      | none=>rw [hpb] at hlx;simp at hlx
      | some x=>exact ⟨x,rfl,fun cs hS=>by have:=hS.2.2;rw [hpo] at this;cases this⟩
     ·rw [hpo] at hp
      obtain rfl:=Option.some.inj hp
      simp only at hlx
      refine ⟨?_,fun _=>hlx.1.2⟩
      cases hpb:B6 it L pos σ pb vs i with
      | none=>rw [hpb] at hlx;simp at hlx
      | some x=>exact ⟨x,rfl,fun cs hS=>by have:=hS.2.2;rw [hpo] at this;cases this⟩
theorem AEg (hL:∀ (vs:Nat→Gh) (i:Nat),i≤pos.length→Lx it F C p S L pt β Γ R i (pos.drop i) (Mx it L pos σ i) (Fi it L pos σ vs i) (F1 it L pos σ vs i) (Dw it L pos σ pb vs i) (B6 it L pos σ pb vs i)):Ord it L pos pt σ:=by
 intro j i hj hi hlt
 have hsh:AEr it L pos σ j∨ABE it L pos σ j:=by
  by_cases h:AEr it L pos σ j∨ABE it L pos σ j
  ·exact h
  ·exfalso
   have key:∀ m,j<m→B6 it L pos σ pb (fun _ _=>default) m=none:=by
    intro m
    induction m with
    | zero=>intro h;omega
    | succ m ih =>
     intro hm
     rcases Nat.lt_or_ge j m with h1|h1
     ·have ih:=ih h1
      simp only [B6]
      split
      ·rfl
      ·rfl
      ·rename_i h2 h3
       obtain ⟨⟨_,e,_⟩,_⟩:=U1 hL (fun _ _=>default) m (.inr ⟨W0 h3,h2,_,_,_,.inr (.inl h3)⟩)
       rw [ih] at e;cases e
      ·rename_i h2 h3
       obtain ⟨⟨_,e,_⟩,_⟩:=U1 hL (fun _ _=>default) m (.inr ⟨W0 h3,h2,_,_,_,.inr (.inr h3)⟩)
       rw [ih] at e;cases e
      ·exact ih
     ·have e:j=m:=by omega
      subst e
      rcases hj with ⟨cs,g1,g2,g3⟩|⟨g1,g2,T,val,f,g3|g3|g3⟩
      ·simp only [B6,g2,g3]
      ·simp only [B6,g2,g3]
      ·exact absurd (.inl ⟨g1,g2,T,val,f,g3⟩) h
      ·exact absurd (.inr ⟨g1,g2,T,val,f,g3⟩) h
   obtain ⟨⟨_,e,_⟩,_⟩:=U1 hL (fun _ _=>default) i hi
   rw [key i hlt] at e;cases e
 have hc:=(U1 hL (fun _ _=>default) j hj).2 hsh
 obtain ⟨h1,h2⟩:=ACw hc (i-(j+1))
 have e1:A5 (pos.drop (j+1)) (i-(j+1))=A5 pos i:=by
  rw [B8,B8,List.getElem?_drop]
  congr 1
  omega
 have e2:j+1+(i-(j+1))=i:=by omega
 rw [e1] at h1 h2
 rw [e2] at h2
 refine ⟨hsh,?_,fun cs hs=>h1 cs hs.2.2⟩
 rcases hi with ⟨cs,hs⟩|⟨_,_,T,val,f,hs⟩
 ·exact absurd hs.2.2 (h1 cs)
 ·exact h2 ⟨T,val,f,hs⟩
theorem ADj:∀ (l:List Bool) (n m:Nat),l.length=n→(∀ i,i<n→l[i]?=some (decide (i<m)))→n-m≤cf l:=by
 intro l
 induction l with
 | nil=>intro n m h _;simp at h;omega
 | cons b l ihl =>
  intro n m h hx
  cases n with
  | zero=>simp at h
  | succ n =>
   have h0:=hx 0 (by omega)
   simp at h0
   have:=ihl n (m-1) (by simpa using h) (fun i hi=>by
    have:=hx (i+1) (by omega)
    simp at this
    rw [this]
    congr 1
    simp only [decide_eq_decide]
    omega)
   cases b with
   | true=>simp [cf] at h0 ⊢;omega
   | false=>simp [cf] at h0 ⊢;omega
theorem ABB {k:List Item}{w0:World}(hr:RegB L pt pos.length) (hL:∀ (vs:Nat→Gh) (i:Nat),i≤pos.length→Lx it F C p S L pt β Γ R i (pos.drop i) (Mx it L pos σ i) (Fi it L pos σ vs i) (F1 it L pos σ vs i) (Dw it L pos σ pb vs i) (B6 it L pos σ pb vs i))
  (hit:Bw P it) (hO:Own C w0 (Nz pb++β)) (hG:∀ g∈Γ,g.holds w0 (ok C w0 (Nz pb++β)))
  (fin:∀ (fuel t:Nat) (listed:Array Bool) vs a w,listed.size=L.length→(∀ i,i<L.length→listed[i]?=some (decide (i<pos.length)))→cf listed.toList≤fuel→Mid F C it L pos β σ pb w0 (fun i=>i<pos.length) vs a w→At F (.inRegion L.toArray (Region.linearise.go .any L.toArray fuel t listed [])::k) a w R)
  (lat:∀ (fuel t:Nat) (listed:Array Bool) (vs:Nat→Gh) (a:Act) (w:World) (i:Nat),listed.size=L.length→(∀ (i:Nat),listed[i]?=some true→i<pos.length)→(∀ (j:Nat),listed[j]?=some true→∀ (o:Oper),L[j]?=some o→∀ e∈Hx o,listed[e]?=some true)→(∀ o,L[i]?=some o→∀ e∈Hx o,listed[e]?=some true) →
   cf listed.toList≤fuel+1→Mid F C it L pos β σ pb w0 (fun (i:Nat)=>listed[i]?=some true) vs a w→pos.length≤i→listed[i]?=some false→(∃ i0,i0<pos.length∧listed[i0]?≠some true)→i<L.length→(∀ m∈B3 pt i,listed[m]?=some true) →
   At F (.inRegion L.toArray (Region.linearise.go .any L.toArray (fuel+1) t listed [])::k) a w R) :
  ∀ (fuel t:Nat) (listed:Array Bool) (vs:Nat→Gh) (a:Act) (w:World),listed.size=L.length→(∀ (i:Nat),listed[i]?=some true→i<pos.length) →
   (∀ (i:Nat),listed[i]?=some true→∀ (o:Oper),L[i]?=some o→∀ e∈Hx o,listed[e]?=some true) →
   cf listed.toList≤fuel→Mid F C it L pos β σ pb w0 (fun (i:Nat)=>listed[i]?=some true) vs a w →
   At F (.inRegion L.toArray (Region.linearise.go .any L.toArray fuel t listed [])::k) a w R:=by
 have hpv:∀ j ts g,j<pos.length→kv it L pos σ j=none→A5 pos j=some (.pv ts g)→∀ o,L[j]?=some o→∀ t∈ts,t∈Jv L o:=fun j ts g hj hk hp o ho t ht=>by
  have hlx:=hL (fun _ _=>default) j (Nat.le_of_lt hj)
  rw [Ix hp] at hlx
  have hn:A5 L j=some o:=by rw [B8];exact ho
  simp only [Lx,hn] at hlx
  simp only [kv,hn,hp] at hk
  cases hout:Nj o.dst F.fn.ntmps with
  | false=>rw [hout] at hlx;exact hlx.elim
  | true =>
   rw [hout] at hlx
   cases hg:gd L (Mx it L pos σ j) o with
   | none=>rw [hg] at hlx;exact hlx.elim
   | some b =>
    cases b with
    | false=>simp only [Cj,hg] at hk;cases hk
    | true =>
     rw [hg] at hlx
     exact C6.1 (List.all_eq_true.1 hlx.1 t ht)
 have hstat:=U1 hL
 have hord:Ord it L pos pt σ:=AEg hL
 have hsubB:β.Sublist (Nz pb++β):=List.sublist_append_right _ _
 have hOb:Own C w0 β:=hO.sub hsubB
 have hnb:∀ k,N9 pb k→∀ x∈β,x.1≠some k:=by
  rintro k ⟨y,hy,e⟩ x hx hxk
  have hd:=Jw.1 hO.apart
  rw [List.pairwise_append] at hd
  exact hd.2.2 y hy x hx k e hxk
 intro fuel
 induction fuel with
 | zero =>
  intro t listed vs a w hs hlt hcl hf hm
  have hall:∀ i,i<L.length→listed[i]?=some true:=fun i hi=>by
   have hl:listed[i]?=some listed[i]:=by simp [hs,hi]
   cases hb:listed[i] with
   | true=>rw [hl,hb]
   | false =>
    have:=AG0 listed.toList i (by rw [Array.getElem?_toList,hl,hb])
    omega
  have hk:L.length=pos.length:=by
   have:=hr.le
   rcases Nat.lt_or_ge pos.length L.length with h|h
   ·have:=hlt _ (hall pos.length h);omega
   ·omega
  have hm':Mid F C it L pos β σ pb w0 (fun i=>i<pos.length) vs a w:=by
   have e:(fun i=>listed[i]?=some true)=(fun i=>i<pos.length):=funext fun i=>propext ⟨hlt i,fun h=>hall i (by omega)⟩
   rwa [e] at hm
  exact fin 0 t listed vs a w hs (fun i hi=>by rw [hall i hi,decide_eq_true (by omega)]) hf hm'
 | succ fuel ih =>
  intro t listed vs a w hs hlt hcl hf hm
  by_cases hdone:∀ i,i<pos.length→listed[i]?=some true
  ·have hm':Mid F C it L pos β σ pb w0 (fun i=>i<pos.length) vs a w:=by
    have e:(fun i=>listed[i]?=some true)=(fun i=>i<pos.length):=funext fun i=>propext ⟨hlt i,hdone i⟩
    rwa [e] at hm
   have hl:∀ i,i<L.length→listed[i]?=some (decide (i<pos.length)):=fun i hi=>by
    by_cases h:i<pos.length
    ·rw [hdone i h];simp [h]
    ·have hx:listed[i]?=some listed[i]:=by simp [hs,hi]
     cases hb:listed[i] with
     | true=>exact absurd (hlt i (by rw [hx,hb])) h
     | false=>rw [hx,hb];simp [h]
   exact fin (fuel+1) t listed vs a w hs hl hf hm'
  ·obtain ⟨i0,hi0,hn0⟩:∃ i,i<pos.length∧listed[i]?≠some true:=by
    simpa using hdone
   have hgs:=ACH L.toArray fuel t listed
   have hclosed:∀ j,listed[j]?=some true→j<L.length∧∀ m∈B3 pt j,listed[m]?=some true:=fun j hj=>by
    have hjl:j<L.length:=by have:=hlt j hj;have:=hr.le;omega
    exact ⟨hjl,ACm hr (T:=fun m=>listed[m]?=some true) (fun i o hi ho=>hcl i hi o ho) j hjl (fun o ho=>hcl j hj o ho)⟩
   rcases AAs L.toArray t listed with ⟨hnil,_⟩|⟨i,hi,hpick⟩
   ·-- some operation is due
    exfalso
    have key:∀ n,n≤pos.length→(∀ j,j<n→listed[j]?=some true):=by
     intro n
     induction n with
     | zero=>intro _ j hj;omega
     | succ n ihn =>
      intro hn j hj
      rcases Nat.lt_or_ge j n with h|h
      ·exact ihn (by omega) j h
      ·have e:j=n:=by omega
       subst e
       have hjl:j<L.length:=by have:=hr.le;omega
       cases hb:listed[j]? with
       | none=>rw [Array.getElem?_eq_none_iff] at hb;omega
       | some b =>
        cases b with
        | true=>rfl
        | false =>
         have:j∈Region.ready .any L.toArray listed:=(Le hs).2 ⟨hb,L[j],by simp [hjl],fun e he=>ihn (by omega) e (hr.deps j _ (by simp [hjl]) e he)⟩
         rw [hnil] at this;cases this
    exact hn0 (key pos.length (Nat.le_refl _) i0 hi0)
   ·rw [hpick] at hgs
    simp only at hgs
    obtain ⟨hfalse,o,ho,hdeps⟩:=(Le hs).1 hi
    have hil:i<L.length:=(List.getElem?_eq_some_iff.1 ho).1
    have hpre:∀ m∈B3 pt i,listed[m]?=some true :=
     ACm hr (T:=fun m=>listed[m]?=some true) (fun i o hi ho=>hcl i hi o ho) i hil (fun o' ho' e he=>by rw [ho] at ho';obtain rfl:=Option.some.inj ho';exact hdeps e he)
    rcases Nat.lt_or_ge i pos.length with hik|hik
    rotate_left
    ·exact lat fuel t listed vs a w i hs hlt hcl (fun o' ho' e he=>by rw [ho] at ho';obtain rfl:=Option.some.inj ho';exact hdeps e he) hf hm hik hfalse ⟨i0,hi0,hn0⟩ hil hpre
    rw [hgs]
    have hTi:¬ listed[i]?=some true:=by rw [hfalse];simp
    -- what is owed of it
    obtain ⟨po,hpo⟩:∃ po,A5 pos i=some po:=⟨pos[i],by rw [B8];simp⟩
    have hlx:=hL vs i (by omega)
    rw [Ix hpo] at hlx
    have hnth:A5 L i=some o:=by rw [B8];exact ho
    simp only [Lx,hnth] at hlx
    have hreads:=hm.reads hr hik ho hTi hclosed hpre
    have hkv:kv it L pos σ i=Cj it L (Mx it L pos σ i) o po:=by simp only [kv,hnth,hpo]
    cases hout:Nj o.dst F.fn.ntmps with
    | false=>rw [hout] at hlx;exact hlx.elim
    | true =>
     rw [hout] at hlx
     -- going on
     have next:∀ (v:Value) (x:Gh) (w':World),ExtQ (cuk it L pos σ pb (Mk it L pos σ i) (fun j=>listed[j]?=some true) vs) w w'→(¬ Rr it L pos σ i→∀ k,k<w.heap.size→w'.heap[k]?=w.heap[k]?)→(∀ cs,Td it L pos σ i cs→∀ b Ty cs0,pb=some [(some b,Ty,cs0)]→w'.heap[b]?=some (.cells cs.toArray Ty (0,0))) →
       (∀ u,kv it L pos σ i=some u→v=u)→(kv it L pos σ i=none→((∃ val f,A5 pos i=some (.fa val f)∧v=val x∧∀ g∈f x,g.holds w' (okN C w' β (NAp it L pos σ pb (fun j=>listed[j]?=some true) vs))) ∨
       ∃ Ty cs val,A5 pos i=some (.al Ty cs val)∧v=val (x 0).2.1∧(x 0).2.1=w.heap.size∧w'=w.alloc (.cells cs.toArray Ty))∨(∃ cs,A5 pos i=some (.st cs)∧v=undef)∨(∃ ts g,A5 pos i=some (.pv ts g)∧v=g (Nm (Fi it L pos σ vs i) ts)) ∨
       ∃ bl val f,(A5 pos i=some (.sg bl val f)∨A5 pos i=some (.sh bl val f)∨A5 pos i=some (.si bl val f))∧v=val x∧Ay (bl x)∧(∀ y∈bl x,∀ b,y.1=some b→(w.heap.size≤b∨cuk it L pos σ pb (Mk it L pos σ i) (fun j=>listed[j]?=some true) vs b)∧w'.heap[b]?=some (.cells y.2.2.toArray y.2.1 (0,0)))∧∀ g∈f x,g.holds w' (fun k=>(okN C w β (NAp it L pos σ pb (fun j=>listed[j]?=some true) vs) k∨w.heap.size≤k)∧k<w'.heap.size∧∀ y∈bl x,y.1≠some k)) →
       At F (.inRegion L.toArray (Region.linearise.go .any L.toArray fuel (t / (Region.ready .any L.toArray listed).length) (listed.setIfInBounds i true) [])::k) (a.put o.dst v) w' R:=by
      intro v x w' hx hpb hst hv hf'
      have hm2:=hm.step hr hik ho hTi hclosed hout hx hord hpb hst hv hf' hpv hO.ext.size (fun y hy k hk=>hOb.lt hy hk)
      have hget:∀ j,(listed.setIfInBounds i true)[j]?=some true↔(listed[j]?=some true∨j=i):=by
       intro j
       rw [Array.getElem?_setIfInBounds]
       by_cases e:i=j
       ·subst e
        simp [hs,hil]
       ·rw [if_neg e]
        constructor
        ·exact .inl
        ·rintro (h|h)
         ·exact h
         ·exact absurd h.symm e
      have eT:(fun j=>(listed.setIfInBounds i true)[j]?=some true)=(fun j=>listed[j]?=some true∨j=i):=funext fun j=>propext (hget j)
      refine ih _ _ _ _ _ (by simpa using hs) (fun j hj=>?_) (fun j hj o' ho' e he=>?_) ?_ (by rw [eT];exact hm2)
      ·rcases (hget j).1 hj with h|rfl
       ·exact hlt j h
       ·exact hik
      ·rw [hget]
       rcases (hget j).1 hj with h|rfl
       ·exact .inl (hcl j h o' ho' e he)
       ·rw [ho] at ho';obtain rfl:=Option.some.inj ho'
        exact .inl (hdeps e he)
      ·have:=AEN listed.toList i (by rw [Array.getElem?_toList];exact hfalse)
       rw [Array.toList_setIfInBounds]
       omega
     have hsub:=AIU (it:=it) (L:=L) (pos:=pos) (σ:=σ) vs i (by omega)
     have hoarr:L.toArray[i]?=some o:=by simpa using ho
     -- the guard
     have hwant:∀ b,gd L (Mx it L pos σ i) o=some b→Region.wanted o (yielded L.toArray a.tmps)=b:=by
      intro b hb
      unfold gd at hb
      unfold Region.wanted
      cases hgd:o.guard with
      | none=>rw [hgd] at hb;simpa using hb
      | some jw =>
       obtain ⟨j,want⟩:=jw
       rw [hgd] at hb
       simp only at hb ⊢
       cases hj:A5 L j with
       | none=>rw [hj] at hb;simp at hb
       | some g =>
        rw [hj] at hb
        simp only at hb
        cases hgs:g.dst with
        | none=>rw [hgs] at hb;simp at hb
        | some s =>
         rw [hgs] at hb
         simp only at hb
         have hsr:s∈Jv L o:=by
          refine List.mem_append.2 (.inr ?_)
          simp [ABj,hgd,hj,hgs]
         have hsl:∀ c,Fr.get s (Mx it L pos σ i)=some (.bool c)→yielded L.toArray a.tmps j=some c:=fun c hc =>
          V1 (g:=s) (by rw [B8] at hj;simp [hj,hgs]) (hreads s hsr _ (hsub s _ hc))
         split at hb
         ·rename_i hc;rw [hsl true hc];obtain rfl:=Option.some.inj hb;cases want <;> rfl
         ·rename_i hc;rw [hsl false hc];obtain rfl:=Option.some.inj hb;cases want <;> rfl
         ·rename_i hc
          have hy:yielded L.toArray a.tmps j=none:=by
           have hd:(L.toArray[j]?).bind (·.dst)=some s:=by rw [B8] at hj;simp [hj,hgs]
           have ht:=hreads s hsr _ (hsub s _ hc)
           have hd':(L[j]?).bind (·.dst)=some s:=by simpa using hd
           simp [yielded,hd',ht]
          rw [hy];obtain rfl:=Option.some.inj hb;cases want <;> rfl
         ·simp at hb
     -- running it
     have runs:∀ (post:Value→World→Prop),Ex P o.op o.type (Fi it L pos σ vs i) w post→Out P post ((execOp a.eval o).run P w):=by
      intro post hx
      classical
      let ρ:Operand→Value:=fun x=>if x∈o.op.operands then a.eval x else (ev (Fi it L pos σ vs i) x).getD undef
      have hρ:∀ x v,ev (Fi it L pos σ vs i) x=some v→ρ x=v:=by
       intro x v hv
       by_cases hx:x∈o.op.operands
       ·simp only [ρ,hx,if_true]
        cases x with
        | tmp s =>
         have hs:s∈Jv L o:=List.mem_append.2 (.inl (List.mem_filterMap.2 ⟨.tmp s,by simpa using hx,rfl⟩))
         have:=hreads s hs v hv
         simp [Act.eval,this]
        | const u=>simpa [ev,Act.eval] using hv
        | global g=>simpa [ev,Act.eval] using hv
        | func f=>simpa [ev,Act.eval] using hv
       ·simp only [ρ,hx,if_false,hv,Option.getD_some]
      have h1:=hx ρ hρ
      rw [← Ge] at h1
      have e:execOp a.eval o=execOp ρ o:=execOp_congr o (fun cs b=>hr.noSel i o cs b ho) (fun x hx=>by simp only [ρ,hx,if_true])
      rw [e];exact h1
     have hO0:Own C w β:=ABT hO hm.ext
     -- the blocks made since are nobody's there
     let N:=NAp it L pos σ pb (fun j=>listed[j]?=some true) vs
     have hNA:∀ k,NA it L pos σ (fun j=>listed[j]?=some true) vs k→(w0.heap.size≤k∨N9 pb k)∧k<w.heap.size:=by
      rintro k ⟨j,y,hj,hA,e⟩
      obtain ⟨h1,_,h2⟩:=hm.made j y hj hA k e
      exact ⟨h2.imp id (·.2.2),h1⟩
     have hNlt:∀ k,N k→k<w.heap.size:=by
      rintro k (h|h)
      ·exact (hNA k h).2
      ·exact Nat.lt_of_lt_of_le (hm.low k h) hm.ext.size
     let C2:Cx:=⟨w,okN C w β N,Wm β⟩
     have hO':Own C2 w β:=⟨Keep.refl _ _,fun x hx b hb=>.inr ⟨x,hx,hb⟩,hO0.blk,hO0.apart⟩
     have hup:∀ g∈Sk (B3 pt i) (F1 it L pos σ vs i)++Γ,g.holds w (okN C w β N):=by
      intro g hg
      rcases List.mem_append.1 hg with hg|hg
      ·obtain ⟨j,hj,hjg⟩:=AIW hg
       obtain ⟨h1,h2,h4⟩:=Xd hjg
       exact hm.fact j (hpre j hj) (by omega) h2 g h4
      ·exact g.stable (fun k hk=>by
        have hnp:¬ N9 pb k:=fun ⟨y,hy,e⟩=>hk.2.2 y (List.mem_append_left _ hy) e
        exact ⟨⟨⟨hk.1,Nat.lt_of_lt_of_le hk.2.1 hm.ext.size,fun x hx=>hk.2.2 x (hsubB.subset hx)⟩,fun hn=>by
         rcases hn with hn|hn
         ·rcases (hNA k hn).1 with h|h
          ·have:=hk.2.1;omega
          ·exact hnp h
         ·exact hnp hn⟩,hm.ext.block k hk.2.1 hnp⟩) (hG g hg)
     have hfacts:∀ g∈Sk (B3 pt i) (F1 it L pos σ vs i)++Γ,g.holds w (ok C2 w β):=fun g hg =>
      g.stable (fun k hk=>⟨⟨.inl hk,hk.1.2.1,hk.1.2.2⟩,rfl⟩) (hup g hg)
     have back:∀ w',Ext w w'→∀ g:Fact,g.holds w' (ok C2 w' β)→g.holds w' (okN C w' β N):=fun w' hx g hg =>
      g.stable (fun k hk=>⟨by
       rcases hk.1 with h|⟨y,hy,hb⟩|h
       ·exact ⟨(AJF hx k h.1).1,h.2⟩
       ·exact absurd hb (hk.2.2 y hy)
       ·have h':w.heap.size≤k:=h
        exact ⟨⟨.inr (.inr (Nat.le_trans hO0.ext.size h')),hk.2.1,hk.2.2⟩,fun hn=>by have:=hNlt k hn;omega⟩,rfl⟩) hg
     -- an operation that is no store leaves the block that waits
     have keepP:∀ w',Ext w w'→∀ k,k<w.heap.size→w'.heap[k]?=w.heap[k]?:=fun w' hx k hk=>hx.block k hk
     -- what waits for a later one
     have cukN:∀ k,cuk it L pos σ pb (Mk it L pos σ i) (fun j=>listed[j]?=some true) vs k→N k:=by
      rintro k (⟨_,h⟩|⟨m,y,hm',_,_,hA,e⟩)
      ·exact .inr h
      ·exact .inl ⟨m,y,hm',hA,e⟩
     have hcur:Rr it L pos σ i→(∀ x∈Nz (B6 it L pos σ pb vs i),∀ b,x.1=some b→w.heap[b]?=some (.cells x.2.2.toArray x.2.1 (0,0)))∧(∀ k,N9 (B6 it L pos σ pb vs i) k→cuk it L pos σ pb (Mk it L pos σ i) (fun j=>listed[j]?=some true) vs k)∧Ay (Nz (B6 it L pos σ pb vs i)):=fun hC=>by
      have hdp:Ay (Nz pb):=hO.apart.sub (List.sublist_append_left _ _)
      have nol:∀ j,listed[j]?=some true→Rr it L pos σ j→j<i:=fun j hj hc=>by
       rcases Nat.lt_trichotomy j i with h|h|h
       ·exact h
       ·subst h;exact absurd hj hTi
       ·exact absurd ((hclosed j hj).2 i (hord i j hC hc h).2.1) hTi
      rcases Gd (it:=it) (L:=L) (pos:=pos) (σ:=σ) (pb:=pb) vs i with ⟨h1,h2⟩|⟨j,h1,h2,h3,h4⟩|h1|⟨h1,_⟩
      ·rw [h1]
       have hc0:Mk it L pos σ i=0:=Y8 (j:=0) (Nat.zero_le _) fun m _ hm' hs=>h2 m hm' (.inr hs.sg)
       exact ⟨hm.pend fun j hj hc=>h2 j (nol j hj hc) hc,fun k hk=>.inl ⟨hc0,hk⟩,hdp⟩
      ·rw [h3]
       have hTj:listed[j]?=some true:=hpre j (hord j i (.inr h2.sg) hC h1).2.1
       have hmk:∀ y,y∈AEu (A5 pos j) (vs j)→Sc it L pos σ vs j y:=fun y hy=>⟨h2.1,h2.2.1,hy⟩
       have hce:Mk it L pos σ i=Mk it L pos σ j:=Y8 (Nat.le_of_lt h1) fun m h5 h6 hs=>by
        have h7:=h4 m h6 (.inr hs.sg)
        have e:m=j:=by omega
        subst e
        obtain ⟨_,_,_,_,_,g1⟩:=hs
        obtain ⟨_,_,_,_,_,g2⟩:=h2
        rw [g1] at g2;cases g2
       exact ⟨fun y hy b hb=>(hm.made j y hTj (hmk y hy) b hb).2.1 fun m hm' hc _ _=>h4 m (nol m hm' hc) hc,fun k ⟨y,hy,e⟩=>.inr ⟨j,y,hTj,h2.sg,hce.symm,hmk y hy,e⟩,hm.mdist j hTj h2.1 h2.2.1⟩
      ·obtain ⟨⟨_,e,_⟩,_⟩:=hstat vs i hC
       rw [h1] at e;cases e
      ·rw [h1]
       exact ⟨fun x hx=>(by cases hx),fun k ⟨y,hy,_⟩=>(by cases hy),trivial⟩
     have notSt:(∀ cs,po ≠ .st cs)→∀ cs,¬ Td it L pos σ i cs:=fun h cs hS=>by
      have:=hS.2.2
      rw [hpo] at this
      exact h cs (Option.some.inj this)
     have knownNot:(kv it L pos σ i≠none)→∀ cs,¬ Td it L pos σ i cs:=fun h cs hS=>h hS.2.1
     cases hgb:gd L (Mx it L pos σ i) o with
     | none=>rw [hgb] at hlx;exact hlx.elim
     | some b =>
      rw [hgb] at hlx
      cases b with
      | false =>
       refine ABH hoarr (hwant false hgb) (next undef (fun _=>default) w (.refl _ _) (fun _ _ _=>rfl) (fun cs hS=>absurd hS (knownNot (by rw [hkv];simp [Cj,hgb]) cs)) (fun u hu=>?_) (fun hn=>?_))
       ·rw [hkv] at hu;simp only [Cj,hgb,Option.some.injEq] at hu;exact hu
       ·rw [hkv] at hn;simp [Cj,hgb] at hn
      | true =>
       cases po with
       | auto =>
        simp only at hlx
        cases hp:pev it (Mx it L pos σ i) o.op with
        | none=>rw [hp] at hlx;exact hlx.elim
        | some vq =>
         obtain ⟨v,q⟩:=vq
         rw [hp] at hlx
         have hpure:Jp P o.op o.type (Mx it L pos σ i) w v:=Ff hit hp hlx.1 w
         have hex:Ex P o.op o.type (Fi it L pos σ vs i) w (fun u w'=>u=v∧w'=w):=fun ρ hρ=>hpure.ex ρ (fun x u hu=>hρ x u (by
          cases x with
          | tmp s=>exact hsub s u hu
          | _=>exact hu))
         refine Kz hoarr (hwant true hgb) (runs _ hex) ?_
         rintro u w' ⟨rfl,rfl⟩
         refine next u (fun _=>default) w' (.refl _ _) (fun _ _ _=>rfl) (fun cs hS=>absurd hS (notSt (fun _ e=>by cases e) cs)) (fun u' hu=>?_) (fun hn=>?_)
         ·rw [hkv] at hu;simp only [Cj,hgb,hp,Option.map_some,Option.some.injEq] at hu;exact hu
         ·rw [hkv] at hn;simp [Cj,hgb,hp] at hn
       | eq v =>
        refine Kz hoarr (hwant true hgb) (runs _ (hlx.1 C2 w hO' hfacts)) ?_
        rintro u w' ⟨hx,_,rfl,_⟩
        refine next u (fun _=>default) w' (.of hx) (fun _=>keepP w' hx) (fun cs hS=>absurd hS (notSt (fun _ e=>by cases e) cs)) (fun u' hu=>?_) (fun hn=>?_)
        ·rw [hkv] at hu;simp only [Cj,hgb,Option.some.injEq] at hu;exact hu
        ·rw [hkv] at hn;simp [Cj,hgb] at hn
       | fa val f =>
        refine Kz hoarr (hwant true hgb) (runs _ (hlx.1 C2 w hO' hfacts)) ?_
        rintro u w' ⟨hx,x,hux,hu⟩
        refine next u x w' (.of hx) (fun _=>keepP w' hx) (fun cs hS=>absurd hS (notSt (fun _ e=>by cases e) cs)) (fun u' hu'=>?_) (fun _=>.inl (.inl ⟨val,f,hpo,hux,fun g hg=>back w' hx g (hu g hg)⟩))
        rw [hkv] at hu';simp [Cj,hgb] at hu'
       | al Ty cs =>
        refine Kz hoarr (hwant true hgb) (runs _ (hlx.1 w)) ?_
        rintro u w' ⟨rfl,rfl⟩
        have hx:Ext w (w.alloc (.cells cs.toArray Ty)):=(Below.refl _ _).alloc (Nat.le_refl _) _
        refine next _ (fun _=>(none,w.heap.size,0,[])) _ (.of hx) (fun _=>keepP _ hx) (fun cs hS=>absurd hS (notSt (fun _ e=>by cases e) cs)) (fun u' hu'=>?_) (fun _=>.inl (.inr ⟨Ty,cs,_,hpo,rfl,rfl,rfl⟩))
        rw [hkv] at hu';simp [Cj,hgb] at hu'
       | pv ts g =>
        refine Kz hoarr (hwant true hgb) (runs _ (hlx.2.1 C2 w hO' hfacts)) ?_
        rintro u w' ⟨hx,_,rfl,_⟩
        refine next _ (fun _=>default) w' (.of hx) (fun _=>keepP w' hx) (fun cs hS=>absurd hS (notSt (fun _ e=>by cases e) cs)) (fun u' hu'=>?_) (fun _=>.inr (.inr (.inl ⟨ts,g,hpo,rfl⟩)))
        rw [hkv] at hu';simp [Cj,hgb] at hu'
       | sg bl val f =>
        have hkn:kv it L pos σ i=none:=by rw [hkv];simp [Cj,hgb]
        have hS:ABI it L pos σ i:=⟨hik,hkn,_,_,_,.inl hpo⟩
        obtain ⟨c1,c2,c3⟩:=hcur (.inr hS)
        refine Kz hoarr (hwant true hgb) (runs _ (hlx.2.1 w (okN C w β N) (fun k hk=>⟨hk.1.2.1,fun hp=>hk.2 (cukN k (c2 k hp))⟩) c1 c3 hup)) ?_
        rintro u w' ⟨x,rfl,hK,h4,h5,h6⟩
        refine next _ x w' ⟨hK.os,hK.tape,hK.output,hK.size,fun k hk hn=>hK.block k hk fun h=>hn (c2 k h)⟩ (fun hno=>absurd (.inr hS) hno) (fun cs hS'=>absurd hS' (notSt (fun _ e=>by cases e) cs)) (fun u' hu'=>?_) (fun _=>.inr (.inr (.inr ⟨bl,val,f,.inl hpo,rfl,h4,fun y hy b hb=>⟨(h5 y hy b hb).1.imp id (c2 b),(h5 y hy b hb).2⟩,h6⟩)))
        rw [hkn] at hu';cases hu'
       | sh bl val f =>
        have hkn:kv it L pos σ i=none:=by rw [hkv];simp [Cj,hgb]
        have hS:ABI it L pos σ i:=⟨hik,hkn,_,_,_,.inr (.inl hpo)⟩
        obtain ⟨c1,c2,c3⟩:=hcur (.inr hS)
        refine Kz hoarr (hwant true hgb) (runs _ (hlx.2.1 w (okN C w β N) (fun k hk=>⟨hk.1.2.1,fun hp=>hk.2 (cukN k (c2 k hp))⟩) c1 c3 hup)) ?_
        rintro u w' ⟨x,rfl,hK,h4,h5,h6⟩
        refine next _ x w' ⟨hK.os,hK.tape,hK.output,hK.size,fun k hk hn=>hK.block k hk fun h=>hn (c2 k h)⟩ (fun hno=>absurd (.inr hS) hno) (fun cs hS'=>absurd hS' (notSt (fun _ e=>by cases e) cs)) (fun u' hu'=>?_) (fun _=>.inr (.inr (.inr ⟨bl,val,f,.inr (.inl hpo),rfl,h4,fun y hy b hb=>⟨(h5 y hy b hb).1.imp id (c2 b),(h5 y hy b hb).2⟩,h6⟩)))
        rw [hkn] at hu';cases hu'
       | si bl val f =>
        have hkn:kv it L pos σ i=none:=by rw [hkv];simp [Cj,hgb]
        have hS:ABI it L pos σ i:=⟨hik,hkn,_,_,_,.inr (.inr hpo)⟩
        obtain ⟨c1,c2,c3⟩:=hcur (.inr hS)
        refine Kz hoarr (hwant true hgb) (runs _ (hlx.2.1 w (okN C w β N) (fun k hk=>⟨hk.1.2.1,fun hp=>hk.2 (cukN k (c2 k hp))⟩) c1 c3 hup)) ?_
        rintro u w' ⟨x,rfl,hK,h4,h5,h6⟩
        refine next _ x w' ⟨hK.os,hK.tape,hK.output,hK.size,fun k hk hn=>hK.block k hk fun h=>hn (c2 k h)⟩ (fun hno=>absurd (.inr hS) hno) (fun cs hS'=>absurd hS' (notSt (fun _ e=>by cases e) cs)) (fun u' hu'=>?_) (fun _=>.inr (.inr (.inr ⟨bl,val,f,.inr (.inr hpo),rfl,h4,fun y hy b hb=>⟨(h5 y hy b hb).1.imp id (c2 b),(h5 y hy b hb).2⟩,h6⟩)))
        rw [hkn] at hu';cases hu'
       | st cs =>
        have hkn:kv it L pos σ i=none:=by rw [hkv];simp [Cj,hgb]
        have hS:Td it L pos σ i cs:=⟨hik,hkn,hpo⟩
        obtain ⟨⟨x0,hlp,hx0⟩,_⟩:=hstat vs i (.inl ⟨cs,hS⟩)
        obtain ⟨b,T,cs0,rfl⟩:=hx0 cs hS
        obtain ⟨hpb0,hc0⟩:pb=some [(some b,T,cs0)]∧Mk it L pos σ i=0:=by
         rcases Gd (it:=it) (L:=L) (pos:=pos) (σ:=σ) (pb:=pb) vs i with ⟨h,h2⟩|⟨j,h1,h2,_⟩|h|⟨h,_⟩
         ·exact ⟨by rw [← h,hlp],Y8 (j:=0) (Nat.zero_le _) fun m _ hm' hs=>h2 m hm' (.inr hs.sg)⟩
         ·exact absurd hS ((hord j i (.inr h2.sg) (.inl ⟨cs,hS⟩) h1).2.2 cs)
         ·rw [h] at hlp;cases hlp
         ·rw [h] at hlp;cases hlp
        simp only [hlp] at hlx
        have hw:=hm.pend (fun j hj hS'=>hTi (by rw [← hord.one hS hS'];exact hj)) (some b,T,cs0) (by rw [hpb0];exact .head _) b rfl
        refine Kz hoarr (hwant true hgb) (runs _ (hlx.1 w hw)) ?_
        rintro u w' ⟨rfl,hoth,hnew⟩
        refine next undef (fun _=>default) w' ⟨hoth.os,hoth.tape,hoth.output,by rw [hoth.size];exact Nat.le_refl _,fun k _ hn=>hoth.block k fun e=>hn (.inl ⟨hc0,(some b,T,cs0),by rw [hpb0];exact .head _,by rw [e]⟩)⟩ (fun hno=>absurd (.inl ⟨cs,hS⟩) hno) (fun cs' hS' b' T' cs0' e=>?_) (fun u' hu'=>?_) (fun _=>.inr (.inl ⟨cs,hpo,rfl⟩))
        ·have h2:=hS'.2.2
         rw [hpo] at h2
         obtain rfl:=Po.st.inj (Option.some.inj h2)
         rw [hpb0] at e
         cases e
         exact hnew
        ·rw [hkn] at hu';cases hu'
def Mc (B:Code) (p:List Nat):Bool :=
 match sub p B with
 | .region _ _ true=>true
 | _=>false
theorem AFA {w0 w:World}{T:Nat→Prop}{vs:Nat→Gh}{a:Act}(hL:∀ (vs:Nat→Gh) (i:Nat),i≤pos.length→Lx it F C p S L pt β Γ R i (pos.drop i) (Mx it L pos σ i) (Fi it L pos σ vs i) (F1 it L pos σ vs i) (Dw it L pos σ pb vs i) (B6 it L pos σ pb vs i))
  (hO':Own C w0 (Nz pb++β)) (hG':∀ g∈Γ,g.holds w0 (ok C w0 (Nz pb++β))) (hm:Mid F C it L pos β σ pb w0 T vs a w) (hT:∀ j,j<pos.length→kv it L pos σ j=none→T j) :
  Own C w (Dw it L pos σ pb vs pos.length++(Nz (B6 it L pos σ pb vs pos.length)++β))∧∀ g∈(F1 it L pos σ vs pos.length).map (·.2)++Γ,g.holds w (ok C w (Dw it L pos σ pb vs pos.length++(Nz (B6 it L pos σ pb vs pos.length)++β))):=by
 have hO2:Own C w β:=ABT hO' hm.ext
 have hsubB:β.Sublist (Nz pb++β):=List.sublist_append_right _ _
 have hnb:∀ k,N9 pb k→∀ x∈β,x.1≠some k:=by
  rintro k ⟨y,hy,e⟩ x hxx hxk
  have hd:=Jw.1 hO'.apart
  rw [List.pairwise_append] at hd
  exact hd.2.2 y hy x hxx k e hxk
 have hpnew:∀ k,N9 pb k→C.w0.heap.size≤k∨C.M k:=fun k ⟨y,hy,e⟩=>hO'.new y (List.mem_append_left _ hy) k e
 have hord:Ord it L pos pt σ:=AEg hL
 have hTC:∀ j,Rr it L pos σ j→T j:=fun j hC=>hT j hC.lt hC.kv
 -- a store takes what was handed in
 have hpbSt:∀ {j cs x},j<pos.length→kv it L pos σ j=none→A5 pos j=some (.st cs)→B6 it L pos σ pb vs j=some x→pb=some x:=fun {j cs x} h1 h2 h3 h4=>by
  have hS:Td it L pos σ j cs:=⟨h1,h2,h3⟩
  rcases Gd (it:=it) (L:=L) (pos:=pos) (σ:=σ) (pb:=pb) vs j with ⟨h,_⟩|⟨m,g1,g2,_⟩|h|⟨h,m,g1,g2⟩
  ·rw [← h,h4]
  ·exact absurd hS ((hord m j (.inr g2.sg) (.inl ⟨cs,hS⟩) g1).2.2 cs)
  ·rw [h] at h4;cases h4
  ·exact absurd hS ((hord m j (.inr g2.sg) (.inl ⟨cs,hS⟩) g1).2.2 cs)
 have alC:∀ {j x},j<pos.length→kv it L pos σ j=none→x∈Kq (A5 pos j) (vs j)→Sc it L pos σ vs j x∧∀ m,Rr it L pos σ m→Rr it L pos σ j→Mk it L pos σ m=Mk it L pos σ j→m≤j:=fun {j x} h1 h2 h3=>by
  obtain ⟨g1,g2⟩:=Wb h3
  refine ⟨⟨h1,h2,g1⟩,fun m hm' hj hce=>?_⟩
  rcases Nat.lt_or_ge j m with h|h
  ·rcases (hord j m hj hm' h).1 with ⟨_,_,bl,val,f,e⟩|hs
   ·exact absurd e (g2 bl val f)
   ·have:=AG7 hs h
    omega
  ·exact h
 have alTwo:∀ {j m x y},j<pos.length→m<pos.length→kv it L pos σ j=none→kv it L pos σ m=none→x∈Kq (A5 pos j) (vs j)→y∈Kq (A5 pos m) (vs m)→j≠m→¬ (Rr it L pos σ j∧Rr it L pos σ m∧Mk it L pos σ j=Mk it L pos σ m):=fun {j m x y} h1 h2 h3 h4 h5 h6 hne hc=>by
  have g1:=(alC h1 h3 h5).2 m hc.2.1 hc.1 hc.2.2.symm
  have g2:=(alC h2 h4 h6).2 j hc.1 hc.2.1 hc.2.2
  omega
 -- the blocks that were made,and the one that was written
 have hal:∀ x∈Dw it L pos σ pb vs pos.length,∀ b,x.1=some b→NAp it L pos σ pb T vs b∧(w0.heap.size≤b∨N9 pb b)∧w.heap[b]?=some (.cells x.2.2.toArray x.2.1 (0,0)):=by
  intro x hx b hb
  rcases Is hx with ⟨j,h1,h2,h3⟩|⟨j,b',T',cs0,cs,h1,h2,h3,h4,rfl⟩
  ·obtain ⟨hA,hlast⟩:=alC h1 h2 h3
   obtain ⟨_,g1,g2⟩:=hm.made j x (hT j h1 h2) hA b hb
   exact ⟨.inl ⟨j,x,hT j h1 h2,hA,hb⟩,g2.imp_right (·.2.2),g1 fun m _=>hlast m⟩
  ·obtain rfl:=Option.some.inj hb
   have hpb0:=hpbSt h1 h2 h3 h4
   have hk:N9 pb b':=⟨(some b',T',cs0),by rw [hpb0];exact .head _,rfl⟩
   exact ⟨.inr hk,.inr hk,hm.sted b' T' cs0 hpb0 j cs (hT j h1 h2) ⟨h1,h2,h3⟩⟩
 -- those that still wait
 have hpl:∀ x∈Nz (B6 it L pos σ pb vs pos.length),∀ b,x.1=some b→NAp it L pos σ pb T vs b∧(w0.heap.size≤b∨N9 pb b)∧w.heap[b]?=some (.cells x.2.2.toArray x.2.1 (0,0))∧∀ y∈Dw it L pos σ pb vs pos.length,y.1≠some b:=by
  intro x hx b hb
  rcases Gd (it:=it) (L:=L) (pos:=pos) (σ:=σ) (pb:=pb) vs pos.length with ⟨hlp,hnone⟩|⟨m,hml,hms,hlp,hmax⟩|hlp|⟨hlp,_⟩
  ·rw [hlp] at hx
   refine ⟨.inr ⟨x,hx,hb⟩,.inr ⟨x,hx,hb⟩,hm.pend (fun j _ hc=>hnone j hc.lt hc) x hx b hb,fun y hy e=>?_⟩
   rcases Is hy with ⟨j,h1,h2,h3⟩|⟨j,b'',T',cs1,cs',h1,h2,h3,_,rfl⟩
   ·have g3:=hm.low b ⟨x,hx,hb⟩
    rcases (hm.made j y (hT j h1 h2) (alC h1 h2 h3).1 b e).2.2 with g2|⟨g2,_⟩
    ·omega
    ·exact hnone j h1 (.inr g2)
   ·exact hnone j h1 (.inl ⟨cs',h1,h2,h3⟩)
  ·rw [hlp] at hx
   have hA:Sc it L pos σ vs m x:=⟨hms.1,hms.2.1,hx⟩
   have hTm:T m:=hTC m (.inr hms.sg)
   obtain ⟨_,g1,g2⟩:=hm.made m x hTm hA b hb
   refine ⟨.inl ⟨m,x,hTm,hA,hb⟩,g2.imp_right (·.2.2),g1 fun j _ hj _ _=>hmax j hj.lt hj,fun y hy e=>?_⟩
   rcases Is hy with ⟨j,h1,h2,h3⟩|⟨j,b'',T',cs1,cs',h1,h2,h3,_,rfl⟩
   ·obtain ⟨hB,hlast⟩:=alC h1 h2 h3
    have hne:j≠m:=fun e=>by
     obtain ⟨_,_,bl,val,f,e2⟩:=hms
     subst e
     exact (Wb h3).2 _ _ _ e2
    refine hm.apart j m y x (hT j h1 h2) hTm hB hA hne (fun hc=>?_) b e hb
    have q1:=hmax j h1 hc.1
    have q2:=hlast m hc.2.1 hc.1 hc.2.2.symm
    omega
   ·have hS:Td it L pos σ j cs':=⟨h1,h2,h3⟩
    have:=hord.one hS (.inr hms.sg)
    obtain ⟨_,_,bl,val,f,e2⟩:=hms
    subst this
    rw [h3] at e2;cases e2
  ·rw [hlp] at hx;cases hx
  ·rw [hlp] at hx;cases hx
 have hlocN:∀ b,(w0.heap.size≤b∨N9 pb b)→C.w0.heap.size≤b∨C.M b:=fun b h=>by
  rcases h with h|h
  ·exact .inl (Nat.le_trans hO'.ext.size h)
  ·exact hpnew b h
 have hlocB:∀ b,(w0.heap.size≤b∨N9 pb b)→∀ y∈β,y.1≠some b:=fun b h y hy hyb=>by
  rcases h with h1|h1
  ·have h2:=hO'.lt (hsubB.subset hy) hyb
   omega
  ·exact hnb b h1 y hy hyb
 have hown:Own C w (Dw it L pos σ pb vs pos.length++(Nz (B6 it L pos σ pb vs pos.length)++β)):=by
  refine ⟨hO2.ext,fun x hx b hb=>?_,fun x hx b hb=>?_,?_⟩
  ·rcases List.mem_append.1 hx with hx|hx
   ·exact hlocN b (hal x hx b hb).2.1
   ·rcases List.mem_append.1 hx with hx|hx
    ·exact hlocN b (hpl x hx b hb).2.1
    ·exact hO2.new x hx b hb
  ·rcases List.mem_append.1 hx with hx|hx
   ·exact (hal x hx b hb).2.2
   ·rcases List.mem_append.1 hx with hx|hx
    ·exact (hpl x hx b hb).2.2.1
    ·exact hO2.blk x hx b hb
  ·refine Ay.append (Sf pos.length (Nat.le_refl _) (fun j hj hk=>?_) (fun j j' y z h1 h2 h3 h4 h5 h6 hne b hb hzb=>?_) fun j b T' cs0 cs h1 h2 h3 h4=>?_) (Ay.append ?_ hO2.apart fun x hx y hy b hb hyb=>?_) fun x hx y hy b hb hyb=>?_
   ·have hd:=hm.mdist j (hT j hj hk) hj hk
    unfold Kq
    split
    ·rename_i e;rw [e] at hd;exact hd
    ·rename_i e;rw [e] at hd;exact hd
    ·rename_i e;rw [e] at hd;exact hd
    ·exact trivial
   ·exact hm.apart j j' y z (hT j h1 h3) (hT j' h2 h4) (alC h1 h3 h5).1 (alC h2 h4 h6).1 hne (alTwo h1 h2 h3 h4 h5 h6 hne) b hb hzb
   ·have hS:Td it L pos σ j cs:=⟨h1,h2,h3⟩
    have hpb0:=hpbSt h1 h2 h3 h4
    refine ⟨fun j' y g1 g2 g3 e=>?_,fun j' cs' g1 g2 g3=>hord.one hS (.inl ⟨cs',g1,g2,g3⟩)⟩
    have hk:N9 pb b:=⟨(some b,T',cs0),by rw [hpb0];exact .head _,rfl⟩
    have q:=hm.low b hk
    rcases (hm.made j' y (hT j' g1 g2) (alC g1 g2 g3).1 b e).2.2 with q1|⟨q1,_⟩
    ·omega
    ·have:=hord.one hS (.inr q1)
     subst this
     obtain ⟨_,_,_,_,_,q2|q2|q2⟩:=q1
     ·rw [h3] at q2;cases q2
     ·rw [h3] at q2;cases q2
     ·rw [h3] at q2;cases q2
   ·have hdp:Ay (Nz pb):=hO'.apart.sub (List.sublist_append_left _ _)
    rcases Gd (it:=it) (L:=L) (pos:=pos) (σ:=σ) (pb:=pb) vs pos.length with ⟨h,_⟩|⟨m,_,hms,h,_⟩|h|⟨h,_⟩
    ·rw [h];exact hdp
    ·rw [h];exact hm.mdist m (hTC m (.inr hms.sg)) hms.1 hms.2.1
    ·rw [h];exact trivial
    ·rw [h];exact trivial
   ·exact hlocB b (hpl x hx b hb).2.1 y hy hyb
   ·rcases List.mem_append.1 hy with hy|hy
    ·exact (hpl y hy b hyb).2.2.2 x hx hb
    ·exact hlocB b (hal x hx b hb).2.1 y hy hyb
 have hokN:∀ k,okN C w β (NAp it L pos σ pb T vs) k→ok C w (Dw it L pos σ pb vs pos.length++(Nz (B6 it L pos σ pb vs pos.length)++β)) k:=fun k hk =>
  ⟨hk.1.1,hk.1.2.1,fun x hx e=>by
   rcases List.mem_append.1 hx with hx|hx
   ·exact hk.2 (hal x hx k e).1
   ·rcases List.mem_append.1 hx with hx|hx
    ·exact hk.2 (hpl x hx k e).1
    ·exact hk.1.2.2 x hx e⟩
 refine ⟨hown,fun g hg=>g.stable (A:=okN C w β (NAp it L pos σ pb T vs)) (fun k hk=>⟨hokN k hk,rfl⟩) ?_⟩
 rcases List.mem_append.1 hg with hg|hg
 ·obtain ⟨⟨j,g'⟩,hjg,rfl⟩:=List.mem_map.1 hg
  obtain ⟨h1,h2,h4⟩:=Xd hjg
  exact hm.fact j (hT j h1 h2) h1 h2 _ h4
 ·exact g.stable (fun k hk=>by
   have hnp:¬ N9 pb k:=fun ⟨y,hy,e⟩=>hk.2.2 y (List.mem_append_left _ hy) e
   exact ⟨⟨⟨hk.1,Nat.lt_of_lt_of_le hk.2.1 hm.ext.size,fun x hx=>hk.2.2 x (hsubB.subset hx)⟩,by
    rintro (⟨j,y,hj,hA,e⟩|hp)
    ·rcases (hm.made j y hj hA k e).2.2 with h1|⟨_,_,h1⟩
     ·have h2:=hk.2.1
      omega
     ·exact hnp h1
    ·exact hnp hp⟩,hm.ext.block k hk.2.1 hnp⟩) (hG' g hg)
def AAY (i:Nat):Nat→List Nat→List Nat
 | 0,l=>l
 | d+1,l=>AAY (i+1) d (i::l)
theorem ACX {y:Nat}:∀ {d:Nat}{i:Nat}{l:List Nat},y∈AAY i d l↔y∈l∨(i≤y∧y<i+d)
 | 0,i,l=>by simp only [AAY];constructor;exact .inl;rintro (h|h);exact h;omega
 | d+1,i,l=>by
  rw [AAY,ACX (d:=d),List.mem_cons]
  constructor
  ·rintro ((h|h)|h)
   ·subst h;exact .inr ⟨Nat.le_refl _,by omega⟩
   ·exact .inl h
   ·exact .inr ⟨by omega,by omega⟩
  ·rintro (h|h)
   ·exact .inl (.inr h)
   ·by_cases e:y=i
    ·exact .inl (.inl e)
    ·exact .inr ⟨by omega,by omega⟩
theorem Zk:∀ {d i:Nat}{l:List Nat},l.Nodup→(∀ y∈l,y<i)→(AAY i d l).Nodup
 | 0,_,_,h,_=>h
 | d+1,i,l,h,hl=>Zk (d:=d) (i:=i+1) (List.nodup_cons.2 ⟨fun hm=>by have:=hl i hm;omega,h⟩) fun y hy=>by
  rcases List.mem_cons.1 hy with rfl|hy
  ·omega
  ·have:=hl y hy;omega
theorem Inter.issues {A:List Nat}{e:Nat}{l:List Nat}:∀ {d i:Nat}{pend:List Nat},(∀ y,i≤y→y<i+d→y∈A∧y<L.length∧y<e)→Inter L A e (AAY i d pend) (i+d) l→Inter L A e pend i l
 | 0,_,_,_,h=>h
 | d+1,i,q,hy,h=>by
  obtain ⟨h1,h2,h3⟩:=hy i (Nat.le_refl _) (by omega)
  refine .issue h2 h3 h1 (Inter.issues (d:=d) (i:=i+1) (fun y a b=>hy y (by omega) (by omega)) ?_)
  rw [show i+1+d=i+(d+1) by omega]
  exact h
theorem Vp {k m:Nat}{A:List Nat}(hr:RegW L pt k A m):∀ (fuel t i:Nat) (listed:Array Bool) (pend:List Nat),k≤i→i≤L.length→listed.size=L.length→(∀ y,y<L.length→listed[y]?=some (decide (y<i∧y∉pend))) →
  pend.Nodup→(∀ y∈pend,y∈A∧y<i)→(∀ (q:Nat),listed[q]?=some true→∀ (o:Oper),L[q]?=some o→∀ e∈Hx o,listed[e]?=some true)→cf listed.toList≤fuel→Inter L A (k+m) pend i (Region.linearise.go .any L.toArray fuel t listed []):=by
 intro fuel
 induction fuel with
 | zero =>
  intro t i listed pend hki hi hs hl hnd hp hclo hf
  have hall:∀ y,y<L.length→listed[y]?=some true:=fun y hy=>by
   have hl:listed[y]?=some listed[y]:=by simp [hs,hy]
   cases hb:listed[y] with
   | true=>rw [hl,hb]
   | false =>
    have:=AG0 listed.toList y (by rw [Array.getElem?_toList,hl,hb])
    omega
  have hpe:pend=[]:=List.eq_nil_iff_forall_not_mem.2 fun y hy=>by
   have h1:=(hp y hy).2
   have:=hall y (by omega)
   rw [hl y (by omega),decide_eq_false (fun h=>h.2 hy)] at this;cases this
  subst hpe
  have e:i=L.length:=by
   rcases Nat.lt_or_ge i L.length with h|h
   ·have:=hall i h
    rw [hl i h,decide_eq_false (fun h=>by omega)] at this;cases this
   ·omega
  subst e
  have:Region.linearise.go .any L.toArray 0 t listed []=List.range' L.length (L.length-L.length):=by simp [Region.linearise.go]
  rw [this];exact .done
 | succ fuel ih =>
  intro t i listed pend hki hi hs hl hnd hp hclo hf
  by_cases hend:pend=[]∧(k+m≤i∨i=L.length)
  ·obtain ⟨rfl,hend⟩:=hend
   have hl2:∀ y,y<L.length→listed[y]?=some (decide (y<i)):=fun y hy=>by rw [hl y hy];simp
   rw [AFr (m0:=i) hr.toRegB (fun x hx j hj hjx=>by
    rcases hend with h|h
    ·rcases hr.late x (by omega) hx j hjx with h1|⟨_,h1⟩
     ·exact h1
     ·omega
    ·omega) (fuel+1) t i listed (Nat.le_refl _) hi hs hl2 (Nat.le_trans (ADj listed.toList _ _ (by simpa using hs) fun y hy=>by rw [Array.getElem?_toList];exact hl2 y hy) hf)]
   exact .done
  ·-- something is due
   obtain ⟨y1,hy1,hy1f⟩:∃ y,y<L.length∧listed[y]?=some false:=by
    by_cases hpe:pend=[]
    ·have hil:i<L.length:=by
      rcases Nat.lt_or_ge i L.length with h|h
      ·exact h
      ·exact absurd ⟨hpe,.inr (by omega)⟩ hend
     exact ⟨i,hil,by rw [hl i hil,decide_eq_false (fun h=>by omega)]⟩
    ·obtain ⟨y,hy⟩:=List.exists_mem_of_ne_nil _ hpe
     have h1:=(hp y hy).2
     exact ⟨y,by omega,by rw [hl y (by omega),decide_eq_false (fun h=>h.2 hy)]⟩
   obtain ⟨y0,⟨hy0,hy0f⟩,hmin⟩:∃ y,(y<L.length∧listed[y]?=some false)∧∀ z,z<y→¬ (z<L.length∧listed[z]?=some false):=by
    have key:∀ n y,y≤n→(y<L.length∧listed[y]?=some false)→∃ y,(y<L.length∧listed[y]?=some false)∧∀ z,z<y→¬ (z<L.length∧listed[z]?=some false):=by
     intro n
     induction n with
     | zero=>intro y hy h;exact ⟨y,h,fun z hz=>by omega⟩
     | succ n ihn =>
      intro y hy h
      by_cases hz:∃ z,z<y∧(z<L.length∧listed[z]?=some false)
      ·obtain ⟨z,hz,h2⟩:=hz
       exact ihn z (by omega) h2
      ·exact ⟨y,h,fun z hz' h2=>hz ⟨z,hz',h2⟩⟩
    exact key y1 y1 (Nat.le_refl _) ⟨hy1,hy1f⟩
   have hready:y0∈Region.ready .any L.toArray listed:=(Le hs).2 ⟨hy0f,L[y0],by simp [hy0],fun e he=>by
    have hlt:=hr.deps y0 L[y0] (by simp [hy0]) e he
    have hx:listed[e]?=some listed[e]:=by simp [hs,show e<L.length by omega]
    cases hb:listed[e]'(by omega) with
    | true=>rw [hx,hb]
    | false=>exact absurd ⟨by omega,by rw [hx,hb]⟩ (hmin e hlt)⟩
   rw [ACH]
   rcases AAs L.toArray t listed with ⟨hnil,_⟩|⟨x,hx,hpick⟩
   ·rw [hnil] at hready;cases hready
   ·rw [hpick]
    simp only
    obtain ⟨hxf,o,ho,hdeps⟩:=(Le hs).1 hx
    have hxl:x<L.length:=(List.getElem?_eq_some_iff.1 ho).1
    have hpre:∀ q∈B3 pt x,listed[q]?=some true :=
     ACm hr.toRegB (T:=fun q=>listed[q]?=some true) (fun i o hi ho=>hclo i hi o ho) x hxl (fun o' ho' e he=>by rw [ho] at ho';obtain rfl:=Option.some.inj ho';exact hdeps e he)
    have hget:∀ q,(listed.setIfInBounds x true)[q]?=if q=x then some true else listed[q]?:=fun q=>by
     rw [Array.getElem?_setIfInBounds]
     by_cases e:x=q
     ·subst e;simp [hs,hxl]
     ·rw [if_neg e,if_neg fun h=>e h.symm]
    have hclo':∀ (q:Nat),(listed.setIfInBounds x true)[q]?=some true→∀ (o:Oper),L[q]?=some o→∀ e∈Hx o,(listed.setIfInBounds x true)[e]?=some true:=fun q hq o' ho' e he=>by
     rw [hget]
     by_cases ex:e=x
     ·rw [if_pos ex]
     ·rw [if_neg ex]
      rw [hget] at hq
      by_cases eq:q=x
      ·subst eq
       rw [ho] at ho'
       obtain rfl:=Option.some.inj ho'
       exact hdeps e he
      ·rw [if_neg eq] at hq
       exact hclo q hq o' ho' e he
    have hcf:cf (listed.setIfInBounds x true).toList≤fuel:=by
     have:=AEN listed.toList x (by rw [Array.getElem?_toList];exact hxf)
     rw [Array.toList_setIfInBounds]
     omega
    have Iy:∀ e∈dpA L x,e<i∧e∉pend:=fun e he=>by
     unfold dpA at he
     rw [B8,ho] at he
     have h3:=hdeps e he
     have h4:=hr.deps x o ho e he
     rw [hl e (by omega)] at h3
     simpa using h3
    by_cases hxp:x∈pend
    ·refine .pend hxp (fun e he=>(Iy e he).2) (ih _ i _ _ hki hi (by simpa using hs) (fun y hy=>?_) (hnd.erase x) (fun y hy=>hp y (List.mem_of_mem_erase hy)) hclo' hcf)
     rw [hget]
     by_cases e:y=x
     ·subst e;rw [if_pos rfl,decide_eq_true ⟨(hp y hxp).2,fun h=>(hnd.mem_erase_iff.1 h).1 rfl⟩]
     ·rw [if_neg e,hl y hy]
      congr 1
      simp only [decide_eq_decide]
      exact and_congr_right fun _=>not_congr ⟨fun h=>hnd.mem_erase_iff.2 ⟨e,h⟩,fun h=>(hnd.mem_erase_iff.1 h).2⟩
    ·have hxi:i≤x:=by
      rw [hl x hxl] at hxf
      rcases Nat.lt_or_ge x i with h|h
      ·simp [h,hxp] at hxf
      ·exact h
     have hbet:∀ y,i≤y→y<x→y∈A∧x<k+m:=fun y h1 h2=>by
      rcases hr.late x (by omega) hxl y h2 with h3|h3
      ·have:=hpre y h3
       rw [hl y (by omega),decide_eq_false (fun h=>by omega)] at this;cases this
      ·exact h3
     have hxe:x<k+m:=by
      rcases Nat.lt_or_ge i x with h|h
      ·exact (hbet i (Nat.le_refl _) h).2
      ·have e:i=x:=by omega
       by_cases hpe:pend=[]
       ·rcases Nat.lt_or_ge i (k+m) with h2|h2
        ·omega
        ·exact absurd ⟨hpe,.inl h2⟩ hend
       ·obtain ⟨y,hy⟩:=List.exists_mem_of_ne_nil _ hpe
        obtain ⟨h4,h5⟩:=hp y hy
        rcases hr.late x (by omega) hxl y (by omega) with h3|⟨_,h3⟩
        ·have:=hpre y h3
         rw [hl y (by omega),decide_eq_false (fun h=>h.2 hy)] at this;cases this
        ·exact h3
     have hix:i+(x-i)=x:=by omega
     have hmem:∀ y,y∈AAY i (x-i) pend↔y∈pend∨(i≤y∧y<x):=fun y=>by rw [ACX,hix]
     have hnd2:(AAY i (x-i) pend).Nodup:=Zk hnd fun y hy=>(hp y hy).2
     have hxn:x∉AAY i (x-i) pend:=fun h=>by
      rcases (hmem x).1 h with h|h
      ·exact hxp h
      ·omega
     have hrest:=ih (t / (Region.ready .any L.toArray listed).length) (x+1) (listed.setIfInBounds x true) (AAY i (x-i) pend) (by omega) (by omega) (by simpa using hs) (fun y hy=>by
      rw [hget]
      by_cases e:y=x
      ·subst e
       rw [if_pos rfl,decide_eq_true ⟨by omega,hxn⟩]
      ·rw [if_neg e,hl y hy]
       congr 1
       simp only [decide_eq_decide]
       constructor
       ·rintro ⟨h1,h2⟩;exact ⟨by omega,fun h=>by rcases (hmem y).1 h with h|h;exact h2 h;omega⟩
       ·rintro ⟨h1,h2⟩
        have h3:y<i:=by
         rcases Nat.lt_or_ge y i with h|h
         ·exact h
         ·exact absurd ((hmem y).2 (.inr ⟨h,by omega⟩)) h2
        exact ⟨h3,fun h=>h2 ((hmem y).2 (.inl h))⟩) hnd2 (fun y hy=>by
      rcases (hmem y).1 hy with h|h
      ·exact ⟨(hp y h).1,by have:=(hp y h).2;omega⟩
      ·exact ⟨(hbet y h.1 h.2).1,by omega⟩) hclo' hcf
     refine Inter.issues (d:=x-i) (fun y h1 h2=>⟨(hbet y h1 (by omega)).1,by omega,by omega⟩) ?_
     rw [hix]
     by_cases hxA:x∈A
     ·refine .issue hxl hxe hxA (.pend (.head _) (fun e he hm=>?_) ?_)
      ·obtain ⟨h1,h2⟩:=Iy e he
       rcases List.mem_cons.1 hm with rfl|hm
       ·omega
       ·rcases (hmem e).1 hm with h|h
        ·exact h2 h
        ·omega
      ·rw [List.erase_cons_head];exact hrest
     ·exact .tail hxl hxe hxA hrest
theorem AHw {it:List (TypeId×IntKind)}(hit:Bw P it) (hmx:P.follows .mixedOrders=true) (pos:List Po) (hd:Mc F.B p=true) (hc:Tu (Ak (sub p F.B)) (Iq (Ak (sub p F.B)) []) pos.length=true)
  (h:Lx it F C p S (Ak (sub p F.B)) (Iq (Ak (sub p F.B)) []) β Γ R 0 pos σ σ [] [] pb) (hS:Xu S=false:=by rfl):J F C (.c p::S) σ (Nz pb++β) Γ R:=by
 intro w hO hG a ha
 have hr:=AD7 hc
 obtain ⟨id,ops,hs⟩:∃ id ops,sub p F.B = .region id ops true:=by
  unfold Mc at hd
  cases hs:sub p F.B <;> rw [hs] at hd <;> try (simp at hd;done)
  rename_i id ops dr
  cases dr with
  | true=>exact ⟨id,ops,rfl⟩
  | false=>simp at hd
 have hops:Ak (sub p F.B)=ops.toList:=by rw [hs];rfl
 have hO':=hO.drew
 have hG':=Mj hG
 intro cs
 refine At.of_step (F:=F) (k':=.inRegion ops (Region.linearise.go .any ops ops.size (w.tape w.drawn (.order F.f id)) (Array.replicate ops.size false) [])::S.map (It.item F.B)) (a':=a) (w':=w.drew) (fun cs=>?_) ?_ cs
 ·have:=stepR_region_draw (P:=P) (b:=F.base) (a:=a) (k:=S.map (It.item F.B)) (cs:=cs) (w:=w) (id:=id) (ops:=ops)
  simp only [List.map_cons,It.item,hs]
  rw [this]
  simp only [Region.schedule,hmx,Bool.true_or,if_true]
  rfl
 ·have key:=ABB (R:=R) (k:=S.map (It.item F.B)) (w0:=w.drew) hr.toRegB (fun vs i hi=>Rs h vs i hi) hit hO' hG' ?_ ?_ ops.size (w.tape w.drawn (.order F.f id)) (Array.replicate ops.size false) (fun _ _=>default) a w.drew
   (by rw [hops];simp) (fun i hi=>?_) (fun i hi=>?_) (by simp [ADX]) ?_
  ·rw [hops,Array.toArray_toList] at key
   exact key
  ·-- behind the last
   intro fuel t listed vs a' w' hs2 hl2 hf2 hm
   rw [AFr (m0:=pos.length) hr.toRegB (fun i hi j hj hji=>hr.tail i (by omega) hi j hji) fuel t pos.length listed (Nat.le_refl _) hr.le hs2 hl2 (Nat.le_trans (ADj listed.toList _ _ (by simpa using hs2) fun i hi=>by rw [Array.getElem?_toList];exact hl2 i hi) hf2)]
   have hfin:=Rs h vs pos.length (Nat.le_refl _)
   rw [List.drop_length] at hfin
   simp only [Lx,AAt hS] at hfin
   have hfit:Fits F.fn.ntmps F.dfs (Fi it (Ak (sub p F.B)) pos σ vs pos.length) a':=⟨hm.size,hm.defers,fun t v hv=>by
    rcases Wk vs t pos.length v hv with ⟨j,h1,h2,h3,rfl⟩|⟨h1,h2⟩
    ·exact hm.last t j h1 h1 h2 fun m hm' _ hmd=>h3 m hm' hmd
    ·exact hm.rest t v (fun j hj _=>h1 j hj) h2⟩
   obtain ⟨h1,h2⟩:=AFA (fun vs i hi=>Rs h vs i hi) hO' hG' hm fun j hj _=>hj
   exact hfin w' h1 h2 a' hfit
  ·-- none comes early
   intro fuel t listed vs a' w' i _ _ _ _ _ _ hik _ hi0 hil hpre
   obtain ⟨i0,hi0,hn0⟩:=hi0
   exact absurd (hpre i0 (hr.tail i hik hil i0 (by omega))) hn0
  ·exfalso
   rw [Array.getElem?_replicate] at hi
   split at hi <;> simp at hi
  ·exfalso
   rw [Array.getElem?_replicate] at hi
   split at hi <;> simp at hi
  ·refine ⟨ha.size,ha.defers,.refl _ _,fun k ⟨y,hy,e⟩=>hO'.lt (List.mem_append_left _ hy) e,fun _ x hx b hb=>hO'.blk x (List.mem_append_left _ hx) b hb,fun b Ty cs0 e i cs hi=>?_,fun i hi=>?_,fun i _ hi=>?_,fun i hi=>?_,fun i _ _ _ hi=>?_,fun t i hi=>?_,fun t v _ hv=>ha.get t v hv⟩
   all_goals
    exfalso
    rw [Array.getElem?_replicate] at hi
    split at hi <;> simp at hi
theorem AJa {it:List (TypeId×IntKind)}(hit:Bw P it) (hmx:P.follows .mixedOrders=true) (pos:List Po) (A:List Nat) (m:Nat) (hd:Mc F.B p=true) (hc:AGt (Ak (sub p F.B)) (Iq (Ak (sub p F.B)) []) pos.length A m=true) (hnd:A.Nodup)
  (hA:∀ j∈A,j<pos.length→A5 pos j=some .auto∨∃ v,A5 pos j=some (.eq v)) (h:Lx it F C p (.win A m::S) (Ak (sub p F.B)) (Iq (Ak (sub p F.B)) []) β Γ R 0 pos σ σ [] [] pb):J F C (.c p::S) σ (Nz pb++β) Γ R:=by
 intro w hO hG a ha
 have hr:=AA7 hc
 obtain ⟨id,ops,hs⟩:∃ id ops,sub p F.B = .region id ops true:=by
  unfold Mc at hd
  cases hs:sub p F.B <;> rw [hs] at hd <;> try (simp at hd;done)
  rename_i id ops dr
  cases dr with
  | true=>exact ⟨id,ops,rfl⟩
  | false=>simp at hd
 have hops:Ak (sub p F.B)=ops.toList:=by rw [hs];rfl
 have hO':=hO.drew
 have hG':=Mj hG
 -- a late operation is Cj
 have hkn:∀ j∈A,j<pos.length→kv it (Ak (sub p F.B)) pos σ j≠none:=fun j hj hjl hk=>by
  have hlx:=Rs h (fun _ _=>default) j (Nat.le_of_lt hjl)
  rcases hA j hj hjl with hA|⟨v,hA⟩
  case inr =>
   rw [Ix hA] at hlx
   simp only [Lx] at hlx
   cases ho:A5 (Ak (sub p F.B)) j with
   | none=>rw [ho] at hlx;exact hlx.elim
   | some o =>
    simp only [kv,ho,hA,Cj] at hk
    split at hk <;> cases hk
  rw [Ix hA] at hlx
  simp only [Lx] at hlx
  cases ho:A5 (Ak (sub p F.B)) j with
  | none=>rw [ho] at hlx;exact hlx.elim
  | some o =>
   rw [ho] at hlx
   simp only [kv,ho,hA] at hk
   simp only at hlx
   cases hout:Nj o.dst F.fn.ntmps with
   | false=>rw [hout] at hlx;exact hlx.elim
   | true =>
    rw [hout] at hlx
    cases hg:gd (Ak (sub p F.B)) (Mx it (Ak (sub p F.B)) pos σ j) o with
    | none=>rw [hg] at hlx;exact hlx.elim
    | some b =>
     cases b with
     | false=>simp only [Cj,hg] at hk;cases hk
     | true =>
      rw [hg] at hlx
      simp only at hlx
      simp only [Cj,hg] at hk
      cases hp:pev it (Mx it (Ak (sub p F.B)) pos σ j) o.op with
      | none=>rw [hp] at hlx;exact hlx.elim
      | some vq=>rw [hp] at hk;cases hk
 -- whatever is late: the rest
 have late:∀ (vs:Nat→Gh) (a':Act) (w':World) (T:Nat→Prop) (pend sched:List Nat),Mid F C it (Ak (sub p F.B)) pos β σ pb w.drew T vs a' w'→(∀ j,j<pos.length→j∉pend→T j)→(∀ j∈pend,j∈A∧j<pos.length)→(∀ j,T j→j<pos.length)→pend.Nodup →
   Inter (Ak (sub p F.B)) A (pos.length+m) pend pos.length sched→At F (.inRegion (Ak (sub p F.B)).toArray sched::S.map (It.item F.B)) a' w' R:=fun vs a' w' T pend sched hm hT hpA hTl hnd2 hI=>by
  have hfin:=Rs h vs pos.length (Nat.le_refl _)
  rw [List.drop_length] at hfin
  have hfin:WIN F C p A m pos.length S (Fi it (Ak (sub p F.B)) pos σ vs pos.length) (Dw it (Ak (sub p F.B)) pos σ pb vs pos.length++(Nz (B6 it (Ak (sub p F.B)) pos σ pb vs pos.length)++β)) ((F1 it (Ak (sub p F.B)) pos σ vs pos.length).map (·.2)++Γ) R:=hfin
  obtain ⟨h1,h2⟩:=AFA (fun vs i hi=>Rs h vs i hi) hO' hG' hm fun j hj hk=>hT j hj fun hjp=>hkn j (hpA j hjp).1 (hpA j hjp).2 hk
  refine hfin pend sched hpA hnd2 hI w' h1 h2 a' hm.size hm.defers fun t v hno hv=>?_
  rcases Wk vs t pos.length v hv with ⟨j,h3,h4,h5,rfl⟩|⟨h3,h4⟩
  ·exact hm.last t j (hT j h3 fun hjp=>hno j hjp h4) h3 h4 fun m hm' _ hmd=>h5 m (hTl m hm') hmd
  ·exact hm.rest t v (fun j hj _=>h3 j (hTl j hj)) h4
 intro cs
 refine At.of_step (F:=F) (k':=.inRegion ops (Region.linearise.go .any ops ops.size (w.tape w.drawn (.order F.f id)) (Array.replicate ops.size false) [])::S.map (It.item F.B)) (a':=a) (w':=w.drew) (fun cs=>?_) ?_ cs
 ·have:=stepR_region_draw (P:=P) (b:=F.base) (a:=a) (k:=S.map (It.item F.B)) (cs:=cs) (w:=w) (id:=id) (ops:=ops)
  simp only [List.map_cons,It.item,hs]
  rw [this]
  simp only [Region.schedule,hmx,Bool.true_or,if_true]
  rfl
 ·have key:=ABB (R:=R) (k:=S.map (It.item F.B)) (w0:=w.drew) hr.toRegB (fun vs i hi=>Rs h vs i hi) hit hO' hG' ?_ ?_ ops.size (w.tape w.drawn (.order F.f id)) (Array.replicate ops.size false) (fun _ _=>default) a w.drew
   (by rw [hops];simp) (fun i hi=>?_) (fun i hi=>?_) (by simp [ADX]) ?_
  ·rw [hops,Array.toArray_toList] at key
   exact key
  ·intro fuel t listed vs a' w' hs2 hl2 hf2 hm
   exact late vs a' w' (fun i=>i<pos.length) [] _ hm (fun j hj _=>hj) (fun j hj=>by cases hj) (fun j hj=>hj) List.nodup_nil (Vp hr fuel t pos.length listed [] (Nat.le_refl _) hr.le hs2 (fun y hy=>by rw [hl2 y hy];simp) List.nodup_nil (fun y hy=>by cases hy) (fun q hq o ho e he=>by
    have h1:=hr.deps q o ho e he
    have h2:q<(Ak (sub p F.B)).length:=(List.getElem?_eq_some_iff.1 ho).1
    rw [hl2 q h2] at hq
    have h3:q<pos.length:=by simpa using hq
    rw [hl2 e (by omega),decide_eq_true (by omega)]) hf2)
  ·intro fuel t listed vs a' w' i hsz hlt hcl hdi hf hm hik hif hi0 hil hpre
   have h1:∀ y,y<pos.length→y∉A→listed[y]?=some true:=fun y hy hya=>by
    rcases hr.late i hik hil y (by omega) with h|⟨h,_⟩
    ·exact hpre y h
    ·exact absurd h hya
   have hmem:∀ y,y∈A.filter (fun j=>Nat.blt j pos.length && listed[j]? == some false)↔y∈A∧y<pos.length∧listed[y]?=some false:=fun y=>by
    rw [List.mem_filter,Bool.and_eq_true]
    refine and_congr_right fun _=>and_congr ⟨fun h=>Nat.le_of_ble_eq_true h,fun h=>Nat.ble_eq_true_of_le h⟩ ?_
    simp
   have hlf:∀ y,y<(Ak (sub p F.B)).length→listed[y]?≠some true→listed[y]?=some false:=fun y hy hne=>by
    have hl:listed[y]?=some listed[y]:=by simp [hsz,hy]
    cases hb:listed[y] with
    | true=>exact absurd (by rw [hl,hb]) hne
    | false=>rw [hl,hb]
   exact late vs a' w' (fun j=>listed[j]?=some true) (A.filter (fun j=>Nat.blt j pos.length && listed[j]? == some false)) _ hm (fun j hj hjp=>by
    by_cases ht:listed[j]?=some true
    ·exact ht
    ·by_cases hjA:j∈A
     ·exact absurd ((hmem j).2 ⟨hjA,hj,hlf j (Nat.lt_of_lt_of_le hj hr.le) ht⟩) hjp
     ·exact h1 j hj hjA) (fun j hj=>⟨((hmem j).1 hj).1,((hmem j).1 hj).2.1⟩) hlt (hnd.filter _) (Vp hr (fuel+1) t pos.length listed _ (Nat.le_refl _) hr.le hsz (fun y hy=>by
    by_cases ht:listed[y]?=some true
    ·rw [ht,decide_eq_true ⟨hlt y ht,fun h=>by
      have:=((hmem y).1 h).2.2
      rw [ht] at this;cases this⟩]
    ·rw [hlf y hy ht,decide_eq_false fun h=>?_]
     refine h.2 ((hmem y).2 ⟨?_,h.1,hlf y hy ht⟩)
     exact Classical.byContradiction fun hya=>ht (h1 y h.1 hya)) (hnd.filter _) (fun y hy=>⟨((hmem y).1 hy).1,((hmem y).1 hy).2.1⟩) hcl hf)
  ·exfalso
   rw [Array.getElem?_replicate] at hi
   split at hi <;> simp at hi
  ·exfalso
   rw [Array.getElem?_replicate] at hi
   split at hi <;> simp at hi
  ·refine ⟨ha.size,ha.defers,.refl _ _,fun k ⟨y,hy,e⟩=>hO'.lt (List.mem_append_left _ hy) e,fun _ x hx b hb=>hO'.blk x (List.mem_append_left _ hx) b hb,fun b Ty cs0 e i cs hi=>?_,fun i hi=>?_,fun i _ hi=>?_,fun i hi=>?_,fun i _ _ _ hi=>?_,fun t i hi=>?_,fun t v _ hv=>ha.get t v hv⟩
   all_goals
    exfalso
    rw [Array.getElem?_replicate] at hi
    split at hi <;> simp at hi
end
open Go.RowKit (Below)
def Er (it:List (TypeId×IntKind)) (nt:Nat) (L:List Oper):Nat→Nat→List Po→Fr→Fr→Prop→Option (List Po×Fr×Fr×Prop)
 | 0,_,pos,κ,σ,q=>some (pos,κ,σ,q)
 | n+1,i,.auto::pos,κ,σ,q=>match A5 L i with
  | some o=>match Nj o.dst nt,gd L κ o with
   | true,some false=>Er it nt L n (i+1) pos (putF o.dst undef κ) (putF o.dst undef σ) q
   | true,some true=>match pev it κ o.op with
    | some (v,q')=>Er it nt L n (i+1) pos (putF o.dst v κ) (putF o.dst v σ) (q'∧q)
    | none=>none
   | _,_=>none
  | none=>none
 | _+1,_,_,_,_,_=>none
abbrev Rv (v0:Value) (Φ0:List Fact):Value→List Fact→List A4→Prop:=fun v Φ β=>v=v0∧Φ=Φ0∧β=[]
def Sz (nt:Nat) (L:List Oper) (κ:Fr) (i:Nat):Option (Option Tmp×Op×TypeId) :=
 match A5 L i with
 | some o=>match Nj o.dst nt,gd L κ o with
  | true,some true=>some (o.dst,o.op,o.type)
  | _,_=>none
 | none=>none
section
variable {P:Program}{F:Fun P}{C:Cx}{S:List It}{R:Value→World→Prop}{β:List A4}{Γ:List Fact}{it:List (TypeId×IntKind)}{L:List Oper}{pos:List Po}{pt:List (List Nat)}{p:List Nat}{σ κ:Fr}{fs:List (Nat×Fact)}{al:List A4}{pb:Pb}{i:Nat}{op:Op}{ty:TypeId}{d:Option Tmp}
theorem AEf:∀ (n i:Nat) (pos:List Po) (κ σ:Fr) (q:Prop) (r:List Po×Fr×Fr×Prop),Er it F.fn.ntmps L n i pos κ σ q=some r→r.2.2.2→q:=by
 intro n
 induction n with
 | zero=>intro i pos κ σ q r h hr;simp only [Er,Option.some.injEq] at h;subst h;exact hr
 | succ n ih =>
  intro i pos κ σ q r h hr
  cases pos with
  | nil=>simp [Er] at h
  | cons po pos =>
   cases po with
   | eq v=>simp [Er] at h
   | fa val f=>simp [Er] at h
   | al T cs=>simp [Er] at h
   | pv ts g=>simp [Er] at h
   | sg T val f=>simp [Er] at h
   | sh T val f=>simp [Er] at h
   | si T val f=>simp [Er] at h
   | st cs=>simp [Er] at h
   | auto =>
    simp only [Er] at h
    repeat' split at h
    all_goals first|exact (ih _ _ _ _ _ _ h hr).2|exact ih _ _ _ _ _ _ h hr|simp at h
theorem AHa:∀ (n i:Nat) (pos:List Po) (κ σ:Fr) (q:Prop) (r:List Po×Fr×Fr×Prop),Er it F.fn.ntmps L n i pos κ σ q=some r→r.2.2.2→Lx it F C p S L pt β Γ R (i+n) r.1 r.2.1 r.2.2.1 fs al pb→Lx it F C p S L pt β Γ R i pos κ σ fs al pb:=by
 intro n
 induction n with
 | zero=>intro i pos κ σ q r h hr hL;simp only [Er,Option.some.injEq] at h;subst h;exact hL
 | succ n ih =>
  intro i pos κ σ q r h hr hL
  have hL':Lx it F C p S L pt β Γ R (i+1+n) r.1 r.2.1 r.2.2.1 fs al pb:=by rw [Nat.add_assoc,Nat.add_comm 1 n];exact hL
  cases pos with
  | nil=>simp [Er] at h
  | cons po pos =>
   cases po with
   | eq v=>simp [Er] at h
   | fa val f=>simp [Er] at h
   | al T cs=>simp [Er] at h
   | pv ts g=>simp [Er] at h
   | sg T val f=>simp [Er] at h
   | sh T val f=>simp [Er] at h
   | si T val f=>simp [Er] at h
   | st cs=>simp [Er] at h
   | auto =>
    simp only [Er] at h
    cases ho:A5 L i with
    | none=>rw [ho] at h;simp at h
    | some o =>
     rw [ho] at h
     simp only at h
     cases hout:Nj o.dst F.fn.ntmps with
     | false=>rw [hout] at h;simp at h
     | true =>
      rw [hout] at h
      cases hg:gd L κ o with
      | none=>rw [hg] at h;simp at h
      | some b =>
       rw [hg] at h
       cases b with
       | false =>
        simp only [Lx,ho,hout,hg]
        exact ih _ _ _ _ _ _ h hr hL'
       | true =>
        simp only at h
        cases hp:pev it κ o.op with
        | none=>rw [hp] at h;simp at h
        | some vq =>
         obtain ⟨v,q'⟩:=vq
         rw [hp] at h
         simp only [Lx,ho,hout,hg,hp]
         exact ⟨(AEf _ _ _ _ _ _ _ h hr).1,ih _ _ _ _ _ _ h hr hL'⟩
theorem AKG (n:Nat) {pos':List Po}{κ' σ':Fr}{q:Prop}(h:Er it F.fn.ntmps L n i pos κ σ True=some (pos',κ',σ',q)) (hq:q) (hL:Lx it F C p S L pt β Γ R (i+n) pos' κ' σ' fs al pb):Lx it F C p S L pt β Γ R i pos κ σ fs al pb :=
 AHa n i pos κ σ True _ h hq hL
theorem ALJ {val:Gh→Value}{f:Gh→List Fact}(ho:Sz F.fn.ntmps L κ i=some (d,op,ty)) (hJ:JD P op ty σ β (Sk (B3 pt i) fs++Γ) val f) (h:∀ x,Lx it F C p S L pt β Γ R (i+1) pos (Hb d κ) (putF d (val x) σ) ((f x).map (fun g=>(i,g))++fs) al pb) :
  Lx it F C p S L pt β Γ R i (.fa val f::pos) κ σ fs al pb:=by
 unfold Sz at ho
 split at ho
 ·rename_i o hn
  split at ho
  ·rename_i h1 h2
   obtain ⟨rfl,rfl,rfl⟩:=by simpa using ho
   simp only [Lx,hn,h1,h2]
   exact ⟨hJ,h⟩
  ·simp at ho
 ·simp at ho
theorem AHT {T:TypeId}{cs:List Value}{val:Nat→Value}(ho:Sz F.fn.ntmps L κ i=some (d,op,ty)) (hJ:JA P op ty σ T cs val) (h:∀ b,Lx it F C p S L pt β Γ R (i+1) pos (Hb d κ) (putF d (val b) σ) fs ((some b,T,cs)::al) pb) :
  Lx it F C p S L pt β Γ R i (.al T cs val::pos) κ σ fs al pb:=by
 unfold Sz at ho
 split at ho
 ·rename_i o hn
  split at ho
  ·rename_i h1 h2
   obtain ⟨rfl,rfl,rfl⟩:=by simpa using ho
   simp only [Lx,hn,h1,h2]
   exact ⟨hJ,h⟩
  ·simp at ho
 ·simp at ho
theorem AMg {ts:List Tmp}{g:List Value→Value}{o:Oper}(hn:A5 L i=some o) (hts:(ts.all fun t=>Bc t (Jv L o))=true) (ho:Sz F.fn.ntmps L κ i=some (d,op,ty)) (hJ:JD P op ty σ β (Sk (B3 pt i) fs++Γ) (fun _=>g (Nm σ ts)) (fun _=>[])) (h:Lx it F C p S L pt β Γ R (i+1) pos (Hb d κ) (putF d (g (Nm σ ts)) σ) fs al pb) :
  Lx it F C p S L pt β Γ R i (.pv ts g::pos) κ σ fs al pb:=by
 unfold Sz at ho
 rw [hn] at ho
 simp only at ho
 split at ho
 ·rename_i h1 h2
  obtain ⟨rfl,rfl,rfl⟩:=by simpa using ho
  simp only [Lx,hn,h1,h2]
  exact ⟨hts,hJ,h⟩
 ·simp at ho
theorem AMp {v:Value}(ho:Sz F.fn.ntmps L κ i=some (d,op,ty)) (hJ:JD P op ty σ β (Sk (B3 pt i) fs++Γ) (fun _=>v) (fun _=>[])) (h:Lx it F C p S L pt β Γ R (i+1) pos (putF d v κ) (putF d v σ) fs al pb) :
  Lx it F C p S L pt β Γ R i (.eq v::pos) κ σ fs al pb:=by
 unfold Sz at ho
 split at ho
 ·rename_i o hn
  split at ho
  ·rename_i h1 h2
   obtain ⟨rfl,rfl,rfl⟩:=by simpa using ho
   simp only [Lx,hn,h1,h2]
   exact ⟨hJ,h⟩
  ·simp at ho
 ·simp at ho
def DK (val:Gh→Value) (f:Gh→List Fact) (v:Value) (β:List A4) (Γ:List Fact):Prop :=
 ∀ C w,Own C w β→(∀ g∈Γ,g.holds w (ok C w β))→∃ x,v=val x∧∀ g∈f x,g.holds w (ok C w [])
theorem Cg {val:Gh→Value}{f:Gh→List Fact}(h:∀ C',Fb P C' op ty σ [] Γ (DK val f)):JD P op ty σ β Γ val f:=by
 intro C w hO hG
 have h1:=h ⟨w,ok C w β,fun _=>False⟩ w ⟨Keep.refl _ _,(fun x hx=>by cases hx),(fun x hx=>by cases hx),trivial⟩ (fun g hg=>g.stable (fun k hk=>⟨⟨.inl hk,hk.2.1,fun x hx=>by cases hx⟩,rfl⟩) (hG g hg))
 refine h1.mono ?_
 rintro v w' ⟨β',Γ',hk,hO',hG'⟩
 have hx:Ext w w':=⟨hO'.ext.os,hO'.ext.tape,hO'.ext.output,hO'.ext.size,fun k hk=>hO'.ext.block k hk (fun h=>h.elim)⟩
 obtain ⟨x,e,hf⟩:=hk _ _ hO' hG'
 refine ⟨hx,x,e,fun g hg=>g.stable (fun k hk=>⟨⟨?_,hk.2.1,fun y hy hb=>?_⟩,rfl⟩) (hf g hg)⟩
 ·rcases hk.1 with h|h|h
  ·exact h.1
  ·exact h.elim
  ·exact .inr (.inr (Nat.le_trans hO.ext.size h))
 ·rcases hk.1 with h|h|h
  ·exact h.2.2 y hy hb
  ·exact h.elim
  ·have:=hO.lt hy hb
   have h':w.heap.size≤k:=h
   omega
theorem Ey {w:World}{g:Fact}(h:g.holds w (ok C w β)):g.holds w (ok C w []) :=
 g.stable (fun _ hk=>⟨⟨hk.1,hk.2.1,fun x hx=>by cases hx⟩,rfl⟩) h
theorem Y3 {w:World}{A:Nat→Prop}{f:Fact}(h:f.holds w A):∀ g∈[f],g.holds w A:=fun g hg=>by
 obtain rfl:=List.mem_singleton.1 hg;exact h
theorem An {v:Value}:DK (fun _=>v) (fun _=>[]) v β Γ:=fun _ _ _ _=>⟨fun _=>default,rfl,fun g hg=>by cases hg⟩
def AD4 (n:Nat):Gh→Value:=fun g=>.slice (g 0).1 n (g 0).2.1
def AD9 {α:Type}(E:Enc α) (n:Nat) (l:List α):Gh→List Fact:=fun g=>[Ap E (g 0).1 n (g 0).2.1 l]
def Gj:Gh→Value:=fun g=>.pointer (some ⟨(g 0).2.1,(g 0).2.2.1,none⟩)
def AF4 {α:Type}(E:Enc α) (x:α):Gh→List Fact:=fun g=>[ptF E (g 0).2.1 (g 0).2.2.1 x]
theorem Lq {α:Type}{E:Enc α}{pa:Option Addr}{n ca:Nat}{l:List α}(j:Nat) (hj:A5 Γ j=some (Ap E pa n ca l)):DK (AD4 n) (AD9 E n l) (.slice pa n ca) β Γ :=
 fun _ _ _ hG=>⟨fun _=>(pa,ca,0,[]),rfl,Y3 (Ey (hG _ (Af hj)))⟩
theorem ALE {α:Type}{E:Enc α}{b o:Nat}{x:α}(j:Nat) (hj:A5 Γ j=some (ptF E b o x)):DK Gj (AF4 E x) (.pointer (some ⟨b,o,none⟩)) β Γ :=
 fun _ _ _ hG=>⟨fun _=>(none,b,o,[]),rfl,Y3 (Ey (hG _ (Af hj)))⟩
def Je (it:List (TypeId×IntKind)) (F:Fun P) (C:Cx) (p:List Nat) (S:List It) (L:List Oper) (pt:List (List Nat)) (β:List A4) (Γ:List Fact) (R:Value→World→Prop) (k i:Nat) (pos:List Po) (κ σ:Fr) (fs:List (Nat×Fact)) (al:List A4) (pb:Pb):Prop :=
 i+pos.length=k∧Lx it F C p S L pt β Γ R i pos κ σ fs al pb
theorem AFN:∀ (n i:Nat) (pos:List Po) (κ σ:Fr) (q:Prop) (κ' σ':Fr) (q':Prop),Er it F.fn.ntmps L n i (List.replicate n .auto) κ σ q=some ([],κ',σ',q')→Er it F.fn.ntmps L n i (List.replicate n .auto++pos) κ σ q=some (pos,κ',σ',q'):=by
 intro n
 induction n with
 | zero=>intro i pos κ σ q κ' σ' q' h;simp only [List.replicate,Er,Option.some.injEq,Prod.mk.injEq,List.nil_append,true_and] at h ⊢;exact h
 | succ n ih =>
  intro i pos κ σ q κ' σ' q' h
  simp only [List.replicate_succ,List.cons_append,Er] at h ⊢
  repeat' split at h
  all_goals first|exact ih _ _ _ _ _ _ _ _ h|simp at h
theorem A3 {k:Nat}(n:Nat) {κ' σ':Fr}{q:Prop}(h:Er it F.fn.ntmps L n i (List.replicate n .auto) κ σ True=some ([],κ',σ',q)) (hq:q) (hL:Je it F C p S L pt β Γ R k (i+n) pos κ' σ' fs al pb):Je it F C p S L pt β Γ R k i (List.replicate n .auto++pos) κ σ fs al pb :=
 ⟨by have:=hL.1;simp only [List.length_append,List.length_replicate];omega,AKG n (AFN n i pos κ σ True κ' σ' q h) hq hL.2⟩
theorem Iz {k:Nat}{val:Gh→Value}{f:Gh→List Fact}(ho:Sz F.fn.ntmps L κ i=some (d,op,ty)) (hJ:JD P op ty σ β (Sk (B3 pt i) fs++Γ) val f) (h:∀ x,Je it F C p S L pt β Γ R k (i+1) pos (Hb d κ) (putF d (val x) σ) ((f x).map (fun g=>(i,g))++fs) al pb) :
  Je it F C p S L pt β Γ R k i (.fa val f::pos) κ σ fs al pb :=
 ⟨by have:=(h default).1;simp only [List.length_cons];omega,ALJ ho hJ fun x=>(h x).2⟩
theorem Ac {k:Nat}{v:Value}(ho:Sz F.fn.ntmps L κ i=some (d,op,ty)) (hJ:JD P op ty σ β (Sk (B3 pt i) fs++Γ) (fun _=>v) (fun _=>[])) (h:Je it F C p S L pt β Γ R k (i+1) pos (putF d v κ) (putF d v σ) fs al pb) :
  Je it F C p S L pt β Γ R k i (.eq v::pos) κ σ fs al pb :=
 ⟨by have:=h.1;simp only [List.length_cons];omega,AMp ho hJ h.2⟩
theorem G1 {k:Nat}(ts:List Tmp) (g:List Value→Value) {o:Oper}{v:Value}(hn:A5 L i=some o) (hts:(ts.all fun t=>Bc t (Jv L o))=true) (ho:Sz F.fn.ntmps L κ i=some (d,op,ty)) (hv:g (Nm σ ts)=v) (hJ:JD P op ty σ β (Sk (B3 pt i) fs++Γ) (fun _=>v) (fun _=>[]))
  (h:Je it F C p S L pt β Γ R k (i+1) pos (Hb d κ) (putF d v σ) fs al pb):Je it F C p S L pt β Γ R k i (.pv ts g::pos) κ σ fs al pb:=by
 subst hv
 exact ⟨by have:=h.1;simp only [List.length_cons];omega,AMg hn hts ho hJ h.2⟩
theorem Hj {k:Nat}{T:TypeId}{cs:List Value}(ho:Sz F.fn.ntmps L κ i=some (d,.alloc T,ty)) (hT:Cr P T=some cs)
  (h:∀ b,Je it F C p S L pt β Γ R k (i+1) pos (Hb d κ) (putF d (.pointer (some ⟨b,0,none⟩)) σ) fs ((some b,T,cs)::al) pb) :
  Je it F C p S L pt β Γ R k i (.al T cs (fun b=>.pointer (some ⟨b,0,none⟩))::pos) κ σ fs al pb :=
 ⟨by have:=(h 0).1;simp only [List.length_cons];omega,AHT ho (fun w ρ hρ=>by
  obtain ⟨ii,z,hi,hz,hc⟩:=Fj hT
  have e:z.cells=cs.toArray:=by rw [← hc,← Dz]
  have e2:(execOp ρ (Da (.alloc T) ty)).run P w = .ok (.value (.pointer (some ⟨w.heap.size,0,none⟩))) (w.alloc (.cells cs.toArray T)):=by
   simp [execOp,Da,Instr.alloc,S4 hi hz,newVar,newRow,e]
  rw [e2];exact ⟨rfl,rfl⟩) fun b=>(h b).2⟩
theorem AIu {k:Nat}{T:TypeId}{x:Operand}{v:Value}{cs:List Value}(ho:Sz F.fn.ntmps L κ i=some (d,.box T x,ty)) (hx:ev σ x=some v) (hc:Cf v=cs)
  (h:∀ b,Je it F C p S L pt β Γ R k (i+1) pos (Hb d κ) (putF d (.pointer (some ⟨b,0,none⟩)) σ) fs ((some b,T,cs)::al) pb) :
  Je it F C p S L pt β Γ R k i (.al T cs (fun b=>.pointer (some ⟨b,0,none⟩))::pos) κ σ fs al pb :=
 ⟨by have:=(h 0).1;simp only [List.length_cons];omega,AHT ho (fun w ρ hρ=>by
  have e:v.cells=cs.toArray:=by rw [← hc,← Dz]
  have e2:(execOp ρ (Da (.box T x) ty)).run P w = .ok (.value (.pointer (some ⟨w.heap.size,0,none⟩))) (w.alloc (.cells cs.toArray T)):=by
   simp [execOp,Da,hρ _ _ hx,Instr.box,newVar,newRow,e]
  rw [e2];exact ⟨rfl,rfl⟩) fun b=>(h b).2⟩
theorem Y6 {k m:Nat}{t e:TypeId}{x y:Operand}{kd kc:IntKind}{nn:Int}{zs:List Value}(n by':Nat) (ho:Sz F.fn.ntmps L κ i=some (d,.makeSlice t x y,ty)) (hx:ev σ x=some (.int kd nn)) (hy:ev σ y=some (.int kc nn)) (hT:Ev P t=some (e,m))
  (hz:Cr P e=some zs) (hl:zs.length=m) (hp:Nat.beq m 0=false) (hby:P.bytesOf e=by') (hm:nn=(n:Int)) (hk:by'*n≤281474976710656) (h63:n≤9223372036854775807)
  (h:∀ b,Je it F C p S L pt β Γ R k (i+1) pos (Hb d κ) (putF d (.slice (some ⟨b,0,none⟩) n n) σ) fs ((some b,e,(List.replicate n zs).flatten)::al) pb) :
  Je it F C p S L pt β Γ R k i (.al e (List.replicate n zs).flatten (fun b=>.slice (some ⟨b,0,none⟩) n n)::pos) κ σ fs al pb :=
 ⟨by have:=(h 0).1;simp only [List.length_cons];omega,AHT ho (fun w ρ hρ=>by
  obtain ⟨hu,i,hi,hs⟩:=Cu hT
  obtain ⟨i',z,hi',hz',hc⟩:=Fj hz
  obtain rfl:i=i':=Option.some.inj (hi.symm.trans hi')
  have hbi:i.bytes=by':=by simpa [Program.bytesOf,hi] using hby
  subst hm
  have hr := run_make (P := P) w t e i z hu hi hz' kd kc n n (by omega) (Int.le_refl _) (by rw [hbi]; have : ((by' * n : Nat) : Int) ≤ 281474976710656 := by omega
                                                                                            rwa [Int.natCast_mul] at this) (by omega)
  have hzc:z.cells=zs.toArray:=by rw [← hc,← Dz]
  have hcells:madeCells z.cells ((n:Int).toNat*i.size)=(List.replicate n zs).flatten.toArray:=by
   rw [hzc,hs,← hl,Int.toNat_natCast]
   have:=Nat.ne_of_beq_eq_false hp
   exact Array.toList_inj.1 (by rw [I5 zs (by omega)])
  rw [hcells,Int.toNat_natCast] at hr
  have e2:(execOp ρ (Da (.makeSlice t x y) ty)).run P w = .ok (.value (.slice (some ⟨w.heap.size,0,none⟩) n n)) (w.alloc (.cells (List.replicate n zs).flatten.toArray e)):=by
   simp only [execOp,Da,hρ _ _ hx,hρ _ _ hy,Sem.run_bind,hr,Result.andThen_ok,Sem.run_pure]
  rw [e2];exact ⟨rfl,rfl⟩) fun b=>(h b).2⟩
theorem Ih {k n:Nat}{α:Type}{E:Enc α}{l:List α}(ho:Sz F.fn.ntmps L κ i=some (d,op,ty)) (hJ:JD P op ty σ β (Sk (B3 pt i) fs++Γ) (AD4 n) (AD9 E n l))
  (h:∀ pa ca,Je it F C p S L pt β Γ R k (i+1) pos (Hb d κ) (putF d (.slice pa n ca) σ) ((i,Ap E pa n ca l)::fs) al pb) :
  Je it F C p S L pt β Γ R k i (.fa (AD4 n) (AD9 E n l)::pos) κ σ fs al pb:=Iz ho hJ fun x=>h (x 0).1 (x 0).2.1
theorem AB3 {k:Nat}{α:Type}{E:Enc α}{z:α}(ho:Sz F.fn.ntmps L κ i=some (d,op,ty)) (hJ:JD P op ty σ β (Sk (B3 pt i) fs++Γ) Gj (AF4 E z))
  (h:∀ b o,Je it F C p S L pt β Γ R k (i+1) pos (Hb d κ) (putF d (.pointer (some ⟨b,o,none⟩)) σ) ((i,ptF E b o z)::fs) al pb) :
  Je it F C p S L pt β Γ R k i (.fa Gj (AF4 E z)::pos) κ σ fs al pb:=Iz ho hJ fun x=>h (x 0).2.1 (x 0).2.2.1
theorem Et {k:Nat}(hk:i=k) (h:J F C (.o p k::S) σ (al++β) (fs.map (·.2)++Γ) R) (hS:Xu S=false:=by rfl):Je it F C p S L pt β Γ R k i [] κ σ fs al none:=⟨by simpa using hk,by subst hk;simp only [Lx,AAt hS];exact h⟩
theorem Fo {k m:Nat}{A:List Nat}(hk:i=k) (h:WIN F C p A m k S σ (al++β) (fs.map (·.2)++Γ) R):Je it F C p (.win A m::S) L pt β Γ R k i [] κ σ fs al none:=⟨by simpa using hk,by subst hk;exact h⟩
theorem ACy {α:Type}{E:Enc α}{b o k:Nat}{l:List α}{z y:α}(dflt:α) (hz:l[k]?=some z) (j:Nat) (hj:A5 Γ j=some (ptF E b o z)) (hy:l.getD k dflt=y:=by rfl):DK Gj (AF4 E y) (.pointer (some ⟨b,o,none⟩)) β Γ:=by
 have:y=z:=by rw [← hy,List.getD,hz];rfl
 subst this
 exact ALE j hj
theorem Ca {t:TypeId}{x:Operand}{b o:Nat}{T:TypeId}{cs:List Value}{v:Value}(n:Nat) (hx:ev σ x=some (.pointer (some ⟨b,o,none⟩))) (hn:A5 β n=some (some b,T,cs))
  (hT:Eb P t=some (false,1)) (hv:cs[o]?=some v):JD P (.load t x) ty σ β Γ (fun _=>v) (fun _=>[]):=fun _ w hO _ =>
 (F4 hT hx (Oh hO hn hv)).ex.mono fun u w' ⟨h1,h2⟩=>by subst h1;subst h2;exact ⟨Below.refl _ _,fun _=>default,rfl,fun g hg=>by cases hg⟩
theorem Ji {t:TypeId}{x:Operand}{b o m:Nat}{T:TypeId}{cs vs:List Value}(n:Nat) (hx:ev σ x=some (.pointer (some ⟨b,o,none⟩))) (hn:A5 β n=some (some b,T,cs))
  (hT:Eb P t=some (true,m)) (hv:(cs.drop o).take m=vs) (hl:vs.length=m):JD P (.load t x) ty σ β Γ (fun _=>.agg vs.toArray) (fun _=>[]):=fun _ w hO _=>by
 have hb:=hO.blk _ (B7 hn) b rfl
 exact (Gw hT hl hx (Fv.rangeAt ⟨cs.toArray,T,(0,0),hb,hv,hl⟩)).ex.mono fun u w' ⟨h1,h2⟩=>by subst h1;subst h2;exact ⟨Below.refl _ _,fun _=>default,rfl,fun g hg=>by cases hg⟩
theorem AFP {t:TypeId}{x:Operand}{b o z:Nat}{T:TypeId}{kd:IntKind}{l:List Nat}(n:Nat) (hx:ev σ x=some (.pointer (some ⟨b,o,none⟩))) (hn:A5 β n=some (some b,T,Ao kd l))
  (hT:Eb P t=some (false,1)) (ho:l[o]?=some z):JD P (.load t x) ty σ β Γ (fun _=>.int kd z) (fun _=>[]) :=
 Ca n hx hn hT (by rw [Vq,ho];rfl)
theorem Bd {α:Type}{E:Enc α}{w:World}{A:Nat→Prop}:G2 E [] [] w A:=⟨rfl,fun i vs x h=>by simp at h⟩
theorem Az {α:Type}{E:Enc α}{w:World}{A:Nat→Prop}{vs:List Value}{x:α}{vss:List (List Value)}{l:List α}(h:E.rd w A vs x) (h':G2 E vss l w A):G2 E (vs::vss) (x::l) w A:=by
 refine ⟨by simp [h'.1],fun i us y hu hy=>?_⟩
 cases i with
 | zero=>simp at hu hy;subst hu;subst hy;exact h
 | succ i=>exact h'.2 i us y (by simpa using hu) (by simpa using hy)
theorem A2 {α:Type}{E:Enc α}{w:World}{A:Nat→Prop}{pa:Option Addr}{n ca:Nat}{l:List α}(h:(Ap E pa n ca l).holds w A):(Aj E).rd w A [.slice pa n ca] l:=by
 obtain ⟨rfl,h⟩:=h
 exact ⟨pa,ca,rfl,h⟩
theorem Ov {vs:List Value}{Q:Value→List Fact→List A4→Prop}{Φ:List Fact}(l:List Nat) (hp:L6 F.B p=true) (hr:Mf σ F.fn.results.toList=some vs) (hl:pick Γ l=some Φ)
  (h:Q (Hg vs) Φ []) (hk:F.rnd=none:=by rfl):J F C (.c p::S) σ β Γ (Fg C Q) :=
 AHH (hk:=hk) hp hr fun _ hO hG=>⟨Φ,[],h,⟨hO.ext,fun x hx=>(by cases hx),fun x hx=>(by cases hx),trivial⟩,fun f hf=>Ey (hG f (Ee hl f hf))⟩
theorem E5 (hit:Bw P it) (hmx:P.follows .mixedOrders=true) (k:Nat) (hd:Mc F.B p=true) (hc:Tu (Ak (sub p F.B)) (Iq (Ak (sub p F.B)) []) k=true)
  (h:Je it F C p S (Ak (sub p F.B)) (Iq (Ak (sub p F.B)) []) β Γ R k 0 pos σ σ [] [] none) (hS:Xu S=false:=by rfl):J F C (.c p::S) σ β Γ R :=
 AHw hit hmx pos hd (by have:=h.1;rw [Nat.zero_add] at this;rw [this];exact hc) h.2 hS
def AHC (pos:List Po) (j:Nat):Bool :=
 match A5 pos j with
 | some .auto=>true
 | some (.eq _)=>true
 | _=>false
theorem Fz (hit:Bw P it) (hmx:P.follows .mixedOrders=true) {x0:Pb}(n k:Nat) (A:List Nat) (m:Nat) (hx:Nz x0=β.take n) (hd:Mc F.B p=true) (hc:AGt (Ak (sub p F.B)) (Iq (Ak (sub p F.B)) []) k A m=true) (hnd:A.Nodup)
  (h:Je it F C p (.win A m::S) (Ak (sub p F.B)) (Iq (Ak (sub p F.B)) []) (β.drop n) Γ R k 0 pos σ σ [] [] x0) (hA:A.all (fun j=>!(Nat.blt j k) || AHC pos j)=true):J F C (.c p::S) σ β Γ R:=by
 have e:β=Nz x0++β.drop n:=by rw [hx,List.take_append_drop]
 rw [e]
 refine AJa hit hmx pos A m hd (by have:=h.1;rw [Nat.zero_add] at this;rw [this];exact hc) hnd (fun j hj hjl=>?_) h.2
 have:=List.all_eq_true.1 hA j hj
 have hk:pos.length=k:=by have:=h.1;omega
 rw [show Nat.blt j k=true from Nat.ble_eq_true_of_le (by omega)] at this
 simp only [Bool.not_true,Bool.false_or] at this
 unfold AHC at this
 split at this
 ·exact .inl (by assumption)
 ·exact .inr ⟨_,by assumption⟩
 ·cases this
def Qp (A:List Nat) (L:List Oper) (σ:Fr):Fr:=A.foldl (fun σ j=>Hb (Cd L j) σ) σ
theorem AHY {d:Option Tmp}{σ:Fr}{t:Tmp}{v:Value}(h:Fr.get t (Hb d σ)=some v):d≠some t∧Fr.get t σ=some v:=by
 cases d with
 | none=>exact ⟨by simp,h⟩
 | some d =>
  obtain ⟨h1,h2⟩:=Fr.get_del _ _ _ _ h
  exact ⟨fun e=>h1 (Option.some.inj e).symm,h2⟩
theorem Ta {A:List Nat}:∀ {σ:Fr}{t:Tmp}{v:Value},Fr.get t (Qp A L σ)=some v→(∀ j∈A,Cd L j≠some t)∧Fr.get t σ=some v:=by
 induction A with
 | nil=>intro σ t v h;exact ⟨fun j hj=>(by cases hj),h⟩
 | cons x A ih =>
  intro σ t v h
  obtain ⟨h1,h2⟩:=ih (σ:=Hb (Cd L x) σ) h
  obtain ⟨h3,h4⟩:=AHY h2
  refine ⟨fun j hj=>?_,h4⟩
  rcases List.mem_cons.1 hj with rfl|hj
  ·exact h3
  ·exact h1 j hj
def AH2 (L:List Oper) (A:List Nat) (j:Nat):List Nat:=A.filter fun x=>!(Bc x (dpA L j))
def S7 (it:List (TypeId×IntKind)) (nt:Nat) (L:List Oper) (A0:List Nat) (σ:Fr):List Nat→Prop
 | []=>True
 | j::A=>(∃ o d u q,A5 L j=some o∧o.guard=none∧o.dst=some d∧Nat.blt d nt=true∧Fr.get d σ=some u∧pev it (Qp (AH2 L A0 j) L σ) o.op=some (u,q)∧q)∧S7 it nt L A0 σ A
theorem ACS {nt:Nat}{σ:Fr}{A0:List Nat}:∀ {A:List Nat},S7 it nt L A0 σ A→∀ j∈A,∃ o d u q,A5 L j=some o∧o.guard=none∧o.dst=some d∧Nat.blt d nt=true∧Fr.get d σ=some u∧pev it (Qp (AH2 L A0 j) L σ) o.op=some (u,q)∧q:=by
 intro A
 induction A with
 | nil=>intro _ j hj;cases hj
 | cons x A ih =>
  intro h j hj
  rcases List.mem_cons.1 hj with rfl|hj
  ·exact h.1
  ·exact ih h.2 j hj
theorem AAj (hit:Bw P it) {A pend l:List Nat}{j:Nat}{a:Act}{w:World}{K:List Item}(hL:S7 it F.fn.ntmps (Ak (sub p F.B)) A σ (A.filter fun j=>Nat.blt j i)) (hpA:∀ j∈pend,j∈A∧j<i) (hj:j∈pend) (hdp:∀ x∈dpA (Ak (sub p F.B)) j,x∉pend)
  (hsz:a.tmps.size=F.fn.ntmps) (hdf:a.defers=F.dfs) (hfr:∀ t v,(∀ j∈pend,Cd (Ak (sub p F.B)) j≠some t)→Fr.get t σ=some v→a.tmps[t]?=some v)
  (h:∀ a':Act,a'.tmps.size=F.fn.ntmps→a'.defers=F.dfs→(∀ t v,(∀ j'∈pend.erase j,Cd (Ak (sub p F.B)) j'≠some t)→Fr.get t σ=some v→a'.tmps[t]?=some v)→At F (.inRegion (Ak (sub p F.B)).toArray l::K) a' w R) :
  At F (.inRegion (Ak (sub p F.B)).toArray (j::l)::K) a w R:=by
 obtain ⟨o,d,u,q,h1,h2,h3,h4,h5,h6,h7⟩:=ACS hL j (List.mem_filter.2 ⟨(hpA j hj).1,Nat.ble_eq_true_of_le (hpA j hj).2⟩)
 have hfit:Fits F.fn.ntmps F.dfs (Qp (AH2 (Ak (sub p F.B)) A j) (Ak (sub p F.B)) σ) a:=⟨hsz,hdf,fun t v hv=>by
  obtain ⟨g1,g2⟩:=Ta hv
  refine hfr t v (fun j' hj'=>g1 j' (List.mem_filter.2 ⟨(hpA j' hj').1,?_⟩)) g2
  cases hm:Bc j' (dpA (Ak (sub p F.B)) j) with
  | false=>rfl
  | true=>exact absurd hj' (hdp j' (C6.1 hm))⟩
 have ho:(Ak (sub p F.B)).toArray[j]?=some o:=by
  rw [B8] at h1
  simpa using h1
 have hp:=Ff (P:=P) hit (ty:=o.type) h6 h7 w a.eval fun x v hv=>hfit.eval hv
 have hdlt:d<a.tmps.size:=by rw [hsz];exact Nat.le_of_ble_eq_true h4
 refine Kz ho (by simp [Region.wanted,h2]) (post:=fun v w'=>v=u∧w'=w) (by rw [Ge,hp];exact ⟨rfl,rfl⟩) ?_
 rintro v w' ⟨rfl,rfl⟩
 rw [h3]
 refine h _ (by simp [Act.put,hsz]) (by simp [Act.put,hdf]) fun t x hno hx=>?_
 have hdj:Cd (Ak (sub p F.B)) j=some d:=by simp [Cd,h1,h3]
 by_cases e:d=t
 ·subst e
  rw [h5] at hx
  rw [← Option.some.inj hx]
  simp [Act.put,hdlt]
 ·simp only [Act.put]
  rw [Array.getElem?_setIfInBounds_ne e]
  refine hfr t x (fun j' hj'=>?_) hx
  by_cases ej:j'=j
  ·rw [ej,hdj];exact fun h=>e (Option.some.inj h)
  ·exact hno j' ((List.mem_erase_of_ne ej).2 hj')
theorem Ib (hit:Bw P it) {A:List Nat}(hL:S7 it F.fn.ntmps (Ak (sub p F.B)) A σ (A.filter fun j=>Nat.blt j i)) (h:J F C (.o p i::S) σ β Γ R):WIN F C p A 0 i S σ β Γ R:=by
 intro pend sched hpA hnd hI w hO hG
 have key:∀ n (pend sched:List Nat),pend.length=n→(∀ j∈pend,j∈A∧j<i)→Inter (Ak (sub p F.B)) A (i+0) pend i sched→∀ a:Act,a.tmps.size=F.fn.ntmps→a.defers=F.dfs →
   (∀ t v,(∀ j∈pend,Cd (Ak (sub p F.B)) j≠some t)→Fr.get t σ=some v→a.tmps[t]?=some v)→At F (.inRegion (Ak (sub p F.B)).toArray sched::S.map (It.item F.B)) a w R:=by
  intro n
  induction n with
  | zero =>
   intro pend sched hl hpA hI a hsz hdf hfr
   have:pend=[]:=List.eq_nil_of_length_eq_zero hl
   subst this
   cases hI with
   | done=>exact h w hO hG a ⟨hsz,hdf,fun t v hv=>hfr t v (fun j hj=>by cases hj) hv⟩
   | pend hj _ _=>cases hj
   | tail _ h2 _ _=>omega
   | issue _ h2 _ _=>omega
  | succ n ih =>
   intro pend sched hl hpA hI a hsz hdf hfr
   cases hI with
   | done=>simp at hl
   | pend hj hdp hI' =>
    exact AAj hit hL hpA hj hdp hsz hdf hfr fun a' h1 h2 h3=>ih _ _ (by rw [List.length_erase_of_mem hj];omega) (fun j' hj'=>hpA j' (List.mem_of_mem_erase hj')) hI' a' h1 h2 h3
   | tail _ h2 _ _=>omega
   | issue _ h2 _ _=>omega
 exact fun a=>key _ pend sched rfl hpA hI a
def AJV (L:List Oper) (A:List Nat) (d:Option Tmp):Bool :=
 match d with
 | none=>true
 | some t=>A.all fun j=>match Cd L j with
  | some u=>!(Nat.beq u t)
  | none=>true
theorem Gr (hit:Bw P it) {A:List Nat}{m:Nat}(ho:AAa F p i=some (d,op,ty)) (hw:AJV (Ak (sub p F.B)) A d=true) (hL:S7 it F.fn.ntmps (Ak (sub p F.B)) A σ (A.filter fun j=>Nat.blt j i))
  (hx:Fb P C op ty (Qp A (Ak (sub p F.B)) σ) β Γ fun v β' Γ'=>WIN F C p A m (i+1) S (putF d v σ) β' Γ' R) (hni:Bc i A=false:=by rfl):WIN F C p A (m+1) i S σ β Γ R:=by
 have hni:i∉A:=fun h=>by rw [C6.2 h] at hni;cases hni
 intro pend sched hpA hnd hI w hO hG
 obtain ⟨pos,after,hn,hd⟩:=W2 ho
 have hoarr:(Ak (sub p F.B)).toArray[i]?=some ⟨d,op,ty,pos,after,none⟩:=by
  rw [B8] at hn
  simpa using hn
 have hil:i<(Ak (sub p F.B)).length:=by
  rw [B8] at hn
  exact (List.getElem?_eq_some_iff.1 hn).1
 have hwn:∀ t,d=some t→∀ j∈A,Cd (Ak (sub p F.B)) j≠some t:=fun t ht j hj e=>by
  subst ht
  have:=List.all_eq_true.1 hw j hj
  rw [e] at this
  simp at this
 -- the operation itself
 have exec:∀ (pend l:List Nat) (a:Act),(∀ j∈pend,j∈A∧j<i)→pend.Nodup→Inter (Ak (sub p F.B)) A (i+1+m) pend (i+1) l→a.tmps.size=F.fn.ntmps→a.defers=F.dfs →
   (∀ t v,(∀ j∈pend,Cd (Ak (sub p F.B)) j≠some t)→Fr.get t σ=some v→a.tmps[t]?=some v)→At F (.inRegion (Ak (sub p F.B)).toArray (i::l)::S.map (It.item F.B)) a w R:=by
  intro pend l a hpA hnd hI hsz hdf hfr
  have hfit:Fits F.fn.ntmps F.dfs (Qp A (Ak (sub p F.B)) σ) a:=⟨hsz,hdf,fun t v hv=>by
   obtain ⟨g1,g2⟩:=Ta hv
   exact hfr t v (fun j hj=>g1 j (hpA j hj).1) g2⟩
  refine Kz hoarr (by simp [Region.wanted]) (post:=fun v w'=>∃ β' Γ',WIN F C p A m (i+1) S (putF d v σ) β' Γ' R∧Own C w' β'∧∀ f∈Γ',f.holds w' (ok C w' β')) ?_ ?_
  ·rw [Ge]
   exact hx w hO hG a.eval fun x v hv=>hfit.eval hv
  ·rintro v w' ⟨β',Γ',hW,hO',hG'⟩
   refine hW pend l (fun j hj=>⟨(hpA j hj).1,by have:=(hpA j hj).2;omega⟩) hnd hI w' hO' hG' _ (by cases hd':d <;> simp [Act.put,hsz]) (by cases hd':d <;> simp [Act.put,hdf]) fun t x hno hx=>?_
   cases hd':d with
   | none =>
    rw [hd'] at hx
    exact hfr t x hno hx
   | some dd =>
    rw [hd'] at hx
    simp only [putF,Fr.get] at hx
    by_cases e:dd=t
    ·subst e
     rw [Nat.beq_refl] at hx
     have hlt:dd<a.tmps.size:=by rw [hsz];exact hd dd hd'
     rw [← Option.some.inj hx]
     simp [Act.put,hlt]
    ·have hb:Nat.beq dd t=false:=by
      cases hb:Nat.beq dd t with
      | true=>exact absurd (Nat.eq_of_beq_eq_true hb) e
      | false=>rfl
     rw [hb] at hx
     simp only [Act.put]
     rw [Array.getElem?_setIfInBounds_ne e]
     exact hfr t x hno hx
 have key:∀ n (pend sched:List Nat),pend.length=n→(∀ j∈pend,j∈A∧j<i)→pend.Nodup→Inter (Ak (sub p F.B)) A (i+(m+1)) pend i sched→∀ a:Act,a.tmps.size=F.fn.ntmps→a.defers=F.dfs →
   (∀ t v,(∀ j∈pend,Cd (Ak (sub p F.B)) j≠some t)→Fr.get t σ=some v→a.tmps[t]?=some v)→At F (.inRegion (Ak (sub p F.B)).toArray sched::S.map (It.item F.B)) a w R:=by
  have ee:i+(m+1)=i+1+m:=by omega
  intro n
  induction n with
  | zero =>
   intro pend sched hl hpA hnd hI a hsz hdf hfr
   have:pend=[]:=List.eq_nil_of_length_eq_zero hl
   subst this
   have er:List.range' i ((Ak (sub p F.B)).length-i)=i::List.range' (i+1) ((Ak (sub p F.B)).length-(i+1)):=by
    have e:(Ak (sub p F.B)).length-i=((Ak (sub p F.B)).length-(i+1))+1:=by omega
    rw [e,List.range'_succ]
   cases hI with
   | done=>rw [er];exact exec [] _ a hpA hnd .done hsz hdf hfr
   | pend hj _ _=>cases hj
   | tail _ _ _ hI'=>rw [ee] at hI';exact exec [] _ a hpA hnd hI' hsz hdf hfr
   | issue _ _ h _=>exact absurd h hni
  | succ n ih =>
   intro pend sched hl hpA hnd hI a hsz hdf hfr
   cases hI with
   | done=>simp at hl
   | pend hj hdp hI' =>
    exact AAj hit hL hpA hj hdp hsz hdf hfr fun a' h1 h2 h3=>ih _ _ (by rw [List.length_erase_of_mem hj];omega) (fun j' hj'=>hpA j' (List.mem_of_mem_erase hj')) (hnd.erase _) hI' a' h1 h2 h3
   | tail _ _ _ hI'=>rw [ee] at hI';exact exec pend _ a hpA hnd hI' hsz hdf hfr
   | issue _ _ h _=>exact absurd h hni
 exact fun a=>key _ pend sched rfl hpA hnd hI a
end
open Go.RowKit (Below)
section
variable {P:Program}{F:Fun P}{C:Cx}{S:List It}{R:Value→World→Prop}{σ:Fr}{β:List A4}{Γ:List Fact}{ty:TypeId}{K:Value→List A4→List Fact→Prop}
theorem ALS {x y:Operand}{ts:Array TypeId}{k:IntKind}{m n:Int}(hx:ev σ x=some (.int k m)) (hy:ev σ y=some (.int k n)) (h:K (.int k (if n<m then n else m)) β Γ) :
  Fb P C (.call { callee:=.builtin .min,args:=#[x,y],argTypes:=ts }) ty σ β Γ K :=
 Fa (fun w ρ hρ=>by
  simp [execOp,Da,resolve,invoke,builtin,Builtin.min_,Builtin.min2,hρ _ _ hx,hρ _ _ hy]) h
theorem AKa {x y:Operand}{t:TypeId}{k:IntKind}{s:ByteArray}{b:UInt8}{m:Int}(n:Nat) (ht:P.underlying t=some .string) (hx:ev σ x=some (.string s)) (hy:ev σ y=some (.int k m)) (hm:m=n) (hb:s[n]?=some b)
  (h:K (.int .u8 b.toNat) β Γ):Fb P C (.index t x y) ty σ β Γ K :=
 Fa (fun w ρ hρ=>by
  subst hm
  simp [execOp,Da,Instr.index,hρ _ _ hx,hρ _ _ hy,asIntOf,run_underlying ht,hb]) h
theorem ADN {t e:TypeId}{m:Nat}(hT:Ev P t=some (e,m))
  (h:∀ b,K (.slice (some ⟨b,0,none⟩) 0 0) ((some b,e,[])::β) Γ):Fb P C (.buildSlice t 0 #[]) ty σ β Γ K :=
 AC5 (f:=fun b=>.slice (some ⟨b,0,none⟩) 0 0) (fun ρ hρ w=>by
  refine ⟨.slice (some ⟨w.heap.size,0,none⟩) 0 0,?_,rfl⟩
  obtain ⟨hu,i,hi,hsz⟩:=Cu hT
  simp only [execOp,Da,Instr.buildSlice,Sem.run_bind,run_underlying hu,Result.andThen_ok,sizeOf,typeInfo,Sem.run_pure,run_program,hi,hsz]
  have e0:Array.map (fun _:Nat=>(default:Value)) (Array.range 0)=#[]:=by simp
  simp [newRow,Instr.fill,e0]) h
end
open Go.RowKit (Below)
def ABv (σ:Fr):List Nat→Option Fr
 | []=>some []
 | t::l=>match Fr.get t σ,ABv σ l with
  | some v,some r=>some ((t,v)::r)
  | _,_=>none
theorem AF3 {σ:Fr}:∀ {l:List Nat}{r:Fr},ABv σ l=some r→Fr.sub r σ:=by
 intro l
 induction l with
 | nil=>intro r h;simp only [ABv,Option.some.injEq] at h;subst h;exact Fr.sub_nil _
 | cons t l ih =>
  intro r h
  simp only [ABv] at h
  cases h1:Fr.get t σ with
  | none=>rw [h1] at h;simp at h
  | some v =>
   cases h2:ABv σ l with
   | none=>rw [h1,h2] at h;simp at h
   | some r' =>
    rw [h1,h2] at h
    obtain rfl:=Option.some.inj h
    exact Fr.sub_cons h1 (ih h2)
theorem Fr.sub_append {a b σ:Fr}(ha:Fr.sub a σ) (hb:Fr.sub b σ):Fr.sub (a++b) σ:=by
 intro t v h
 have key:∀ (a:Fr),Fr.get t (a++b)=some v→Fr.get t a=some v∨Fr.get t b=some v:=by
  intro a
  induction a with
  | nil=>exact fun h=>.inr h
  | cons x l ih =>
   obtain ⟨i,u⟩:=x
   intro h
   simp only [List.cons_append,Fr.get] at h ⊢
   cases hb:Nat.beq i t with
   | true=>rw [hb] at h;exact .inl h
   | false=>rw [hb] at h;exact ih h
 rcases key a h with h|h
 ·exact ha t v h
 ·exact hb t v h
section
variable {P:Program}{F:Fun P}{C:Cx}{S:List It}{σ:Fr}{β:List A4}{Γ:List Fact}{R:Value→World→Prop}{p:List Nat}{i:Nat}{d:Option Tmp}{op:Op}{ty:TypeId}{K:Value→List A4→List Fact→Prop}
theorem Ah {X:Type}{σk:Fr}{Γk:List Fact}(ks kf:List Nat) (st:X→Fr) (bl:X→List A4) (fa:X→List Fact) (I:X→Prop) (μ:X→Nat) (x:X) (l:List Nat)
  (hp:Zr F.B p=true) (hk:ABv σ ks=some σk) (hkf:pick Γ kf=some Γk) (hx:I x) (hs:Fr.sub (st x) σ) (hb:β=bl x) (hf:pick Γ l=some (fa x))
  (round:∀ x,I x→(∀ x',μ x'<μ x→I x'→J F C (.lp (p++[0])::S) (st x'++σk) (bl x') (fa x'++Γk) R)→J F C (.c (p++[0])::.lp (p++[0])::S) (st x++σk) (bl x) (fa x++Γk) R) :
  J F C (.c p::S) σ β Γ R :=
 AKs hp (fun x=>st x++σk) bl (fun x=>fa x++Γk) I μ x hx (Fr.sub_append hs (AF3 hk)) hb (fun f hm=>by
  rcases List.mem_append.1 hm with hm|hm
  ·exact Ee hf f hm
  ·exact Ee hkf f hm) round
theorem D7 {g:Tmp}{want:Bool}(ho:Lo F p i=some (g,want,d,op,ty)) (hb:Fr.get g σ=some undef) (h:J F C (.o p (i+1)::S) (putF d undef σ) β Γ R):J F C (.o p i::S) σ β Γ R:=by
 intro w hO hG
 obtain ⟨pos,after,j,hn,hj,hd⟩:=T8 ho
 obtain ⟨e1,e2⟩:=ACi (F:=F) hn
 intro a ha
 simp only [List.map_cons,e1]
 have hy:yielded (Ak (sub p F.B)).toArray a.tmps j=none:=by
  have ht:=ha.get _ _ hb
  rw [B8] at hj
  have hj':((Ak (sub p F.B)).toArray[j]?).bind (·.dst)=some g:=by simpa using hj
  simp only [yielded,hj',Option.bind_some,ht]
  rfl
 refine ABH e2 (by simp [Region.wanted,hy]) ?_
 exact h w hO hG (a.put d undef) (ha.putF hd undef)
theorem B9 {β:List A4}:Ay β↔β.Pairwise (fun x y=>∀ b,x.1=some b→y.1≠some b):=by
 induction β with
 | nil=>simp [Ay]
 | cons x l ih=>rw [List.pairwise_cons,← ih];rfl
theorem AHP {β':List A4}(hp:β'.Perm β) (h:J F C S σ β' Γ R):J F C S σ β Γ R:=fun w hO hG =>
 h w ⟨hO.ext,fun x hx=>hO.new x (hp.subset hx),fun x hx=>hO.blk x (hp.subset hx),by
  rw [B9]
  exact (hp.pairwise_iff (fun {x y} hxy b hb e=>hxy b e hb)).2 (B9.1 hO.apart)⟩
  fun f hf=>f.stable (fun k hk=>⟨⟨hk.1,hk.2.1,fun x hx=>hk.2.2 x (hp.subset hx)⟩,rfl⟩) (hG f hf)
def Zo:List Bool→List A4→List A4
 | true::m,x::l=>x::Zo m l
 | false::m,_::l=>Zo m l
 | _,_=>[]
theorem Xo:∀ (m:List Bool) (l:List A4),(Zo m l).Sublist l
 | true::m,x::l=>(Xo m l).cons_cons x
 | false::m,x::l=>(Xo m l).cons x
 | [],l=>by simp [Zo]
 | true::_,[]=>by simp [Zo]
 | false::_,[]=>by simp [Zo]
theorem Kx {σ':Fr}{β':List A4}{Γ':List Fact}(m:List Bool) (l:List Nat) (hs:Fr.sub σ' σ) (hb:Zo m β=β') (hp:pick Γ l=some Γ') (h:J F C S σ' β' Γ' R):J F C S σ β Γ R:=by
 subst hb
 exact T1 hs (AII (Xo m β) (AGY l hp h))
inductive ResJ (P:Program) (σ:Fr) (β:List A4):List ResultVar→List Value→Prop
 | nil:ResJ P σ β [] []
 | tmp {t:Tmp}{v:Value}{l:List ResultVar}{vs:List Value}:Fr.get t σ=some v→ResJ P σ β l vs→ResJ P σ β (.tmp t::l) (v::vs)
 | agg {a:Tmp}{t:TypeId}{b m:Nat}{T:TypeId}{cs:List Value}{l:List ResultVar}{vs:List Value}(n:Nat) :
   Fr.get a σ=some (.pointer (some ⟨b,0,none⟩))→A5 β n=some (some b,T,cs)→Eb P t=some (true,m)→cs.length=m→ResJ P σ β l vs→ResJ P σ β (.cell a t::l) (.agg cs.toArray::vs)
 | one {a:Tmp}{t:TypeId}{b:Nat}{T:TypeId}{v:Value}{l:List ResultVar}{vs:List Value}(n:Nat) :
   Fr.get a σ=some (.pointer (some ⟨b,0,none⟩))→A5 β n=some (some b,T,[v])→Eb P t=some (false,1)→ResJ P σ β l vs→ResJ P σ β (.cell a t::l) (v::vs)
theorem ResJ.all {n:Nat}{D:List Deferred}{a:Act}{w:World}(ha:Fits n D σ a) (hO:∀ x∈β,∀ b,x.1=some b→w.heap[b]?=some (.cells x.2.2.toArray x.2.1 (0,0))):∀ {l:List ResultVar}{vs:List Value},ResJ P σ β l vs→ResAll P w a.tmps l vs:=by
 intro l vs h
 induction h with
 | nil=>exact .nil
 | tmp h1 _ ih=>exact .cons (by simp [Up,ha.get _ _ h1]) ih
 | @agg a' t b m T cs l vs k h1 h2 h3 h4 _ ih =>
  refine .cons ?_ ih
  have hb:=hO _ (B7 h2) b rfl
  have hl:(Instr.loadAt t (.pointer (some ⟨b,0,none⟩))).run P w = .ok (.agg cs.toArray) w :=
   U7 h3 h4 (Fv.rangeAt (n:=m) ⟨cs.toArray,T,(0,0),hb,by simp [← h4],h4⟩)
  simp only [Instr.loadAt,Instr.sureAddr,Sem.run_bind,Sem.run_pure,Result.andThen_ok] at hl
  simp [Up,ha.get _ _ h1,asAddr,Sem.run_bind,hl]
 | @one a' t b T v l vs k h1 h2 h3 _ ih =>
  refine .cons ?_ ih
  have hl:(Instr.loadAt t (.pointer (some ⟨b,0,none⟩))).run P w = .ok v w :=
   V2 h3 (by simp [World.cell?,hO _ (B7 h2) b rfl])
  simp only [Instr.loadAt,Instr.sureAddr,Sem.run_bind,Sem.run_pure,Result.andThen_ok] at hl
  simp [Up,ha.get _ _ h1,asAddr,Sem.run_bind,hl]
theorem Bj {vs:List Value}{Q:Value→List Fact→List A4→Prop}{Φ:List Fact}(l:List Nat) (hp:L6 F.B p=true) (hr:ResJ P σ β F.fn.results.toList vs) (hl:pick Γ l=some Φ)
  (h:Q (Hg vs) Φ []) (hk:F.rnd=none:=by rfl):J F C (.c p::S) σ β Γ (Fg C Q) :=
 fun _ hO hG=>Uh (hk:=hk) hp (fun _ ha w5 hs=>hr.all ha fun x hx b hb=>hs _ _ _ _ (hO.blk x hx b hb)) ⟨Φ,[],h,⟨hO.ext,fun x hx=>(by cases hx),fun x hx=>(by cases hx),trivial⟩,fun f hf=>Ey (hG f (Ee hl f hf))⟩
theorem Ys {f:FuncId}{xs:List Operand}{ts:Array TypeId}{args:List Value}{Γ':List Fact}{blk:A4}{Q:Value→List Fact→List A4→Prop}(n:Nat) (l:List Nat) (hn:A5 β n=some blk)
  (hx:Yv σ xs=some args) (hc:Bt P f args [blk] Γ' Q) (hp:pick Γ l=some Γ')
  (h:∀ v Φ β',Q v Φ β'→K v (β'++β.eraseIdx n) (Φ++Γ)):Fb P C (.call { callee:=.value (.func f),args:=xs.toArray,argTypes:=ts }) ty σ β Γ K:=by
 intro w hO hG
 have hsub:(β.eraseIdx n).Sublist β:=List.eraseIdx_sublist _ _
 have hOe:Own C w (β.eraseIdx n):=hO.sub hsub
 have hin:∀ k,Wm [blk] k→blk.1=some k:=fun k ⟨x,hx,e⟩=>by
  obtain rfl:=List.mem_singleton.1 hx
  exact e
 have hcall:=hc.2 w (ok C w β) (fun k hk=>hk.2.1) (fun x hx b hb=>by obtain rfl:=List.mem_singleton.1 hx;exact hO.blk _ (B7 hn) b hb)
  ⟨fun y hy=>(by cases hy),trivial⟩ (fun g hg=>g.stable (fun k hk=>⟨⟨hk,fun hi=>hk.2.2 _ (B7 hn) (hin k hi)⟩,rfl⟩) (hG g (Ee hp g hg)))
 refine (Yw hc.1 hx hcall).mono ?_
 rintro v w' ⟨Φ,β',hQ,hO',hΦ⟩
 have hkeep:∀ k,k<w.heap.size→blk.1≠some k→w'.heap[k]?=w.heap[k]?:=fun k hk hne=>hO'.ext.block k hk (fun hi=>hne (hin k hi))
 have hnb:∀ x∈β.eraseIdx n,∀ b,x.1=some b→blk.1≠some b:=by
  intro x hx b hb e
  obtain ⟨bb,T,cs⟩:=blk
  have e':bb=some b:=e
  subst e'
  exact Jq hO.apart hn x hx hb
 have hnew:∀ x∈β',∀ b,x.1=some b→w.heap.size≤b∨blk.1=some b:=fun x hx b hb=>by
  rcases hO'.new x hx b hb with h|h
  ·exact .inl h
  ·exact .inr (hin b h)
 refine ⟨_,_,h v Φ β' hQ,⟨⟨hO'.ext.os.trans hO.ext.os,hO'.ext.tape.trans hO.ext.tape,hO'.ext.output.trans hO.ext.output,Nat.le_trans hO.ext.size hO'.ext.size,fun k hk hm=>?_⟩,?_,?_,?_⟩,?_⟩
 ·rw [hkeep k (Nat.lt_of_lt_of_le hk hO.ext.size) (fun e=>?_)]
  ·exact hO.ext.block k hk hm
  ·rcases hO.new _ (B7 hn) k e with h|h
   ·omega
   ·exact hm h
 ·intro x hm b hb
  rcases List.mem_append.1 hm with hm|hm
  ·rcases hnew x hm b hb with h|h
   ·exact .inl (Nat.le_trans hO.ext.size h)
   ·exact hO.new _ (B7 hn) b h
  ·exact hOe.new x hm b hb
 ·intro x hm b hb
  rcases List.mem_append.1 hm with hm|hm
  ·exact hO'.blk x hm b hb
  ·rw [hkeep b (hOe.lt hm hb) (hnb x hm b hb)]
   exact hOe.blk x hm b hb
 ·refine hO'.apart.append hOe.apart fun x hx y hy b hb e=>?_
  rcases hnew x hx b hb with h1|h1
  ·have h2:=hOe.lt hy e
   omega
  ·exact hnb y hy b e h1
 ·intro g hg
  rcases List.mem_append.1 hg with hg|hg
  ·refine g.stable (fun k hk=>⟨⟨?_,hk.2.1,fun x hx=>?_⟩,rfl⟩) (hΦ g hg)
   ·rcases hk.1 with h1|h1|h1
    ·exact h1.1
    ·have:=hin k h1
     rcases hO.new _ (B7 hn) k this with h|h
     ·exact .inr (.inr h)
     ·exact .inr (.inl h)
    ·exact .inr (.inr (Nat.le_trans hO.ext.size h1))
   ·rcases List.mem_append.1 hx with hx|hx
    ·exact hk.2.2 x hx
    ·intro e
     rcases hk.1 with h1|h1|h1
     ·exact h1.2.2 x (hsub.subset hx) e
     ·exact hnb x hx k e (hin k h1)
     ·have h2:=hOe.lt hx e
      have h1':w.heap.size≤k:=h1
      omega
  ·refine g.stable (fun k hk=>⟨⟨hk.1,Nat.lt_of_lt_of_le hk.2.1 hO'.ext.size,fun x hx=>?_⟩,hkeep k hk.2.1 (fun e=>hk.2.2 _ (B7 hn) e)⟩) (hG g hg)
   rcases List.mem_append.1 hx with hx|hx
   ·intro e
    rcases hnew x hx k e with h1|h1
    ·have:=hk.2.1
     omega
    ·exact hk.2.2 _ (B7 hn) h1
   ·exact hk.2.2 x (hsub.subset hx)
theorem A1 {t:TypeId}{x:Operand}{b m:Nat}{T:TypeId}{cs:List Value}(n:Nat) (hx:ev σ x=some (.pointer (some ⟨b,0,none⟩))) (hn:A5 β n=some (some b,T,cs))
  (hT:Eb P t=some (true,m)) (hl:cs.length=m) (h:K (.agg cs.toArray) β Γ):Fb P C (.load t x) ty σ β Γ K :=
 S2 n hx hn hT (by simp [← hl]) hl h
theorem Cy {t:TypeId}{x:Operand}{b m:Nat}{T:TypeId}{cs:List Value}(n:Nat) (hx:ev σ x=some (.pointer (some ⟨b,0,none⟩))) (hn:A5 β n=some (some b,T,cs))
  (hT:Eb P t=some (true,m)) (hl:cs.length=m):JD P (.load t x) ty σ β Γ (fun _=>.agg cs.toArray) (fun _=>[]) :=
 Ji n hx hn hT (by simp [← hl]) hl
theorem A8 {t:TypeId}{x y:Operand}{b m:Nat}{T:TypeId}{cs vs:List Value}(n:Nat) (hx:ev σ x=some (.pointer (some ⟨b,0,none⟩))) (hy:ev σ y=some (.agg vs.toArray)) (hn:A5 β n=some (some b,T,cs))
  (hT:Eb P t=some (true,m)) (hl:vs.length=m) (hc:cs.length=m) (h1:∀ u∈vs,u.oneCell'=true) (h:K undef (setB β n vs) Γ) :
  Fb P C (.store t x y) ty σ β Γ K :=
 AFB n hx hy hn (vs:=vs) rfl (by rw [hl];exact hT) h1 (by omega) (by simp [De,hl,hc]) h
theorem Cv {T:TypeId}{x:Operand}{cs:List Value}(hx:ev σ x=some (.agg cs.toArray)) (h:∀ b,K (.pointer (some ⟨b,0,none⟩)) ((some b,T,cs)::β) Γ):Fb P C (.box T x) ty σ β Γ K :=
 AJO hx rfl h
theorem Pe {T:TypeId}{x:Operand}{v:Value}(hx:ev σ x=some v) (hc:Cf v=[v]) (h:∀ b,K (.pointer (some ⟨b,0,none⟩)) ((some b,T,[v])::β) Γ):Fb P C (.box T x) ty σ β Γ K :=
 AJO hx hc h
theorem AKo {it:List (TypeId×IntKind)}(hit:Bw P it) {q q':Prop} [Decidable q] (h:pev it σ op=some (.bool (decide q),q')) (hq':q') (hq:q) (hK:K (.bool true) β Γ):Fb P C op ty σ β Γ K :=
 Fa (fun w=>by
  have:=Ff (P:=P) hit (ty:=ty) h hq' w
  rwa [decide_eq_true hq] at this) hK
theorem AJE {it:List (TypeId×IntKind)}(hit:Bw P it) {q q':Prop} [Decidable q] (h:pev it σ op=some (.bool (decide q),q')) (hq':q') (hq:¬ q) (hK:K (.bool false) β Γ):Fb P C op ty σ β Γ K :=
 Fa (fun w=>by
  have:=Ff (P:=P) hit (ty:=ty) h hq' w
  rwa [decide_eq_false hq] at this) hK
end
section
variable {P:Program}{F:Fun P}{C:Cx}{S:List It}{σ:Fr}{β:List A4}{Γ:List Fact}{R:Value→World→Prop}
theorem Cb {α:Type}{E:Enc α}{e:TypeId}{b n:Nat}{cs:List Value}(vss:List (List Value)) (ls:List α) (k:Nat) (hall:∀ w A,(∀ g∈Γ,g.holds w A)→G2 E vss ls w A)
  (hn:A5 β k=some (some b,e,cs)) (hc:vss.flatten=cs) (hl:n=ls.length) (hcs:cs.length=n*E.size) (hby:n*E.bytes≤140737488355328) (h63:n≤9223372036854775807)
  (h:J F C S σ (β.eraseIdx k) (Ap E (some ⟨b,0,none⟩) n n ls::Γ) R):J F C S σ β Γ R :=
 Eh (Nl E vss ls) hall
  (AIc (bo:=some b) (cap:=n) k 0 hn rfl (.inr ⟨b,rfl,Nat.le_refl _,h63,hcs⟩) (by rw [hc,← hcs,List.take_length]) hl hby (Wu (fun f hf=>by
   rcases List.mem_cons.1 hf with rfl|hf
   ·exact .head _
   ·exact .tail _ (.tail _ hf)) h))
end
section
variable {P:Program}{F:Fun P}{C:Cx}{S:List It}{R:Value→World→Prop}{β:List A4}{Γ:List Fact}{it:List (TypeId×IntKind)}{L:List Oper}{pos:List Po}{pt:List (List Nat)}{p:List Nat}{σ κ:Fr}{fs:List (Nat×Fact)}{al:List A4}{pb:Pb}{i:Nat}{op:Op}{ty:TypeId}{d:Option Tmp}
theorem ACc {α:Type}{E:Enc α}{e:TypeId}{b n:Nat}{cs:List Value}(vss:List (List Value)) (ls:List α) (hall:∀ w A,(∀ g∈Γ,g.holds w A)→G2 E vss ls w A) (hc:vss.flatten=cs) (hl:n=ls.length) (hcs:cs.length=n*E.size) (hby:n*E.bytes≤140737488355328) :
  DK (AD4 n) (AD9 E n ls) (.slice (some ⟨b,0,none⟩) n n) [(some b,e,cs)] Γ:=fun C w hO hG=>by
 refine ⟨fun _=>(some ⟨b,0,none⟩,n,0,[]),rfl,Y3 ⟨hl,?_⟩⟩
 have hall:=hall _ _ hG
 have hb:=hO.blk _ (.head _) b rfl
 have hnew:=hO.new _ (.head _) b rfl
 have hlt:=hO.lt (.head _) rfl
 refine ⟨by show ls.length≤n;omega,by rw [← hl];exact hby,.inr ⟨b,0,rfl,⟨by rcases hnew with h|h;exact .inr (.inr h);exact .inr (.inl h),hlt,fun x hx=>by cases hx⟩,fun i x hi=>?_⟩⟩
 have hlti:i<ls.length:=(List.getElem?_eq_some_iff.1 hi).1
 obtain ⟨vs,hvs⟩:∃ vs,vss[i]?=some vs:=⟨vss[i]'(hall.1.symm▸hlti),by simp⟩
 have hpart:=Hi (Gb hall) i vs hvs
 have hrd:=hall.2 i vs x hvs hi
 refine ⟨vs,⟨cs.toArray,e,(0,0),hb,?_,E.len hrd⟩,E.stable (fun _ hk=>⟨⟨hk.1,hk.2.1,fun x hx=>by cases hx⟩,rfl⟩) hrd⟩
 rw [← hpart,← hc,Nat.zero_add]
end
open Go.RowKit (Below)
set_option linter.unusedVariables false
structure Row where
 bo:Option Nat
 cap:Nat
 cs:List Value
def A7 {α:Type}(E:Enc α) (r:Row) (n:Nat) (l:List α):Fact where
 holds:=fun w A=>n=l.length∧Ml r.bo n r.cap E.size r.cs∧∃ vss,G2 E vss l w A∧r.cs.take (n*E.size)=vss.flatten
 stable:=fun h ⟨h1,h2,vss,h3,h4⟩=>⟨h1,h2,vss,(Nl E vss _).stable h h3,h4⟩
theorem AGr {α:Type}{E:Enc α}{w:World}{A:Nat→Prop}{vss:List (List Value)}{l:List α}{vs:List Value}{x:α}(h:G2 E vss l w A) (hx:E.rd w A vs x):G2 E (vss++[vs]) (l++[x]) w A:=by
 refine ⟨by simp [h.1],fun i us y hu hy=>?_⟩
 by_cases hi:i<l.length
 ·rw [List.getElem?_append_left (by rw [h.1];exact hi)] at hu
  rw [List.getElem?_append_left hi] at hy
  exact h.2 i us y hu hy
 ·have hi2:i<(l++[x]).length:=(List.getElem?_eq_some_iff.1 hy).1
  have e:i=l.length:=by simp at hi2;omega
  subst e
  rw [List.getElem?_append_right (by rw [h.1];omega),h.1,Nat.sub_self] at hu
  rw [List.getElem?_append_right (by omega),Nat.sub_self] at hy
  simp at hu hy
  subst hu;subst hy
  exact hx
theorem Xk {α:Type}{E:Enc α}{w:World}{A:Nat→Prop}{vss vss':List (List Value)}{l l':List α}(h:G2 E vss l w A) (h':G2 E vss' l' w A):G2 E (vss++vss') (l++l') w A:=by
 refine ⟨by simp [h.1,h'.1],fun i us y hu hy=>?_⟩
 by_cases hi:i<l.length
 ·rw [List.getElem?_append_left (by rw [h.1];exact hi)] at hu
  rw [List.getElem?_append_left hi] at hy
  exact h.2 i us y hu hy
 ·rw [List.getElem?_append_right (by rw [h.1];omega),h.1] at hu
  rw [List.getElem?_append_right (by omega)] at hy
  exact h'.2 _ us y hu hy
theorem AF5 {α:Type}{E:Enc α}{w:World}{A:Nat→Prop}{vss:List (List Value)}{l:List α}{vs:List Value}{x:α}(h:G2 E vss l w A) (hx:E.rd w A vs x) (i:Nat):G2 E (vss.set i vs) (l.set i x) w A:=by
 refine ⟨by simp [h.1],fun j us y hu hy=>?_⟩
 by_cases hj:i=j
 ·subst hj
  have h1:i<l.length:=by
   have:=(List.getElem?_eq_some_iff.1 hy).1
   simpa using this
  rw [List.getElem?_set_self (by rw [h.1];exact h1)] at hu
  rw [List.getElem?_set_self h1] at hy
  obtain rfl:=Option.some.inj hu
  obtain rfl:=Option.some.inj hy
  exact hx
 ·rw [List.getElem?_set_ne hj] at hu hy
  exact h.2 j us y hu hy
theorem AFV {α:Type}{E:Enc α}{w:World}{A:Nat→Prop}{vs:List Value}{x:α}(hx:E.rd w A vs x) (n:Nat):G2 E (List.replicate n vs) (List.replicate n x) w A:=by
 refine ⟨by simp,fun i us y hu hy=>?_⟩
 rw [List.getElem?_replicate] at hu hy
 split at hu
 ·obtain rfl:=Option.some.inj hu
  rw [if_pos (by assumption)] at hy
  obtain rfl:=Option.some.inj hy
  exact hx
 ·cases hu
theorem AAS {m:Nat}:∀ {vss:List (List Value)}{cs:List Value}{n i:Nat}{vs:List Value},(∀ v∈vss,v.length=m)→vss.length=n→cs.take (n*m)=vss.flatten→i<n→vs.length=m→(De cs (i*m) vs).take (n*m)=(vss.set i vs).flatten:=by
 intro vss
 induction vss with
 | nil=>intro cs n i vs _ h1 _ h2 _;simp at h1;omega
 | cons v vss ih =>
  intro cs n i vs hm hl ht hi hv
  obtain ⟨n,rfl⟩:∃ k,n=k+1:=⟨n-1,by simp at hl;omega⟩
  have hvl:v.length=m:=hm v (.head _)
  have hlen:(n+1)*m≤cs.length:=by
   have:=congrArg List.length ht
   rw [Gf hm,List.length_take,hl] at this
   omega
  rw [Nat.succ_mul] at hlen
  have hcs:cs=v++cs.drop m:=by
   have h1:(cs.take ((n+1)*m)).take m=v:=by rw [ht,List.flatten_cons,List.take_append_of_le_length (by omega),List.take_of_length_le (by omega)]
   rw [List.take_take,Nat.min_eq_left (by rw [Nat.succ_mul];omega)] at h1
   conv=>lhs;rw [← List.take_append_drop m cs,h1]
  have ht':(cs.drop m).take (n*m)=vss.flatten:=by
   have h1:(cs.take ((n+1)*m)).drop m=vss.flatten:=by rw [ht,List.flatten_cons,List.drop_append_of_le_length (by omega),List.drop_of_length_le (by omega),List.nil_append]
   rw [List.drop_take] at h1
   have e:(n+1)*m-m=n*m:=by rw [Nat.succ_mul];omega
   rw [e] at h1;exact h1
  cases i with
  | zero =>
   have hsp:De cs (0*m) vs=vs++cs.drop m:=by simp [De,hv]
   rw [hsp,List.set_cons_zero,List.flatten_cons,← ht',Nat.succ_mul,Nat.add_comm (n*m) m,← hv,List.take_length_add_append]
  | succ i =>
   have hsp:De cs ((i+1)*m) vs=v++De (cs.drop m) (i*m) vs:=by
    simp only [De]
    conv=>lhs;rw [hcs]
    rw [Nat.succ_mul,Nat.add_comm (i*m) m,← hvl,List.take_length_add_append]
    rw [List.append_assoc,List.append_assoc,List.append_assoc,Nat.add_assoc v.length,List.drop_length_add_append]
   have:=ih (cs:=cs.drop m) (n:=n) (i:=i) (vs:=vs) (fun u hu=>hm u (.tail _ hu)) (by simpa using hl) ht' (by omega) hv
   rw [hsp,List.set_cons_succ,List.flatten_cons,← this,Nat.succ_mul,Nat.add_comm (n*m) m,← hvl,List.take_length_add_append]
theorem AEi {cs vs:List Value}{o:Nat}(h:o+vs.length≤cs.length):(De cs o vs).length=cs.length:=by
 simp only [De,List.length_append,List.length_take,List.length_drop];omega
structure Vw {α:Type}(E:Enc α) where
 val:α→Gh→List Value
 fs:α→Gh→List Fact
 ok:∀ {w:World}{A:Nat→Prop}{vs:List Value}{z:α},E.rd w A vs z→∃ g,vs=val z g∧∀ φ∈fs z g,φ.holds w A
abbrev AMW:Enc (Bool×List Nat):=Fh ABz AMO 32
abbrev ABK:Vw AMW where
 val:=fun z g=>[.bool z.1,.slice (g 0).1 z.2.length (g 0).2.1]
 fs:=fun z g=>[Ap U32 (g 0).1 z.2.length (g 0).2.1 z.2]
 ok:=fun h=>by
  obtain ⟨v1,v2,rfl,h1,pn,cn,rfl,h2⟩:=h
  have:v1=[.bool _]:=h1
  subst this
  refine ⟨fun _=>(pn,cn,0,[]),rfl,fun φ hφ=>?_⟩
  obtain rfl:=List.mem_singleton.1 hφ
  exact ⟨rfl,h2⟩
abbrev AMi:Enc (List (List Int)):=Aj (Aj Ai)
abbrev AA4:Enc (Int×List (List Int)):=Fh Ai AMi 32
abbrev ACj:Vw AA4 where
 val:=fun z g=>[.int .i64 z.1,.slice (g 0).1 z.2.length (g 0).2.1]
 fs:=fun z g=>[Ap (Aj Ai) (g 0).1 z.2.length (g 0).2.1 z.2]
 ok:=fun h=>by
  obtain ⟨v1,v2,rfl,⟨h1,_⟩,pn,cn,rfl,h2⟩:=h
  subst h1
  refine ⟨fun _=>(pn,cn,0,[]),rfl,fun φ hφ=>?_⟩
  obtain rfl:=List.mem_singleton.1 hφ
  exact ⟨rfl,h2⟩
abbrev ALL:Enc (Int×Int):=Fh Ai Ai 16
abbrev AGB:Vw ALL where
 val:=fun z g=>[.int .i64 z.1,.int .i64 z.2]
 fs:=fun z g=>[]
 ok:=fun h=>by
  obtain ⟨v1,v2,rfl,⟨h1,_⟩,h2,_⟩:=h
  subst h1;subst h2
  exact ⟨fun _=>(none,0,0,[]),rfl,fun φ hφ=>by cases hφ⟩
abbrev AMN:Enc (Int×Bool×List Int):=Fh Ai (Fh ABz (Aj Ai) 32) 40
abbrev AI9:Vw AMN where
 val:=fun z g=>[.int .i64 z.1,.bool z.2.1,.slice (g 0).1 z.2.2.length (g 0).2.1]
 fs:=fun z g=>[Ap Ai (g 0).1 z.2.2.length (g 0).2.1 z.2.2]
 ok:=fun h=>by
  obtain ⟨v1,v2,rfl,⟨h1,_⟩,v3,v4,rfl,h2,pn,cn,rfl,h3⟩:=h
  have:v3=[.bool _]:=h2
  subst h1;subst this
  refine ⟨fun _=>(pn,cn,0,[]),rfl,fun φ hφ=>?_⟩
  obtain rfl:=List.mem_singleton.1 hφ
  exact ⟨rfl,h3⟩
def Lr:List A4→List Nat→Option (List A4)
 | _,[]=>some []
 | β,n::l=>match A5 β n,Lr β l with
  | some x,some xs=>some (x::xs)
  | _,_=>none
def Px:List Nat→Bool
 | []=>true
 | n::l=>!(Bc n l) && Px l
theorem S8 {β:List A4}:∀ {ix:List Nat}{β':List A4},Lr β ix=some β'→∀ y∈β',∃ n∈ix,A5 β n=some y:=by
 intro ix
 induction ix with
 | nil=>intro β' h y hy;simp [Lr] at h;subst h;cases hy
 | cons n l ih =>
  intro β' h y hy
  simp only [Lr] at h
  cases h1:A5 β n with
  | none=>rw [h1] at h;simp at h
  | some x =>
   cases h2:Lr β l with
   | none=>rw [h1,h2] at h;simp at h
   | some xs =>
    rw [h1,h2] at h
    obtain rfl:x::xs=β':=by simpa using h
    rcases List.mem_cons.1 hy with rfl|hy
    ·exact ⟨n,.head _,h1⟩
    ·obtain ⟨m,hm,h3⟩:=ih h2 y hy
     exact ⟨m,.tail _ hm,h3⟩
theorem ABL {β:List A4}(h:Ay β) {i j:Nat}{x y:A4}(hi:A5 β i=some x) (hj:A5 β j=some y) (hij:i≠j):∀ b,x.1=some b→y.1≠some b:=by
 rw [B8] at hi hj
 have hp:=List.pairwise_iff_getElem.1 (B9.1 h)
 obtain ⟨h1,rfl⟩:=List.getElem?_eq_some_iff.1 hi
 obtain ⟨h2,rfl⟩:=List.getElem?_eq_some_iff.1 hj
 rcases Nat.lt_or_gt_of_ne hij with hl|hl
 ·exact hp i j h1 h2 hl
 ·intro b hb hb2
  exact hp j i h2 h1 hl b hb2 hb
theorem Lu {β:List A4}(h:Ay β):∀ {ix:List Nat}{β':List A4},Lr β ix=some β'→Px ix=true→Ay β':=by
 intro ix
 induction ix with
 | nil=>intro β' hp _;simp [Lr] at hp;subst hp;exact trivial
 | cons n l ih =>
  intro β' hp hf
  simp only [Lr] at hp
  simp only [Px,Bool.and_eq_true,Bool.not_eq_true'] at hf
  cases h1:A5 β n with
  | none=>rw [h1] at hp;simp at hp
  | some x =>
   cases h2:Lr β l with
   | none=>rw [h1,h2] at hp;simp at hp
   | some xs =>
    rw [h1,h2] at hp
    obtain rfl:x::xs=β':=by simpa using hp
    refine ⟨fun y hy=>?_,ih h2 hf.2⟩
    obtain ⟨m,hm,h3⟩:=S8 h2 y hy
    refine ABL h h1 h3 fun e=>?_
    subst e
    have:=C6.2 hm
    rw [hf.1] at this
    cases this
theorem M9 {α γ:Type}{E:Enc α}{G:Enc γ}{n:Nat}{w:World}{A:Nat→Prop}{v1 v2:List Value}{x:α}{y:γ}(h1:E.rd w A v1 x) (h2:G.rd w A v2 y):(Fh E G n).rd w A (v1++v2) (x,y):=⟨v1,v2,rfl,h1,h2⟩
theorem Dq {k:IntKind}{by':Nat}{w:World}{A:Nat→Prop}{n:Int}(h:Bv k n):(Dy k by').rd w A [.int k n] n:=⟨rfl,h⟩
section
variable {P:Program}{F:Fun P}{C:Cx}{S:List It}{σ:Fr}{β:List A4}{Γ:List Fact}{R:Value→World→Prop}{p:List Nat}{i:Nat}{d:Option Tmp}{op:Op}{ty:TypeId}{K:Value→List A4→List Fact→Prop}
theorem Py {β':List A4}(ix:List Nat) (hf:Px ix=true) (hp:Lr β ix=some β') (h:J F C S σ β' Γ R):J F C S σ β Γ R:=fun w hO hG=>by
 have hsub:∀ y∈β',y∈β:=fun y hy=>by
  obtain ⟨n,_,hn⟩:=S8 hp y hy
  exact B7 hn
 refine h w ⟨hO.ext,fun x hx=>hO.new x (hsub x hx),fun x hx=>hO.blk x (hsub x hx),Lu hO.apart hp hf⟩ fun f hf=>?_
 exact f.stable (fun k hk=>⟨⟨hk.1,hk.2.1,fun x hx=>hk.2.2 x (hsub x hx)⟩,rfl⟩) (hG f hf)
theorem AMl {σ':Fr}{β':List A4}{Γ':List Fact}(ix l:List Nat) (hs:Fr.sub σ' σ) (hf:Px ix=true) (hb:Lr β ix=some β') (hp:pick Γ l=some Γ') (h:J F C S σ' β' Γ' R):J F C S σ β Γ R :=
 Py ix hf hb (ALz l hs rfl hp h)
theorem Kc {it:List (TypeId×IntKind)}(hit:Bw P it) {v:Value}{q':Prop}(h:pev it σ op=some (v,q')) (hq':q') (hK:K v β Γ):Fb P C op ty σ β Γ K :=
 Fa (fun w=>Ff hit h hq' w) hK
theorem ADl {it:List (TypeId×IntKind)}(hit:Bw P it) {k:IntKind}{m:Int}{q':Prop}(n:Int) (h:pev it σ op=some (.int k m,q')) (hq':q') (e:m=n) (hK:K (.int k n) β Γ):Fb P C op ty σ β Γ K :=
 Fa (fun w=>by rw [← e];exact Ff hit h hq' w) hK
theorem F3 {α:Type}(E:Enc α) (e:TypeId) (h:J F C S σ ((none,e,[])::β) (A7 E ⟨none,0,[]⟩ 0 []::Γ) R):J F C S σ β Γ R :=
 ALA e (Eh (A7 E ⟨none,0,[]⟩ 0 []) (fun w A _=>⟨rfl,Ml.nil _,[],Bd,by simp⟩) h)
theorem Ly {α:Type}{E:Enc α}{e:TypeId}{b n:Nat}{cs:List Value}(vss:List (List Value)) (ls:List α) (k:Nat) (hall:∀ w A,(∀ g∈Γ,g.holds w A)→G2 E vss ls w A)
  (hn:A5 β k=some (some b,e,cs)) (hc:vss.flatten=cs) (hl:n=ls.length) (hcs:cs.length=n*E.size) (h63:n≤9223372036854775807)
  (h:J F C S σ β (A7 E ⟨some b,n,cs⟩ n ls::Γ) R):J F C S σ β Γ R :=
 Eh (A7 E ⟨some b,n,cs⟩ n ls) (fun w A hG=>⟨hl,.inr ⟨b,rfl,Nat.le_refl _,h63,hcs⟩,vss,hall w A hG,by show cs.take _=_;rw [← hcs,List.take_length,hc]⟩) h
theorem AGN {α:Type}{E:Enc α}{r:Row}{n:Nat}{l:List α}(j:Nat) (hj:A5 Γ j=some (A7 E r n l)) (h:n=l.length→J F C S σ β Γ R):J F C S σ β Γ R :=
 AAk (fun w A hG=>(hG _ (Af hj)).1) h
theorem Dt {α:Type}{E:Enc α}{r:Row}{n:Nat}{l:List α}(j:Nat) (hj:A5 Γ j=some (A7 E r n l)) (h0:0<n) (h:∀ b cap cs,r=⟨some b,cap,cs⟩→J F C S σ β Γ R):J F C S σ β Γ R :=
 AAk (q:=∃ b,r.bo=some b) (fun w A hG=>by
  obtain ⟨_,hg,_⟩:=hG _ (Af hj)
  rcases hg with ⟨_,h1,_⟩|⟨b,hb,_⟩
  ·omega
  ·exact ⟨b,hb⟩) fun ⟨b,hb⟩=>by
   obtain ⟨bo,cap,cs⟩:=r
   have hb:bo=some b:=hb
   subst hb
   exact h b cap cs rfl
theorem D2 {α:Type}{E:Enc α}{e:TypeId}{r:Row}{n:Nat}{l:List α}(k j:Nat) (hn:A5 β k=some (r.bo,e,r.cs)) (hj:A5 Γ j=some (A7 E r n l)) (hby:n*E.bytes≤140737488355328)
  (h:J F C S σ (β.eraseIdx k) (Ap E (ad r.bo) n r.cap l::Γ) R):J F C S σ β Γ R:=fun w hO hG=>by
 obtain ⟨hl,hg,vss,hall,ht⟩:=hG _ (Af hj)
 have hG':∀ f∈Nl E vss l::Γ,f.holds w (ok C w β):=fun f hf=>by
  rcases List.mem_cons.1 hf with rfl|hf
  ·exact hall
  ·exact hG f hf
 exact AIc (Γ:=Nl E vss l::Γ) k 0 hn rfl hg ht hl hby (Wu (fun f hf=>by
  rcases List.mem_cons.1 hf with rfl|hf
  ·exact .head _
  ·exact .tail _ (.tail _ hf)) h) w hO hG'
theorem C4 {α:Type}{E:Enc α}{e:TypeId}{b cap:Nat}{cs:List Value}{n:Nat}{l:List α}(k j:Nat) (hn:A5 β k=some (some b,e,cs)) (hj:A5 Γ j=some (A7 E ⟨some b,cap,cs⟩ n l)) (hby:n*E.bytes≤140737488355328)
  (h:J F C S σ (β.eraseIdx k) (Ap E (some ⟨b,0,none⟩) n cap l::Γ) R):J F C S σ β Γ R:=D2 (r:=⟨some b,cap,cs⟩) k j hn hj hby h
theorem AI1 {it:List (TypeId×IntKind)}(hit:Bw P it) {q q':Prop} [Decidable q] (h:pev it σ op=some (.bool (!decide q),q')) (hq':q') (hq:¬ q) (hK:K (.bool true) β Γ):Fb P C op ty σ β Γ K :=
 Fa (fun w=>by
  have:=Ff (P:=P) hit (ty:=ty) h hq' w
  rwa [decide_eq_false hq] at this) hK
theorem AG4 {it:List (TypeId×IntKind)}(hit:Bw P it) {q q':Prop} [Decidable q] (h:pev it σ op=some (.bool (!decide q),q')) (hq':q') (hq:q) (hK:K (.bool false) β Γ):Fb P C op ty σ β Γ K :=
 Fa (fun w=>by
  have:=Ff (P:=P) hit (ty:=ty) h hq' w
  rwa [decide_eq_true hq] at this) hK
theorem Ga {α:Type}{E:Enc α}{t e e2:TypeId}{x y:Operand}{r:Row}{n c b2:Nat}{cs2 zs:List Value}{l:List α}{z:α}(k j i:Nat)
  (hn:A5 β k=some (r.bo,e,r.cs)) (hi:A5 Γ i=some (A7 E r n l)) (hj:A5 β j=some (some b2,e2,cs2)) (hx:ev σ x=some (.slice (ad r.bo) n r.cap)) (hy:ev σ y=some (.slice (some ⟨b2,0,none⟩) 1 c))
  (hT:Ev P t=some (e,E.size)) (hz:Cr P e=some zs) (hzl:zs.length=E.size) (hrd:∀ w A,(∀ g∈Γ,g.holds w A)→E.rd w A cs2 z)
  (hmax:n+1≤9223372036854775807) (by':Nat) (hbe:P.bytesOf e=by') (hby:(n+1)*by'≤140737488355328)
  (h:∀ r':Row,K (.slice (ad r'.bo) (n+1) r'.cap) ((r'.bo,e,r'.cs)::β.eraseIdx k) (A7 E r' (n+1) (l++[z])::Γ)) :
  Fb P C (.call { callee:=.builtin .append,args:=#[x,y],argTypes:=#[t,t] }) ty σ β Γ K:=fun w hO hG=>by
 obtain ⟨hl,hg,vss,hall,ht⟩:=hG _ (Af hi)
 have hrd':=hrd w _ hG
 have hlen:=E.len hrd'
 have hG':∀ f∈Nl E (vss++[cs2]) (l++[z])::Γ,f.holds w (ok C w β):=fun f hf=>by
  rcases List.mem_cons.1 hf with rfl|hf
  ·exact AGr hall hrd'
  ·exact hG f hf
 refine (AMc (C:=C) (β:=β) (Γ:=Nl E (vss++[cs2]) (l++[z])::Γ) (K:=fun v β' Γ'=>∃ r':Row,v = .slice (ad r'.bo) (n+1) r'.cap∧β'=(r'.bo,e,r'.cs)::β.eraseIdx k∧Γ'=Nl E (vss++[cs2]) (l++[z])::Γ∧Ml r'.bo (n+1) r'.cap E.size r'.cs∧r'.cs.take ((n+1)*E.size)=(vss++[cs2]).flatten)
  k j hn hj hx hy hT hz hzl hg (news:=cs2) (by rw [Nat.one_mul,← hlen,List.take_length]) (by rw [Nat.one_mul,hlen]) (E.one hrd') hmax by' hbe hby (fun bo' cap' cs' h1 h2=>⟨⟨bo',cap',cs'⟩,rfl,rfl,rfl,h1,by show cs'.take _=_;rw [h2,ht];simp⟩) w hO hG').mono ?_
 rintro v w' ⟨β',Γ',⟨r',rfl,rfl,rfl,h1,h2⟩,hO',hG''⟩
 refine ⟨_,_,h r',hO',fun f hf=>?_⟩
 rcases List.mem_cons.1 hf with rfl|hf
 ·exact ⟨by simp [hl],h1,_,hG'' _ (.head _),h2⟩
 ·exact hG'' f (.tail _ hf)
theorem Uv {α:Type}{E:Enc α}{t e:TypeId}{x y:Operand}{r:Row}{n m c:Nat}{pa:Option Addr}{zs:List Value}{l l2:List α}(k i j:Nat)
  (hn:A5 β k=some (r.bo,e,r.cs)) (hi:A5 Γ i=some (A7 E r n l)) (hj:A5 Γ j=some (Ap E pa m c l2)) (hx:ev σ x=some (.slice (ad r.bo) n r.cap)) (hy:ev σ y=some (.slice pa m c))
  (hT:Ev P t=some (e,E.size)) (hz:Cr P e=some zs) (hzl:zs.length=E.size)
  (hmax:n+m≤9223372036854775807) (by':Nat) (hbe:P.bytesOf e=by') (hby:(n+m)*by'≤140737488355328)
  (h:∀ r':Row,K (.slice (ad r'.bo) (n+m) r'.cap) ((r'.bo,e,r'.cs)::β.eraseIdx k) (A7 E r' (n+m) (l++l2)::Γ)) :
  Fb P C (.call { callee:=.builtin .append,args:=#[x,y],argTypes:=#[t,t] }) ty σ β Γ K:=fun w hO hG=>by
 obtain ⟨hl,hg,vss,hall,ht⟩:=hG _ (Af hi)
 obtain ⟨hl2,_⟩:=hG _ (Af hj)
 have hG':∀ f∈Nl E vss l::Γ,f.holds w (ok C w β):=fun f hf=>by
  rcases List.mem_cons.1 hf with rfl|hf
  ·exact hall
  ·exact hG f hf
 refine (AGP (C:=C) (β:=β) (Γ:=Nl E vss l::Γ) (K:=fun v β' Γ'=>∃ (r':Row) (vs2:List (List Value)),v = .slice (ad r'.bo) (n+m) r'.cap∧β'=(r'.bo,e,r'.cs)::β.eraseIdx k∧Γ'=Nl E vs2 l2::Nl E vss l::Γ∧Ml r'.bo (n+m) r'.cap E.size r'.cs∧r'.cs.take ((n+m)*E.size)=(vss++vs2).flatten)
  k (j+1) hn hj hx hy hT hz hzl hg hmax by' hbe hby (fun bo' cap' cs' vs2 h1 h2=>⟨⟨bo',cap',cs'⟩,vs2,rfl,rfl,rfl,h1,by show cs'.take _=_;rw [h2,ht];simp⟩) w hO hG').mono ?_
 rintro v w' ⟨β',Γ',⟨r',vs2,rfl,rfl,rfl,h1,h2⟩,hO',hG''⟩
 refine ⟨_,_,h r',hO',fun f hf=>?_⟩
 rcases List.mem_cons.1 hf with rfl|hf
 ·exact ⟨by simp [hl,hl2],h1,_,Xk (hG'' _ (.tail _ (.head _))) (hG'' _ (.head _)),h2⟩
 ·exact hG'' f (.tail _ (.tail _ hf))
theorem G7 {α:Type}{E:Enc α}{t e:TypeId}{x y:Operand}{b o n cap:Nat}{cs vs:List Value}{v:Value}{l:List α}{z:α}{fl:Bool}(k j i:Nat)
  (hx:ev σ x=some (.pointer (some ⟨b,o,none⟩))) (hy:ev σ y=some v) (hn:A5 β k=some (some b,e,cs)) (hj:A5 Γ j=some (A7 E ⟨some b,cap,cs⟩ n l)) (hv:Cf v=vs) (hT:Eb P t=some (fl,E.size))
  (ho:o=i*E.size) (hi:i<n) (hrd:∀ w A,(∀ g∈Γ,g.holds w A)→E.rd w A vs z)
  (h:∀ cs',K undef (setB β k cs') (A7 E ⟨some b,cap,cs'⟩ n (l.set i z)::Γ)):Fb P C (.store t x y) ty σ β Γ K:=fun w hO hG=>by
 subst ho
 obtain ⟨hl,hg,vss,hall,ht⟩:=hG _ (Af hj)
 have hrd':=hrd w _ hG
 have hlen:=E.len hrd'
 have ht:cs.take (n*E.size)=vss.flatten:=ht
 have hcl:=hg.len
 have hcl:n*E.size≤cs.length:=hcl
 have h5:(i+1)*E.size≤n*E.size:=Nat.mul_le_mul_right _ hi
 rw [Nat.succ_mul] at h5
 have hsp:i*E.size+vs.length≤cs.length:=by rw [hlen];omega
 have hG':∀ f∈Nl E (vss.set i vs) (l.set i z)::Γ,f.holds w (ok C w β):=fun f hf=>by
  rcases List.mem_cons.1 hf with rfl|hf
  ·exact AF5 hall hrd' i
  ·exact hG f hf
 refine (AFB (C:=C) (β:=β) (Γ:=Nl E (vss.set i vs) (l.set i z)::Γ) (K:=fun u β' Γ'=>u=undef∧β'=setB β k (De cs (i*E.size) vs)∧Γ'=Nl E (vss.set i vs) (l.set i z)::Γ) k hx hy hn hv (by rw [hlen];exact hT) (E.one hrd') hsp rfl ⟨rfl,rfl,rfl⟩ w hO hG').mono ?_
 rintro u w' ⟨β',Γ',⟨rfl,rfl,rfl⟩,hO',hG''⟩
 refine ⟨_,_,h _,hO',fun f hf=>?_⟩
 rcases List.mem_cons.1 hf with rfl|hf
 ·refine ⟨by simp [hl],?_,_,hG'' _ (.head _),?_⟩
  ·rcases hg with ⟨h1,_⟩|⟨b',h1,h2,h3,h4⟩
   ·cases h1
   ·exact .inr ⟨b',h1,h2,h3,by show (De cs _ vs).length=_;rw [AEi hsp];exact h4⟩
  ·show (De cs _ vs).take _=_
   exact AAS (Gb hall) (by rw [hall.1,hl]) ht hi hlen
 ·exact hG'' f (.tail _ hf)
theorem O4 {α:Type}{E:Enc α}{w:World}{A:Nat→Prop}{r:Row}{n:Nat}{l:List α}{i:Nat}(h:(A7 E r n l).holds w A) (hi:i<n):∃ z vs,l[i]?=some z∧(r.cs.drop (i*E.size)).take E.size=vs∧E.rd w A vs z:=by
 obtain ⟨hl,_,vss,hall,ht⟩:=h
 obtain ⟨z,hz⟩:∃ z,l[i]?=some z:=⟨l[i]'(hl▸hi),by simp⟩
 have hlt:i<vss.length:=by rw [hall.1];omega
 obtain ⟨vs,hvs⟩:∃ vs,vss[i]?=some vs:=⟨vss[i],by simp⟩
 have hpart:=Hi (Gb hall) i vs hvs
 refine ⟨z,vs,hz,?_,hall.2 i vs z hvs hz⟩
 rw [← hpart,← ht,List.drop_take,List.take_take]
 congr 1
 have h4:(i+1)*E.size≤n*E.size:=Nat.mul_le_mul_right _ hi
 rw [Nat.succ_mul] at h4
 omega
theorem J6 {γ:Type}{E':Enc γ}{t e:TypeId}{x:Operand}{b o n cap:Nat}{cs:List Value}{l:List (List γ)}(k j i:Nat)
  (hx:ev σ x=some (.pointer (some ⟨b,o,none⟩))) (hn:A5 β k=some (some b,e,cs)) (hj:A5 Γ j=some (A7 (Aj E') ⟨some b,cap,cs⟩ n l)) (hT:Eb P t=some (false,1)) (ho:o=i) (hi:i<n)
  (h:∀ z,l[i]?=some z→∀ pa ca,K (.slice pa z.length ca) β (Ap E' pa z.length ca z::Γ)):Fb P C (.load t x) ty σ β Γ K:=fun w hO hG=>by
 subst ho
 obtain ⟨z,vs,hz,hp,pa,ca,rfl,hrd⟩:=O4 (hG _ (Af hj)) hi
 have e1:(Aj E').size=1:=rfl
 rw [e1,Nat.mul_one] at hp
 have hc:cs[o]?=some (.slice pa z.length ca):=by
  have:=congrArg (·[0]?) hp
  simpa [List.getElem?_take,List.getElem?_drop] using this
 have hG':∀ f∈Ap E' pa z.length ca z::Γ,f.holds w (ok C w β):=fun f hf=>by
  rcases List.mem_cons.1 hf with rfl|hf
  ·exact ⟨rfl,hrd⟩
  ·exact hG f hf
 exact Bm (Γ:=Ap E' pa z.length ca z::Γ) k hx hn hT hc (h z hz pa ca) w hO hG'
theorem St {α:Type}{E:Enc α}(V:Vw E) {t:TypeId}{b o:Nat}{z:α}{x:Operand}(n:Nat) (hx:ev σ x=some (.pointer (some ⟨b,o,none⟩)))
  (hn:A5 Γ n=some (ptF E b o z)) (hT:Eb P t=some (true,E.size)) (h:∀ g,K (.agg (V.val z g).toArray) β (V.fs z g++Γ)):Fb P C (.load t x) ty σ β Γ K:=fun w hO hG=>by
 obtain ⟨hb,vs,h1,hs⟩:=hG _ (Af hn)
 obtain ⟨g,rfl,hfs⟩:=V.ok hs
 exact Jp.done (Gw hT (E.len hs) hx h1.rangeAt) (h g) hO fun f hf=>by
  rcases List.mem_append.1 hf with hf|hf
  ·exact hfs f hf
  ·exact hG f hf
theorem AJU {α:Type}{E:Enc α}(V:Vw E) {z:α}{g:Gh}:DK (fun g=>.agg (V.val z g).toArray) (V.fs z) (.agg (V.val z g).toArray) β (V.fs z g++Γ) :=
 fun _ _ _ hG=>⟨g,rfl,fun φ hφ=>Ey (hG φ (List.mem_append_left _ hφ))⟩
theorem Sm {γ:Type}{E':Enc γ}{t e:TypeId}{x:Operand}{b o n cap:Nat}{cs:List Value}{l:List (List γ)}{z:List γ}(k j i:Nat)
  (hx:ev σ x=some (.pointer (some ⟨b,o,none⟩))) (hn:A5 β k=some (some b,e,cs)) (hj:A5 Γ j=some (A7 (Aj E') ⟨some b,cap,cs⟩ n l)) (hT:Eb P t=some (false,1)) (ho:o=i) (hz:l[i]?=some z) :
  JD P (.load t x) ty σ β Γ (AD4 z.length) (AD9 E' z.length z):=fun C w hO hG=>by
 subst ho
 obtain ⟨hl,_⟩:=id (hG _ (Af hj))
 have hi:o<n:=by rw [hl];exact (List.getElem?_eq_some_iff.1 hz).1
 obtain ⟨z',vs,hz',hp,pa,ca,rfl,hrd⟩:=O4 (hG _ (Af hj)) hi
 obtain rfl:z=z':=Option.some.inj (hz.symm.trans hz')
 have e1:(Aj E').size=1:=rfl
 rw [e1,Nat.mul_one] at hp
 have hc:cs[o]?=some (.slice pa z.length ca):=by
  have:=congrArg (·[0]?) hp
  simpa [List.getElem?_take,List.getElem?_drop] using this
 exact (F4 (P:=P) (ty:=ty) (t:=t) hT hx (Oh hO hn hc)).ex.mono fun u w' ⟨h1,h2⟩=>by
  subst h1;subst h2
  exact ⟨Below.refl _ _,fun _=>(pa,ca,0,[]),rfl,Y3 ⟨rfl,hrd⟩⟩
theorem AKu {it:List (TypeId×IntKind)}{L:List Oper}{pos:List Po}{pt:List (List Nat)}{κ:Fr}{fs:List (Nat×Fact)}{al:List A4}{pb:Pb}{k:Nat}{α:Type}{E:Enc α}(V:Vw E) {z:α}(ho:Sz F.fn.ntmps L κ i=some (d,op,ty)) (hJ:JD P op ty σ β (Sk (B3 pt i) fs++Γ) (fun g=>.agg (V.val z g).toArray) (V.fs z))
  (h:∀ g,Je it F C p S L pt β Γ R k (i+1) pos (Hb d κ) (putF d (.agg (V.val z g).toArray) σ) ((V.fs z g).map (fun f=>(i,f))++fs) al pb) :
  Je it F C p S L pt β Γ R k i (.fa (fun g=>.agg (V.val z g).toArray) (V.fs z)::pos) κ σ fs al pb:=Iz ho hJ h
end
end Go.Fw
