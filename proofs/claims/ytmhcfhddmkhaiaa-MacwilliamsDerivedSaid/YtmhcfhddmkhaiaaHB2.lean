/-
The tenth text of the frame: a region that draws its order. Its operations are gone through once, in the order of the text; what each leaves is a value that is known outright, or a fact; a fact is lent to those operations alone that wait for it. The eleventh text of the frame: short words for regions that draw their order, and for rows that are given up. The twelfth text of the frame: bitwise operations, the lesser of two integers, a sign of a text, an empty literal. The thirteenth text of the frame: loops that keep what they do not touch, results that lie in memory, blocks that are handed to a callee and come back, parts of own slices, fractions as results. The fourteenth text of the frame: own rows that read as lists while they grow and change; structs that are read by a view of their cells. The fifteenth text of the frame: several blocks handed to a callee; own blocks lent to a callee that reads alone; rows of rows of one's own. What the table of types of the program says, a closed fact each. The functions of the program, each with its body. The frame's last text: from a contract of a law to the given statement: arguments are opened, and read the same afterwards. Numbers as lists of limbs to the base 2^32: their values, the canonical lists, and how lists are cut. The canonical list of limbs of a number, and how it goes with values. Binary digits; powers by squaring; binomial coefficients. Binomial coefficients. Numbers in limbs, compared and taken from each other. Masks of blocks. Contracts of nat.short. One set of points against all blocks: what Design's visit does. The sixteenth text of the frame: function values, and calls of them. All sets of points, one after the other: what Design's subsets does. The program's sets are the masks of the document's sets. Contracts of nat.Trim, nat.Of. Contracts of nat.plus and nat.Add. Contracts of nat.times and nat.Mul. Contracts of nat.digit. Contracts of bits.Len32 and nat.Bits. Contracts of nat.Pow, for small bases and exponents. Contracts of nat.Binomial.
-/
import Derived.Test.YtmhcfhddmkhaiaaProg
import Derived.SizedLaws
import Derived.OpenShut
import Derived.ChangeOld
import Derived.Carry
import Derived.ChangeArms
import Derived.Deep.Slices
import Derived.Calls
import Derived.Test.YtmhcfhddmkhaiaaHB1
set_option linter.unusedVariables false
set_option linter.unusedSimpArgs false
namespace Go.Fw
open Go.RowKit (Below)
abbrev Gh:=Nat → Option Addr × Nat × Nat × List Value
inductive Po where
 | auto
 | eq (v : Value)
 | fa (val : Gh → Value) (f : Gh → List Fact)
 | al (T : TypeId) (cs : List Value) (val : Nat → Value)
 | pv (ts : List Tmp) (g : List Value → Value)
 | sg (bl : Gh → List Blk) (val : Gh → Value) (f : Gh → List Fact)
 | sh (bl : Gh → List Blk) (val : Gh → Value) (f : Gh → List Fact)
 | si (bl : Gh → List Blk) (val : Gh → Value) (f : Gh → List Fact)
 | st (cs : List Value)
abbrev Pb:=Option (List Blk)
def pbL : Pb → List Blk
 | none=>[]
 | some l=>l
def pbk (pb : Pb) (k : Nat) : Prop:=∃ x ∈ pbL pb,x.1 = some k
structure Other (b : Nat) (w w' : World) : Prop where
 os : w'.os = w.os
 tape : w'.tape = w.tape
 output : w'.output = w.output
 size : w'.heap.size = w.heap.size
 block : ∀ k,k ≠ b → w'.heap[k]? = w.heap[k]?
structure ExtP (pb : Pb) (w w' : World) : Prop where
 os : w'.os = w.os
 tape : w'.tape = w.tape
 output : w'.output = w.output
 size : w.heap.size ≤ w'.heap.size
 block : ∀ k,k < w.heap.size → ¬ pbk pb k → w'.heap[k]? = w.heap[k]?
theorem ExtP.of {pb : Pb} {w w' : World} (h : Ext w w') : ExtP pb w w':=⟨h.os,h.tape,h.output,h.size,fun k hk _=>h.block k hk⟩
theorem ExtP.refl (pb : Pb) (w : World) : ExtP pb w w:=.of (Below.refl _ _)
theorem ExtP.trans {pb : Pb} {a b c : World} (h : ExtP pb a b) (h' : ExtP pb b c) : ExtP pb a c :=
 ⟨h'.os.trans h.os,h'.tape.trans h.tape,h'.output.trans h.output,Nat.le_trans h.size h'.size,fun k hk hn=>(h'.block k (Nat.lt_of_lt_of_le hk h.size) hn).trans (h.block k hk hn)⟩
structure ExtQ (Q : Nat → Prop) (w w' : World) : Prop where
 os : w'.os = w.os
 tape : w'.tape = w.tape
 output : w'.output = w.output
 size : w.heap.size ≤ w'.heap.size
 block : ∀ k,k < w.heap.size → ¬ Q k → w'.heap[k]? = w.heap[k]?
theorem ExtQ.of {Q : Nat → Prop} {w w' : World} (h : Ext w w') : ExtQ Q w w':=⟨h.os,h.tape,h.output,h.size,fun k hk _=>h.block k hk⟩
theorem ExtQ.refl (Q : Nat → Prop) (w : World) : ExtQ Q w w:=.of (Below.refl _ _)
theorem ExtP.transQ {pb : Pb} {Q : Nat → Prop} {a b c : World} (h : ExtP pb a b) (h' : ExtQ Q b c) (hq : ∀ k,k < a.heap.size → Q k → pbk pb k) : ExtP pb a c :=
 ⟨h'.os.trans h.os,h'.tape.trans h.tape,h'.output.trans h.output,Nat.le_trans h.size h'.size,fun k hk hn=>(h'.block k (Nat.lt_of_lt_of_le hk h.size) fun h=>hn (hq k hk h)).trans (h.block k hk hn)⟩
def JD (P : Program) (op : Op) (ty : TypeId) (σ : Fr) (β : List Blk) (Γ : List Fact) (val : Gh → Value) (f : Gh → List Fact) : Prop :=
 ∀ C w,Own C w β → (∀ g ∈ Γ,g.holds w (ok C w β)) → Ex P op ty σ w fun v w'=>Ext w w' ∧ ∃ x,v = val x ∧ ∀ g ∈ f x,g.holds w' (ok C w' β)
def JA (P : Program) (op : Op) (ty : TypeId) (σ : Fr) (T : TypeId) (cs : List Value) (val : Nat → Value) : Prop :=
 ∀ w,Ex P op ty σ w fun v w'=>v = val w.heap.size ∧ w' = w.alloc (.cells cs.toArray T)
def JS (P : Program) (op : Op) (ty : TypeId) (σ : Fr) (b : Nat) (T : TypeId) (cs0 cs : List Value) : Prop :=
 ∀ w,w.heap[b]? = some (.cells cs0.toArray T (0,0)) → Ex P op ty σ w fun v w'=>v = undef ∧ Other b w w' ∧ w'.heap[b]? = some (.cells cs.toArray T (0,0))
def JG (P : Program) (op : Op) (ty : TypeId) (σ : Fr) (pb : Pb) (Γ : List Fact) (bl : Gh → List Blk) (val : Gh → Value) (f : Gh → List Fact) : Prop :=
 ∀ w A,(∀ k,A k → k < w.heap.size ∧ ¬ pbk pb k) → (∀ x ∈ pbL pb,∀ b,x.1 = some b → w.heap[b]? = some (.cells x.2.2.toArray x.2.1 (0,0))) → Distinct (pbL pb) → (∀ g ∈ Γ,g.holds w A) →
  Ex P op ty σ w fun v w'=>∃ x,v = val x ∧ Keep w (pbk pb) w' ∧ Distinct (bl x) ∧ (∀ y ∈ bl x,∀ b,y.1 = some b → (w.heap.size ≤ b ∨ pbk pb b) ∧ w'.heap[b]? = some (.cells y.2.2.toArray y.2.1 (0,0))) ∧
   ∀ g ∈ f x,g.holds w' (fun k=>(A k ∨ w.heap.size ≤ k) ∧ k < w'.heap.size ∧ ∀ y ∈ bl x,y.1 ≠ some k)
def depsOf (o : Oper) : List Nat:=(o.after.toList.filter (Region.binds .any)).map (·.on)
def slotsOf (xs : List Operand) : List Tmp:=xs.filterMap fun
 | .tmp t=>some t
 | _=>none
def guardSlot (L : List Oper) (o : Oper) : List Tmp :=
 match o.guard with
 | some (j,_)=>match nth L j with
  | some g=>g.dst.toList
  | none=>[]
 | none=>[]
def readsOf (L : List Oper) (o : Oper) : List Tmp:=slotsOf o.op.operands.toList++guardSlot L o
def memB (n : Nat) : List Nat → Bool
 | []=>false
 | m::l=>match Nat.beq n m with
  | true=>true
  | false=>memB n l
theorem memB_iff {n : Nat} {l : List Nat} : memB n l = true ↔ n ∈ l:=by
 induction l with
 | nil=>simp [memB]
 | cons m l ih =>
  simp only [memB,List.mem_cons]
  cases hb : Nat.beq n m with
  | true=>simp [Nat.eq_of_beq_eq_true hb]
  | false=>simp [Nat.ne_of_beq_eq_false hb,ih]
def preAt (pt : List (List Nat)) (i : Nat) : List Nat:=(nth pt i).getD []
def addTo (l : List Nat) (n : Nat) : List Nat:=match memB n l with
 | true=>l
 | false=>n::l
def mkPre : List Oper → List (List Nat) → List (List Nat)
 | [],acc=>acc
 | o::l,acc=>mkPre l (acc++[((depsOf o).foldl (fun s e=>(preAt acc e).foldl addTo (addTo s e)) [])])
def allIx {α : Type} (f : Nat → α → Bool) : Nat → List α → Bool
 | _,[]=>true
 | n,x::l=>f n x && allIx f (n + 1) l
theorem allIx_get {α : Type} {f : Nat → α → Bool} : ∀ {l : List α} {n : Nat},allIx f n l = true → ∀ {i : Nat} {x : α},l[i]? = some x → f (n + i) x = true:=by
 intro l
 induction l with
 | nil=>intro n _ i x h;simp at h
 | cons y l ih =>
  intro n h i x hi
  simp only [allIx,Bool.and_eq_true] at h
  cases i with
  | zero=>simp at hi;subst hi;exact h.1
  | succ i=>have:=ih h.2 (i:=i) (by simpa using hi);rwa [show n + (i + 1) = n + 1 + i by omega]
def okPair (L : List Oper) (pt : List (List Nat)) (i : Nat) (a : Oper) (j : Nat) (b : Oper) : Bool :=
 match Nat.blt i j with
 | false=>true
 | true=>memB i (preAt pt j) ||
  ((match b.dst with
   | some d=>!(memB d (readsOf L a))
   | none=>true) &&
   (match a.dst with
   | some d=>!(memB d (readsOf L b)) && (match b.dst with
    | some e=>!(Nat.beq d e)
    | none=>true)
   | none=>true))
structure RegB (L : List Oper) (pt : List (List Nat)) (k : Nat) : Prop where
 le : k ≤ L.length
 deps : ∀ i o,L[i]? = some o → ∀ e ∈ depsOf o,e < i
 pre : ∀ i o,L[i]? = some o → ∀ j ∈ preAt pt i,∃ e ∈ depsOf o,j = e ∨ j ∈ preAt pt e
 pair : ∀ i j a b,i < k → j < k → L[i]? = some a → L[j]? = some b → okPair L pt i a j b = true
 ord : ∀ i,i < L.length → ∀ j,k ≤ j → j < i → j ∈ preAt pt i
 noSel : ∀ (i : Nat) (o : Oper) cs b,L[i]? = some o → o.op ≠ Op.select cs b
structure RegOk (L : List Oper) (pt : List (List Nat)) (k : Nat) : Prop extends RegB L pt k where
 tail : ∀ i,k ≤ i → i < L.length → ∀ j,j < i → j ∈ preAt pt i
def isSel : Op → Bool
 | .select _ _=>true
 | _=>false
def regOk (L : List Oper) (pt : List (List Nat)) (k : Nat) : Bool :=
 Nat.ble k L.length &&
 allIx (fun i (o : Oper)=>(depsOf o).all (fun e=>Nat.blt e i) && (preAt pt i).all (fun j=>(depsOf o).any fun e=>Nat.beq j e || memB j (preAt pt e)) &&
  (Nat.blt i k || (List.range i).all fun j=>memB j (preAt pt i)) && !isSel o.op) 0 L &&
 allIx (fun i (a : Oper)=>allIx (fun j (b : Oper)=>okPair L pt i a j b) 0 (L.take k)) 0 (L.take k)
theorem regOk_spec {L : List Oper} {pt : List (List Nat)} {k : Nat} (h : regOk L pt k = true) : RegOk L pt k:=by
 simp only [regOk,Bool.and_eq_true] at h
 obtain ⟨⟨h1,h2⟩,h3⟩:=h
 have g2:=fun {i o} (hi : L[i]? = some o)=>allIx_get h2 (i:=i) hi
 simp only [Nat.zero_add,Bool.and_eq_true,List.all_eq_true,List.any_eq_true,Bool.or_eq_true] at g2
 have tail : ∀ i,k ≤ i → i < L.length → ∀ j,j < i → j ∈ preAt pt i:=fun i hk hi j hj=>by
  have hx : L[i]? = some L[i]:=by simp [hi]
  rcases (g2 hx).1.2 with h | h
  ·have:=Nat.le_of_ble_eq_true h;omega
  ·exact memB_iff.1 (h j (by simpa using hj))
 refine ⟨⟨Nat.le_of_ble_eq_true h1,fun i o hi e he=>?_,fun i o hi j hj=>?_,fun i j a b hi hj ha hb=>?_,fun i hi j hk hj=>tail i (by omega) hi j hj,fun i o cs b hi e=>?_⟩,tail⟩
 ·exact Nat.le_of_ble_eq_true ((g2 hi).1.1.1 e he)
 ·obtain ⟨e,he,h⟩:=(g2 hi).1.1.2 j hj
  refine ⟨e,he,?_⟩
  rcases h with h | h
  ·exact .inl (Nat.eq_of_beq_eq_true h)
  ·exact .inr (memB_iff.1 h)
 ·have e1:=allIx_get h3 (i:=i) (x:=a) (by rw [List.getElem?_take,if_pos hi];exact ha)
  have e2:=allIx_get e1 (i:=j) (x:=b) (by rw [List.getElem?_take,if_pos hj];exact hb)
  simpa using e2
 ·have:=(g2 hi).2
  rw [e] at this
  simp [isSel] at this
theorem pre_in {L : List Oper} {pt : List (List Nat)} {k : Nat} (hr : RegB L pt k) {T : Nat → Prop} (hT : ∀ i o,T i → L[i]? = some o → ∀ e ∈ depsOf o,T e) :
  ∀ i,i < L.length → (∀ o,L[i]? = some o → ∀ e ∈ depsOf o,T e) → ∀ j ∈ preAt pt i,T j:=by
 intro i
 induction i using Nat.strongRecOn with
 | _ i ih =>
  intro hi hd j hj
  have hx : L[i]? = some L[i]:=by simp [hi]
  obtain ⟨e,he,h⟩:=hr.pre i _ hx j hj
  have hTe:=hd _ hx e he
  have hlt:=hr.deps i _ hx e he
  rcases h with rfl | h
  ·exact hTe
  ·exact ih e hlt (by omega) (fun o ho=>hT e o hTe ho) j h
def delF (d : Option Tmp) (κ : Fr) : Fr :=
 match d with
 | some d=>Fr.del d κ
 | none=>κ
def gd (L : List Oper) (κ : Fr) (o : Oper) : Option Bool :=
 match o.guard with
 | none=>some true
 | some (j,want)=>match nth L j with
  | some g=>match g.dst with
   | some s=>match Fr.get s κ with
    | some (.bool true)=>some want
    | some (.bool false)=>some (!want)
    | some (.tuple ⟨[]⟩)=>some false
    | _=>none
   | none=>none
  | none=>none
def known (it : List (TypeId × IntKind)) (L : List Oper) (κ : Fr) (o : Oper) (po : Po) : Option Value :=
 match gd L κ o with
 | some false=>some undef
 | _=>match po with
  | .eq v=>some v
  | .auto=>(pev it κ o.op).map (·.1)
  | .fa _ _=>none
  | .al _ _ _=>none
  | .pv _ _=>none
  | .sg _ _ _=>none
  | .sh _ _ _=>none
  | .si _ _ _=>none
  | .st _=>none
def stepK (it : List (TypeId × IntKind)) (L : List Oper) (κ : Fr) (o : Oper) (po : Po) : Fr :=
 match known it L κ o po with
 | some v=>putF o.dst v κ
 | none=>delF o.dst κ
section
variable {P : Program} {F : Fun P} {C : Cx} {S : List It} {R : Value → World → Prop} {β : List Blk}
def sel (pre : List Nat) : List (Nat × Fact) → List Fact
 | []=>[]
 | (i,f)::l=>match memB i pre with
  | true=>f::sel pre l
  | false=>sel pre l
def outOk (d : Option Tmp) (n : Nat) : Bool :=
 match d with
 | some d=>Nat.blt d n
 | none=>true
def valsOf (σ : Fr) (ts : List Tmp) : List Value:=ts.map fun t=>(Fr.get t σ).getD undef
def dstAt (L : List Oper) (i : Nat) : Option Tmp:=(nth L i).bind (·.dst)
inductive Inter (n e : Nat) : List Nat → Nat → List Nat → Prop
 | done {i : Nat} : Inter n e [] i (List.range' i (n - i))
 | pend {i : Nat} {l pend : List Nat} {j : Nat} : j ∈ pend → Inter n e (pend.erase j) i l → Inter n e pend i (j::l)
 | tail {i : Nat} {l pend : List Nat} : i < n → i < e → Inter n e pend (i + 1) l → Inter n e pend i (i::l)
def WIN (F : Fun P) (C : Cx) (p : List Nat) (A : List Nat) (m i : Nat) (S : List It) (σ : Fr) (β : List Blk) (Γ : List Fact) (R : Value → World → Prop) : Prop :=
 ∀ pend sched,(∀ j ∈ pend,j ∈ A) → pend.Nodup → Inter (opsOf (sub p F.B)).length (i + m) pend i sched → ∀ w,Own C w β → (∀ g ∈ Γ,g.holds w (ok C w β)) → ∀ a : Act,a.tmps.size = F.fn.ntmps → a.defers = [] →
  (∀ t v,(∀ j ∈ pend,dstAt (opsOf (sub p F.B)) j ≠ some t) → Fr.get t σ = some v → a.tmps[t]? = some v) → At F (.inRegion (opsOf (sub p F.B)).toArray sched::S.map (It.item F.B)) a w R
def isWin : List It → Bool
 | .win _ _::_=>true
 | _=>false
def endJ (F : Fun P) (C : Cx) (p : List Nat) (S : List It) (i : Nat) (σ : Fr) (β : List Blk) (Γ : List Fact) (R : Value → World → Prop) : Prop :=
 match S with
 | .win A m::S'=>WIN F C p A m i S' σ β Γ R
 | S=>J F C (.o p i::S) σ β Γ R
theorem endJ_not {S : List It} (hS : isWin S = false) {p : List Nat} {i : Nat} {σ : Fr} {β : List Blk} {Γ : List Fact} : endJ F C p S i σ β Γ R = J F C (.o p i::S) σ β Γ R:=by
 unfold endJ
 split
 ·simp [isWin] at hS
 ·rfl
def chainAll (pt : List (List Nat)) (i : Nat) : Nat → List Po → Bool
 | _,[]=>true
 | n,po::pos=>(match po with
  | .sg _ _ _=>memB i (preAt pt n)
  | .sh _ _ _=>memB i (preAt pt n)
  | .si _ _ _=>memB i (preAt pt n)
  | .st _=>false
  | _=>true) && chainAll pt i (n + 1) pos
theorem chainAll_get {pt : List (List Nat)} {i : Nat} : ∀ {pos : List Po} {n : Nat},chainAll pt i n pos = true → ∀ k,(∀ cs,nth pos k ≠ some (.st cs)) ∧ ((∃ bl val f,nth pos k = some (.sg bl val f) ∨ nth pos k = some (.sh bl val f) ∨ nth pos k = some (.si bl val f)) → i ∈ preAt pt (n + k)):=by
 intro pos
 induction pos with
 | nil=>intro n _ k;exact ⟨fun cs h=>by simp [nth] at h,fun ⟨_,_,_,h⟩=>by rcases h with h | h | h <;> simp [nth] at h⟩
 | cons po pos ih =>
  intro n h k
  simp only [chainAll,Bool.and_eq_true] at h
  cases k with
  | zero =>
   refine ⟨fun cs hc=>?_,fun ⟨bl,val,f,hc⟩=>?_⟩
   ·obtain rfl : po = .st cs:=by simpa [nth] using hc
    exact absurd h.1 (by simp)
   ·rcases hc with hc | hc | hc
    ·obtain rfl : po = .sg bl val f:=by simpa [nth] using hc
     exact memB_iff.1 h.1
    ·obtain rfl : po = .sh bl val f:=by simpa [nth] using hc
     exact memB_iff.1 h.1
    ·obtain rfl : po = .si bl val f:=by simpa [nth] using hc
     exact memB_iff.1 h.1
  | succ k =>
   obtain ⟨h1,h2⟩:=ih h.2 k
   have e : n + (k + 1) = n + 1 + k:=by omega
   rw [e]
   exact ⟨fun cs hc=>h1 cs (by simpa [nth] using hc),fun ⟨bl,val,f,hc⟩=>h2 ⟨bl,val,f,by simpa [nth] using hc⟩⟩
def Lx (it : List (TypeId × IntKind)) (F : Fun P) (C : Cx) (p : List Nat) (S : List It) (L : List Oper) (pt : List (List Nat)) (β : List Blk) (Γ : List Fact) (R : Value → World → Prop) : Nat → List Po → Fr → Fr → List (Nat × Fact) → List Blk → Pb → Prop
 | i,[],_,σ,fs,al,pb=>endJ F C p S i σ (al++(pbL pb++β)) (fs.map (·.2)++Γ) R
 | i,po::pos,κ,σ,fs,al,pb=>match nth L i with
  | none=>False
  | some o=>match outOk o.dst F.fn.ntmps,gd L κ o with
   | true,some false=>Lx it F C p S L pt β Γ R (i + 1) pos (putF o.dst undef κ) (putF o.dst undef σ) fs al pb
   | true,some true=>match po with
    | .auto=>match pev it κ o.op with
     | some (v,q)=>q ∧ Lx it F C p S L pt β Γ R (i + 1) pos (putF o.dst v κ) (putF o.dst v σ) fs al pb
     | none=>False
    | .eq v=>JD P o.op o.type σ β (sel (preAt pt i) fs++Γ) (fun _=>v) (fun _=>[]) ∧ Lx it F C p S L pt β Γ R (i + 1) pos (putF o.dst v κ) (putF o.dst v σ) fs al pb
    | .fa val f=>JD P o.op o.type σ β (sel (preAt pt i) fs++Γ) val f ∧ ∀ x,Lx it F C p S L pt β Γ R (i + 1) pos (delF o.dst κ) (putF o.dst (val x) σ) ((f x).map (fun g=>(i,g))++fs) al pb
    | .al T cs val=>JA P o.op o.type σ T cs val ∧ ∀ b,Lx it F C p S L pt β Γ R (i + 1) pos (delF o.dst κ) (putF o.dst (val b) σ) fs ((some b,T,cs)::al) pb
    | .pv ts g=>(ts.all fun t=>memB t (readsOf L o)) = true ∧ JD P o.op o.type σ β (sel (preAt pt i) fs++Γ) (fun _=>g (valsOf σ ts)) (fun _=>[]) ∧ Lx it F C p S L pt β Γ R (i + 1) pos (delF o.dst κ) (putF o.dst (g (valsOf σ ts)) σ) fs al pb
    | .st cs=>match pb with
     | some [(some b,T,cs0)]=>JS P o.op o.type σ b T cs0 cs ∧ Lx it F C p S L pt β Γ R (i + 1) pos (delF o.dst κ) (putF o.dst undef σ) fs ((some b,T,cs)::al) none
     | _=>False
    | .sg bl val f=>pb.isSome = true ∧ JG P o.op o.type σ pb (sel (preAt pt i) fs++Γ) bl val f ∧ ∀ x,Lx it F C p S L pt β Γ R (i + 1) pos (delF o.dst κ) (putF o.dst (val x) σ) ((f x).map (fun g=>(i,g))++fs) (bl x++al) none
    | .sh bl val f=>(pb.isSome = true ∧ chainAll pt i (i + 1) pos = true) ∧ JG P o.op o.type σ pb (sel (preAt pt i) fs++Γ) bl val f ∧ ∀ x,Lx it F C p S L pt β Γ R (i + 1) pos (delF o.dst κ) (putF o.dst (val x) σ) ((f x).map (fun g=>(i,g))++fs) al (some (bl x))
    | .si bl val f=>(pb.isSome = true ∧ chainAll pt i (i + 1) pos = true) ∧ JG P o.op o.type σ pb (sel (preAt pt i) fs++Γ) bl val f ∧ ∀ x,Lx it F C p S L pt β Γ R (i + 1) pos (delF o.dst κ) (putF o.dst (val x) σ) ((f x).map (fun g=>(i,g))++fs) (bl x++al) (some [])
   | _,_=>False
end
def kap (it : List (TypeId × IntKind)) (L : List Oper) (pos : List Po) (κ : Fr) : Nat → Fr
 | 0=>κ
 | i + 1=>match nth L i,nth pos i with
  | some o,some po=>stepK it L (kap it L pos κ i) o po
  | _,_=>kap it L pos κ i
def kv (it : List (TypeId × IntKind)) (L : List Oper) (pos : List Po) (κ : Fr) (i : Nat) : Option Value :=
 match nth L i,nth pos i with
 | some o,some po=>known it L (kap it L pos κ i) o po
 | _,_=>none
def vlA (it : List (TypeId × IntKind)) (L : List Oper) (pos : List Po) (κ : Fr) (vs : Nat → Gh) (i : Nat) (φ : Fr) : Value :=
 match kv it L pos κ i with
 | some v=>v
 | none=>match nth pos i with
  | some (.fa val _)=>val (vs i)
  | some (.al _ _ val)=>val (vs i 0).2.1
  | some (.pv ts g)=>g (valsOf φ ts)
  | some (.sg _ val _)=>val (vs i)
  | some (.sh _ val _)=>val (vs i)
  | some (.si _ val _)=>val (vs i)
  | _=>undef
def lexF (it : List (TypeId × IntKind)) (L : List Oper) (pos : List Po) (σ : Fr) (vs : Nat → Gh) : Nat → Fr
 | 0=>σ
 | i + 1=>putF (dstAt L i) (vlA it L pos σ vs i (lexF it L pos σ vs i)) (lexF it L pos σ vs i)
def vl (it : List (TypeId × IntKind)) (L : List Oper) (pos : List Po) (κ : Fr) (vs : Nat → Gh) (i : Nat) : Value:=vlA it L pos κ vs i (lexF it L pos κ vs i)
def foOf : Option Po → Gh → List Fact
 | some (.fa _ f),x=>f x
 | some (.sg _ _ f),x=>f x
 | some (.sh _ _ f),x=>f x
 | some (.si _ _ f),x=>f x
 | _,_=>[]
def mkOf : Option Po → Gh → List Blk
 | some (.al T cs _),x=>[(some (x 0).2.1,T,cs)]
 | some (.sg bl _ _),x=>bl x
 | some (.sh bl _ _),x=>bl x
 | some (.si bl _ _),x=>bl x
 | _,_=>[]
def alOf : Option Po → Gh → List Blk
 | some (.al T cs _),x=>[(some (x 0).2.1,T,cs)]
 | some (.sg bl _ _),x=>bl x
 | some (.si bl _ _),x=>bl x
 | _,_=>[]
theorem mem_alOf {po : Option Po} {x : Gh} {y : Blk} (h : y ∈ alOf po x) : y ∈ mkOf po x ∧ ∀ bl val f,po ≠ some (.sh bl val f):=by
 unfold alOf at h
 split at h
 ·exact ⟨h,fun _ _ _ e=>by cases e⟩
 ·exact ⟨h,fun _ _ _ e=>by cases e⟩
 ·exact ⟨h,fun _ _ _ e=>by cases e⟩
 ·cases h
def stOf : Option Po → Pb → List Blk
 | some (.st cs),some [(some b,T,_)]=>[(some b,T,cs)]
 | _,_=>[]
def lexFs (it : List (TypeId × IntKind)) (L : List Oper) (pos : List Po) (σ : Fr) (vs : Nat → Gh) : Nat → List (Nat × Fact)
 | 0=>[]
 | i + 1=>match kv it L pos σ i with
  | none=>(foOf (nth pos i) (vs i)).map (fun g=>(i,g))++lexFs it L pos σ vs i
  | _=>lexFs it L pos σ vs i
def lexPb (it : List (TypeId × IntKind)) (L : List Oper) (pos : List Po) (σ : Fr) (pb : Pb) (vs : Nat → Gh) : Nat → Pb
 | 0=>pb
 | i + 1=>match kv it L pos σ i,nth pos i with
  | none,some (.st _)=>none
  | none,some (.sg _ _ _)=>none
  | none,some (.sh bl _ _)=>some (bl (vs i))
  | none,some (.si _ _ _)=>some []
  | _,_=>lexPb it L pos σ pb vs i
def lexAl (it : List (TypeId × IntKind)) (L : List Oper) (pos : List Po) (σ : Fr) (pb : Pb) (vs : Nat → Gh) : Nat → List Blk
 | 0=>[]
 | i + 1=>match kv it L pos σ i with
  | none=>alOf (nth pos i) (vs i)++(stOf (nth pos i) (lexPb it L pos σ pb vs i)++lexAl it L pos σ pb vs i)
  | _=>lexAl it L pos σ pb vs i
def isSt (it : List (TypeId × IntKind)) (L : List Oper) (pos : List Po) (σ : Fr) (i : Nat) (cs : List Value) : Prop:=i < pos.length ∧ kv it L pos σ i = none ∧ nth pos i = some (.st cs)
def isSg (it : List (TypeId × IntKind)) (L : List Oper) (pos : List Po) (σ : Fr) (i : Nat) : Prop:=i < pos.length ∧ kv it L pos σ i = none ∧ ∃ T val f,nth pos i = some (.sg T val f) ∨ nth pos i = some (.sh T val f) ∨ nth pos i = some (.si T val f)
def isSh (it : List (TypeId × IntKind)) (L : List Oper) (pos : List Po) (σ : Fr) (i : Nat) : Prop:=i < pos.length ∧ kv it L pos σ i = none ∧ ∃ T val f,nth pos i = some (.sh T val f)
def isSi (it : List (TypeId × IntKind)) (L : List Oper) (pos : List Po) (σ : Fr) (i : Nat) : Prop:=i < pos.length ∧ kv it L pos σ i = none ∧ ∃ T val f,nth pos i = some (.si T val f)
def cid (it : List (TypeId × IntKind)) (L : List Oper) (pos : List Po) (σ : Fr) : Nat → Nat
 | 0=>0
 | i + 1=>match kv it L pos σ i,nth pos i with
  | none,some (.si _ _ _)=>cid it L pos σ i + 1
  | _,_=>cid it L pos σ i
theorem cid_mono {it : List (TypeId × IntKind)} {L : List Oper} {pos : List Po} {σ : Fr} {i j : Nat} (h : i ≤ j) : cid it L pos σ i ≤ cid it L pos σ j:=by
 induction j with
 | zero=>rw [Nat.le_zero.1 h];exact Nat.le_refl _
 | succ j ih =>
  rcases Nat.lt_or_ge i (j + 1) with h1 | h1
  ·refine Nat.le_trans (ih (by omega)) ?_
   simp only [cid]
   split
   ·omega
   ·exact Nat.le_refl _
  ·have e : i = j + 1:=by omega
   rw [e];exact Nat.le_refl _
theorem cid_same {it : List (TypeId × IntKind)} {L : List Oper} {pos : List Po} {σ : Fr} {i j : Nat} (hji : j ≤ i) (h : ∀ m,j ≤ m → m < i → ¬ isSi it L pos σ m) : cid it L pos σ i = cid it L pos σ j:=by
 induction i with
 | zero=>rw [Nat.le_zero.1 hji]
 | succ i ih =>
  rcases Nat.lt_or_ge j (i + 1) with h1 | h1
  ·have ih:=ih (by omega) fun m h2 h3=>h m h2 (by omega)
   rw [← ih]
   simp only [cid]
   split
   ·rename_i h2 h3
    have hlt : i < pos.length:=by
     rw [nth_eq] at h3
     exact (List.getElem?_eq_some_iff.1 h3).1
    exact absurd ⟨hlt,h2,_,_,_,h3⟩ (h i (by omega) (by omega))
   ·rfl
  ·have e : j = i + 1:=by omega
   rw [e]
theorem cid_si {it : List (TypeId × IntKind)} {L : List Oper} {pos : List Po} {σ : Fr} {i j : Nat} (hi : isSi it L pos σ i) (h : i < j) : cid it L pos σ i < cid it L pos σ j:=by
 obtain ⟨_,h1,_,_,_,h2⟩:=hi
 have h3 : cid it L pos σ (i + 1) = cid it L pos σ i + 1:=by simp only [cid,h1,h2]
 have:=cid_mono (it:=it) (L:=L) (pos:=pos) (σ:=σ) (show i + 1 ≤ j by omega)
 omega
def isC (it : List (TypeId × IntKind)) (L : List Oper) (pos : List Po) (σ : Fr) (i : Nat) : Prop:=(∃ cs,isSt it L pos σ i cs) ∨ isSg it L pos σ i
def isMk (it : List (TypeId × IntKind)) (L : List Oper) (pos : List Po) (σ : Fr) (vs : Nat → Gh) (i : Nat) (y : Blk) : Prop:=i < pos.length ∧ kv it L pos σ i = none ∧ y ∈ mkOf (nth pos i) (vs i)
def NA (it : List (TypeId × IntKind)) (L : List Oper) (pos : List Po) (σ : Fr) (T : Nat → Prop) (vs : Nat → Gh) (k : Nat) : Prop:=∃ i y,T i ∧ isMk it L pos σ vs i y ∧ y.1 = some k
def cuk (it : List (TypeId × IntKind)) (L : List Oper) (pos : List Po) (σ : Fr) (pb : Pb) (c : Nat) (T : Nat → Prop) (vs : Nat → Gh) (k : Nat) : Prop:=(c = 0 ∧ pbk pb k) ∨ ∃ i y,T i ∧ isSg it L pos σ i ∧ cid it L pos σ i = c ∧ isMk it L pos σ vs i y ∧ y.1 = some k
def NAp (it : List (TypeId × IntKind)) (L : List Oper) (pos : List Po) (σ : Fr) (pb : Pb) (T : Nat → Prop) (vs : Nat → Gh) (k : Nat) : Prop:=NA it L pos σ T vs k ∨ pbk pb k
def okN (C : Cx) (w : World) (β : List Blk) (N : Nat → Prop) (k : Nat) : Prop:=ok C w β k ∧ ¬ N k
section
variable {P : Program} {F : Fun P} {C : Cx} {S : List It} {R : Value → World → Prop} {β : List Blk} {Γ : List Fact} {it : List (TypeId × IntKind)} {L : List Oper} {pos : List Po} {pt : List (List Nat)} {p : List Nat} {σ : Fr} {pb : Pb}
theorem drop_cons {α : Type} {l : List α} {i : Nat} {x : α} (h : nth l i = some x) : l.drop i = x::l.drop (i + 1):=by
 rw [nth_eq] at h
 have hi : i < l.length:=(List.getElem?_eq_some_iff.1 h).1
 rw [List.drop_eq_getElem_cons hi]
 congr 1
 exact (List.getElem?_eq_some_iff.1 h).2
theorem lx_at (h : Lx it F C p S L pt β Γ R 0 pos σ σ [] [] pb) (vs : Nat → Gh) : ∀ i,i ≤ pos.length → Lx it F C p S L pt β Γ R i (pos.drop i) (kap it L pos σ i) (lexF it L pos σ vs i) (lexFs it L pos σ vs i) (lexAl it L pos σ pb vs i) (lexPb it L pos σ pb vs i):=by
 intro i
 induction i with
 | zero=>intro _;exact h
 | succ i ih =>
  intro hi
  have h':=ih (by omega)
  obtain ⟨po,hpo⟩ : ∃ po,nth pos i = some po:=⟨pos[i],by rw [nth_eq];simp⟩
  rw [drop_cons hpo] at h'
  simp only [Lx] at h'
  cases ho : nth L i with
  | none=>rw [ho] at h';exact h'.elim
  | some o =>
   rw [ho] at h'
   simp only at h'
   cases hout : outOk o.dst F.fn.ntmps with
   | false=>rw [hout] at h';exact h'.elim
   | true =>
    rw [hout] at h'
    have hd : dstAt L i = o.dst:=by simp [dstAt,ho]
    cases hg : gd L (kap it L pos σ i) o with
    | none=>rw [hg] at h';exact h'.elim
    | some b =>
     rw [hg] at h'
     have hkap : kap it L pos σ (i + 1) = stepK it L (kap it L pos σ i) o po:=by simp only [kap,ho,hpo]
     have hkv : kv it L pos σ i = known it L (kap it L pos σ i) o po:=by simp only [kv,ho,hpo]
     cases b with
     | false =>
      have hk : known it L (kap it L pos σ i) o po = some undef:=by simp only [known,hg]
      simp only [lexF,lexFs,lexAl,lexPb,hd,vlA,hkap,stepK,hkv,hk]
      exact h'
     | true =>
      cases po with
      | auto =>
       simp only at h'
       cases hp : pev it (kap it L pos σ i) o.op with
       | none=>rw [hp] at h';exact h'.elim
       | some vq =>
        obtain ⟨v,q⟩:=vq
        rw [hp] at h'
        have hk : known it L (kap it L pos σ i) o .auto = some v:=by simp only [known,hg,hp,Option.map_some]
        simp only [lexF,lexFs,lexAl,lexPb,hd,vlA,hkap,stepK,hkv,hk]
        exact h'.2
      | eq v =>
       have hk : known it L (kap it L pos σ i) o (.eq v) = some v:=by simp only [known,hg]
       simp only [lexF,lexFs,lexAl,lexPb,hd,vlA,hkap,stepK,hkv,hk]
       exact h'.2
      | fa val f =>
       have hk : known it L (kap it L pos σ i) o (.fa val f) = none:=by simp only [known,hg]
       simp only [lexF,lexFs,lexAl,lexPb,hd,vlA,hkap,stepK,hkv,hk,hpo,foOf,alOf,stOf,List.nil_append]
       exact h'.2 (vs i)
      | al T cs val =>
       have hk : known it L (kap it L pos σ i) o (.al T cs val) = none:=by simp only [known,hg]
       simp only [lexF,lexFs,lexAl,lexPb,hd,vlA,hkap,stepK,hkv,hk,hpo,foOf,alOf,stOf,List.map_nil,List.nil_append,List.cons_append]
       exact h'.2 (vs i 0).2.1
      | pv ts g =>
       have hk : known it L (kap it L pos σ i) o (.pv ts g) = none:=by simp only [known,hg]
       simp only [lexF,lexFs,lexAl,lexPb,hd,vlA,hkap,stepK,hkv,hk,hpo,foOf,alOf,stOf,List.map_nil,List.nil_append]
       exact h'.2.2
      | sg bl val f =>
       have hk : known it L (kap it L pos σ i) o (.sg bl val f) = none:=by simp only [known,hg]
       simp only [lexF,lexFs,lexAl,lexPb,hd,vlA,hkap,stepK,hkv,hk,hpo,foOf,alOf,stOf,List.nil_append]
       exact h'.2.2 (vs i)
      | sh bl val f =>
       have hk : known it L (kap it L pos σ i) o (.sh bl val f) = none:=by simp only [known,hg]
       simp only [lexF,lexFs,lexAl,lexPb,hd,vlA,hkap,stepK,hkv,hk,hpo,foOf,alOf,stOf,List.nil_append]
       exact h'.2.2 (vs i)
      | si bl val f =>
       have hk : known it L (kap it L pos σ i) o (.si bl val f) = none:=by simp only [known,hg]
       simp only [lexF,lexFs,lexAl,lexPb,hd,vlA,hkap,stepK,hkv,hk,hpo,foOf,alOf,stOf,List.nil_append]
       exact h'.2.2 (vs i)
      | st cs =>
       have hk : known it L (kap it L pos σ i) o (.st cs) = none:=by simp only [known,hg]
       simp only at h'
       split at h'
       ·rename_i b T cs0 hpb
        simp only [lexF,lexFs,lexAl,lexPb,hd,vlA,hkap,stepK,hkv,hk,hpo,hpb,foOf,alOf,stOf,List.map_nil,List.nil_append,List.cons_append]
        exact h'.2
       ·exact h'.elim
theorem isSh.sg {i : Nat} (h : isSh it L pos σ i) : isSg it L pos σ i:=⟨h.1,h.2.1,by obtain ⟨T,val,f,h⟩:=h.2.2;exact ⟨T,val,f,.inr (.inl h)⟩⟩
theorem isSi.sg {i : Nat} (h : isSi it L pos σ i) : isSg it L pos σ i:=⟨h.1,h.2.1,by obtain ⟨T,val,f,h⟩:=h.2.2;exact ⟨T,val,f,.inr (.inr h)⟩⟩
theorem isC.lt {i : Nat} (h : isC it L pos σ i) : i < pos.length:=by
 rcases h with ⟨_,h⟩ | h
 ·exact h.1
 ·exact h.1
theorem isC.kv {i : Nat} (h : isC it L pos σ i) : Go.Fw.kv it L pos σ i = none:=by
 rcases h with ⟨_,h⟩ | h
 ·exact h.2.1
 ·exact h.2.1
theorem nth_lt {α : Type} {l : List α} {i : Nat} {x : α} (h : nth l i = some x) : i < l.length:=by
 rw [nth_eq] at h
 exact (List.getElem?_eq_some_iff.1 h).1
theorem lexPb_cases (vs : Nat → Gh) (i : Nat) : (lexPb it L pos σ pb vs i = pb ∧ ∀ j,j < i → ¬ isC it L pos σ j) ∨ (∃ j,j < i ∧ isSh it L pos σ j ∧ lexPb it L pos σ pb vs i = some (mkOf (nth pos j) (vs j)) ∧ ∀ j',j' < i → isC it L pos σ j' → j' ≤ j) ∨
  lexPb it L pos σ pb vs i = none ∨ (lexPb it L pos σ pb vs i = some [] ∧ ∃ j,j < i ∧ isSi it L pos σ j):=by
 induction i with
 | zero=>exact .inl ⟨rfl,fun j hj=>by omega⟩
 | succ i ih =>
  by_cases hC : isC it L pos σ i
  ·rcases hC with ⟨cs,h1,h2,h3⟩ | ⟨h1,h2,T,val,f,h3 | h3 | h3⟩
   ·exact .inr (.inr (.inl (by simp only [lexPb,h2,h3])))
   ·exact .inr (.inr (.inl (by simp only [lexPb,h2,h3])))
   ·exact .inr (.inl ⟨i,by omega,⟨h1,h2,T,val,f,h3⟩,by simp only [lexPb,h2,h3,mkOf],fun j' hj' _=>by omega⟩)
   ·exact .inr (.inr (.inr ⟨by simp only [lexPb,h2,h3],i,by omega,h1,h2,T,val,f,h3⟩))
  ·have e : lexPb it L pos σ pb vs (i + 1) = lexPb it L pos σ pb vs i:=by
    simp only [lexPb]
    split
    ·rename_i h2 h3;exact absurd (.inl ⟨_,nth_lt h3,h2,h3⟩) hC
    ·rename_i h2 h3;exact absurd (.inr ⟨nth_lt h3,h2,_,_,_,.inl h3⟩) hC
    ·rename_i h2 h3;exact absurd (.inr ⟨nth_lt h3,h2,_,_,_,.inr (.inl h3)⟩) hC
    ·rename_i h2 h3;exact absurd (.inr ⟨nth_lt h3,h2,_,_,_,.inr (.inr h3)⟩) hC
    ·rfl
   rw [e]
   rcases ih with ⟨h1,h2⟩ | ⟨j,h1,h2,h3,h4⟩ | h1 | ⟨h1,j,h2,h3⟩
   ·refine .inl ⟨h1,fun j hj=>?_⟩
    by_cases ej : j = i
    ·rw [ej];exact hC
    ·exact h2 j (by omega)
   ·refine .inr (.inl ⟨j,by omega,h2,h3,fun j' hj' hc=>?_⟩)
    by_cases ej : j' = i
    ·rw [ej] at hc;exact absurd hc hC
    ·exact h4 j' (by omega) hc
   ·exact .inr (.inr (.inl h1))
   ·exact .inr (.inr (.inr ⟨h1,j,by omega,h3⟩))
def Ord (it : List (TypeId × IntKind)) (L : List Oper) (pos : List Po) (pt : List (List Nat)) (σ : Fr) : Prop:=∀ j i,isC it L pos σ j → isC it L pos σ i → j < i → (isSh it L pos σ j ∨ isSi it L pos σ j) ∧ j ∈ preAt pt i ∧ ∀ cs,¬ isSt it L pos σ i cs
theorem Ord.one (h : Ord it L pos pt σ) {j i : Nat} {cs : List Value} (hs : isSt it L pos σ j cs) (hc : isC it L pos σ i) : i = j:=by
 rcases Nat.lt_trichotomy i j with h1 | h1 | h1
 ·exact absurd hs ((h i j hc (.inl ⟨cs,hs⟩) h1).2.2 cs)
 ·exact h1
 ·rcases (h j i (.inl ⟨cs,hs⟩) hc h1).1 with ⟨_,_,_,_,_,h2⟩ | ⟨_,_,_,_,_,h2⟩
  ·rw [hs.2.2] at h2;cases h2
  ·rw [hs.2.2] at h2;cases h2
theorem kap_sub (vs : Nat → Gh) : ∀ i,i ≤ pos.length → Fr.sub (kap it L pos σ i) (lexF it L pos σ vs i):=by
 intro i
 induction i with
 | zero=>intro _;exact Fr.sub_refl _
 | succ i ih =>
  intro hi
  have ih:=ih (by omega)
  have put : ∀ (d : Option Tmp) (v : Value),Fr.sub (putF d v (kap it L pos σ i)) (putF d v (lexF it L pos σ vs i)):=by
   intro d v
   cases d with
   | none=>exact ih
   | some d =>
    intro t u hu
    simp only [putF,Fr.get] at hu ⊢
    cases hb : Nat.beq d t with
    | true=>rw [hb] at hu;exact hu
    | false=>rw [hb] at hu;exact ih t u hu
  have del : ∀ (d : Option Tmp) (v : Value),Fr.sub (delF d (kap it L pos σ i)) (putF d v (lexF it L pos σ vs i)):=by
   intro d v
   cases d with
   | none=>exact ih
   | some d =>
    intro t u hu
    obtain ⟨hne,hg⟩:=Fr.get_del _ _ _ _ hu
    simp only [putF,Fr.get]
    have : Nat.beq d t = false:=by
     cases hb : Nat.beq d t with
     | true=>exact absurd (Nat.eq_of_beq_eq_true hb).symm hne
     | false=>rfl
    rw [this]
    exact ih t u hg
  simp only [kap,lexF]
  split
  ·rename_i o po ho hpo
   have hd : dstAt L i = o.dst:=by simp [dstAt,ho]
   have hkv : kv it L pos σ i = known it L (kap it L pos σ i) o po:=by simp only [kv,ho,hpo]
   simp only [stepK,vlA,hkv,hd]
   cases known it L (kap it L pos σ i) o po with
   | some v=>exact put _ _
   | none=>exact del _ _
  ·rename_i hne
   cases ho : nth L i with
   | none =>
    have hd : dstAt L i = none:=by simp [dstAt,ho]
    rw [hd];exact ih
   | some o =>
    cases hpo : nth pos i with
    | some po=>exact absurd hpo (hne o po ho)
    | none =>
     rw [nth_eq] at hpo
     have:=List.getElem?_eq_none_iff.1 hpo
     omega
theorem lexF_get (vs : Nat → Gh) (t : Tmp) : ∀ i v,Fr.get t (lexF it L pos σ vs i) = some v →
  (∃ j,j < i ∧ dstAt L j = some t ∧ (∀ j',j' < i → dstAt L j' = some t → j' ≤ j) ∧ v = vl it L pos σ vs j) ∨ ((∀ j,j < i → dstAt L j ≠ some t) ∧ Fr.get t σ = some v):=by
 intro i
 induction i with
 | zero=>intro v h;exact .inr ⟨fun j hj=>by omega,h⟩
 | succ i ih =>
  intro v h
  have old : dstAt L i ≠ some t → Fr.get t (lexF it L pos σ vs i) = some v →
    (∃ j,j < i + 1 ∧ dstAt L j = some t ∧ (∀ j',j' < i + 1 → dstAt L j' = some t → j' ≤ j) ∧ v = vl it L pos σ vs j) ∨ ((∀ j,j < i + 1 → dstAt L j ≠ some t) ∧ Fr.get t σ = some v):=fun hne h'=>by
   rcases ih v h' with ⟨j,h1,h2,h3,h4⟩ | ⟨h1,h2⟩
   ·refine Or.inl ⟨j,by omega,h2,fun j' hj' hd=>?_,h4⟩
    rcases Nat.lt_or_ge j' i with h | h
    ·exact h3 j' h hd
    ·have : j' = i:=by omega
     subst this;exact absurd hd hne
   ·refine Or.inr ⟨fun j hj=>?_,h2⟩
    rcases Nat.lt_or_ge j i with h | h
    ·exact h1 j h
    ·have : j = i:=by omega
     subst this;exact hne
  simp only [lexF] at h
  cases hd : dstAt L i with
  | none=>rw [hd] at h;exact old (by rw [hd];simp) h
  | some d =>
   rw [hd] at h
   simp only [putF,Fr.get] at h
   cases hb : Nat.beq d t with
   | true =>
    rw [hb] at h
    have e : d = t:=Nat.eq_of_beq_eq_true hb
    subst e
    exact .inl ⟨i,by omega,hd,fun j' hj' _=>by omega,(Option.some.inj h).symm⟩
   | false =>
    rw [hb] at h
    exact old (by rw [hd];intro e;exact Nat.ne_of_beq_eq_false hb (Option.some.inj e)) h
theorem lexF_congr {vs vs' : Nat → Gh} : ∀ i,(∀ j,j < i → vs j = vs' j) → lexF it L pos σ vs i = lexF it L pos σ vs' i:=by
 intro i
 induction i with
 | zero=>intro _;rfl
 | succ i ih =>
  intro h
  simp only [lexF]
  rw [ih fun j hj=>h j (by omega)]
  simp only [vlA,h i (by omega)]
theorem lexF_slot {vs vs' : Nat → Gh} {t : Tmp} : ∀ n,(∀ m,m < n → dstAt L m = some t → vl it L pos σ vs m = vl it L pos σ vs' m) → Fr.get t (lexF it L pos σ vs n) = Fr.get t (lexF it L pos σ vs' n):=by
 intro n
 induction n with
 | zero=>intro _;rfl
 | succ n ih =>
  intro h
  have ih:=ih fun m hm=>h m (by omega)
  have hn:=h n (by omega)
  simp only [lexF]
  cases hd : dstAt L n with
  | none=>exact ih
  | some d =>
   simp only [putF,Fr.get]
   cases hb : Nat.beq d t with
   | true =>
    have e : d = t:=Nat.eq_of_beq_eq_true hb
    subst e
    have:=hn hd
    simp only [vl] at this
    simp only [this]
   | false=>exact ih
theorem mem_lexFs {vs : Nat → Gh} : ∀ {i j : Nat} {g : Fact},(j,g) ∈ lexFs it L pos σ vs i → j < i ∧ kv it L pos σ j = none ∧ g ∈ foOf (nth pos j) (vs j):=by
 intro i
 induction i with
 | zero=>intro j g h;simp [lexFs] at h
 | succ i ih =>
  intro j g h
  simp only [lexFs] at h
  cases hk : kv it L pos σ i with
  | some v =>
   rw [hk] at h
   obtain ⟨h1,h2⟩:=ih h;exact ⟨by omega,h2⟩
  | none =>
   rw [hk] at h
   rcases List.mem_append.1 h with h | h
   ·obtain ⟨g',hg',e⟩:=List.mem_map.1 h
    obtain ⟨rfl,rfl⟩:=Prod.mk.inj e
    exact ⟨by omega,hk,hg'⟩
   ·obtain ⟨h1,h2⟩:=ih h;exact ⟨by omega,h2⟩
theorem mem_stOf {po : Option Po} {pb : Pb} {x : Blk} (h : x ∈ stOf po pb) : ∃ cs b T cs0,po = some (.st cs) ∧ pb = some [(some b,T,cs0)] ∧ x = (some b,T,cs):=by
 unfold stOf at h
 split at h
 ·rename_i cs b T cs0
  exact ⟨cs,b,T,cs0,rfl,rfl,List.mem_singleton.1 h⟩
 ·cases h
theorem mem_lexAl {vs : Nat → Gh} : ∀ {i : Nat} {x : Blk},x ∈ lexAl it L pos σ pb vs i → (∃ j,j < i ∧ kv it L pos σ j = none ∧ x ∈ alOf (nth pos j) (vs j)) ∨
  ∃ j b T cs0 cs,j < i ∧ kv it L pos σ j = none ∧ nth pos j = some (.st cs) ∧ lexPb it L pos σ pb vs j = some [(some b,T,cs0)] ∧ x = (some b,T,cs):=by
 intro i
 induction i with
 | zero=>intro x h;simp [lexAl] at h
 | succ i ih =>
  intro x h
  have old : x ∈ lexAl it L pos σ pb vs i → (∃ j,j < i + 1 ∧ kv it L pos σ j = none ∧ x ∈ alOf (nth pos j) (vs j)) ∨
    ∃ j b T cs0 cs,j < i + 1 ∧ kv it L pos σ j = none ∧ nth pos j = some (.st cs) ∧ lexPb it L pos σ pb vs j = some [(some b,T,cs0)] ∧ x = (some b,T,cs):=fun h=>by
   rcases ih h with ⟨j,h1,h2⟩ | ⟨j,b,T,cs0,cs,h1,h2⟩
   ·exact .inl ⟨j,by omega,h2⟩
   ·exact .inr ⟨j,b,T,cs0,cs,by omega,h2⟩
  simp only [lexAl] at h
  cases hk : kv it L pos σ i with
  | some v=>rw [hk] at h;exact old h
  | none =>
   rw [hk] at h
   rcases List.mem_append.1 h with h | h
   ·exact .inl ⟨i,by omega,hk,h⟩
   ·rcases List.mem_append.1 h with h | h
    ·obtain ⟨cs,b,T,cs0,h1,h2,rfl⟩:=mem_stOf h
     exact .inr ⟨i,b,T,cs0,cs,by omega,hk,h1,h2,rfl⟩
    ·exact old h
theorem lexAl_distinct {vs : Nat → Gh} : ∀ i,i ≤ pos.length → (∀ j,j < i → kv it L pos σ j = none → Distinct (alOf (nth pos j) (vs j))) → (∀ j j' y z,j < i → j' < i → kv it L pos σ j = none → kv it L pos σ j' = none → y ∈ alOf (nth pos j) (vs j) → z ∈ alOf (nth pos j') (vs j') → j ≠ j' → ∀ b,y.1 = some b → z.1 ≠ some b) →
  (∀ j b T cs0 cs,j < i → kv it L pos σ j = none → nth pos j = some (.st cs) → lexPb it L pos σ pb vs j = some [(some b,T,cs0)] → (∀ j' y,j' < i → kv it L pos σ j' = none → y ∈ alOf (nth pos j') (vs j') → y.1 ≠ some b) ∧ ∀ j' cs',j' < i → kv it L pos σ j' = none → nth pos j' = some (.st cs') → j' = j) → Distinct (lexAl it L pos σ pb vs i):=by
 intro i
 induction i with
 | zero=>intro _ _ _ _;simp [lexAl,Distinct]
 | succ i ih =>
  intro hi hd h hp0
  have ih:=ih (by omega) (fun j hj=>hd j (by omega)) (fun j j' y z h1 h2=>h j j' y z (by omega) (by omega)) (fun j b T cs0 cs h1 h2 h3 h4=>by
   obtain ⟨g1,g2⟩:=hp0 j b T cs0 cs (by omega) h2 h3 h4
   exact ⟨fun j' y hj'=>g1 j' y (by omega),fun j' cs' hj'=>g2 j' cs' (by omega)⟩)
  simp only [lexAl]
  cases hk : kv it L pos σ i with
  | some v=>exact ih
  | none =>
   have hst : Distinct (stOf (nth pos i) (lexPb it L pos σ pb vs i)):=by
    unfold stOf
    split
    ·exact ⟨fun y hy=>(by cases hy),trivial⟩
    ·exact trivial
   refine (hd i (by omega) hk).append (hst.append ih fun x hx y hy b hb hyb=>?_) fun x hx y hy b hb hyb=>?_
   ·obtain ⟨cs,b',T,cs0,h1,h2,rfl⟩:=mem_stOf hx
    obtain rfl : b' = b:=Option.some.inj hb
    obtain ⟨g1,g2⟩:=hp0 i b' T cs0 cs (by omega) hk h1 h2
    rcases mem_lexAl hy with ⟨j,h3,h4,h5⟩ | ⟨j,b2,T',cs1,cs',h3,h4,h5,h6,rfl⟩
    ·exact g1 j y (by omega) h4 h5 hyb
    ·have:=g2 j cs' (by omega) h4 h5
     omega
   ·rcases List.mem_append.1 hy with hy | hy
    ·obtain ⟨cs,b',T,cs0,h1,h2,rfl⟩:=mem_stOf hy
     rw [h1] at hx;cases hx
    ·rcases mem_lexAl hy with ⟨j,h3,h4,h5⟩ | ⟨j,b2,T',cs1,cs',h3,h4,h5,h6,rfl⟩
     ·exact h i j x y (by omega) (by omega) hk h4 hx h5 (by omega) b hb hyb
     ·obtain rfl : b2 = b:=Option.some.inj hyb
      exact (hp0 j b2 T' cs1 cs' (by omega) h4 h5 h6).1 i x (by omega) hk hx hb
theorem mem_sel {pre : List Nat} {g : Fact} : ∀ {l : List (Nat × Fact)},g ∈ sel pre l → ∃ j,j ∈ pre ∧ (j,g) ∈ l:=by
 intro l
 induction l with
 | nil=>intro h;simp [sel] at h
 | cons x l ih =>
  obtain ⟨i,f⟩:=x
  intro h
  simp only [sel] at h
  cases hb : memB i pre with
  | true =>
   rw [hb] at h
   rcases List.mem_cons.1 h with rfl | h
   ·exact ⟨i,memB_iff.1 hb,.head _⟩
   ·obtain ⟨j,h1,h2⟩:=ih h;exact ⟨j,h1,.tail _ h2⟩
  | false =>
   rw [hb] at h
   obtain ⟨j,h1,h2⟩:=ih h;exact ⟨j,h1,.tail _ h2⟩
structure Mid (F : Fun P) (C : Cx) (it : List (TypeId × IntKind)) (L : List Oper) (pos : List Po) (β : List Blk) (σ : Fr) (pb : Pb) (w0 : World) (T : Nat → Prop) (vs : Nat → Gh) (a : Act) (w : World) : Prop where
 size : a.tmps.size = F.fn.ntmps
 defers : a.defers = []
 ext : ExtP pb w0 w
 low : ∀ k,pbk pb k → k < w0.heap.size
 pend : (∀ i,T i → ¬ isC it L pos σ i) → ∀ x ∈ pbL pb,∀ b,x.1 = some b → w.heap[b]? = some (.cells x.2.2.toArray x.2.1 (0,0))
 sted : ∀ b Ty cs0,pb = some [(some b,Ty,cs0)] → ∀ i cs,T i → isSt it L pos σ i cs → w.heap[b]? = some (.cells cs.toArray Ty (0,0))
 fact : ∀ i,T i → i < pos.length → kv it L pos σ i = none → ∀ g ∈ foOf (nth pos i) (vs i),g.holds w (okN C w β (NAp it L pos σ pb T vs))
 made : ∀ i y,T i → isMk it L pos σ vs i y → ∀ b,y.1 = some b → b < w.heap.size ∧ ((∀ j,T j → isC it L pos σ j → isC it L pos σ i → cid it L pos σ j = cid it L pos σ i → j ≤ i) → w.heap[b]? = some (.cells y.2.2.toArray y.2.1 (0,0))) ∧ (w0.heap.size ≤ b ∨ (isSg it L pos σ i ∧ cid it L pos σ i = 0 ∧ pbk pb b))
 mdist : ∀ i,T i → i < pos.length → kv it L pos σ i = none → Distinct (mkOf (nth pos i) (vs i))
 apart : ∀ i j y z,T i → T j → isMk it L pos σ vs i y → isMk it L pos σ vs j z → i ≠ j → ¬ (isC it L pos σ i ∧ isC it L pos σ j ∧ cid it L pos σ i = cid it L pos σ j) → ∀ b,y.1 = some b → z.1 ≠ some b
 last : ∀ t i,T i → i < pos.length → dstAt L i = some t → (∀ j,T j → j < pos.length → dstAt L j = some t → j ≤ i) → a.tmps[t]? = some (vl it L pos σ vs i)
 rest : ∀ t v,(∀ i,T i → i < pos.length → dstAt L i ≠ some t) → Fr.get t σ = some v → a.tmps[t]? = some v
theorem Mid.step {w0 w w' : World} {T : Nat → Prop} {vs : Nat → Gh} {a : Act} {i : Nat} {o : Oper} {v : Value} {x : Gh} (hr : RegB L pt pos.length) (hm : Mid F C it L pos β σ pb w0 T vs a w) (hi : i < pos.length) (ho : L[i]? = some o) (hT : ¬ T i)
  (hcl : ∀ j,T j → j < L.length ∧ ∀ m ∈ preAt pt j,T m) (hout : outOk o.dst F.fn.ntmps = true) (hx : ExtQ (cuk it L pos σ pb (cid it L pos σ i) T vs) w w') (hord : Ord it L pos pt σ)
  (hpb : ¬ isC it L pos σ i → ∀ k,k < w.heap.size → w'.heap[k]? = w.heap[k]?) (hst : ∀ cs,isSt it L pos σ i cs → ∀ b Ty cs0,pb = some [(some b,Ty,cs0)] → w'.heap[b]? = some (.cells cs.toArray Ty (0,0)))
  (hv : ∀ u,kv it L pos σ i = some u → v = u) (hf : kv it L pos σ i = none → ((∃ val f,nth pos i = some (.fa val f) ∧ v = val x ∧ ∀ g ∈ f x,g.holds w' (okN C w' β (NAp it L pos σ pb T vs))) ∨
   ∃ Ty cs val,nth pos i = some (.al Ty cs val) ∧ v = val (x 0).2.1 ∧ (x 0).2.1 = w.heap.size ∧ w' = w.alloc (.cells cs.toArray Ty)) ∨ (∃ cs,nth pos i = some (.st cs) ∧ v = undef) ∨ (∃ ts g,nth pos i = some (.pv ts g) ∧ v = g (valsOf (lexF it L pos σ vs i) ts)) ∨
   ∃ bl val f,(nth pos i = some (.sg bl val f) ∨ nth pos i = some (.sh bl val f) ∨ nth pos i = some (.si bl val f)) ∧ v = val x ∧ Distinct (bl x) ∧ (∀ y ∈ bl x,∀ b,y.1 = some b → (w.heap.size ≤ b ∨ cuk it L pos σ pb (cid it L pos σ i) T vs b) ∧ w'.heap[b]? = some (.cells y.2.2.toArray y.2.1 (0,0))) ∧ ∀ g ∈ f x,g.holds w' (fun k=>(okN C w β (NAp it L pos σ pb T vs) k ∨ w.heap.size ≤ k) ∧ k < w'.heap.size ∧ ∀ y ∈ bl x,y.1 ≠ some k))
  (hpv : ∀ j ts g,j < pos.length → kv it L pos σ j = none → nth pos j = some (.pv ts g) → ∀ o,L[j]? = some o → ∀ t ∈ ts,t ∈ readsOf L o)
  (hw0 : C.w0.heap.size ≤ w0.heap.size) (hβ : ∀ y ∈ β,∀ k,y.1 = some k → k < w0.heap.size) :
  Mid F C it L pos β σ pb w0 (fun j=>T j ∨ j = i) (fun j=>if j = i then x else vs j) (a.put o.dst v) w':=by
 have hdi : dstAt L i = o.dst:=by simp [dstAt,nth_eq,ho]
 have hval : vl it L pos σ (fun j=>if j = i then x else vs j) i = v:=by
  unfold vl vlA
  cases h : kv it L pos σ i with
  | some u=>exact (hv u h).symm
  | none =>
   rcases hf h with (⟨val,f,hp,rfl,_⟩ | ⟨Ty,cs,val,hp,rfl,_⟩) | ⟨cs,hp,rfl⟩ | ⟨ts,g,hp,rfl⟩ | ⟨Ty,val,f,hp | hp | hp,rfl,_⟩
   ·simp [hp]
   ·simp [hp]
   ·simp [hp]
   ·simp only [hp]
    rw [lexF_congr (vs':=vs) i fun j hj=>if_neg (by omega)]
   ·simp [hp]
   ·simp [hp]
   ·simp [hp]
 have hoth : ∀ j,T j → j < pos.length → vl it L pos σ (fun j=>if j = i then x else vs j) j = vl it L pos σ vs j:=by
  intro j
  induction j using Nat.strongRecOn with
  | _ j ih =>
   intro hj hjk
   have hne : j ≠ i:=fun e=>hT (e ▸ hj)
   unfold vl vlA
   cases hk : kv it L pos σ j with
   | some u=>rfl
   | none =>
    cases hp : nth pos j with
    | none=>rfl
    | some po =>
     cases po with
     | fa val f=>simp only [if_neg hne]
     | al Ty cs val=>simp only [if_neg hne]
     | sg Ty val f=>simp only [if_neg hne]
     | sh Ty val f=>simp only [if_neg hne]
     | si Ty val f=>simp only [if_neg hne]
     | pv ts g =>
      obtain ⟨b,hb⟩ : ∃ b,L[j]? = some b:=⟨L[j]'(hcl j hj).1,by simp⟩
      have hts:=hpv j ts g hjk hk hp b hb
      have e : valsOf (lexF it L pos σ (fun j=>if j = i then x else vs j) j) ts = valsOf (lexF it L pos σ vs j) ts:=by
       refine List.map_congr_left fun t ht=>?_
       rw [lexF_slot (vs':=vs) j fun m hm hd=>?_]
       obtain ⟨c,hc⟩ : ∃ c,L[m]? = some c:=⟨L[m]'(by have:=(hcl j hj).1;omega),by simp⟩
       have hpr:=hr.pair m j c b (by omega) hjk hc hb
       have hdc : c.dst = some t:=by simpa [dstAt,nth_eq,hc] using hd
       have hblt : Nat.blt m j = true:=Nat.ble_eq_true_of_le hm
       simp only [okPair,hblt,hdc,Bool.or_eq_true,Bool.and_eq_true] at hpr
       rcases hpr with hpr | ⟨_,hpr,_⟩
       ·exact ih m hm ((hcl j hj).2 m (memB_iff.1 hpr)) (by omega)
       ·simp [memB_iff.2 (hts t ht)] at hpr
      simp only [e]
     | _=>rfl
 -- of two that write one slot the done one comes first
 have later : ∀ j t,T j → j < pos.length → dstAt L j = some t → o.dst = some t → j < i:=by
  intro j t hj hjk hdj hdo
  rcases Nat.lt_trichotomy j i with h | h | h
  ·exact h
  ·subst h;exact absurd hj hT
  ·obtain ⟨b,hb⟩ : ∃ b,L[j]? = some b:=⟨L[j]'(hcl j hj).1,by simp⟩
   have hp:=hr.pair i j o b hi hjk ho hb
   have hdb : b.dst = some t:=by simpa [dstAt,nth_eq,hb] using hdj
   have hblt : Nat.blt i j = true:=Nat.ble_eq_true_of_le h
   simp only [okPair,hblt,hdb,hdo,Bool.or_eq_true] at hp
   rcases hp with hp | hp
   ·exact absurd ((hcl j hj).2 i (memB_iff.1 hp)) hT
   ·have : Nat.beq t t = true:=Nat.beq_refl t
    simp [this] at hp
 have hsize : ∀ j y,T j → isMk it L pos σ vs j y → ∀ b,y.1 = some b → b < w.heap.size:=fun j y hj hA b hb =>
  (hm.made j y hj hA b hb).1
 have hlow : ∀ k,pbk pb k → k < w.heap.size:=fun k hk=>Nat.lt_of_lt_of_le (hm.low k hk) hm.ext.size
 -- of a done operation nothing has turned
 have mkSame : ∀ j y,j ≠ i → isMk it L pos σ (fun j=>if j = i then x else vs j) j y → isMk it L pos σ vs j y:=fun j y hj h=>by
  unfold isMk at h ⊢
  simp only [if_neg hj] at h
  exact h
 -- a block of this operation is new,or one that was handed in
 have mkNew : ∀ y,isMk it L pos σ (fun j=>if j = i then x else vs j) i y → ∀ b,y.1 = some b → w'.heap[b]? = some (.cells y.2.2.toArray y.2.1 (0,0)) ∧ (w.heap.size ≤ b ∨ (isSg it L pos σ i ∧ cuk it L pos σ pb (cid it L pos σ i) T vs b)):=fun y hA b hb=>by
  have h3:=hA.2.2
  simp only [if_true] at h3
  rcases hf hA.2.1 with (⟨val,f,hp,_⟩ | ⟨Ty',cs',val',hp,_,hbb,rfl⟩) | ⟨cs',hp,_⟩ | ⟨ts,g',hp,_⟩ | ⟨bl,val',f',hp,_,_,h4,_⟩
  ·rw [hp] at h3;cases h3
  ·rw [hp] at h3
   obtain rfl:=List.mem_singleton.1 h3
   have hb' : (x 0).2.1 = b:=Option.some.inj hb
   rw [← hb',hbb]
   exact ⟨heap_alloc_new w _,.inl (Nat.le_refl _)⟩
  ·rw [hp] at h3;cases h3
  ·rw [hp] at h3;cases h3
  ·have h3 : y ∈ bl x:=by
    rcases hp with hp | hp | hp
    ·rw [hp] at h3;exact h3
    ·rw [hp] at h3;exact h3
    ·rw [hp] at h3;exact h3
   obtain ⟨h5,h6⟩:=h4 y h3 b hb
   exact ⟨h6,h5.imp id fun h=>⟨⟨hi,hA.2.1,_,_,_,hp⟩,h⟩⟩
 -- what is handed on
 have cukLow : ∀ k,cuk it L pos σ pb (cid it L pos σ i) T vs k → k < w.heap.size ∧ (w0.heap.size ≤ k ∨ pbk pb k):=by
  rintro k (⟨_,h⟩ | ⟨m,y,hm',_,_,hA,e⟩)
  ·exact ⟨hlow k h,.inr h⟩
  ·obtain ⟨h1,_,h2⟩:=hm.made m y hm' hA k e
   exact ⟨h1,h2.imp id (·.2.2)⟩
 have cukN : ∀ k,cuk it L pos σ pb (cid it L pos σ i) T vs k → NAp it L pos σ pb T vs k:=by
  rintro k (⟨_,h⟩ | ⟨m,y,hm',_,_,hA,e⟩)
  ·exact .inr h
  ·exact .inl ⟨m,y,hm',hA,e⟩
 -- what was allowed stays allowed
 have hN : ∀ k,k < w.heap.size → ¬ NAp it L pos σ pb T vs k → ¬ NAp it L pos σ pb (fun j=>T j ∨ j = i) (fun j=>if j = i then x else vs j) k:=by
  rintro k hk hno (⟨j,y,hj,hA,e⟩ | hp)
  ·by_cases hji : j = i
   ·subst hji
    rcases (mkNew y hA k e).2 with h | ⟨_,h⟩
    ·omega
    ·exact hno (cukN k h)
   ·exact hno (.inl ⟨j,y,hj.resolve_right hji,mkSame j y hji hA,e⟩)
  ·exact hno (.inr hp)
 have hok : ∀ k,okN C w β (NAp it L pos σ pb T vs) k → okN C w' β (NAp it L pos σ pb (fun j=>T j ∨ j = i) (fun j=>if j = i then x else vs j)) k ∧ w'.heap[k]? = w.heap[k]? :=
  fun k hk=>⟨⟨⟨hk.1.1,Nat.lt_of_lt_of_le hk.1.2.1 hx.size,hk.1.2.2⟩,hN k hk.1.2.1 hk.2⟩,hx.block k hk.1.2.1 fun hp=>hk.2 (cukN k hp)⟩
 refine ⟨?_,?_,hm.ext.transQ hx (fun k hk hq=>(cukLow k hq).2.resolve_left (by omega)),hm.low,fun hno y hy b hb=>?_,fun b Ty cs0 hb j cs hj hS=>?_,?_,?_,?_,?_,?_,?_⟩
 ·cases hd : o.dst <;> simp [Act.put,hm.size]
 ·cases hd : o.dst <;> simp [Act.put,hm.defers]
 ·rw [hpb (hno i (.inr rfl)) b (hlow b ⟨y,hy,hb⟩)]
  exact hm.pend (fun j hj=>hno j (.inl hj)) y hy b hb
 ·by_cases e : j = i
  ·subst e
   exact hst cs hS b Ty cs0 hb
  ·rw [hpb (fun hS'=>e (hord.one hS hS').symm) b (hlow b ⟨(some b,Ty,cs0),by rw [hb];exact .head _,rfl⟩)]
   exact hm.sted b Ty cs0 hb j cs (hj.resolve_right e) hS
 ·intro j hj hjk hk g hg
  by_cases e : j = i
  ·subst e
   simp only [if_true] at hg
   have hmk : ∀ {bl : Gh → List Blk} {val2 : Gh → Value} {f' : Gh → List Fact},(nth pos j = some (.sg bl val2 f') ∨ nth pos j = some (.sh bl val2 f') ∨ nth pos j = some (.si bl val2 f')) → foOf (nth pos j) x = f' x ∧ mkOf (nth pos j) x = bl x:=fun h=>by
    rcases h with h | h | h <;> rw [h] <;> exact ⟨rfl,rfl⟩
   rcases hf hk with (⟨val',f',hp',_,hh⟩ | ⟨Ty,cs,val2,hp',_⟩) | ⟨cs,hp',_⟩ | ⟨ts,g',hp',_⟩ | ⟨bl,val2,f',hp',_,_,hbl,hh⟩
   ·rw [hp'] at hg
    refine g.stable (fun k hk'=>⟨⟨hk'.1,?_⟩,rfl⟩) (hh g hg)
    rintro (⟨m,y,hmm,hA,e⟩ | hpk)
    ·by_cases hmj : m = j
     ·subst hmj;have:=hA.2.2;rw [hp'] at this;cases this
     ·exact hk'.2 (.inl ⟨m,y,hmm.resolve_right hmj,mkSame m y hmj hA,e⟩)
    ·exact hk'.2 (.inr hpk)
   ·rw [hp'] at hg;cases hg
   ·rw [hp'] at hg;cases hg
   ·rw [hp'] at hg;cases hg
   ·rw [(hmk hp').1] at hg
    refine g.stable (fun k hk'=>⟨?_,rfl⟩) (hh g hg)
    rcases hk'.1 with h | h
    ·exact (hok k h).1
    ·refine ⟨⟨.inr (.inr (Nat.le_trans (Nat.le_trans hw0 hm.ext.size) h)),hk'.2.1,fun y hy e=>?_⟩,?_⟩
     ·have:=hβ y hy k e
      have:=hm.ext.size
      omega
     ·rintro (⟨m,y,hmm,hA,e⟩ | hpk)
      ·by_cases hmj : m = j
       ·subst hmj
        have h3:=hA.2.2
        simp only [if_true] at h3
        rw [(hmk hp').2] at h3
        exact hk'.2.2 y h3 e
       ·have:=hsize m y (hmm.resolve_right hmj) (mkSame m y hmj hA) k e
        omega
      ·have:=hlow k hpk
       omega
  ·simp only [e,if_false] at hg
   exact g.stable hok (hm.fact j (hj.resolve_right e) hjk hk g hg)
 ·intro j y hj hA b hb
  by_cases e : j = i
  ·subst e
   obtain ⟨h1,h2⟩:=mkNew y hA b hb
   refine ⟨(Array.getElem?_eq_some_iff.1 h1).1,fun _=>h1,?_⟩
   rcases h2 with h | ⟨h,h'⟩
   ·exact .inl (Nat.le_trans hm.ext.size h)
   ·rcases h' with ⟨h0,h'⟩ | ⟨m,z,hm',_,hc,hB,hz⟩
    ·exact .inr ⟨h,h0,h'⟩
    ·exact (hm.made m z hm' hB b hz).2.2.imp id fun g=>⟨h,hc ▸ g.2.1,g.2.2⟩
  ·have hTj:=hj.resolve_right e
   have hA':=mkSame j y e hA
   obtain ⟨h0,h1,h2⟩:=hm.made j y hTj hA' b hb
   refine ⟨Nat.lt_of_lt_of_le h0 hx.size,fun hmax=>?_,h2⟩
   have h1:=h1 fun m hm'=>hmax m (.inl hm')
   by_cases hCi : isC it L pos σ i
   ·have hnj : ¬ (isC it L pos σ j ∧ cid it L pos σ j = cid it L pos σ i):=fun ⟨hCj,hce⟩=>by
     have h3:=hmax i (.inr rfl) hCi hCj hce.symm
     exact hT ((hcl j hTj).2 i (hord i j hCi hCj (by omega)).2.1)
    rw [hx.block _ h0 fun hp=>?_];exact h1
    rcases hp with ⟨hc0,hp⟩ | ⟨m,z,hm',hSm,hcm,hB,hz⟩
    ·rcases h2 with h2 | ⟨h2,h3,_⟩
     ·have:=hm.low _ hp
      omega
     ·exact hnj ⟨.inr h2,by rw [h3,hc0]⟩
    ·exact hm.apart j m y z hTj hm' hA' hB (fun e=>hnj (by rw [e];exact ⟨.inr hSm,hcm⟩)) (fun h=>hnj ⟨h.1,by rw [h.2.2,hcm]⟩) b hb hz
   ·rw [hpb hCi b h0];exact h1
 ·intro j hj hjk hk
  by_cases e : j = i
  ·subst e
   simp only [if_true]
   rcases hf hk with (⟨val',f',hp',_,hh⟩ | ⟨Ty,cs,val2,hp',_⟩) | ⟨cs,hp',_⟩ | ⟨ts,g',hp',_⟩ | ⟨bl,val2,f',hp' | hp' | hp',_,hd2,_,_⟩
   ·rw [hp'];exact trivial
   ·rw [hp'];exact ⟨fun y hy=>(by cases hy),trivial⟩
   ·rw [hp'];exact trivial
   ·rw [hp'];exact trivial
   ·rw [hp'];exact hd2
   ·rw [hp'];exact hd2
   ·rw [hp'];exact hd2
  ·simp only [e,if_false]
   exact hm.mdist j (hj.resolve_right e) hjk hk
 ·intro j m y z hj hmm hA hB hne hnc b hb hzb
  -- a new one against an old one
  have one : ∀ m y z,T m → isMk it L pos σ (fun j=>if j = i then x else vs j) i y → isMk it L pos σ vs m z → m ≠ i → ¬ (isC it L pos σ i ∧ isC it L pos σ m ∧ cid it L pos σ i = cid it L pos σ m) → ∀ b,y.1 = some b → z.1 = some b → False:=by
   intro m y z hTm hA hB hmi hnc b hb hzb
   obtain ⟨g0,_,g2⟩:=hm.made m z hTm hB b hzb
   rcases (mkNew y hA b hb).2 with h | ⟨hs,h⟩
   ·omega
   ·have hnm : ¬ (isC it L pos σ m ∧ cid it L pos σ m = cid it L pos σ i):=fun h=>hnc ⟨.inr hs,h.1,h.2.symm⟩
    rcases h with ⟨hc0,h⟩ | ⟨m',y',hm',hSm,hcm,hB',hz'⟩
    ·rcases g2 with g2 | ⟨g2,g3,_⟩
     ·have:=hm.low _ h
      omega
     ·exact hnm ⟨.inr g2,by rw [g3,hc0]⟩
    ·exact hm.apart m' m y' z hm' hTm hB' hB (fun e=>hnm (by rw [← e];exact ⟨.inr hSm,hcm⟩)) (fun h=>hnm ⟨h.2.1,by rw [← h.2.2,hcm]⟩) b hz' hzb
  by_cases e1 : j = i
  ·subst e1
   have e2 : m ≠ j:=fun e=>hne e.symm
   exact one m y z (hmm.resolve_right e2) hA (mkSame m z e2 hB) e2 hnc b hb hzb
  ·by_cases e2 : m = i
   ·subst e2
    exact one j z y (hj.resolve_right e1) hB (mkSame j y e1 hA) e1 (fun h=>hnc ⟨h.2.1,h.1,h.2.2.symm⟩) b hzb hb
   ·exact hm.apart j m y z (hj.resolve_right e1) (hmm.resolve_right e2) (mkSame j y e1 hA) (mkSame m z e2 hB) hne hnc b hb hzb
 ·intro t j hj hjk hd hmax
  by_cases e : j = i
  ·subst e
   rw [hval]
   have hdo : o.dst = some t:=hdi ▸ hd
   rw [hdo] at hout ⊢
   have hlt : t < a.tmps.size:=by rw [hm.size];exact Nat.le_of_ble_eq_true hout
   simp [Act.put,hlt]
  ·have hTj:=hj.resolve_right e
   have hne : o.dst ≠ some t:=fun hdo=>by
    have h1:=later j t hTj hjk hd hdo
    have h2:=hmax i (.inr rfl) hi (hdi.trans hdo)
    omega
   have:=hm.last t j hTj hjk hd (fun m hm' hmk hmd=>hmax m (.inl hm') hmk hmd)
   rw [hoth j hTj hjk,← this]
   cases hdo : o.dst with
   | none=>rfl
   | some d =>
    have : d ≠ t:=fun e=>hne (by rw [hdo,e])
    simp only [Act.put]
    rw [Array.getElem?_setIfInBounds_ne this]
 ·intro t u hno hu
  have hne : o.dst ≠ some t:=fun hdo=>hno i (.inr rfl) hi (hdi.trans hdo)
  have:=hm.rest t u (fun j hj hjk=>hno j (.inl hj) hjk) hu
  rw [← this]
  cases hdo : o.dst with
  | none=>rfl
  | some d =>
   have : d ≠ t:=fun e=>hne (by rw [hdo,e])
   simp only [Act.put]
   rw [Array.getElem?_setIfInBounds_ne this]
theorem Mid.reads {w0 w : World} {T : Nat → Prop} {vs : Nat → Gh} {a : Act} {i : Nat} {o : Oper} (hr : RegB L pt pos.length) (hm : Mid F C it L pos β σ pb w0 T vs a w) (hi : i < pos.length) (ho : L[i]? = some o) (hT : ¬ T i)
  (hcl : ∀ j,T j → j < L.length ∧ ∀ m ∈ preAt pt j,T m) (hpre : ∀ m ∈ preAt pt i,T m) : ∀ t ∈ readsOf L o,∀ v,Fr.get t (lexF it L pos σ vs i) = some v → a.tmps[t]? = some v:=by
 intro t ht v hv
 have hlt:=hr.le
 -- a writer before it is done
 have before : ∀ j,j < i → dstAt L j = some t → T j:=by
  intro j hj hd
  obtain ⟨b,hb⟩ : ∃ b,L[j]? = some b:=⟨L[j]'(by omega),by simp⟩
  have hp:=hr.pair j i b o (by omega) hi hb ho
  have hdb : b.dst = some t:=by simpa [dstAt,nth_eq,hb] using hd
  have hblt : Nat.blt j i = true:=Nat.ble_eq_true_of_le hj
  simp only [okPair,hblt,hdb,Bool.or_eq_true,Bool.and_eq_true] at hp
  rcases hp with hp | ⟨_,hp,_⟩
  ·exact hpre j (memB_iff.1 hp)
  ·simp [memB_iff.2 ht] at hp
 have behind : ∀ j,T j → j < pos.length → dstAt L j = some t → j < i:=by
  intro j hj hjk hd
  rcases Nat.lt_trichotomy j i with h | h | h
  ·exact h
  ·subst h;exact absurd hj hT
  ·obtain ⟨b,hb⟩ : ∃ b,L[j]? = some b:=⟨L[j]'(hcl j hj).1,by simp⟩
   have hp:=hr.pair i j o b hi hjk ho hb
   have hdb : b.dst = some t:=by simpa [dstAt,nth_eq,hb] using hd
   have hblt : Nat.blt i j = true:=Nat.ble_eq_true_of_le h
   simp only [okPair,hblt,hdb,Bool.or_eq_true,Bool.and_eq_true] at hp
   rcases hp with hp | ⟨hp,_⟩
   ·exact absurd ((hcl j hj).2 i (memB_iff.1 hp)) hT
   ·simp [memB_iff.2 ht] at hp
 rcases lexF_get vs t i v hv with ⟨j,h1,h2,h3,rfl⟩ | ⟨h1,h2⟩
 ·exact hm.last t j (before j h1 h2) (by omega) h2 fun m hm' hmk hmd=>h3 m (behind m hm' hmk hmd) hmd
 ·exact hm.rest t v (fun j hj hjk hd=>h1 j (behind j hj hjk hd) hd) h2
def cf : List Bool → Nat
 | []=>0
 | true::l=>cf l
 | false::l=>cf l + 1
theorem cf_set : ∀ (l : List Bool) (i : Nat),l[i]? = some false → cf (l.set i true) + 1 = cf l:=by
 intro l
 induction l with
 | nil=>intro i h;simp at h
 | cons b l ih =>
  intro i h
  cases i with
  | zero=>simp at h;subst h;simp [cf]
  | succ i =>
   have:=ih i (by simpa using h)
   cases b <;> simp [cf] <;> omega
theorem cf_pos : ∀ (l : List Bool) (i : Nat),l[i]? = some false → 0 < cf l:=by
 intro l i h
 have:=cf_set l i h
 omega
theorem cf_rep : ∀ n,cf (List.replicate n false) = n:=by
 intro n
 induction n with
 | zero=>rfl
 | succ n ih=>simp [List.replicate_succ,cf,ih]
theorem filter_one (p : Nat → Bool) (m : Nat) : ∀ n,(∀ i,i < n → (p i = true ↔ i = m)) → m < n → (List.range n).filter p = [m]:=by
 intro n
 induction n with
 | zero=>intro _ h;omega
 | succ n ih =>
  intro h hm
  rw [List.range_succ,List.filter_append]
  by_cases e : m = n
  ·subst e
   have h0 : (List.range m).filter p = []:=by
    rw [List.filter_eq_nil_iff]
    intro i hi
    have hi' : i < m:=by simpa using hi
    intro hp
    have:=(h i (by omega)).1 hp
    omega
   rw [h0]
   simp [(h m (by omega)).2 rfl]
  ·rw [ih (fun i hi=>h i (by omega)) (by omega)]
   have : p n = false:=by
    cases hp : p n with
    | false=>rfl
    | true=>exact absurd ((h n (by omega)).1 hp).symm e
   simp [this]
theorem mem_ready {L : List Oper} {listed : Array Bool} (hs : listed.size = L.length) {i : Nat} : i ∈ Region.ready .any L.toArray listed ↔ listed[i]? = some false ∧ ∃ o,L[i]? = some o ∧ ∀ e ∈ depsOf o,listed[e]? = some true:=by
 simp only [Region.ready,List.mem_filter,List.mem_range,List.size_toArray,Bool.and_eq_true]
 constructor
 ·rintro ⟨hi,h1,h2⟩
  have hl : listed[i]? = some listed[i]:=by simp [hs,hi]
  refine ⟨?_,L[i],by simp [hi],fun e he=>?_⟩
  ·simp [hl] at h1;rw [hl,h1]
  ·simp only [List.getElem?_toArray,List.getElem?_eq_getElem hi,Option.map_some,Option.getD_some,Array.all_eq_true_iff_forall_mem] at h2
   obtain ⟨ed,hed,rfl⟩:=List.mem_map.1 he
   obtain ⟨hm,hb⟩:=List.mem_filter.1 hed
   have:=h2 ed (by simpa using hm)
   rw [hb] at this
   simp at this
   cases hh : listed[ed.on]? with
   | none=>simp [hh] at this
   | some b=>simp [hh] at this;rw [this]
 ·rintro ⟨h1,o,ho,h2⟩
  have hi : i < L.length:=(List.getElem?_eq_some_iff.1 ho).1
  refine ⟨hi,by simp [h1],?_⟩
  simp only [List.getElem?_toArray,ho,Option.map_some,Option.getD_some,Array.all_eq_true_iff_forall_mem]
  intro ed hed
  cases hb : Region.binds .any ed with
  | false=>simp
  | true =>
   have:=h2 ed.on (List.mem_map.2 ⟨ed,List.mem_filter.2 ⟨by simpa using hed,hb⟩,rfl⟩)
   simp [this]
theorem go_step (ops : Array Oper) (fuel t : Nat) (listed : Array Bool) : Region.linearise.go .any ops (fuel + 1) t listed [] =
  match (Region.ready .any ops listed)[t % (Region.ready .any ops listed).length]? with
  | some i=>i::Region.linearise.go .any ops fuel (t / (Region.ready .any ops listed).length) (listed.setIfInBounds i true) []
  | none=>[]:=by
 simp only [Region.linearise.go]
 change (match (Region.ready .any ops listed)[t % (Region.ready .any ops listed).length]? with
   | some i=>Region.linearise.go .any ops fuel (t / (Region.ready .any ops listed).length) (listed.setIfInBounds i true) [i]
   | none=>[].reverse) = _
 cases (Region.ready .any ops listed)[t % (Region.ready .any ops listed).length]? with
 | none=>rfl
 | some i=>simp only [];rw [linearise_go_acc];rfl
theorem pick_ready (ops : Array Oper) (t : Nat) (listed : Array Bool) : ((Region.ready .any ops listed) = [] ∧ (Region.ready .any ops listed)[t % (Region.ready .any ops listed).length]? = none) ∨
  ∃ i,i ∈ Region.ready .any ops listed ∧ (Region.ready .any ops listed)[t % (Region.ready .any ops listed).length]? = some i:=by
 cases hr : Region.ready .any ops listed with
 | nil=>left;simp
 | cons x xs =>
  right
  have hlt : t % (x::xs).length < (x::xs).length:=Nat.mod_lt _ (by simp)
  exact ⟨(x::xs)[t % (x::xs).length],List.getElem_mem _,List.getElem?_eq_getElem hlt⟩
theorem go_tail {k : Nat} (hr : RegB L pt k) : ∀ (fuel t m : Nat) (listed : Array Bool),k ≤ m → m ≤ L.length → listed.size = L.length → (∀ i,i < L.length → listed[i]? = some (decide (i < m))) → L.length - m ≤ fuel →
  Region.linearise.go .any L.toArray fuel t listed [] = List.range' m (L.length - m):=by
 intro fuel
 induction fuel with
 | zero => intro t m listed _ hm _ _ hf; have : L.length - m = 0 := by omega
           rw [this]; simp [Region.linearise.go]
 | succ fuel ih =>
  intro t m listed hkm hm hs hl hf
  rw [go_step]
  by_cases e : m = L.length
  ·have hnil : Region.ready .any L.toArray listed = []:=by
    rw [List.eq_nil_iff_forall_not_mem]
    intro i hi
    obtain ⟨h1,o,ho,_⟩:=(mem_ready hs).1 hi
    have hi' : i < L.length:=(List.getElem?_eq_some_iff.1 ho).1
    have:=hl i hi'
    rw [h1] at this
    simp at this
    omega
   rw [hnil,e]
   simp
  ·have hone : Region.ready .any L.toArray listed = [m]:=by
    refine filter_one _ m _ (fun i hi=>?_) (by simp;omega)
    have hi' : i < L.length:=by simpa using hi
    have hmem : (i ∈ Region.ready .any L.toArray listed) ↔ i = m:=by
     rw [mem_ready hs]
     constructor
     ·rintro ⟨h1,o,ho,h2⟩
      have h3:=hl i hi'
      rw [h1] at h3
      simp at h3
      rcases Nat.lt_or_ge m i with hmi | hmi
      ·have hcl : ∀ j ∈ preAt pt i,j < m:=pre_in hr (T:=fun j=>j < m) (fun j o' hj ho' e he=>Nat.lt_trans (hr.deps j o' ho' e he) hj) i hi' (fun o' ho' e he=>by
        rw [ho] at ho'
        obtain rfl:=Option.some.inj ho'
        have h4:=h2 e he
        have h5:=hr.deps i o ho e he
        have h6:=hl e (by omega)
        rw [h4] at h6
        simpa using h6.symm)
       have:=hcl m (hr.ord i hi' m hkm hmi)
       omega
      ·omega
     ·rintro rfl
      refine ⟨by rw [hl i hi'];simp,L[i],by simp [hi'],fun e he=>?_⟩
      have h5:=hr.deps i L[i] (by simp [hi']) e he
      rw [hl e (by omega)]
      simp [h5]
    simp only [Region.ready,List.mem_filter,List.mem_range] at hmem
    constructor
    ·intro hp;exact hmem.1 ⟨hi,hp⟩
    ·intro e;exact (hmem.2 e).2
   rw [hone]
   simp only [List.length_singleton,Nat.mod_one,List.getElem?_cons_zero,Nat.div_one]
   rw [ih t (m + 1) (listed.setIfInBounds m true) (by omega) (by omega) (by simpa using hs) (fun i hi=>?_) (by omega)]
   ·rw [show L.length - m = (L.length - (m + 1)) + 1 by omega,List.range'_succ]
   ·rw [Array.getElem?_setIfInBounds]
    by_cases e2 : m = i
    ·subst e2;simp [hs,hi]
    ·rw [if_neg e2,hl i hi]
     congr 1
     simp only [decide_eq_decide]
     omega
theorem distinct_iff0 {β : List Blk} : Distinct β ↔ β.Pairwise (fun x y=>∀ b,x.1 = some b → y.1 ≠ some b):=by
 induction β with
 | nil=>simp [Distinct]
 | cons x l ih=>rw [List.pairwise_cons,← ih];rfl
theorem own_ext {w0 w : World} (hO : Own C w0 (pbL pb++β)) (hx : ExtP pb w0 w) : Own C w β:=by
 have hsubB : β.Sublist (pbL pb++β):=List.sublist_append_right _ _
 have hin : ∀ {k},pbk pb k → ∃ x ∈ pbL pb++β,x.1 = some k:=fun ⟨x,hx,e⟩=>⟨x,List.mem_append_left _ hx,e⟩
 have hnb : ∀ k,pbk pb k → ∀ x ∈ β,x.1 ≠ some k:=by
  rintro k ⟨y,hy,e⟩ x hxx hxk
  have hd:=distinct_iff0.1 hO.apart
  rw [List.pairwise_append] at hd
  exact hd.2.2 y hy x hxx k e hxk
 refine ⟨⟨hx.os.trans hO.ext.os,hx.tape.trans hO.ext.tape,hx.output.trans hO.ext.output,Nat.le_trans hO.ext.size hx.size,fun k hk hM=>?_⟩,fun x hxx=>hO.new x (hsubB.subset hxx),fun x hxx b hb=>?_,hO.apart.sub hsubB⟩
 ·rw [hx.block k (Nat.lt_of_lt_of_le hk hO.ext.size) fun hp=>?_]
  ·exact hO.ext.block k hk hM
  ·obtain ⟨y,hy,hyk⟩:=hin hp
   rcases hO.new y hy k hyk with h | h
   ·omega
   ·exact hM h
 ·have hblt : b < w0.heap.size:=hO.lt (hsubB.subset hxx) hb
  rw [hx.block b hblt fun hp=>hnb b hp x hxx hb]
  exact hO.blk x (hsubB.subset hxx) b hb
theorem lx_stat (hL : ∀ (vs : Nat → Gh) (i : Nat),i ≤ pos.length → Lx it F C p S L pt β Γ R i (pos.drop i) (kap it L pos σ i) (lexF it L pos σ vs i) (lexFs it L pos σ vs i) (lexAl it L pos σ pb vs i) (lexPb it L pos σ pb vs i)) (vs : Nat → Gh) (i : Nat) (hC : isC it L pos σ i) :
  (∃ x,lexPb it L pos σ pb vs i = some x ∧ ∀ cs,isSt it L pos σ i cs → ∃ b T cs0,x = [(some b,T,cs0)]) ∧ (isSh it L pos σ i ∨ isSi it L pos σ i → chainAll pt i (i + 1) (pos.drop (i + 1)) = true):=by
 obtain ⟨hi,hkv⟩ : i < pos.length ∧ kv it L pos σ i = none:=by
  rcases hC with ⟨cs,h⟩ | h
  ·exact ⟨h.1,h.2.1⟩
  ·exact ⟨h.1,h.2.1⟩
 have hlx:=hL vs i (Nat.le_of_lt hi)
 obtain ⟨po,hpo⟩ : ∃ po,nth pos i = some po:=⟨pos[i],by rw [nth_eq];simp⟩
 rw [drop_cons hpo] at hlx
 simp only [Lx] at hlx
 cases ho : nth L i with
 | none=>rw [ho] at hlx;exact hlx.elim
 | some o =>
  rw [ho] at hlx
  simp only at hlx
  have hk : kv it L pos σ i = known it L (kap it L pos σ i) o po:=by simp only [kv,ho,hpo]
  cases hout : outOk o.dst F.fn.ntmps with
  | false=>rw [hout] at hlx;exact hlx.elim
  | true =>
   rw [hout] at hlx
   cases hg : gd L (kap it L pos σ i) o with
   | none=>rw [hg] at hlx;exact hlx.elim
   | some b =>
    cases b with
    | false=>rw [hk] at hkv;simp [known,hg] at hkv
    | true =>
     rw [hg] at hlx
     rcases hC with ⟨cs,_,_,hp⟩ | ⟨_,_,T,val,f,hp | hp | hp⟩
     ·rw [hpo] at hp
      obtain rfl:=Option.some.inj hp
      simp only at hlx
      refine ⟨?_,fun h=>by rcases h with ⟨_,_,_,_,_,h⟩ | ⟨_,_,_,_,_,h⟩ <;> (rw [hpo] at h;cases h)⟩
      split at hlx
      ·rename_i b T cs0 hpb
       exact ⟨_,hpb,fun _ _=>⟨b,T,cs0,rfl⟩⟩
      ·exact hlx.elim
     ·rw [hpo] at hp
      obtain rfl:=Option.some.inj hp
      simp only at hlx
      refine ⟨?_,fun h=>by rcases h with ⟨_,_,_,_,_,h⟩ | ⟨_,_,_,_,_,h⟩ <;> (rw [hpo] at h;cases h)⟩
      cases hpb : lexPb it L pos σ pb vs i with
      | none=>rw [hpb] at hlx;simp at hlx
      | some x=>exact ⟨x,rfl,fun cs hS=>by have:=hS.2.2;rw [hpo] at this;cases this⟩
     ·rw [hpo] at hp
      obtain rfl:=Option.some.inj hp
      simp only at hlx
      refine ⟨?_,fun _=>hlx.1.2⟩
      cases hpb : lexPb it L pos σ pb vs i with
      | none=>rw [hpb] at hlx;simp at hlx
      | some x=>exact ⟨x,rfl,fun cs hS=>by have:=hS.2.2;rw [hpo] at this;cases this⟩
     ·rw [hpo] at hp
      obtain rfl:=Option.some.inj hp
      simp only at hlx
      refine ⟨?_,fun _=>hlx.1.2⟩
      cases hpb : lexPb it L pos σ pb vs i with
      | none=>rw [hpb] at hlx;simp at hlx
      | some x=>exact ⟨x,rfl,fun cs hS=>by have:=hS.2.2;rw [hpo] at this;cases this⟩
theorem lx_ord (hL : ∀ (vs : Nat → Gh) (i : Nat),i ≤ pos.length → Lx it F C p S L pt β Γ R i (pos.drop i) (kap it L pos σ i) (lexF it L pos σ vs i) (lexFs it L pos σ vs i) (lexAl it L pos σ pb vs i) (lexPb it L pos σ pb vs i)) : Ord it L pos pt σ:=by
 intro j i hj hi hlt
 have hsh : isSh it L pos σ j ∨ isSi it L pos σ j:=by
  by_cases h : isSh it L pos σ j ∨ isSi it L pos σ j
  ·exact h
  ·exfalso
   have key : ∀ m,j < m → lexPb it L pos σ pb (fun _ _=>default) m = none:=by
    intro m
    induction m with
    | zero=>intro h;omega
    | succ m ih =>
     intro hm
     rcases Nat.lt_or_ge j m with h1 | h1
     ·have ih:=ih h1
      simp only [lexPb]
      split
      ·rfl
      ·rfl
      ·rename_i h2 h3
       obtain ⟨⟨_,e,_⟩,_⟩:=lx_stat hL (fun _ _=>default) m (.inr ⟨nth_lt h3,h2,_,_,_,.inr (.inl h3)⟩)
       rw [ih] at e;cases e
      ·rename_i h2 h3
       obtain ⟨⟨_,e,_⟩,_⟩:=lx_stat hL (fun _ _=>default) m (.inr ⟨nth_lt h3,h2,_,_,_,.inr (.inr h3)⟩)
       rw [ih] at e;cases e
      ·exact ih
     ·have e : j = m:=by omega
      subst e
      rcases hj with ⟨cs,g1,g2,g3⟩ | ⟨g1,g2,T,val,f,g3 | g3 | g3⟩
      ·simp only [lexPb,g2,g3]
      ·simp only [lexPb,g2,g3]
      ·exact absurd (.inl ⟨g1,g2,T,val,f,g3⟩) h
      ·exact absurd (.inr ⟨g1,g2,T,val,f,g3⟩) h
   obtain ⟨⟨_,e,_⟩,_⟩:=lx_stat hL (fun _ _=>default) i hi
   rw [key i hlt] at e;cases e
 have hc:=(lx_stat hL (fun _ _=>default) j hj).2 hsh
 obtain ⟨h1,h2⟩:=chainAll_get hc (i - (j + 1))
 have e1 : nth (pos.drop (j + 1)) (i - (j + 1)) = nth pos i:=by
  rw [nth_eq,nth_eq,List.getElem?_drop]
  congr 1
  omega
 have e2 : j + 1 + (i - (j + 1)) = i:=by omega
 rw [e1] at h1 h2
 rw [e2] at h2
 refine ⟨hsh,?_,fun cs hs=>h1 cs hs.2.2⟩
 rcases hi with ⟨cs,hs⟩ | ⟨_,_,T,val,f,hs⟩
 ·exact absurd hs.2.2 (h1 cs)
 ·exact h2 ⟨T,val,f,hs⟩
theorem at_rest {k : List Item} {w0 : World} (hr : RegB L pt pos.length) (hL : ∀ (vs : Nat → Gh) (i : Nat),i ≤ pos.length → Lx it F C p S L pt β Γ R i (pos.drop i) (kap it L pos σ i) (lexF it L pos σ vs i) (lexFs it L pos σ vs i) (lexAl it L pos σ pb vs i) (lexPb it L pos σ pb vs i))
  (hit : IntTys P it) (hO : Own C w0 (pbL pb++β)) (hG : ∀ g ∈ Γ,g.holds w0 (ok C w0 (pbL pb++β)))
  (fin : ∀ vs a w,Mid F C it L pos β σ pb w0 (fun i=>i < pos.length) vs a w → At F (.inRegion L.toArray (List.range' pos.length (L.length - pos.length))::k) a w R)
  (lat : ∀ (fuel t t' : Nat) (listed : Array Bool) (vs : Nat → Gh) (a : Act) (w : World) (i : Nat),listed.size = L.length → (∀ (i : Nat),listed[i]? = some true → i < pos.length) → (∀ (j : Nat),listed[j]? = some true → ∀ (o : Oper),L[j]? = some o → ∀ e ∈ depsOf o,listed[e]? = some true) → (∀ o,L[i]? = some o → ∀ e ∈ depsOf o,listed[e]? = some true) →
   cf listed.toList ≤ fuel + 1 → Mid F C it L pos β σ pb w0 (fun (i : Nat)=>listed[i]? = some true) vs a w → pos.length ≤ i → listed[i]? = some false → (∃ i0,i0 < pos.length ∧ listed[i0]? ≠ some true) → i < L.length → (∀ m ∈ preAt pt i,listed[m]? = some true) →
   At F (.inRegion L.toArray (i::Region.linearise.go .any L.toArray fuel t' (listed.setIfInBounds i true) [])::k) a w R) :
  ∀ (fuel t : Nat) (listed : Array Bool) (vs : Nat → Gh) (a : Act) (w : World),listed.size = L.length → (∀ (i : Nat),listed[i]? = some true → i < pos.length) →
   (∀ (i : Nat),listed[i]? = some true → ∀ (o : Oper),L[i]? = some o → ∀ e ∈ depsOf o,listed[e]? = some true) →
   cf listed.toList ≤ fuel → Mid F C it L pos β σ pb w0 (fun (i : Nat)=>listed[i]? = some true) vs a w →
   At F (.inRegion L.toArray (Region.linearise.go .any L.toArray fuel t listed [])::k) a w R:=by
 have hpv : ∀ j ts g,j < pos.length → kv it L pos σ j = none → nth pos j = some (.pv ts g) → ∀ o,L[j]? = some o → ∀ t ∈ ts,t ∈ readsOf L o:=fun j ts g hj hk hp o ho t ht=>by
  have hlx:=hL (fun _ _=>default) j (Nat.le_of_lt hj)
  rw [drop_cons hp] at hlx
  have hn : nth L j = some o:=by rw [nth_eq];exact ho
  simp only [Lx,hn] at hlx
  simp only [kv,hn,hp] at hk
  cases hout : outOk o.dst F.fn.ntmps with
  | false=>rw [hout] at hlx;exact hlx.elim
  | true =>
   rw [hout] at hlx
   cases hg : gd L (kap it L pos σ j) o with
   | none=>rw [hg] at hlx;exact hlx.elim
   | some b =>
    cases b with
    | false=>simp only [known,hg] at hk;cases hk
    | true =>
     rw [hg] at hlx
     exact memB_iff.1 (List.all_eq_true.1 hlx.1 t ht)
 have hstat:=lx_stat hL
 have hord : Ord it L pos pt σ:=lx_ord hL
 have hsubB : β.Sublist (pbL pb++β):=List.sublist_append_right _ _
 have hOb : Own C w0 β:=hO.sub hsubB
 have hnb : ∀ k,pbk pb k → ∀ x ∈ β,x.1 ≠ some k:=by
  rintro k ⟨y,hy,e⟩ x hx hxk
  have hd:=distinct_iff0.1 hO.apart
  rw [List.pairwise_append] at hd
  exact hd.2.2 y hy x hx k e hxk
 intro fuel
 induction fuel with
 | zero =>
  intro t listed vs a w hs hlt hcl hf hm
  have hall : ∀ i,i < L.length → listed[i]? = some true:=fun i hi=>by
   have hl : listed[i]? = some listed[i]:=by simp [hs,hi]
   cases hb : listed[i] with
   | true=>rw [hl,hb]
   | false =>
    have:=cf_pos listed.toList i (by rw [Array.getElem?_toList,hl,hb])
    omega
  have hk : L.length = pos.length:=by
   have:=hr.le
   rcases Nat.lt_or_ge pos.length L.length with h | h
   ·have:=hlt _ (hall pos.length h);omega
   ·omega
  have hm' : Mid F C it L pos β σ pb w0 (fun i=>i < pos.length) vs a w:=by
   have e : (fun i=>listed[i]? = some true) = (fun i=>i < pos.length):=funext fun i=>propext ⟨hlt i,fun h=>hall i (by omega)⟩
   rwa [e] at hm
  have:=fin vs a w hm'
  rw [hk,Nat.sub_self] at this
  simpa [Region.linearise.go] using this
 | succ fuel ih =>
  intro t listed vs a w hs hlt hcl hf hm
  by_cases hdone : ∀ i,i < pos.length → listed[i]? = some true
  ·have hm' : Mid F C it L pos β σ pb w0 (fun i=>i < pos.length) vs a w:=by
    have e : (fun i=>listed[i]? = some true) = (fun i=>i < pos.length):=funext fun i=>propext ⟨hlt i,hdone i⟩
    rwa [e] at hm
   have hl : ∀ i,i < L.length → listed[i]? = some (decide (i < pos.length)):=fun i hi=>by
    by_cases h : i < pos.length
    ·rw [hdone i h];simp [h]
    ·have hx : listed[i]? = some listed[i]:=by simp [hs,hi]
     cases hb : listed[i] with
     | true=>exact absurd (hlt i (by rw [hx,hb])) h
     | false=>rw [hx,hb];simp [h]
   have hcount : L.length - pos.length ≤ fuel + 1:=by
    have key : ∀ (l : List Bool) (n m : Nat),l.length = n → (∀ i,i < n → l[i]? = some (decide (i < m))) → n - m ≤ cf l:=by
     intro l
     induction l with
     | nil=>intro n m h _;simp at h;omega
     | cons b l ihl =>
      intro n m h hx
      cases n with
      | zero=>simp at h
      | succ n =>
       have h0:=hx 0 (by omega)
       simp at h0
       have:=ihl n (m - 1) (by simpa using h) (fun i hi=>by
        have:=hx (i + 1) (by omega)
        simp at this
        rw [this]
        congr 1
        simp only [decide_eq_decide]
        omega)
       cases b with
       | true=>simp [cf] at h0 ⊢;omega
       | false=>simp [cf] at h0 ⊢;omega
    have:=key listed.toList L.length pos.length (by simpa using hs) (fun i hi=>by rw [Array.getElem?_toList];exact hl i hi)
    omega
   rw [go_tail hr (fuel + 1) t pos.length listed (Nat.le_refl _) hr.le hs hl hcount]
   exact fin vs a w hm'
  ·obtain ⟨i0,hi0,hn0⟩ : ∃ i,i < pos.length ∧ listed[i]? ≠ some true:=by
    simpa using hdone
   rw [go_step]
   have hclosed : ∀ j,listed[j]? = some true → j < L.length ∧ ∀ m ∈ preAt pt j,listed[m]? = some true:=fun j hj=>by
    have hjl : j < L.length:=by have:=hlt j hj;have:=hr.le;omega
    exact ⟨hjl,pre_in hr (T:=fun m=>listed[m]? = some true) (fun i o hi ho=>hcl i hi o ho) j hjl (fun o ho=>hcl j hj o ho)⟩
   rcases pick_ready L.toArray t listed with ⟨hnil,_⟩ | ⟨i,hi,hpick⟩
   ·-- some operation is due
    exfalso
    have key : ∀ n,n ≤ pos.length → (∀ j,j < n → listed[j]? = some true):=by
     intro n
     induction n with
     | zero=>intro _ j hj;omega
     | succ n ihn =>
      intro hn j hj
      rcases Nat.lt_or_ge j n with h | h
      ·exact ihn (by omega) j h
      ·have e : j = n:=by omega
       subst e
       have hjl : j < L.length:=by have:=hr.le;omega
       cases hb : listed[j]? with
       | none=>rw [Array.getElem?_eq_none_iff] at hb;omega
       | some b =>
        cases b with
        | true=>rfl
        | false =>
         have : j ∈ Region.ready .any L.toArray listed:=(mem_ready hs).2 ⟨hb,L[j],by simp [hjl],fun e he=>ihn (by omega) e (hr.deps j _ (by simp [hjl]) e he)⟩
         rw [hnil] at this;cases this
    exact hn0 (key pos.length (Nat.le_refl _) i0 hi0)
   ·rw [hpick]
    simp only
    obtain ⟨hfalse,o,ho,hdeps⟩:=(mem_ready hs).1 hi
    have hil : i < L.length:=(List.getElem?_eq_some_iff.1 ho).1
    have hpre : ∀ m ∈ preAt pt i,listed[m]? = some true :=
     pre_in hr (T:=fun m=>listed[m]? = some true) (fun i o hi ho=>hcl i hi o ho) i hil (fun o' ho' e he=>by rw [ho] at ho';obtain rfl:=Option.some.inj ho';exact hdeps e he)
    rcases Nat.lt_or_ge i pos.length with hik | hik
    rotate_left
    ·exact lat fuel t _ listed vs a w i hs hlt hcl (fun o' ho' e he=>by rw [ho] at ho';obtain rfl:=Option.some.inj ho';exact hdeps e he) hf hm hik hfalse ⟨i0,hi0,hn0⟩ hil hpre
    have hTi : ¬ listed[i]? = some true:=by rw [hfalse];simp
    -- what is owed of it
    obtain ⟨po,hpo⟩ : ∃ po,nth pos i = some po:=⟨pos[i],by rw [nth_eq];simp⟩
    have hlx:=hL vs i (by omega)
    rw [drop_cons hpo] at hlx
    have hnth : nth L i = some o:=by rw [nth_eq];exact ho
    simp only [Lx,hnth] at hlx
    have hreads:=hm.reads hr hik ho hTi hclosed hpre
    have hkv : kv it L pos σ i = known it L (kap it L pos σ i) o po:=by simp only [kv,hnth,hpo]
    cases hout : outOk o.dst F.fn.ntmps with
    | false=>rw [hout] at hlx;exact hlx.elim
    | true =>
     rw [hout] at hlx
     -- going on
     have next : ∀ (v : Value) (x : Gh) (w' : World),ExtQ (cuk it L pos σ pb (cid it L pos σ i) (fun j=>listed[j]? = some true) vs) w w' → (¬ isC it L pos σ i → ∀ k,k < w.heap.size → w'.heap[k]? = w.heap[k]?) → (∀ cs,isSt it L pos σ i cs → ∀ b Ty cs0,pb = some [(some b,Ty,cs0)] → w'.heap[b]? = some (.cells cs.toArray Ty (0,0))) →
       (∀ u,kv it L pos σ i = some u → v = u) → (kv it L pos σ i = none → ((∃ val f,nth pos i = some (.fa val f) ∧ v = val x ∧ ∀ g ∈ f x,g.holds w' (okN C w' β (NAp it L pos σ pb (fun j=>listed[j]? = some true) vs))) ∨
       ∃ Ty cs val,nth pos i = some (.al Ty cs val) ∧ v = val (x 0).2.1 ∧ (x 0).2.1 = w.heap.size ∧ w' = w.alloc (.cells cs.toArray Ty)) ∨ (∃ cs,nth pos i = some (.st cs) ∧ v = undef) ∨ (∃ ts g,nth pos i = some (.pv ts g) ∧ v = g (valsOf (lexF it L pos σ vs i) ts)) ∨
       ∃ bl val f,(nth pos i = some (.sg bl val f) ∨ nth pos i = some (.sh bl val f) ∨ nth pos i = some (.si bl val f)) ∧ v = val x ∧ Distinct (bl x) ∧ (∀ y ∈ bl x,∀ b,y.1 = some b → (w.heap.size ≤ b ∨ cuk it L pos σ pb (cid it L pos σ i) (fun j=>listed[j]? = some true) vs b) ∧ w'.heap[b]? = some (.cells y.2.2.toArray y.2.1 (0,0))) ∧ ∀ g ∈ f x,g.holds w' (fun k=>(okN C w β (NAp it L pos σ pb (fun j=>listed[j]? = some true) vs) k ∨ w.heap.size ≤ k) ∧ k < w'.heap.size ∧ ∀ y ∈ bl x,y.1 ≠ some k)) →
       At F (.inRegion L.toArray (Region.linearise.go .any L.toArray fuel (t / (Region.ready .any L.toArray listed).length) (listed.setIfInBounds i true) [])::k) (a.put o.dst v) w' R:=by
      intro v x w' hx hpb hst hv hf'
      have hm2:=hm.step hr hik ho hTi hclosed hout hx hord hpb hst hv hf' hpv hO.ext.size (fun y hy k hk=>hOb.lt hy hk)
      have hget : ∀ j,(listed.setIfInBounds i true)[j]? = some true ↔ (listed[j]? = some true ∨ j = i):=by
       intro j
       rw [Array.getElem?_setIfInBounds]
       by_cases e : i = j
       ·subst e
        simp [hs,hil]
       ·rw [if_neg e]
        constructor
        ·exact .inl
        ·rintro (h | h)
         ·exact h
         ·exact absurd h.symm e
      have eT : (fun j=>(listed.setIfInBounds i true)[j]? = some true) = (fun j=>listed[j]? = some true ∨ j = i):=funext fun j=>propext (hget j)
      refine ih _ _ _ _ _ (by simpa using hs) (fun j hj=>?_) (fun j hj o' ho' e he=>?_) ?_ (by rw [eT];exact hm2)
      ·rcases (hget j).1 hj with h | rfl
       ·exact hlt j h
       ·exact hik
      ·rw [hget]
       rcases (hget j).1 hj with h | rfl
       ·exact .inl (hcl j h o' ho' e he)
       ·rw [ho] at ho';obtain rfl:=Option.some.inj ho'
        exact .inl (hdeps e he)
      ·have:=cf_set listed.toList i (by rw [Array.getElem?_toList];exact hfalse)
       rw [Array.toList_setIfInBounds]
       omega
     have hsub:=kap_sub (it:=it) (L:=L) (pos:=pos) (σ:=σ) vs i (by omega)
     have hoarr : L.toArray[i]? = some o:=by simpa using ho
     -- the guard
     have hwant : ∀ b,gd L (kap it L pos σ i) o = some b → Region.wanted o (yielded L.toArray a.tmps) = b:=by
      intro b hb
      unfold gd at hb
      unfold Region.wanted
      cases hgd : o.guard with
      | none=>rw [hgd] at hb;simpa using hb
      | some jw =>
       obtain ⟨j,want⟩:=jw
       rw [hgd] at hb
       simp only at hb ⊢
       cases hj : nth L j with
       | none=>rw [hj] at hb;simp at hb
       | some g =>
        rw [hj] at hb
        simp only at hb
        cases hgs : g.dst with
        | none=>rw [hgs] at hb;simp at hb
        | some s =>
         rw [hgs] at hb
         simp only at hb
         have hsr : s ∈ readsOf L o:=by
          refine List.mem_append.2 (.inr ?_)
          simp [guardSlot,hgd,hj,hgs]
         have hsl : ∀ c,Fr.get s (kap it L pos σ i) = some (.bool c) → yielded L.toArray a.tmps j = some c:=fun c hc =>
          yielded_slot (g:=s) (by rw [nth_eq] at hj;simp [hj,hgs]) (hreads s hsr _ (hsub s _ hc))
         split at hb
         ·rename_i hc;rw [hsl true hc];obtain rfl:=Option.some.inj hb;cases want <;> rfl
         ·rename_i hc;rw [hsl false hc];obtain rfl:=Option.some.inj hb;cases want <;> rfl
         ·rename_i hc
          have hy : yielded L.toArray a.tmps j = none:=by
           have hd : (L.toArray[j]?).bind (·.dst) = some s:=by rw [nth_eq] at hj;simp [hj,hgs]
           have ht:=hreads s hsr _ (hsub s _ hc)
           have hd' : (L[j]?).bind (·.dst) = some s:=by simpa using hd
           simp [yielded,hd',ht]
          rw [hy];obtain rfl:=Option.some.inj hb;cases want <;> rfl
         ·simp at hb
     -- running it
     have runs : ∀ (post : Value → World → Prop),Ex P o.op o.type (lexF it L pos σ vs i) w post → Out P post ((execOp a.eval o).run P w):=by
      intro post hx
      classical
      let ρ : Operand → Value:=fun x=>if x ∈ o.op.operands then a.eval x else (ev (lexF it L pos σ vs i) x).getD undef
      have hρ : ∀ x v,ev (lexF it L pos σ vs i) x = some v → ρ x = v:=by
       intro x v hv
       by_cases hx : x ∈ o.op.operands
       ·simp only [ρ,hx,if_true]
        cases x with
        | tmp s =>
         have hs : s ∈ readsOf L o:=List.mem_append.2 (.inl (List.mem_filterMap.2 ⟨.tmp s,by simpa using hx,rfl⟩))
         have:=hreads s hs v hv
         simp [Act.eval,this]
        | const u=>simpa [ev,Act.eval] using hv
        | global g=>simpa [ev,Act.eval] using hv
        | func f=>simpa [ev,Act.eval] using hv
       ·simp only [ρ,hx,if_false,hv,Option.getD_some]
      have h1:=hx ρ hρ
      rw [← execOp_bare] at h1
      have e : execOp a.eval o = execOp ρ o:=execOp_congr o (fun cs b=>hr.noSel i o cs b ho) (fun x hx=>by simp only [ρ,hx,if_true])
      rw [e];exact h1
     have hO0 : Own C w β:=own_ext hO hm.ext
     -- the blocks made since are nobody's there
     let N:=NAp it L pos σ pb (fun j=>listed[j]? = some true) vs
     have hNA : ∀ k,NA it L pos σ (fun j=>listed[j]? = some true) vs k → (w0.heap.size ≤ k ∨ pbk pb k) ∧ k < w.heap.size:=by
      rintro k ⟨j,y,hj,hA,e⟩
      obtain ⟨h1,_,h2⟩:=hm.made j y hj hA k e
      exact ⟨h2.imp id (·.2.2),h1⟩
     have hNlt : ∀ k,N k → k < w.heap.size:=by
      rintro k (h | h)
      ·exact (hNA k h).2
      ·exact Nat.lt_of_lt_of_le (hm.low k h) hm.ext.size
     let C2 : Cx:=⟨w,okN C w β N,inB β⟩
     have hO' : Own C2 w β:=⟨Keep.refl _ _,fun x hx b hb=>.inr ⟨x,hx,hb⟩,hO0.blk,hO0.apart⟩
     have hup : ∀ g ∈ sel (preAt pt i) (lexFs it L pos σ vs i)++Γ,g.holds w (okN C w β N):=by
      intro g hg
      rcases List.mem_append.1 hg with hg | hg
      ·obtain ⟨j,hj,hjg⟩:=mem_sel hg
       obtain ⟨h1,h2,h4⟩:=mem_lexFs hjg
       exact hm.fact j (hpre j hj) (by omega) h2 g h4
      ·exact g.stable (fun k hk=>by
        have hnp : ¬ pbk pb k:=fun ⟨y,hy,e⟩=>hk.2.2 y (List.mem_append_left _ hy) e
        exact ⟨⟨⟨hk.1,Nat.lt_of_lt_of_le hk.2.1 hm.ext.size,fun x hx=>hk.2.2 x (hsubB.subset hx)⟩,fun hn=>by
         rcases hn with hn | hn
         ·rcases (hNA k hn).1 with h | h
          ·have:=hk.2.1;omega
          ·exact hnp h
         ·exact hnp hn⟩,hm.ext.block k hk.2.1 hnp⟩) (hG g hg)
     have hfacts : ∀ g ∈ sel (preAt pt i) (lexFs it L pos σ vs i)++Γ,g.holds w (ok C2 w β):=fun g hg =>
      g.stable (fun k hk=>⟨⟨.inl hk,hk.1.2.1,hk.1.2.2⟩,rfl⟩) (hup g hg)
     have back : ∀ w',Ext w w' → ∀ g : Fact,g.holds w' (ok C2 w' β) → g.holds w' (okN C w' β N):=fun w' hx g hg =>
      g.stable (fun k hk=>⟨by
       rcases hk.1 with h | ⟨y,hy,hb⟩ | h
       ·exact ⟨(ok_step hx k h.1).1,h.2⟩
       ·exact absurd hb (hk.2.2 y hy)
       ·have h' : w.heap.size ≤ k:=h
        exact ⟨⟨.inr (.inr (Nat.le_trans hO0.ext.size h')),hk.2.1,hk.2.2⟩,fun hn=>by have:=hNlt k hn;omega⟩,rfl⟩) hg
     -- an operation that is no store leaves the block that waits
     have keepP : ∀ w',Ext w w' → ∀ k,k < w.heap.size → w'.heap[k]? = w.heap[k]?:=fun w' hx k hk=>hx.block k hk
     -- what waits for a later one
     have cukN : ∀ k,cuk it L pos σ pb (cid it L pos σ i) (fun j=>listed[j]? = some true) vs k → N k:=by
      rintro k (⟨_,h⟩ | ⟨m,y,hm',_,_,hA,e⟩)
      ·exact .inr h
      ·exact .inl ⟨m,y,hm',hA,e⟩
     have hcur : isC it L pos σ i → (∀ x ∈ pbL (lexPb it L pos σ pb vs i),∀ b,x.1 = some b → w.heap[b]? = some (.cells x.2.2.toArray x.2.1 (0,0))) ∧ (∀ k,pbk (lexPb it L pos σ pb vs i) k → cuk it L pos σ pb (cid it L pos σ i) (fun j=>listed[j]? = some true) vs k) ∧ Distinct (pbL (lexPb it L pos σ pb vs i)):=fun hC=>by
      have hdp : Distinct (pbL pb):=hO.apart.sub (List.sublist_append_left _ _)
      have nol : ∀ j,listed[j]? = some true → isC it L pos σ j → j < i:=fun j hj hc=>by
       rcases Nat.lt_trichotomy j i with h | h | h
       ·exact h
       ·subst h;exact absurd hj hTi
       ·exact absurd ((hclosed j hj).2 i (hord i j hC hc h).2.1) hTi
      rcases lexPb_cases (it:=it) (L:=L) (pos:=pos) (σ:=σ) (pb:=pb) vs i with ⟨h1,h2⟩ | ⟨j,h1,h2,h3,h4⟩ | h1 | ⟨h1,_⟩
      ·rw [h1]
       have hc0 : cid it L pos σ i = 0:=cid_same (j:=0) (Nat.zero_le _) fun m _ hm' hs=>h2 m hm' (.inr hs.sg)
       exact ⟨hm.pend fun j hj hc=>h2 j (nol j hj hc) hc,fun k hk=>.inl ⟨hc0,hk⟩,hdp⟩
      ·rw [h3]
       have hTj : listed[j]? = some true:=hpre j (hord j i (.inr h2.sg) hC h1).2.1
       have hmk : ∀ y,y ∈ mkOf (nth pos j) (vs j) → isMk it L pos σ vs j y:=fun y hy=>⟨h2.1,h2.2.1,hy⟩
       have hce : cid it L pos σ i = cid it L pos σ j:=cid_same (Nat.le_of_lt h1) fun m h5 h6 hs=>by
        have h7:=h4 m h6 (.inr hs.sg)
        have e : m = j:=by omega
        subst e
        obtain ⟨_,_,_,_,_,g1⟩:=hs
        obtain ⟨_,_,_,_,_,g2⟩:=h2
        rw [g1] at g2;cases g2
       exact ⟨fun y hy b hb=>(hm.made j y hTj (hmk y hy) b hb).2.1 fun m hm' hc _ _=>h4 m (nol m hm' hc) hc,fun k ⟨y,hy,e⟩=>.inr ⟨j,y,hTj,h2.sg,hce.symm,hmk y hy,e⟩,hm.mdist j hTj h2.1 h2.2.1⟩
      ·obtain ⟨⟨_,e,_⟩,_⟩:=hstat vs i hC
       rw [h1] at e;cases e
      ·rw [h1]
       exact ⟨fun x hx=>(by cases hx),fun k ⟨y,hy,_⟩=>(by cases hy),trivial⟩
     have notSt : (∀ cs,po ≠ .st cs) → ∀ cs,¬ isSt it L pos σ i cs:=fun h cs hS=>by
      have:=hS.2.2
      rw [hpo] at this
      exact h cs (Option.some.inj this)
     have knownNot : (kv it L pos σ i ≠ none) → ∀ cs,¬ isSt it L pos σ i cs:=fun h cs hS=>h hS.2.1
     cases hgb : gd L (kap it L pos σ i) o with
     | none=>rw [hgb] at hlx;exact hlx.elim
     | some b =>
      rw [hgb] at hlx
      cases b with
      | false =>
       refine At_skip hoarr (hwant false hgb) (next undef (fun _=>default) w (.refl _ _) (fun _ _ _=>rfl) (fun cs hS=>absurd hS (knownNot (by rw [hkv];simp [known,hgb]) cs)) (fun u hu=>?_) (fun hn=>?_))
       ·rw [hkv] at hu;simp only [known,hgb,Option.some.injEq] at hu;exact hu
       ·rw [hkv] at hn;simp [known,hgb] at hn
      | true =>
       cases po with
       | auto =>
        simp only at hlx
        cases hp : pev it (kap it L pos σ i) o.op with
        | none=>rw [hp] at hlx;exact hlx.elim
        | some vq =>
         obtain ⟨v,q⟩:=vq
         rw [hp] at hlx
         have hpure : Pure P o.op o.type (kap it L pos σ i) w v:=pev_sound hit hp hlx.1 w
         have hex : Ex P o.op o.type (lexF it L pos σ vs i) w (fun u w'=>u = v ∧ w' = w):=fun ρ hρ=>hpure.ex ρ (fun x u hu=>hρ x u (by
          cases x with
          | tmp s=>exact hsub s u hu
          | _=>exact hu))
         refine At_op hoarr (hwant true hgb) (runs _ hex) ?_
         rintro u w' ⟨rfl,rfl⟩
         refine next u (fun _=>default) w' (.refl _ _) (fun _ _ _=>rfl) (fun cs hS=>absurd hS (notSt (fun _ e=>by cases e) cs)) (fun u' hu=>?_) (fun hn=>?_)
         ·rw [hkv] at hu;simp only [known,hgb,hp,Option.map_some,Option.some.injEq] at hu;exact hu
         ·rw [hkv] at hn;simp [known,hgb,hp] at hn
       | eq v =>
        refine At_op hoarr (hwant true hgb) (runs _ (hlx.1 C2 w hO' hfacts)) ?_
        rintro u w' ⟨hx,_,rfl,_⟩
        refine next u (fun _=>default) w' (.of hx) (fun _=>keepP w' hx) (fun cs hS=>absurd hS (notSt (fun _ e=>by cases e) cs)) (fun u' hu=>?_) (fun hn=>?_)
        ·rw [hkv] at hu;simp only [known,hgb,Option.some.injEq] at hu;exact hu
        ·rw [hkv] at hn;simp [known,hgb] at hn
       | fa val f =>
        refine At_op hoarr (hwant true hgb) (runs _ (hlx.1 C2 w hO' hfacts)) ?_
        rintro u w' ⟨hx,x,hux,hu⟩
        refine next u x w' (.of hx) (fun _=>keepP w' hx) (fun cs hS=>absurd hS (notSt (fun _ e=>by cases e) cs)) (fun u' hu'=>?_) (fun _=>.inl (.inl ⟨val,f,hpo,hux,fun g hg=>back w' hx g (hu g hg)⟩))
        rw [hkv] at hu';simp [known,hgb] at hu'
       | al Ty cs =>
        refine At_op hoarr (hwant true hgb) (runs _ (hlx.1 w)) ?_
        rintro u w' ⟨rfl,rfl⟩
        have hx : Ext w (w.alloc (.cells cs.toArray Ty)):=(Below.refl _ _).alloc (Nat.le_refl _) _
        refine next _ (fun _=>(none,w.heap.size,0,[])) _ (.of hx) (fun _=>keepP _ hx) (fun cs hS=>absurd hS (notSt (fun _ e=>by cases e) cs)) (fun u' hu'=>?_) (fun _=>.inl (.inr ⟨Ty,cs,_,hpo,rfl,rfl,rfl⟩))
        rw [hkv] at hu';simp [known,hgb] at hu'
       | pv ts g =>
        refine At_op hoarr (hwant true hgb) (runs _ (hlx.2.1 C2 w hO' hfacts)) ?_
        rintro u w' ⟨hx,_,rfl,_⟩
        refine next _ (fun _=>default) w' (.of hx) (fun _=>keepP w' hx) (fun cs hS=>absurd hS (notSt (fun _ e=>by cases e) cs)) (fun u' hu'=>?_) (fun _=>.inr (.inr (.inl ⟨ts,g,hpo,rfl⟩)))
        rw [hkv] at hu';simp [known,hgb] at hu'
       | sg bl val f =>
        have hkn : kv it L pos σ i = none:=by rw [hkv];simp [known,hgb]
        have hS : isSg it L pos σ i:=⟨hik,hkn,_,_,_,.inl hpo⟩
        obtain ⟨c1,c2,c3⟩:=hcur (.inr hS)
        refine At_op hoarr (hwant true hgb) (runs _ (hlx.2.1 w (okN C w β N) (fun k hk=>⟨hk.1.2.1,fun hp=>hk.2 (cukN k (c2 k hp))⟩) c1 c3 hup)) ?_
        rintro u w' ⟨x,rfl,hK,h4,h5,h6⟩
        refine next _ x w' ⟨hK.os,hK.tape,hK.output,hK.size,fun k hk hn=>hK.block k hk fun h=>hn (c2 k h)⟩ (fun hno=>absurd (.inr hS) hno) (fun cs hS'=>absurd hS' (notSt (fun _ e=>by cases e) cs)) (fun u' hu'=>?_) (fun _=>.inr (.inr (.inr ⟨bl,val,f,.inl hpo,rfl,h4,fun y hy b hb=>⟨(h5 y hy b hb).1.imp id (c2 b),(h5 y hy b hb).2⟩,h6⟩)))
        rw [hkn] at hu';cases hu'
       | sh bl val f =>
        have hkn : kv it L pos σ i = none:=by rw [hkv];simp [known,hgb]
        have hS : isSg it L pos σ i:=⟨hik,hkn,_,_,_,.inr (.inl hpo)⟩
        obtain ⟨c1,c2,c3⟩:=hcur (.inr hS)
        refine At_op hoarr (hwant true hgb) (runs _ (hlx.2.1 w (okN C w β N) (fun k hk=>⟨hk.1.2.1,fun hp=>hk.2 (cukN k (c2 k hp))⟩) c1 c3 hup)) ?_
        rintro u w' ⟨x,rfl,hK,h4,h5,h6⟩
        refine next _ x w' ⟨hK.os,hK.tape,hK.output,hK.size,fun k hk hn=>hK.block k hk fun h=>hn (c2 k h)⟩ (fun hno=>absurd (.inr hS) hno) (fun cs hS'=>absurd hS' (notSt (fun _ e=>by cases e) cs)) (fun u' hu'=>?_) (fun _=>.inr (.inr (.inr ⟨bl,val,f,.inr (.inl hpo),rfl,h4,fun y hy b hb=>⟨(h5 y hy b hb).1.imp id (c2 b),(h5 y hy b hb).2⟩,h6⟩)))
        rw [hkn] at hu';cases hu'
       | si bl val f =>
        have hkn : kv it L pos σ i = none:=by rw [hkv];simp [known,hgb]
        have hS : isSg it L pos σ i:=⟨hik,hkn,_,_,_,.inr (.inr hpo)⟩
        obtain ⟨c1,c2,c3⟩:=hcur (.inr hS)
        refine At_op hoarr (hwant true hgb) (runs _ (hlx.2.1 w (okN C w β N) (fun k hk=>⟨hk.1.2.1,fun hp=>hk.2 (cukN k (c2 k hp))⟩) c1 c3 hup)) ?_
        rintro u w' ⟨x,rfl,hK,h4,h5,h6⟩
        refine next _ x w' ⟨hK.os,hK.tape,hK.output,hK.size,fun k hk hn=>hK.block k hk fun h=>hn (c2 k h)⟩ (fun hno=>absurd (.inr hS) hno) (fun cs hS'=>absurd hS' (notSt (fun _ e=>by cases e) cs)) (fun u' hu'=>?_) (fun _=>.inr (.inr (.inr ⟨bl,val,f,.inr (.inr hpo),rfl,h4,fun y hy b hb=>⟨(h5 y hy b hb).1.imp id (c2 b),(h5 y hy b hb).2⟩,h6⟩)))
        rw [hkn] at hu';cases hu'
       | st cs =>
        have hkn : kv it L pos σ i = none:=by rw [hkv];simp [known,hgb]
        have hS : isSt it L pos σ i cs:=⟨hik,hkn,hpo⟩
        obtain ⟨⟨x0,hlp,hx0⟩,_⟩:=hstat vs i (.inl ⟨cs,hS⟩)
        obtain ⟨b,T,cs0,rfl⟩:=hx0 cs hS
        obtain ⟨hpb0,hc0⟩ : pb = some [(some b,T,cs0)] ∧ cid it L pos σ i = 0:=by
         rcases lexPb_cases (it:=it) (L:=L) (pos:=pos) (σ:=σ) (pb:=pb) vs i with ⟨h,h2⟩ | ⟨j,h1,h2,_⟩ | h | ⟨h,_⟩
         ·exact ⟨by rw [← h,hlp],cid_same (j:=0) (Nat.zero_le _) fun m _ hm' hs=>h2 m hm' (.inr hs.sg)⟩
         ·exact absurd hS ((hord j i (.inr h2.sg) (.inl ⟨cs,hS⟩) h1).2.2 cs)
         ·rw [h] at hlp;cases hlp
         ·rw [h] at hlp;cases hlp
        simp only [hlp] at hlx
        have hw:=hm.pend (fun j hj hS'=>hTi (by rw [← hord.one hS hS'];exact hj)) (some b,T,cs0) (by rw [hpb0];exact .head _) b rfl
        refine At_op hoarr (hwant true hgb) (runs _ (hlx.1 w hw)) ?_
        rintro u w' ⟨rfl,hoth,hnew⟩
        refine next undef (fun _=>default) w' ⟨hoth.os,hoth.tape,hoth.output,by rw [hoth.size];exact Nat.le_refl _,fun k _ hn=>hoth.block k fun e=>hn (.inl ⟨hc0,(some b,T,cs0),by rw [hpb0];exact .head _,by rw [e]⟩)⟩ (fun hno=>absurd (.inl ⟨cs,hS⟩) hno) (fun cs' hS' b' T' cs0' e=>?_) (fun u' hu'=>?_) (fun _=>.inr (.inl ⟨cs,hpo,rfl⟩))
        ·have h2:=hS'.2.2
         rw [hpo] at h2
         obtain rfl:=Po.st.inj (Option.some.inj h2)
         rw [hpb0] at e
         cases e
         exact hnew
        ·rw [hkn] at hu';cases hu'
def isDraw (B : Code) (p : List Nat) : Bool :=
 match sub p B with
 | .region _ _ true=>true
 | _=>false
theorem mid_own {w0 w : World} {T : Nat → Prop} {vs : Nat → Gh} {a : Act} (hL : ∀ (vs : Nat → Gh) (i : Nat),i ≤ pos.length → Lx it F C p S L pt β Γ R i (pos.drop i) (kap it L pos σ i) (lexF it L pos σ vs i) (lexFs it L pos σ vs i) (lexAl it L pos σ pb vs i) (lexPb it L pos σ pb vs i))
  (hO' : Own C w0 (pbL pb++β)) (hG' : ∀ g ∈ Γ,g.holds w0 (ok C w0 (pbL pb++β))) (hm : Mid F C it L pos β σ pb w0 T vs a w) (hT : ∀ j,j < pos.length → kv it L pos σ j = none → T j) :
  Own C w (lexAl it L pos σ pb vs pos.length++(pbL (lexPb it L pos σ pb vs pos.length)++β)) ∧ ∀ g ∈ (lexFs it L pos σ vs pos.length).map (·.2)++Γ,g.holds w (ok C w (lexAl it L pos σ pb vs pos.length++(pbL (lexPb it L pos σ pb vs pos.length)++β))):=by
 have hO2 : Own C w β:=own_ext hO' hm.ext
 have hsubB : β.Sublist (pbL pb++β):=List.sublist_append_right _ _
 have hnb : ∀ k,pbk pb k → ∀ x ∈ β,x.1 ≠ some k:=by
  rintro k ⟨y,hy,e⟩ x hxx hxk
  have hd:=distinct_iff0.1 hO'.apart
  rw [List.pairwise_append] at hd
  exact hd.2.2 y hy x hxx k e hxk
 have hpnew : ∀ k,pbk pb k → C.w0.heap.size ≤ k ∨ C.M k:=fun k ⟨y,hy,e⟩=>hO'.new y (List.mem_append_left _ hy) k e
 have hord : Ord it L pos pt σ:=lx_ord hL
 have hTC : ∀ j,isC it L pos σ j → T j:=fun j hC=>hT j hC.lt hC.kv
 -- a store takes what was handed in
 have hpbSt : ∀ {j cs x},j < pos.length → kv it L pos σ j = none → nth pos j = some (.st cs) → lexPb it L pos σ pb vs j = some x → pb = some x:=fun {j cs x} h1 h2 h3 h4=>by
  have hS : isSt it L pos σ j cs:=⟨h1,h2,h3⟩
  rcases lexPb_cases (it:=it) (L:=L) (pos:=pos) (σ:=σ) (pb:=pb) vs j with ⟨h,_⟩ | ⟨m,g1,g2,_⟩ | h | ⟨h,m,g1,g2⟩
  ·rw [← h,h4]
  ·exact absurd hS ((hord m j (.inr g2.sg) (.inl ⟨cs,hS⟩) g1).2.2 cs)
  ·rw [h] at h4;cases h4
  ·exact absurd hS ((hord m j (.inr g2.sg) (.inl ⟨cs,hS⟩) g1).2.2 cs)
 have alC : ∀ {j x},j < pos.length → kv it L pos σ j = none → x ∈ alOf (nth pos j) (vs j) → isMk it L pos σ vs j x ∧ ∀ m,isC it L pos σ m → isC it L pos σ j → cid it L pos σ m = cid it L pos σ j → m ≤ j:=fun {j x} h1 h2 h3=>by
  obtain ⟨g1,g2⟩:=mem_alOf h3
  refine ⟨⟨h1,h2,g1⟩,fun m hm' hj hce=>?_⟩
  rcases Nat.lt_or_ge j m with h | h
  ·rcases (hord j m hj hm' h).1 with ⟨_,_,bl,val,f,e⟩ | hs
   ·exact absurd e (g2 bl val f)
   ·have:=cid_si hs h
    omega
  ·exact h
 have alTwo : ∀ {j m x y},j < pos.length → m < pos.length → kv it L pos σ j = none → kv it L pos σ m = none → x ∈ alOf (nth pos j) (vs j) → y ∈ alOf (nth pos m) (vs m) → j ≠ m → ¬ (isC it L pos σ j ∧ isC it L pos σ m ∧ cid it L pos σ j = cid it L pos σ m):=fun {j m x y} h1 h2 h3 h4 h5 h6 hne hc=>by
  have g1:=(alC h1 h3 h5).2 m hc.2.1 hc.1 hc.2.2.symm
  have g2:=(alC h2 h4 h6).2 j hc.1 hc.2.1 hc.2.2
  omega
 -- the blocks that were made,and the one that was written
 have hal : ∀ x ∈ lexAl it L pos σ pb vs pos.length,∀ b,x.1 = some b → NAp it L pos σ pb T vs b ∧ (w0.heap.size ≤ b ∨ pbk pb b) ∧ w.heap[b]? = some (.cells x.2.2.toArray x.2.1 (0,0)):=by
  intro x hx b hb
  rcases mem_lexAl hx with ⟨j,h1,h2,h3⟩ | ⟨j,b',T',cs0,cs,h1,h2,h3,h4,rfl⟩
  ·obtain ⟨hA,hlast⟩:=alC h1 h2 h3
   obtain ⟨_,g1,g2⟩:=hm.made j x (hT j h1 h2) hA b hb
   exact ⟨.inl ⟨j,x,hT j h1 h2,hA,hb⟩,g2.imp_right (·.2.2),g1 fun m _=>hlast m⟩
  ·obtain rfl:=Option.some.inj hb
   have hpb0:=hpbSt h1 h2 h3 h4
   have hk : pbk pb b':=⟨(some b',T',cs0),by rw [hpb0];exact .head _,rfl⟩
   exact ⟨.inr hk,.inr hk,hm.sted b' T' cs0 hpb0 j cs (hT j h1 h2) ⟨h1,h2,h3⟩⟩
 -- those that still wait
 have hpl : ∀ x ∈ pbL (lexPb it L pos σ pb vs pos.length),∀ b,x.1 = some b → NAp it L pos σ pb T vs b ∧ (w0.heap.size ≤ b ∨ pbk pb b) ∧ w.heap[b]? = some (.cells x.2.2.toArray x.2.1 (0,0)) ∧ ∀ y ∈ lexAl it L pos σ pb vs pos.length,y.1 ≠ some b:=by
  intro x hx b hb
  rcases lexPb_cases (it:=it) (L:=L) (pos:=pos) (σ:=σ) (pb:=pb) vs pos.length with ⟨hlp,hnone⟩ | ⟨m,hml,hms,hlp,hmax⟩ | hlp | ⟨hlp,_⟩
  ·rw [hlp] at hx
   refine ⟨.inr ⟨x,hx,hb⟩,.inr ⟨x,hx,hb⟩,hm.pend (fun j _ hc=>hnone j hc.lt hc) x hx b hb,fun y hy e=>?_⟩
   rcases mem_lexAl hy with ⟨j,h1,h2,h3⟩ | ⟨j,b'',T',cs1,cs',h1,h2,h3,_,rfl⟩
   ·have g3:=hm.low b ⟨x,hx,hb⟩
    rcases (hm.made j y (hT j h1 h2) (alC h1 h2 h3).1 b e).2.2 with g2 | ⟨g2,_⟩
    ·omega
    ·exact hnone j h1 (.inr g2)
   ·exact hnone j h1 (.inl ⟨cs',h1,h2,h3⟩)
  ·rw [hlp] at hx
   have hA : isMk it L pos σ vs m x:=⟨hms.1,hms.2.1,hx⟩
   have hTm : T m:=hTC m (.inr hms.sg)
   obtain ⟨_,g1,g2⟩:=hm.made m x hTm hA b hb
   refine ⟨.inl ⟨m,x,hTm,hA,hb⟩,g2.imp_right (·.2.2),g1 fun j _ hj _ _=>hmax j hj.lt hj,fun y hy e=>?_⟩
   rcases mem_lexAl hy with ⟨j,h1,h2,h3⟩ | ⟨j,b'',T',cs1,cs',h1,h2,h3,_,rfl⟩
   ·obtain ⟨hB,hlast⟩:=alC h1 h2 h3
    have hne : j ≠ m:=fun e=>by
     obtain ⟨_,_,bl,val,f,e2⟩:=hms
     subst e
     exact (mem_alOf h3).2 _ _ _ e2
    refine hm.apart j m y x (hT j h1 h2) hTm hB hA hne (fun hc=>?_) b e hb
    have q1:=hmax j h1 hc.1
    have q2:=hlast m hc.2.1 hc.1 hc.2.2.symm
    omega
   ·have hS : isSt it L pos σ j cs':=⟨h1,h2,h3⟩
    have:=hord.one hS (.inr hms.sg)
    obtain ⟨_,_,bl,val,f,e2⟩:=hms
    subst this
    rw [h3] at e2;cases e2
  ·rw [hlp] at hx;cases hx
  ·rw [hlp] at hx;cases hx
 have hlocN : ∀ b,(w0.heap.size ≤ b ∨ pbk pb b) → C.w0.heap.size ≤ b ∨ C.M b:=fun b h=>by
  rcases h with h | h
  ·exact .inl (Nat.le_trans hO'.ext.size h)
  ·exact hpnew b h
 have hlocB : ∀ b,(w0.heap.size ≤ b ∨ pbk pb b) → ∀ y ∈ β,y.1 ≠ some b:=fun b h y hy hyb=>by
  rcases h with h1 | h1
  ·have h2:=hO'.lt (hsubB.subset hy) hyb
   omega
  ·exact hnb b h1 y hy hyb
 have hown : Own C w (lexAl it L pos σ pb vs pos.length++(pbL (lexPb it L pos σ pb vs pos.length)++β)):=by
  refine ⟨hO2.ext,fun x hx b hb=>?_,fun x hx b hb=>?_,?_⟩
  ·rcases List.mem_append.1 hx with hx | hx
   ·exact hlocN b (hal x hx b hb).2.1
   ·rcases List.mem_append.1 hx with hx | hx
    ·exact hlocN b (hpl x hx b hb).2.1
    ·exact hO2.new x hx b hb
  ·rcases List.mem_append.1 hx with hx | hx
   ·exact (hal x hx b hb).2.2
   ·rcases List.mem_append.1 hx with hx | hx
    ·exact (hpl x hx b hb).2.2.1
    ·exact hO2.blk x hx b hb
  ·refine Distinct.append (lexAl_distinct pos.length (Nat.le_refl _) (fun j hj hk=>?_) (fun j j' y z h1 h2 h3 h4 h5 h6 hne b hb hzb=>?_) fun j b T' cs0 cs h1 h2 h3 h4=>?_) (Distinct.append ?_ hO2.apart fun x hx y hy b hb hyb=>?_) fun x hx y hy b hb hyb=>?_
   ·have hd:=hm.mdist j (hT j hj hk) hj hk
    unfold alOf
    split
    ·rename_i e;rw [e] at hd;exact hd
    ·rename_i e;rw [e] at hd;exact hd
    ·rename_i e;rw [e] at hd;exact hd
    ·exact trivial
   ·exact hm.apart j j' y z (hT j h1 h3) (hT j' h2 h4) (alC h1 h3 h5).1 (alC h2 h4 h6).1 hne (alTwo h1 h2 h3 h4 h5 h6 hne) b hb hzb
   ·have hS : isSt it L pos σ j cs:=⟨h1,h2,h3⟩
    have hpb0:=hpbSt h1 h2 h3 h4
    refine ⟨fun j' y g1 g2 g3 e=>?_,fun j' cs' g1 g2 g3=>hord.one hS (.inl ⟨cs',g1,g2,g3⟩)⟩
    have hk : pbk pb b:=⟨(some b,T',cs0),by rw [hpb0];exact .head _,rfl⟩
    have q:=hm.low b hk
    rcases (hm.made j' y (hT j' g1 g2) (alC g1 g2 g3).1 b e).2.2 with q1 | ⟨q1,_⟩
    ·omega
    ·have:=hord.one hS (.inr q1)
     subst this
     obtain ⟨_,_,_,_,_,q2 | q2 | q2⟩:=q1
     ·rw [h3] at q2;cases q2
     ·rw [h3] at q2;cases q2
     ·rw [h3] at q2;cases q2
   ·have hdp : Distinct (pbL pb):=hO'.apart.sub (List.sublist_append_left _ _)
    rcases lexPb_cases (it:=it) (L:=L) (pos:=pos) (σ:=σ) (pb:=pb) vs pos.length with ⟨h,_⟩ | ⟨m,_,hms,h,_⟩ | h | ⟨h,_⟩
    ·rw [h];exact hdp
    ·rw [h];exact hm.mdist m (hTC m (.inr hms.sg)) hms.1 hms.2.1
    ·rw [h];exact trivial
    ·rw [h];exact trivial
   ·exact hlocB b (hpl x hx b hb).2.1 y hy hyb
   ·rcases List.mem_append.1 hy with hy | hy
    ·exact (hpl y hy b hyb).2.2.2 x hx hb
    ·exact hlocB b (hal x hx b hb).2.1 y hy hyb
 have hokN : ∀ k,okN C w β (NAp it L pos σ pb T vs) k → ok C w (lexAl it L pos σ pb vs pos.length++(pbL (lexPb it L pos σ pb vs pos.length)++β)) k:=fun k hk =>
  ⟨hk.1.1,hk.1.2.1,fun x hx e=>by
   rcases List.mem_append.1 hx with hx | hx
   ·exact hk.2 (hal x hx k e).1
   ·rcases List.mem_append.1 hx with hx | hx
    ·exact hk.2 (hpl x hx k e).1
    ·exact hk.1.2.2 x hx e⟩
 refine ⟨hown,fun g hg=>g.stable (A:=okN C w β (NAp it L pos σ pb T vs)) (fun k hk=>⟨hokN k hk,rfl⟩) ?_⟩
 rcases List.mem_append.1 hg with hg | hg
 ·obtain ⟨⟨j,g'⟩,hjg,rfl⟩:=List.mem_map.1 hg
  obtain ⟨h1,h2,h4⟩:=mem_lexFs hjg
  exact hm.fact j (hT j h1 h2) h1 h2 _ h4
 ·exact g.stable (fun k hk=>by
   have hnp : ¬ pbk pb k:=fun ⟨y,hy,e⟩=>hk.2.2 y (List.mem_append_left _ hy) e
   exact ⟨⟨⟨hk.1,Nat.lt_of_lt_of_le hk.2.1 hm.ext.size,fun x hx=>hk.2.2 x (hsubB.subset hx)⟩,by
    rintro (⟨j,y,hj,hA,e⟩ | hp)
    ·rcases (hm.made j y hj hA k e).2.2 with h1 | ⟨_,_,h1⟩
     ·have h2:=hk.2.1
      omega
     ·exact hnp h1
    ·exact hnp hp⟩,hm.ext.block k hk.2.1 hnp⟩) (hG' g hg)
theorem j_draw {it : List (TypeId × IntKind)} (hit : IntTys P it) (hmx : P.follows .mixedOrders = true) (pos : List Po) (hd : isDraw F.B p = true) (hc : regOk (opsOf (sub p F.B)) (mkPre (opsOf (sub p F.B)) []) pos.length = true)
  (h : Lx it F C p S (opsOf (sub p F.B)) (mkPre (opsOf (sub p F.B)) []) β Γ R 0 pos σ σ [] [] pb) (hS : isWin S = false:=by rfl) : J F C (.c p::S) σ (pbL pb++β) Γ R:=by
 intro w hO hG a ha
 have hr:=regOk_spec hc
 obtain ⟨id,ops,hs⟩ : ∃ id ops,sub p F.B = .region id ops true:=by
  unfold isDraw at hd
  cases hs : sub p F.B <;> rw [hs] at hd <;> try (simp at hd;done)
  rename_i id ops dr
  cases dr with
  | true=>exact ⟨id,ops,rfl⟩
  | false=>simp at hd
 have hops : opsOf (sub p F.B) = ops.toList:=by rw [hs];rfl
 have hO':=hO.drew
 have hG':=facts_drew hG
 intro cs
 refine At.of_step (F:=F) (k':=.inRegion ops (Region.linearise.go .any ops ops.size (w.tape w.drawn (.order F.f id)) (Array.replicate ops.size false) [])::S.map (It.item F.B)) (a':=a) (w':=w.drew) (fun cs=>?_) ?_ cs
 ·have:=step_region_draw (P:=P) (b:=F.base) (a:=a) (k:=S.map (It.item F.B)) (cs:=cs) (w:=w) (id:=id) (ops:=ops)
  simp only [List.map_cons,It.item,hs]
  rw [this]
  simp only [Region.schedule,hmx,Bool.true_or,if_true]
  rfl
 ·have key:=at_rest (R:=R) (k:=S.map (It.item F.B)) (w0:=w.drew) hr.toRegB (fun vs i hi=>lx_at h vs i hi) hit hO' hG' ?_ ?_ ops.size (w.tape w.drawn (.order F.f id)) (Array.replicate ops.size false) (fun _ _=>default) a w.drew
   (by rw [hops];simp) (fun i hi=>?_) (fun i hi=>?_) (by simp [cf_rep]) ?_
  ·rw [hops,Array.toArray_toList] at key
   exact key
  ·-- behind the last
   intro vs a' w' hm
   have hfin:=lx_at h vs pos.length (Nat.le_refl _)
   rw [List.drop_length] at hfin
   simp only [Lx,endJ_not hS] at hfin
   have hfit : Fits F.fn.ntmps (lexF it (opsOf (sub p F.B)) pos σ vs pos.length) a':=⟨hm.size,hm.defers,fun t v hv=>by
    rcases lexF_get vs t pos.length v hv with ⟨j,h1,h2,h3,rfl⟩ | ⟨h1,h2⟩
    ·exact hm.last t j h1 h1 h2 fun m hm' _ hmd=>h3 m hm' hmd
    ·exact hm.rest t v (fun j hj _=>h1 j hj) h2⟩
   obtain ⟨h1,h2⟩:=mid_own (fun vs i hi=>lx_at h vs i hi) hO' hG' hm fun j hj _=>hj
   exact hfin w' h1 h2 a' hfit
  ·-- none comes early
   intro fuel t t' listed vs a' w' i _ _ _ _ _ _ hik _ hi0 hil hpre
   obtain ⟨i0,hi0,hn0⟩:=hi0
   exact absurd (hpre i0 (hr.tail i hik hil i0 (by omega))) hn0
  ·exfalso
   rw [Array.getElem?_replicate] at hi
   split at hi <;> simp at hi
  ·exfalso
   rw [Array.getElem?_replicate] at hi
   split at hi <;> simp at hi
  ·refine ⟨ha.size,ha.defers,.refl _ _,fun k ⟨y,hy,e⟩=>hO'.lt (List.mem_append_left _ hy) e,fun _ x hx b hb=>hO'.blk x (List.mem_append_left _ hx) b hb,fun b Ty cs0 e i cs hi=>?_,fun i hi=>?_,fun i _ hi=>?_,fun i hi=>?_,fun i _ _ _ hi=>?_,fun t i hi=>?_,fun t v _ hv=>ha.get t v hv⟩
   all_goals
    exfalso
    rw [Array.getElem?_replicate] at hi
    split at hi <;> simp at hi
end
open Go.RowKit (Below)
def auton (it : List (TypeId × IntKind)) (nt : Nat) (L : List Oper) : Nat → Nat → List Po → Fr → Fr → Prop → Option (List Po × Fr × Fr × Prop)
 | 0,_,pos,κ,σ,q=>some (pos,κ,σ,q)
 | n + 1,i,.auto::pos,κ,σ,q=>match nth L i with
  | some o=>match outOk o.dst nt,gd L κ o with
   | true,some false=>auton it nt L n (i + 1) pos (putF o.dst undef κ) (putF o.dst undef σ) q
   | true,some true=>match pev it κ o.op with
    | some (v,q')=>auton it nt L n (i + 1) pos (putF o.dst v κ) (putF o.dst v σ) (q' ∧ q)
    | none=>none
   | _,_=>none
  | none=>none
 | _ + 1,_,_,_,_,_=>none
abbrev Rv (v0 : Value) (Φ0 : List Fact) : Value → List Fact → List Blk → Prop:=fun v Φ β=>v = v0 ∧ Φ = Φ0 ∧ β = []
abbrev Sv {α : Type} (E : Enc α) (l : List α) : Value → List Fact → List Blk → Prop:=fun v Φ β=>∃ pa ca,v = .slice pa l.length ca ∧ Φ = [slF E pa l.length ca l] ∧ β = []
def opL (nt : Nat) (L : List Oper) (κ : Fr) (i : Nat) : Option (Option Tmp × Op × TypeId) :=
 match nth L i with
 | some o=>match outOk o.dst nt,gd L κ o with
  | true,some true=>some (o.dst,o.op,o.type)
  | _,_=>none
 | none=>none
section
variable {P : Program} {F : Fun P} {C : Cx} {S : List It} {R : Value → World → Prop} {β : List Blk} {Γ : List Fact} {it : List (TypeId × IntKind)} {L : List Oper} {pos : List Po} {pt : List (List Nat)} {p : List Nat} {σ κ : Fr} {fs : List (Nat × Fact)} {al : List Blk} {pb : Pb} {i : Nat} {op : Op} {ty : TypeId} {d : Option Tmp}
theorem auton_owes : ∀ (n i : Nat) (pos : List Po) (κ σ : Fr) (q : Prop) (r : List Po × Fr × Fr × Prop),auton it F.fn.ntmps L n i pos κ σ q = some r → r.2.2.2 → q:=by
 intro n
 induction n with
 | zero=>intro i pos κ σ q r h hr;simp only [auton,Option.some.injEq] at h;subst h;exact hr
 | succ n ih =>
  intro i pos κ σ q r h hr
  cases pos with
  | nil=>simp [auton] at h
  | cons po pos =>
   cases po with
   | eq v=>simp [auton] at h
   | fa val f=>simp [auton] at h
   | al T cs=>simp [auton] at h
   | pv ts g=>simp [auton] at h
   | sg T val f=>simp [auton] at h
   | sh T val f=>simp [auton] at h
   | si T val f=>simp [auton] at h
   | st cs=>simp [auton] at h
   | auto =>
    simp only [auton] at h
    repeat' split at h
    all_goals first | exact (ih _ _ _ _ _ _ h hr).2 | exact ih _ _ _ _ _ _ h hr | simp at h
theorem lx_run_n : ∀ (n i : Nat) (pos : List Po) (κ σ : Fr) (q : Prop) (r : List Po × Fr × Fr × Prop),auton it F.fn.ntmps L n i pos κ σ q = some r → r.2.2.2 → Lx it F C p S L pt β Γ R (i + n) r.1 r.2.1 r.2.2.1 fs al pb → Lx it F C p S L pt β Γ R i pos κ σ fs al pb:=by
 intro n
 induction n with
 | zero=>intro i pos κ σ q r h hr hL;simp only [auton,Option.some.injEq] at h;subst h;exact hL
 | succ n ih =>
  intro i pos κ σ q r h hr hL
  have hL' : Lx it F C p S L pt β Γ R (i + 1 + n) r.1 r.2.1 r.2.2.1 fs al pb:=by rw [Nat.add_assoc,Nat.add_comm 1 n];exact hL
  cases pos with
  | nil=>simp [auton] at h
  | cons po pos =>
   cases po with
   | eq v=>simp [auton] at h
   | fa val f=>simp [auton] at h
   | al T cs=>simp [auton] at h
   | pv ts g=>simp [auton] at h
   | sg T val f=>simp [auton] at h
   | sh T val f=>simp [auton] at h
   | si T val f=>simp [auton] at h
   | st cs=>simp [auton] at h
   | auto =>
    simp only [auton] at h
    cases ho : nth L i with
    | none=>rw [ho] at h;simp at h
    | some o =>
     rw [ho] at h
     simp only at h
     cases hout : outOk o.dst F.fn.ntmps with
     | false=>rw [hout] at h;simp at h
     | true =>
      rw [hout] at h
      cases hg : gd L κ o with
      | none=>rw [hg] at h;simp at h
      | some b =>
       rw [hg] at h
       cases b with
       | false =>
        simp only [Lx,ho,hout,hg]
        exact ih _ _ _ _ _ _ h hr hL'
       | true =>
        simp only at h
        cases hp : pev it κ o.op with
        | none=>rw [hp] at h;simp at h
        | some vq =>
         obtain ⟨v,q'⟩:=vq
         rw [hp] at h
         simp only [Lx,ho,hout,hg,hp]
         exact ⟨(auton_owes _ _ _ _ _ _ _ h hr).1,ih _ _ _ _ _ _ h hr hL'⟩
theorem lx_run (n : Nat) {pos' : List Po} {κ' σ' : Fr} {q : Prop} (h : auton it F.fn.ntmps L n i pos κ σ True = some (pos',κ',σ',q)) (hq : q) (hL : Lx it F C p S L pt β Γ R (i + n) pos' κ' σ' fs al pb) : Lx it F C p S L pt β Γ R i pos κ σ fs al pb :=
 lx_run_n n i pos κ σ True _ h hq hL
theorem lx_fa {val : Gh → Value} {f : Gh → List Fact} (ho : opL F.fn.ntmps L κ i = some (d,op,ty)) (hJ : JD P op ty σ β (sel (preAt pt i) fs++Γ) val f) (h : ∀ x,Lx it F C p S L pt β Γ R (i + 1) pos (delF d κ) (putF d (val x) σ) ((f x).map (fun g=>(i,g))++fs) al pb) :
  Lx it F C p S L pt β Γ R i (.fa val f::pos) κ σ fs al pb:=by
 unfold opL at ho
 split at ho
 ·rename_i o hn
  split at ho
  ·rename_i h1 h2
   obtain ⟨rfl,rfl,rfl⟩:=by simpa using ho
   simp only [Lx,hn,h1,h2]
   exact ⟨hJ,h⟩
  ·simp at ho
 ·simp at ho
theorem lx_eq {v : Value} (ho : opL F.fn.ntmps L κ i = some (d,op,ty)) (hJ : JD P op ty σ β (sel (preAt pt i) fs++Γ) (fun _=>v) (fun _=>[])) (h : Lx it F C p S L pt β Γ R (i + 1) pos (putF d v κ) (putF d v σ) fs al pb) :
  Lx it F C p S L pt β Γ R i (.eq v::pos) κ σ fs al pb:=by
 unfold opL at ho
 split at ho
 ·rename_i o hn
  split at ho
  ·rename_i h1 h2
   obtain ⟨rfl,rfl,rfl⟩:=by simpa using ho
   simp only [Lx,hn,h1,h2]
   exact ⟨hJ,h⟩
  ·simp at ho
 ·simp at ho
def DK (val : Gh → Value) (f : Gh → List Fact) (v : Value) (β : List Blk) (Γ : List Fact) : Prop :=
 ∀ C w,Own C w β → (∀ g ∈ Γ,g.holds w (ok C w β)) → ∃ x,v = val x ∧ ∀ g ∈ f x,g.holds w (ok C w [])
theorem d_x {val : Gh → Value} {f : Gh → List Fact} (h : ∀ C',Jop P C' op ty σ [] Γ (DK val f)) : JD P op ty σ β Γ val f:=by
 intro C w hO hG
 have h1:=h ⟨w,ok C w β,fun _=>False⟩ w ⟨Keep.refl _ _,(fun x hx=>by cases hx),(fun x hx=>by cases hx),trivial⟩ (fun g hg=>g.stable (fun k hk=>⟨⟨.inl hk,hk.2.1,fun x hx=>by cases hx⟩,rfl⟩) (hG g hg))
 refine h1.mono ?_
 rintro v w' ⟨β',Γ',hk,hO',hG'⟩
 have hx : Ext w w':=⟨hO'.ext.os,hO'.ext.tape,hO'.ext.output,hO'.ext.size,fun k hk=>hO'.ext.block k hk (fun h=>h.elim)⟩
 obtain ⟨x,e,hf⟩:=hk _ _ hO' hG'
 refine ⟨hx,x,e,fun g hg=>g.stable (fun k hk=>⟨⟨?_,hk.2.1,fun y hy hb=>?_⟩,rfl⟩) (hf g hg)⟩
 ·rcases hk.1 with h | h | h
  ·exact h.1
  ·exact h.elim
  ·exact .inr (.inr (Nat.le_trans hO.ext.size h))
 ·rcases hk.1 with h | h | h
  ·exact h.2.2 y hy hb
  ·exact h.elim
  ·have:=hO.lt hy hb
   have h' : w.heap.size ≤ k:=h
   omega
theorem drop_own {w : World} {g : Fact} (h : g.holds w (ok C w β)) : g.holds w (ok C w []) :=
 g.stable (fun _ hk=>⟨⟨hk.1,hk.2.1,fun x hx=>by cases hx⟩,rfl⟩) h
theorem one_mem {w : World} {A : Nat → Prop} {f : Fact} (h : f.holds w A) : ∀ g ∈ [f],g.holds w A:=fun g hg=>by
 obtain rfl:=List.mem_singleton.1 hg;exact h
theorem dk_eq {v : Value} : DK (fun _=>v) (fun _=>[]) v β Γ:=fun _ _ _ _=>⟨fun _=>default,rfl,fun g hg=>by cases hg⟩
def valP : Gh → Value:=fun g=>.pointer (some ⟨(g 0).2.1,(g 0).2.2.1,none⟩)
def facP {α : Type} (E : Enc α) (x : α) : Gh → List Fact:=fun g=>[ptF E (g 0).2.1 (g 0).2.2.1 x]
theorem dk_pt {α : Type} {E : Enc α} {b o : Nat} {x : α} (j : Nat) (hj : nth Γ j = some (ptF E b o x)) : DK valP (facP E x) (.pointer (some ⟨b,o,none⟩)) β Γ :=
 fun _ _ _ hG=>⟨fun _=>(none,b,o,[]),rfl,one_mem (drop_own (hG _ (fact_mem hj)))⟩
def LxK (it : List (TypeId × IntKind)) (F : Fun P) (C : Cx) (p : List Nat) (S : List It) (L : List Oper) (pt : List (List Nat)) (β : List Blk) (Γ : List Fact) (R : Value → World → Prop) (k i : Nat) (pos : List Po) (κ σ : Fr) (fs : List (Nat × Fact)) (al : List Blk) (pb : Pb) : Prop :=
 i + pos.length = k ∧ Lx it F C p S L pt β Γ R i pos κ σ fs al pb
theorem auton_rep : ∀ (n i : Nat) (pos : List Po) (κ σ : Fr) (q : Prop) (κ' σ' : Fr) (q' : Prop),auton it F.fn.ntmps L n i (List.replicate n .auto) κ σ q = some ([],κ',σ',q') → auton it F.fn.ntmps L n i (List.replicate n .auto++pos) κ σ q = some (pos,κ',σ',q'):=by
 intro n
 induction n with
 | zero=>intro i pos κ σ q κ' σ' q' h;simp only [List.replicate,auton,Option.some.injEq,Prod.mk.injEq,List.nil_append,true_and] at h ⊢;exact h
 | succ n ih =>
  intro i pos κ σ q κ' σ' q' h
  simp only [List.replicate_succ,List.cons_append,auton] at h ⊢
  repeat' split at h
  all_goals first | exact ih _ _ _ _ _ _ _ _ h | simp at h
theorem lxk_run {k : Nat} (n : Nat) {κ' σ' : Fr} {q : Prop} (h : auton it F.fn.ntmps L n i (List.replicate n .auto) κ σ True = some ([],κ',σ',q)) (hq : q) (hL : LxK it F C p S L pt β Γ R k (i + n) pos κ' σ' fs al pb) : LxK it F C p S L pt β Γ R k i (List.replicate n .auto++pos) κ σ fs al pb :=
 ⟨by have:=hL.1;simp only [List.length_append,List.length_replicate];omega,lx_run n (auton_rep n i pos κ σ True κ' σ' q h) hq hL.2⟩
theorem lxk_fa {k : Nat} {val : Gh → Value} {f : Gh → List Fact} (ho : opL F.fn.ntmps L κ i = some (d,op,ty)) (hJ : JD P op ty σ β (sel (preAt pt i) fs++Γ) val f) (h : ∀ x,LxK it F C p S L pt β Γ R k (i + 1) pos (delF d κ) (putF d (val x) σ) ((f x).map (fun g=>(i,g))++fs) al pb) :
  LxK it F C p S L pt β Γ R k i (.fa val f::pos) κ σ fs al pb :=
 ⟨by have:=(h default).1;simp only [List.length_cons];omega,lx_fa ho hJ fun x=>(h x).2⟩
theorem lxk_eq {k : Nat} {v : Value} (ho : opL F.fn.ntmps L κ i = some (d,op,ty)) (hJ : JD P op ty σ β (sel (preAt pt i) fs++Γ) (fun _=>v) (fun _=>[])) (h : LxK it F C p S L pt β Γ R k (i + 1) pos (putF d v κ) (putF d v σ) fs al pb) :
  LxK it F C p S L pt β Γ R k i (.eq v::pos) κ σ fs al pb :=
 ⟨by have:=h.1;simp only [List.length_cons];omega,lx_eq ho hJ h.2⟩
theorem lxk_pt {k : Nat} {α : Type} {E : Enc α} {z : α} (ho : opL F.fn.ntmps L κ i = some (d,op,ty)) (hJ : JD P op ty σ β (sel (preAt pt i) fs++Γ) valP (facP E z))
  (h : ∀ b o,LxK it F C p S L pt β Γ R k (i + 1) pos (delF d κ) (putF d (.pointer (some ⟨b,o,none⟩)) σ) ((i,ptF E b o z)::fs) al pb) :
  LxK it F C p S L pt β Γ R k i (.fa valP (facP E z)::pos) κ σ fs al pb:=lxk_fa ho hJ fun x=>h (x 0).2.1 (x 0).2.2.1
theorem lxk_end {k : Nat} (hk : i = k) (h : J F C (.o p k::S) σ (al++β) (fs.map (·.2)++Γ) R) (hS : isWin S = false:=by rfl) : LxK it F C p S L pt β Γ R k i [] κ σ fs al none:=⟨by simpa using hk,by subst hk;simp only [Lx,endJ_not hS];exact h⟩
theorem dk_ptD {α : Type} {E : Enc α} {b o k : Nat} {l : List α} {z y : α} (dflt : α) (hz : l[k]? = some z) (j : Nat) (hj : nth Γ j = some (ptF E b o z)) (hy : l.getD k dflt = y:=by rfl) : DK valP (facP E y) (.pointer (some ⟨b,o,none⟩)) β Γ:=by
 have : y = z:=by rw [← hy,List.getD,hz];rfl
 subst this
 exact dk_pt j hj
theorem allrd_nil {α : Type} {E : Enc α} {w : World} {A : Nat → Prop} : AllRd E [] [] w A:=⟨rfl,fun i vs x h=>by simp at h⟩
theorem allrd_cons {α : Type} {E : Enc α} {w : World} {A : Nat → Prop} {vs : List Value} {x : α} {vss : List (List Value)} {l : List α} (h : E.rd w A vs x) (h' : AllRd E vss l w A) : AllRd E (vs::vss) (x::l) w A:=by
 refine ⟨by simp [h'.1],fun i us y hu hy=>?_⟩
 cases i with
 | zero=>simp at hu hy;subst hu;subst hy;exact h
 | succ i=>exact h'.2 i us y (by simpa using hu) (by simpa using hy)
theorem rd_of_slF {α : Type} {E : Enc α} {w : World} {A : Nat → Prop} {pa : Option Addr} {n ca : Nat} {l : List α} (h : (slF E pa n ca l).holds w A) : (encSl E).rd w A [.slice pa n ca] l:=by
 obtain ⟨rfl,h⟩:=h
 exact ⟨pa,ca,rfl,h⟩
theorem j_giv {vs : List Value} {Q : Value → List Fact → List Blk → Prop} {Φ : List Fact} (l : List Nat) (hp : isRet F.B p = true) (hr : resOf σ F.fn.results.toList = some vs) (hl : pick Γ l = some Φ)
  (h : Q (resVal vs) Φ []) : J F C (.c p::S) σ β Γ (Gives C Q) :=
 j_ret hp hr fun _ hO hG=>⟨Φ,[],h,⟨hO.ext,fun x hx=>(by cases hx),fun x hx=>(by cases hx),trivial⟩,fun f hf=>drop_own (hG f (pick_mem hl f hf))⟩
theorem j_pub32 {e : TypeId} {b n : Nat} {l : List Nat} (k : Nat) (hn : nth β k = some (some b,e,natCells .u32 l)) (hl : l.length = n) (hr : ∀ x ∈ l,x < 4294967296) (hby : n ≤ 35184372088832)
  (h : J F C S σ (β.eraseIdx k) (slF U32 (some ⟨b,0,none⟩) n n l::Γ) R) : J F C S σ β Γ R :=
 j_pub_made 4 l k hn hl.symm (fun x hx=>by have:=hr x hx;simp only [InR];omega) (by omega) (by omega) h
theorem x_bld_natR {C : Cx} {K : Value → List Blk → List Fact → Prop} {x : Operand} {t : TypeId} {b o m : Nat} {T : TypeId} {kd : IntKind} {l : List Nat} (n : Nat) (hx : ev σ x = some (.pointer (some ⟨b,o,none⟩))) (hn : nth β n = some (some b,T,natCells kd l))
  (hT : ldTy P t = some (false,1)) (hr : ∀ x ∈ l,x < m) (ho : o < l.length) (h : ∀ z,l[o]? = some z → z < m → K (.int kd z) β Γ) : Jop P C (.load t x) ty σ β Γ K :=
 x_bld_nat n hx hn hT ho fun z hz=>h z hz (hr z (List.mem_of_getElem? hz))
theorem mul64_0 {a b : Int} (h1 : 0 ≤ a) (h2 : a ≤ 4294967295) (h3 : 0 ≤ b) (h4 : b ≤ 4294967295) : a * b ≤ 18446744065119617025:=by
 have h:=Int.mul_le_mul h2 h4 h3 (by decide)
 exact Int.le_trans h (by decide)
theorem mul64_1 {a b : Int} (h1 : 0 ≤ a) (h2 : a ≤ 4294967295) (h3 : 0 ≤ b) (h4 : b ≤ 4294967295) : a * b ≤ 18446744073709551615:=Int.le_trans (mul64_0 h1 h2 h3 h4) (by decide)
theorem mul64_2 {a b c : Int} (h1 : 0 ≤ a) (h2 : a ≤ 4294967295) (h3 : 0 ≤ b) (h4 : b ≤ 4294967295) (h5 : c ≤ 4294967295) : a * b + c ≤ 18446744073709551615:=by
 have:=mul64_0 h1 h2 h3 h4;omega
theorem mul64_3 {a b c d : Int} (h1 : 0 ≤ a) (h2 : a ≤ 4294967295) (h3 : 0 ≤ b) (h4 : b ≤ 4294967295) (h5 : c ≤ 4294967295) (h6 : d ≤ 4294967295) : a * b + c + d ≤ 18446744073709551615:=by
 have:=mul64_0 h1 h2 h3 h4;omega
theorem mul64_nn {a b c : Int} (h1 : 0 ≤ a) (h3 : 0 ≤ b) (h5 : 0 ≤ c) : 0 ≤ a * b + c:=by
 have:=Int.mul_nonneg h1 h3;omega
theorem mul64_nnn {a b c d : Int} (h1 : 0 ≤ a) (h3 : 0 ≤ b) (h5 : 0 ≤ c) (h6 : 0 ≤ d) : 0 ≤ a * b + c + d:=by
 have:=Int.mul_nonneg h1 h3;omega
theorem set_all {l : List Nat} {k z m : Nat} (h : ∀ x ∈ l,x < m) (hz : z < m) : ∀ x ∈ l.set k z,x < m:=fun x hx=>by
 rcases List.mem_or_eq_of_mem_set hx with h1 | rfl
 ·exact h x h1
 ·exact hz
theorem j_drawK (hit : IntTys P it) (hmx : P.follows .mixedOrders = true) (k : Nat) (hd : isDraw F.B p = true) (hc : regOk (opsOf (sub p F.B)) (mkPre (opsOf (sub p F.B)) []) k = true)
  (h : LxK it F C p S (opsOf (sub p F.B)) (mkPre (opsOf (sub p F.B)) []) β Γ R k 0 pos σ σ [] [] none) (hS : isWin S = false:=by rfl) : J F C (.c p::S) σ β Γ R :=
 j_draw hit hmx pos hd (by have:=h.1;rw [Nat.zero_add] at this;rw [this];exact hc) h.2 hS
end
open Go.RowKit (Below)
section
variable {P : Program} {F : Fun P} {C : Cx} {S : List It} {R : Value → World → Prop} {σ : Fr} {β : List Blk} {Γ : List Fact} {ty : TypeId} {K : Value → List Blk → List Fact → Prop}
theorem wrap_nat {a : Nat} (h : a < 18446744073709551616) : IntKind.wrap .u64 (a : Int) = a:=by
 simp [IntKind.wrap,IntKind.bits,IntKind.signed];omega
theorem x_or_nat {x y : Operand} {t u : TypeId} {m n : Int} (a b : Nat) (hx : ev σ x = some (.int .u64 m)) (hy : ev σ y = some (.int .u64 n)) (hm : m = a) (hn : n = b) (ha : a < 18446744073709551616) (hb : b < 18446744073709551616)
  (h : K (.int .u64 ((a ||| b : Nat) : Int)) β Γ) : Jop P C (.binOp .or t x y u) ty σ β Γ K :=
 x_pure (fun w ρ hρ=>by
  subst hm;subst hn
  have h1 : a ||| b < 18446744073709551616:=Nat.or_lt_two_pow (n:=64) ha hb
  have h2:=wrap_nat h1
  simp only [execOp,bare,hρ _ _ hx,hρ _ _ hy,eqGuard,Go.binOp,Op.intBits]
  have e : (BitVec.ofNat 64 a ||| BitVec.ofNat 64 b).toNat = a ||| b:=by rw [BitVec.toNat_or,BitVec.toNat_ofNat,BitVec.toNat_ofNat,Nat.mod_eq_of_lt (by omega),Nat.mod_eq_of_lt (by omega)]
  simp [IntKind.bits]
  exact (congrArg (fun z : Nat=>IntKind.wrap .u64 (z : Int)) e).trans h2) h
theorem x_and_nat {x y : Operand} {t u : TypeId} {m n : Int} (a b : Nat) (hx : ev σ x = some (.int .u64 m)) (hy : ev σ y = some (.int .u64 n)) (hm : m = a) (hn : n = b) (ha : a < 18446744073709551616) (hb : b < 18446744073709551616)
  (h : K (.int .u64 ((a &&& b : Nat) : Int)) β Γ) : Jop P C (.binOp .and t x y u) ty σ β Γ K :=
 x_pure (fun w ρ hρ=>by
  subst hm;subst hn
  have h1 : a &&& b < 18446744073709551616:=Nat.lt_of_le_of_lt Nat.and_le_left ha
  have h2:=wrap_nat h1
  simp only [execOp,bare,hρ _ _ hx,hρ _ _ hy,eqGuard,Go.binOp,Op.intBits]
  have e : (BitVec.ofNat 64 a &&& BitVec.ofNat 64 b).toNat = a &&& b:=by rw [BitVec.toNat_and,BitVec.toNat_ofNat,BitVec.toNat_ofNat,Nat.mod_eq_of_lt (by omega),Nat.mod_eq_of_lt (by omega)]
  simp [IntKind.bits]
  exact (congrArg (fun z : Nat=>IntKind.wrap .u64 (z : Int)) e).trans h2) h
theorem x_or_shl {x y : Operand} {t u : TypeId} {m n : Int} (a b : Nat) (hx : ev σ x = some (.int .u64 m)) (hy : ev σ y = some (.int .u64 n)) (hm : m = a * 4294967296) (hn : n = b) (ha : a < 4294967296) (hb : b < 4294967296)
  (h : K (.int .u64 ((a * 4294967296 + b : Nat) : Int)) β Γ) : Jop P C (.binOp .or t x y u) ty σ β Γ K :=
 x_or_nat (a * 4294967296) b hx hy (by rw [hm];simp) hn (by omega) (by omega) (by
  have:=Nat.two_pow_add_eq_or_of_lt (i:=32) (b:=b) (by simpa using hb) a
  rw [show (2 : Nat) ^ 32 = 4294967296 from rfl] at this
  rw [Nat.mul_comm a,← this,Nat.mul_comm];exact h)
theorem x_shl_nat {x y : Operand} {t u : TypeId} {k k' : IntKind} {m n : Int} (a c : Nat) (hx : ev σ x = some (.int k m)) (hy : ev σ y = some (.int k' n)) (hm : m = a) (hn : n = c) (hc : c ≤ k.bits) (hr : InR k ((a * 2 ^ c : Nat) : Int))
  (h : K (.int k ((a * 2 ^ c : Nat) : Int)) β Γ) : Jop P C (.binOp .shl t x y u) ty σ β Γ K :=
 x_pure (fun w ρ hρ=>by
  subst hm;subst hn
  have hmin : min c k.bits = c:=Nat.min_eq_left hc
  have hneg : ¬ ((c : Int) < 0):=by omega
  have e:=wrap_in hr
  simp only [execOp,bare,hρ _ _ hx,hρ _ _ hy,eqGuard,Go.binOp,Op.shift]
  simp [hneg,hmin]
  simpa using e) h
theorem x_min {x y : Operand} {ts : Array TypeId} {k : IntKind} {m n : Int} (hx : ev σ x = some (.int k m)) (hy : ev σ y = some (.int k n)) (h : K (.int k (if n < m then n else m)) β Γ) :
  Jop P C (.call { callee:=.builtin .min,args:=#[x,y],argTypes:=ts }) ty σ β Γ K :=
 x_pure (fun w ρ hρ=>by
  simp [execOp,bare,resolve,invoke,builtin,Builtin.min_,Builtin.min2,hρ _ _ hx,hρ _ _ hy]) h
end
open Go.RowKit (Below)
def keepF (σ : Fr) : List Nat → Option Fr
 | []=>some []
 | t::l=>match Fr.get t σ,keepF σ l with
  | some v,some r=>some ((t,v)::r)
  | _,_=>none
theorem keepF_sub {σ : Fr} : ∀ {l : List Nat} {r : Fr},keepF σ l = some r → Fr.sub r σ:=by
 intro l
 induction l with
 | nil=>intro r h;simp only [keepF,Option.some.injEq] at h;subst h;exact Fr.sub_nil _
 | cons t l ih =>
  intro r h
  simp only [keepF] at h
  cases h1 : Fr.get t σ with
  | none=>rw [h1] at h;simp at h
  | some v =>
   cases h2 : keepF σ l with
   | none=>rw [h1,h2] at h;simp at h
   | some r' =>
    rw [h1,h2] at h
    obtain rfl:=Option.some.inj h
    exact Fr.sub_cons h1 (ih h2)
theorem Fr.sub_append {a b σ : Fr} (ha : Fr.sub a σ) (hb : Fr.sub b σ) : Fr.sub (a++b) σ:=by
 intro t v h
 have key : ∀ (a : Fr),Fr.get t (a++b) = some v → Fr.get t a = some v ∨ Fr.get t b = some v:=by
  intro a
  induction a with
  | nil=>exact fun h=>.inr h
  | cons x l ih =>
   obtain ⟨i,u⟩:=x
   intro h
   simp only [List.cons_append,Fr.get] at h ⊢
   cases hb : Nat.beq i t with
   | true=>rw [hb] at h;exact .inl h
   | false=>rw [hb] at h;exact ih h
 rcases key a h with h | h
 ·exact ha t v h
 ·exact hb t v h
section
variable {P : Program} {F : Fun P} {C : Cx} {S : List It} {σ : Fr} {β : List Blk} {Γ : List Fact} {R : Value → World → Prop} {p : List Nat} {i : Nat} {d : Option Tmp} {op : Op} {ty : TypeId} {K : Value → List Blk → List Fact → Prop}
theorem j_loopG {X : Type} {σk : Fr} {Γk : List Fact} (ks kf : List Nat) (st : X → Fr) (bl : X → List Blk) (fa : X → List Fact) (I : X → Prop) (μ : X → Nat) (x : X) (l : List Nat)
  (hp : isLoop F.B p = true) (hk : keepF σ ks = some σk) (hkf : pick Γ kf = some Γk) (hx : I x) (hs : Fr.sub (st x) σ) (hb : β = bl x) (hf : pick Γ l = some (fa x))
  (round : ∀ x,I x → (∀ x',μ x' < μ x → I x' → J F C (.lp (p++[0])::S) (st x'++σk) (bl x') (fa x'++Γk) R) → J F C (.c (p++[0])::.lp (p++[0])::S) (st x++σk) (bl x) (fa x++Γk) R) :
  J F C (.c p::S) σ β Γ R :=
 j_loop hp (fun x=>st x++σk) bl (fun x=>fa x++Γk) I μ x hx (Fr.sub_append hs (keepF_sub hk)) hb (fun f hm=>by
  rcases List.mem_append.1 hm with hm | hm
  ·exact pick_mem hf f hm
  ·exact pick_mem hkf f hm) round
theorem distinct_iff {β : List Blk} : Distinct β ↔ β.Pairwise (fun x y=>∀ b,x.1 = some b → y.1 ≠ some b):=by
 induction β with
 | nil=>simp [Distinct]
 | cons x l ih=>rw [List.pairwise_cons,← ih];rfl
def maskB : List Bool → List Blk → List Blk
 | true::m,x::l=>x::maskB m l
 | false::m,_::l=>maskB m l
 | _,_=>[]
theorem maskB_sub : ∀ (m : List Bool) (l : List Blk),(maskB m l).Sublist l
 | true::m,x::l=>(maskB_sub m l).cons_cons x
 | false::m,x::l=>(maskB_sub m l).cons x
 | [],l=>by simp [maskB]
 | true::_,[]=>by simp [maskB]
 | false::_,[]=>by simp [maskB]
theorem j_toM {σ' : Fr} {β' : List Blk} {Γ' : List Fact} (m : List Bool) (l : List Nat) (hs : Fr.sub σ' σ) (hb : maskB m β = β') (hp : pick Γ l = some Γ') (h : J F C S σ' β' Γ' R) : J F C S σ β Γ R:=by
 subst hb
 exact j_sub hs (j_weakB (maskB_sub m β) (j_pick l hp h))
inductive ResJ (P : Program) (σ : Fr) (β : List Blk) : List ResultVar → List Value → Prop
 | nil : ResJ P σ β [] []
 | tmp {t : Tmp} {v : Value} {l : List ResultVar} {vs : List Value} : Fr.get t σ = some v → ResJ P σ β l vs → ResJ P σ β (.tmp t::l) (v::vs)
 | agg {a : Tmp} {t : TypeId} {b m : Nat} {T : TypeId} {cs : List Value} {l : List ResultVar} {vs : List Value} (n : Nat) :
   Fr.get a σ = some (.pointer (some ⟨b,0,none⟩)) → nth β n = some (some b,T,cs) → ldTy P t = some (true,m) → cs.length = m → ResJ P σ β l vs → ResJ P σ β (.cell a t::l) (.agg cs.toArray::vs)
 | one {a : Tmp} {t : TypeId} {b : Nat} {T : TypeId} {v : Value} {l : List ResultVar} {vs : List Value} (n : Nat) :
   Fr.get a σ = some (.pointer (some ⟨b,0,none⟩)) → nth β n = some (some b,T,[v]) → ldTy P t = some (false,1) → ResJ P σ β l vs → ResJ P σ β (.cell a t::l) (v::vs)
theorem ResJ.all {n : Nat} {a : Act} {w : World} (ha : Fits n σ a) (hO : Own C w β) : ∀ {l : List ResultVar} {vs : List Value},ResJ P σ β l vs → ResAll P w a.tmps l vs:=by
 intro l vs h
 induction h with
 | nil=>exact .nil
 | tmp h1 _ ih=>exact .cons (by simp [resOne,ha.get _ _ h1]) ih
 | @agg a' t b m T cs l vs k h1 h2 h3 h4 _ ih =>
  refine .cons ?_ ih
  have hb:=hO.blk _ (nth_mem h2) b rfl
  have hl : (Instr.loadAt t (.pointer (some ⟨b,0,none⟩))).run P w = .ok (.agg cs.toArray) w :=
   run_load_agg h3 h4 (cellsAt.rangeAt (n:=m) ⟨cs.toArray,T,(0,0),hb,by simp [← h4],h4⟩)
  simp only [Instr.loadAt,Instr.sureAddr,Sem.run_bind,Sem.run_pure,Result.andThen_ok] at hl
  simp [resOne,ha.get _ _ h1,asAddr,Sem.run_bind,hl]
 | @one a' t b T v l vs k h1 h2 h3 _ ih =>
  refine .cons ?_ ih
  have hl : (Instr.loadAt t (.pointer (some ⟨b,0,none⟩))).run P w = .ok v w :=
   run_load_one h3 (own_cell hO h2 rfl)
  simp only [Instr.loadAt,Instr.sureAddr,Sem.run_bind,Sem.run_pure,Result.andThen_ok] at hl
  simp [resOne,ha.get _ _ h1,asAddr,Sem.run_bind,hl]
theorem results_fits {fn : Func} {tmps : Array Value} {w : World} {vs : List Value} (h : ResAll P w tmps fn.results.toList vs) : (results fn tmps).run P w = .ok (resVal vs) w:=run_results_all h
theorem x_true {it : List (TypeId × IntKind)} (hit : IntTys P it) {q q' : Prop} [Decidable q] (h : pev it σ op = some (.bool (decide q),q')) (hq' : q') (hq : q) (hK : K (.bool true) β Γ) : Jop P C op ty σ β Γ K :=
 x_pure (fun w=>by
  have:=pev_sound (P:=P) hit (ty:=ty) h hq' w
  rwa [decide_eq_true hq] at this) hK
theorem x_false {it : List (TypeId × IntKind)} (hit : IntTys P it) {q q' : Prop} [Decidable q] (h : pev it σ op = some (.bool (decide q),q')) (hq' : q') (hq : ¬ q) (hK : K (.bool false) β Γ) : Jop P C op ty σ β Γ K :=
 x_pure (fun w=>by
  have:=pev_sound (P:=P) hit (ty:=ty) h hq' w
  rwa [decide_eq_false hq] at this) hK
abbrev S2 {α : Type} (E : Enc α) (l : List α) (e : Int) : Value → List Fact → List Blk → Prop:=fun v Φ β=>∃ pa ca,v = .tuple #[.slice pa l.length ca,.int .i64 e] ∧ Φ = [slF E pa l.length ca l] ∧ β = []
end
section
variable {P : Program} {F : Fun P} {C : Cx} {S : List It} {σ : Fr} {β : List Blk} {Γ : List Fact} {R : Value → World → Prop}
end
section
variable {P : Program} {F : Fun P} {C : Cx} {S : List It} {R : Value → World → Prop} {β : List Blk} {Γ : List Fact} {it : List (TypeId × IntKind)} {L : List Oper} {pos : List Po} {pt : List (List Nat)} {p : List Nat} {σ κ : Fr} {fs : List (Nat × Fact)} {al : List Blk} {pb : Pb} {i : Nat} {op : Op} {ty : TypeId} {d : Option Tmp}
end
open Go.RowKit (Below)
set_option linter.unusedVariables false
structure Row where
 bo : Option Nat
 cap : Nat
 cs : List Value
def rowF {α : Type} (E : Enc α) (r : Row) (n : Nat) (l : List α) : Fact where
 holds:=fun w A=>n = l.length ∧ GrOk r.bo n r.cap E.size r.cs ∧ ∃ vss,AllRd E vss l w A ∧ r.cs.take (n * E.size) = vss.flatten
 stable:=fun h ⟨h1,h2,vss,h3,h4⟩=>⟨h1,h2,vss,(allF E vss _).stable h h3,h4⟩
theorem allrd_add {α : Type} {E : Enc α} {w : World} {A : Nat → Prop} {vss : List (List Value)} {l : List α} {vs : List Value} {x : α} (h : AllRd E vss l w A) (hx : E.rd w A vs x) : AllRd E (vss++[vs]) (l++[x]) w A:=by
 refine ⟨by simp [h.1],fun i us y hu hy=>?_⟩
 by_cases hi : i < l.length
 ·rw [List.getElem?_append_left (by rw [h.1];exact hi)] at hu
  rw [List.getElem?_append_left hi] at hy
  exact h.2 i us y hu hy
 ·have hi2 : i < (l++[x]).length:=(List.getElem?_eq_some_iff.1 hy).1
  have e : i = l.length:=by simp at hi2;omega
  subst e
  rw [List.getElem?_append_right (by rw [h.1];omega),h.1,Nat.sub_self] at hu
  rw [List.getElem?_append_right (by omega),Nat.sub_self] at hy
  simp at hu hy
  subst hu;subst hy
  exact hx
def pickL : List Blk → List Nat → Option (List Blk)
 | _,[]=>some []
 | β,n::l=>match nth β n,pickL β l with
  | some x,some xs=>some (x::xs)
  | _,_=>none
def freshB : List Nat → Bool
 | []=>true
 | n::l=>!(memB n l) && freshB l
theorem pickL_mem {β : List Blk} : ∀ {ix : List Nat} {β' : List Blk},pickL β ix = some β' → ∀ y ∈ β',∃ n ∈ ix,nth β n = some y:=by
 intro ix
 induction ix with
 | nil=>intro β' h y hy;simp [pickL] at h;subst h;cases hy
 | cons n l ih =>
  intro β' h y hy
  simp only [pickL] at h
  cases h1 : nth β n with
  | none=>rw [h1] at h;simp at h
  | some x =>
   cases h2 : pickL β l with
   | none=>rw [h1,h2] at h;simp at h
   | some xs =>
    rw [h1,h2] at h
    obtain rfl : x::xs = β':=by simpa using h
    rcases List.mem_cons.1 hy with rfl | hy
    ·exact ⟨n,.head _,h1⟩
    ·obtain ⟨m,hm,h3⟩:=ih h2 y hy
     exact ⟨m,.tail _ hm,h3⟩
theorem distinct_nth {β : List Blk} (h : Distinct β) {i j : Nat} {x y : Blk} (hi : nth β i = some x) (hj : nth β j = some y) (hij : i ≠ j) : ∀ b,x.1 = some b → y.1 ≠ some b:=by
 rw [nth_eq] at hi hj
 have hp:=List.pairwise_iff_getElem.1 (distinct_iff.1 h)
 obtain ⟨h1,rfl⟩:=List.getElem?_eq_some_iff.1 hi
 obtain ⟨h2,rfl⟩:=List.getElem?_eq_some_iff.1 hj
 rcases Nat.lt_or_gt_of_ne hij with hl | hl
 ·exact hp i j h1 h2 hl
 ·intro b hb hb2
  exact hp j i h2 h1 hl b hb2 hb
theorem pickL_distinct {β : List Blk} (h : Distinct β) : ∀ {ix : List Nat} {β' : List Blk},pickL β ix = some β' → freshB ix = true → Distinct β':=by
 intro ix
 induction ix with
 | nil=>intro β' hp _;simp [pickL] at hp;subst hp;exact trivial
 | cons n l ih =>
  intro β' hp hf
  simp only [pickL] at hp
  simp only [freshB,Bool.and_eq_true,Bool.not_eq_true'] at hf
  cases h1 : nth β n with
  | none=>rw [h1] at hp;simp at hp
  | some x =>
   cases h2 : pickL β l with
   | none=>rw [h1,h2] at hp;simp at hp
   | some xs =>
    rw [h1,h2] at hp
    obtain rfl : x::xs = β':=by simpa using hp
    refine ⟨fun y hy=>?_,ih h2 hf.2⟩
    obtain ⟨m,hm,h3⟩:=pickL_mem h2 y hy
    refine distinct_nth h h1 h3 fun e=>?_
    subst e
    have:=memB_iff.2 hm
    rw [hf.1] at this
    cases this
theorem rd_nat {k : IntKind} {by' : Nat} {w : World} {A : Nat → Prop} {n : Nat} {m : Int} (e : m = n) (h : InR k n) : (encNat k by').rd w A [.int k m] n:=⟨by rw [e],h⟩
section
variable {P : Program} {F : Fun P} {C : Cx} {S : List It} {σ : Fr} {β : List Blk} {Γ : List Fact} {R : Value → World → Prop} {p : List Nat} {i : Nat} {d : Option Tmp} {op : Op} {ty : TypeId} {K : Value → List Blk → List Fact → Prop}
theorem j_selB {β' : List Blk} (ix : List Nat) (hf : freshB ix = true) (hp : pickL β ix = some β') (h : J F C S σ β' Γ R) : J F C S σ β Γ R:=fun w hO hG=>by
 have hsub : ∀ y ∈ β',y ∈ β:=fun y hy=>by
  obtain ⟨n,_,hn⟩:=pickL_mem hp y hy
  exact nth_mem hn
 refine h w ⟨hO.ext,fun x hx=>hO.new x (hsub x hx),fun x hx=>hO.blk x (hsub x hx),pickL_distinct hO.apart hp hf⟩ fun f hf=>?_
 exact f.stable (fun k hk=>⟨⟨hk.1,hk.2.1,fun x hx=>hk.2.2 x (hsub x hx)⟩,rfl⟩) (hG f hf)
theorem j_recast {t : Nat} {k : IntKind} {m : Int} (n : Int) (h : Fr.get t σ = some (.int k m)) (e : m = n) (hJ : J F C S ((t,.int k n)::σ) β Γ R) : J F C S σ β Γ R :=
 j_sub (Fr.sub_consI h e (Fr.sub_refl _)) hJ
theorem j_row0 {α : Type} (E : Enc α) (e : TypeId) (h : J F C S σ ((none,e,[])::β) (rowF E ⟨none,0,[]⟩ 0 []::Γ) R) : J F C S σ β Γ R :=
 j_nil e (j_add (rowF E ⟨none,0,[]⟩ 0 []) (fun w A _=>⟨rfl,GrOk.nil _,[],allrd_nil,by simp⟩) h)
theorem j_rowlit {α : Type} {E : Enc α} {e : TypeId} {b n : Nat} {cs : List Value} (vss : List (List Value)) (ls : List α) (k : Nat) (hall : ∀ w A,(∀ g ∈ Γ,g.holds w A) → AllRd E vss ls w A)
  (hn : nth β k = some (some b,e,cs)) (hc : vss.flatten = cs) (hl : n = ls.length) (hcs : cs.length = n * E.size) (h63 : n ≤ 9223372036854775807)
  (h : J F C S σ β (rowF E ⟨some b,n,cs⟩ n ls::Γ) R) : J F C S σ β Γ R :=
 j_add (rowF E ⟨some b,n,cs⟩ n ls) (fun w A hG=>⟨hl,.inr ⟨b,rfl,Nat.le_refl _,h63,hcs⟩,vss,hall w A hG,by show cs.take _ = _;rw [← hcs,List.take_length,hc]⟩) h
theorem j_pubR {α : Type} {E : Enc α} {e : TypeId} {r : Row} {n : Nat} {l : List α} (k j : Nat) (hn : nth β k = some (r.bo,e,r.cs)) (hj : nth Γ j = some (rowF E r n l)) (hby : n * E.bytes ≤ 140737488355328)
  (h : J F C S σ (β.eraseIdx k) (slF E (ad r.bo) n r.cap l::Γ) R) : J F C S σ β Γ R:=fun w hO hG=>by
 obtain ⟨hl,hg,vss,hall,ht⟩:=hG _ (fact_mem hj)
 have hG' : ∀ f ∈ allF E vss l::Γ,f.holds w (ok C w β):=fun f hf=>by
  rcases List.mem_cons.1 hf with rfl | hf
  ·exact hall
  ·exact hG f hf
 exact j_pub (Γ:=allF E vss l::Γ) k 0 hn rfl hg ht hl hby (j_weak (fun f hf=>by
  rcases List.mem_cons.1 hf with rfl | hf
  ·exact .head _
  ·exact .tail _ (.tail _ hf)) h) w hO hG'
theorem x_appR {α : Type} {E : Enc α} {t e e2 : TypeId} {x y : Operand} {r : Row} {n c b2 : Nat} {cs2 zs : List Value} {l : List α} {z : α} (k j i : Nat)
  (hn : nth β k = some (r.bo,e,r.cs)) (hi : nth Γ i = some (rowF E r n l)) (hj : nth β j = some (some b2,e2,cs2)) (hx : ev σ x = some (.slice (ad r.bo) n r.cap)) (hy : ev σ y = some (.slice (some ⟨b2,0,none⟩) 1 c))
  (hT : slTy P t = some (e,E.size)) (hz : zeroOf P e = some zs) (hzl : zs.length = E.size) (hrd : ∀ w A,(∀ g ∈ Γ,g.holds w A) → E.rd w A cs2 z)
  (hmax : n + 1 ≤ 9223372036854775807) (by' : Nat) (hbe : P.bytesOf e = by') (hby : (n + 1) * by' ≤ 140737488355328)
  (h : ∀ r' : Row,K (.slice (ad r'.bo) (n + 1) r'.cap) ((r'.bo,e,r'.cs)::β.eraseIdx k) (rowF E r' (n + 1) (l++[z])::Γ)) :
  Jop P C (.call { callee:=.builtin .append,args:=#[x,y],argTypes:=#[t,t] }) ty σ β Γ K:=fun w hO hG=>by
 obtain ⟨hl,hg,vss,hall,ht⟩:=hG _ (fact_mem hi)
 have hrd':=hrd w _ hG
 have hlen:=E.len hrd'
 have hG' : ∀ f ∈ allF E (vss++[cs2]) (l++[z])::Γ,f.holds w (ok C w β):=fun f hf=>by
  rcases List.mem_cons.1 hf with rfl | hf
  ·exact allrd_add hall hrd'
  ·exact hG f hf
 refine (x_app (C:=C) (β:=β) (Γ:=allF E (vss++[cs2]) (l++[z])::Γ) (K:=fun v β' Γ'=>∃ r' : Row,v = .slice (ad r'.bo) (n + 1) r'.cap ∧ β' = (r'.bo,e,r'.cs)::β.eraseIdx k ∧ Γ' = allF E (vss++[cs2]) (l++[z])::Γ ∧ GrOk r'.bo (n + 1) r'.cap E.size r'.cs ∧ r'.cs.take ((n + 1) * E.size) = (vss++[cs2]).flatten)
  k j hn hj hx hy hT hz hzl hg (news:=cs2) (by rw [Nat.one_mul,← hlen,List.take_length]) (by rw [Nat.one_mul,hlen]) (E.one hrd') hmax by' hbe hby (fun bo' cap' cs' h1 h2=>⟨⟨bo',cap',cs'⟩,rfl,rfl,rfl,h1,by show cs'.take _ = _;rw [h2,ht];simp⟩) w hO hG').mono ?_
 rintro v w' ⟨β',Γ',⟨r',rfl,rfl,rfl,h1,h2⟩,hO',hG''⟩
 refine ⟨_,_,h r',hO',fun f hf=>?_⟩
 rcases List.mem_cons.1 hf with rfl | hf
 ·exact ⟨by simp [hl],h1,_,hG'' _ (.head _),h2⟩
 ·exact hG'' f (.tail _ hf)
end
open Go.RowKit (Below)
set_option linter.unusedVariables false
section
variable {P : Program} {F : Fun P} {C : Cx} {S : List It} {σ : Fr} {β : List Blk} {Γ : List Fact} {R : Value → World → Prop} {p : List Nat} {i : Nat} {d : Option Tmp} {op : Op} {ty : TypeId} {K : Value → List Blk → List Fact → Prop}
theorem x_callP {f : FuncId} {xs : List Operand} {ts : Array TypeId} {args : List Value} {Γ' : List Fact} {β1 β2 : List Blk} {Q : Value → List Fact → List Blk → Prop} (l : List Nat) (hn : (β1++β2).Perm β)
  (hx : evs σ xs = some args) (hc : Ctr P f args β1 Γ' Q) (hp : pick Γ l = some Γ')
  (h : ∀ v Φ β',Q v Φ β' → K v (β'++β2) (Φ++Γ)) : Jop P C (.call { callee:=.value (.func f),args:=xs.toArray,argTypes:=ts }) ty σ β Γ K:=by
 intro w hO0 hG0
 have hO : Own C w (β1++β2):=⟨hO0.ext,fun x hx=>hO0.new x (hn.subset hx),fun x hx=>hO0.blk x (hn.subset hx),by
  rw [distinct_iff]
  exact (hn.pairwise_iff (fun {x y} hxy b hb e=>hxy b e hb)).2 (distinct_iff.1 hO0.apart)⟩
 have hG : ∀ f ∈ Γ,f.holds w (ok C w (β1++β2)):=fun f hf=>f.stable (fun k hk=>⟨⟨hk.1,hk.2.1,fun x hx=>hk.2.2 x (hn.subset hx)⟩,rfl⟩) (hG0 f hf)
 have hs1 : β1.Sublist (β1++β2):=List.sublist_append_left _ _
 have hs2 : β2.Sublist (β1++β2):=List.sublist_append_right _ _
 have hO2 : Own C w β2:=hO.sub hs2
 have hapart : ∀ x ∈ β1,∀ y ∈ β2,∀ b,x.1 = some b → y.1 ≠ some b:=by
  have:=distinct_iff.1 hO.apart
  rw [List.pairwise_append] at this
  exact fun x hx y hy b hb=>this.2.2 x hx y hy b hb
 have hcall:=hc.2 w (ok C w (β1++β2)) (fun k hk=>hk.2.1) (fun x hx b hb=>hO.blk x (hs1.subset hx) b hb)
  (hO.sub hs1).apart (fun g hg=>g.stable (fun k hk=>⟨⟨hk,fun ⟨x,hx,e⟩=>hk.2.2 x (hs1.subset hx) e⟩,rfl⟩) (hG g (pick_mem hp g hg)))
 refine (Ex_call hc.1 hx hcall).mono ?_
 rintro v w' ⟨Φ,β',hQ,hO',hΦ⟩
 have hkeep : ∀ k,k < w.heap.size → ¬ inB β1 k → w'.heap[k]? = w.heap[k]?:=fun k hk hne=>hO'.ext.block k hk hne
 have hnb : ∀ x ∈ β2,∀ b,x.1 = some b → ¬ inB β1 b:=fun x hx b hb ⟨y,hy,e⟩=>hapart y hy x hx b e hb
 have hnew : ∀ x ∈ β',∀ b,x.1 = some b → w.heap.size ≤ b ∨ inB β1 b:=fun x hx b hb=>hO'.new x hx b hb
 refine ⟨_,_,h v Φ β' hQ,⟨⟨hO'.ext.os.trans hO.ext.os,hO'.ext.tape.trans hO.ext.tape,hO'.ext.output.trans hO.ext.output,Nat.le_trans hO.ext.size hO'.ext.size,fun k hk hm=>?_⟩,?_,?_,?_⟩,?_⟩
 ·rw [hkeep k (Nat.lt_of_lt_of_le hk hO.ext.size) (fun ⟨y,hy,e⟩=>?_)]
  ·exact hO.ext.block k hk hm
  ·rcases hO.new y (hs1.subset hy) k e with h | h
   ·omega
   ·exact hm h
 ·intro x hm b hb
  rcases List.mem_append.1 hm with hm | hm
  ·rcases hnew x hm b hb with h | ⟨y,hy,e⟩
   ·exact .inl (Nat.le_trans hO.ext.size h)
   ·exact hO.new y (hs1.subset hy) b e
  ·exact hO2.new x hm b hb
 ·intro x hm b hb
  rcases List.mem_append.1 hm with hm | hm
  ·exact hO'.blk x hm b hb
  ·rw [hkeep b (hO2.lt hm hb) (hnb x hm b hb)]
   exact hO2.blk x hm b hb
 ·refine hO'.apart.append hO2.apart fun x hx y hy b hb e=>?_
  rcases hnew x hx b hb with h1 | h1
  ·have h2:=hO2.lt hy e
   omega
  ·exact hnb y hy b e h1
 ·intro g hg
  rcases List.mem_append.1 hg with hg | hg
  ·refine g.stable (fun k hk=>⟨⟨?_,hk.2.1,fun x hx=>?_⟩,rfl⟩) (hΦ g hg)
   ·rcases hk.1 with h1 | ⟨y,hy,e⟩ | h1
    ·exact h1.1
    ·rcases hO.new y (hs1.subset hy) k e with h | h
     ·exact .inr (.inr h)
     ·exact .inr (.inl h)
    ·exact .inr (.inr (Nat.le_trans hO.ext.size h1))
   ·rcases List.mem_append.1 hx with hx | hx
    ·exact hk.2.2 x hx
    ·intro e
     rcases hk.1 with h1 | h1 | h1
     ·exact h1.2.2 x (hs2.subset hx) e
     ·exact hnb x hx k e h1
     ·have h2:=hO2.lt hx e
      have h1' : w.heap.size ≤ k:=h1
      omega
  ·refine g.stable (fun k hk=>⟨⟨hk.1,Nat.lt_of_lt_of_le hk.2.1 hO'.ext.size,fun x hx=>?_⟩,hkeep k hk.2.1 (fun ⟨y,hy,e⟩=>hk.2.2 y (hs1.subset hy) e)⟩) (hG g hg)
   rcases List.mem_append.1 hx with hx | hx
   ·intro e
    rcases hnew x hx k e with h1 | ⟨y,hy,e2⟩
    ·have:=hk.2.1
     omega
    ·exact hk.2.2 y (hs1.subset hy) e2
   ·exact hk.2.2 x (hs2.subset hx)
theorem own_selT {β1 : List Blk} {w : World} (k : Nat) (ix : List Nat) (hf : freshB ix = true) (hp : pickL (β.take k) ix = some β1) (hO : Own C w β) : Own C w (β1++β.drop k) ∧ ∀ y ∈ β1++β.drop k,y ∈ β:=by
 have hsub1 : ∀ y ∈ β1,y ∈ β.take k:=fun y hy=>by
  obtain ⟨n,_,hn⟩:=pickL_mem hp y hy
  exact nth_mem hn
 have hsub : ∀ y ∈ β1++β.drop k,y ∈ β:=fun y hy=>by
  rcases List.mem_append.1 hy with hy | hy
  ·exact List.mem_of_mem_take (hsub1 y hy)
  ·exact List.mem_of_mem_drop hy
 have hap : Distinct (β.take k++β.drop k):=by rw [List.take_append_drop];exact hO.apart
 rw [distinct_iff,List.pairwise_append] at hap
 have hd : Distinct (β1++β.drop k):=(pickL_distinct (distinct_iff.2 hap.1) hp hf).append (distinct_iff.2 hap.2.1) fun x hx y hy b hb=>hap.2.2 x (hsub1 x hx) y hy b hb
 exact ⟨⟨hO.ext,fun x hx=>hO.new x (hsub x hx),fun x hx=>hO.blk x (hsub x hx),hd⟩,hsub⟩
theorem j_givK {vs : List Value} {Q : Value → List Fact → List Blk → Prop} {Φ : List Fact} {β1 : List Blk} (k : Nat) (ix l : List Nat) (hp : isRet F.B p = true) (hr : ResJ P σ β F.fn.results.toList vs) (hf : freshB ix = true) (hb : pickL (β.take k) ix = some β1) (hl : pick Γ l = some Φ)
  (h : Q (resVal vs) Φ (β1++β.drop k)) : J F C (.c p::S) σ β Γ (Gives C Q) :=
 fun _ hO hG=>run_ret_at hp (fun _ ha=>results_fits (hr.all ha hO)) ⟨Φ,β1++β.drop k,h,(own_selT k ix hf hb hO).1,fun f hf2=>f.stable (fun _ hk=>⟨⟨hk.1,hk.2.1,fun x hx=>hk.2.2 x ((own_selT k ix hf hb hO).2 x hx)⟩,rfl⟩) (hG f (pick_mem hl f hf2))⟩
theorem x_callN {K : Value → List Blk → List Fact → Prop} {f : FuncId} {xs : List Operand} {ts : Array TypeId} {args : List Value} {Γ' : List Fact} {β1 : List Blk} {Q : Value → List Fact → List Blk → Prop} (n : Nat) (l : List Nat) (hn : β.take n = β1)
  (hx : evs σ xs = some args) (hc : Ctr P f args β1 Γ' Q) (hp : pick Γ l = some Γ')
  (h : ∀ v Φ β',Q v Φ β' → K v (β'++β.drop n) (Φ++Γ)) : Jop P C (.call { callee:=.value (.func f),args:=xs.toArray,argTypes:=ts }) ty σ β Γ K :=
 x_callP l (by rw [← hn,List.take_append_drop]) hx hc hp h
theorem SlRd.cells {α : Type} {E : Enc α} {w : World} {A : Nat → Prop} {pa : Option Addr} {ca n : Nat} {l : List α} (hs : SlRd E w A pa ca l) (hl : n = l.length) : ∃ vss,AllRd E vss l w A ∧ (n = 0 ∨ ∃ a,pa = some a ∧ ∀ jj u,vss.flatten[jj]? = some u → w.cell? (a.add jj) = some u):=by
 rcases hs.2.2 with rfl | ⟨b,o,rfl,_,hel⟩
 ·exact ⟨[],⟨rfl,fun i vs x hv=>by simp at hv⟩,.inl (by simpa using hl)⟩
 ·obtain ⟨vss,h1,h2⟩:=SlRd.all (A:=A) hel
  exact ⟨vss,h1,.inr ⟨_,rfl,fun jj u hu=>by rw [Addr.add_mid];exact h2 jj u hu⟩⟩
end
end Go.Fw
namespace Go.Proofs.Ytmhcfhddmkhaiaa
open Go Go.Fw
set_option maxRecDepth 100000
theorem zo3 : zeroOf Try.prog 3 = some [Value.int IntKind.i64 0]:=rfl
theorem ld3 : ldTy Try.prog 3 = some (Bool.false,1):=rfl
theorem zo4 : zeroOf Try.prog 4 = some [Value.bool false]:=rfl
theorem ld4 : ldTy Try.prog 4 = some (Bool.false,1):=rfl
theorem sl22 : slTy Try.prog 22 = some (29,1):=rfl
theorem zo22e : zeroOf Try.prog 29 = some [Value.slice none 0 0]:=rfl
theorem by22e : Program.bytesOf Try.prog 29 = 24:=rfl
theorem sl29 : slTy Try.prog 29 = some (3,1):=rfl
theorem zo29e : zeroOf Try.prog 3 = some [Value.int IntKind.i64 0]:=rfl
theorem ld29 : ldTy Try.prog 29 = some (Bool.false,1):=rfl
theorem sl48 : slTy Try.prog 48 = some (78,1):=rfl
abbrev el48 : TypeId:=78
theorem zo48e : zeroOf Try.prog 78 = some [Value.int IntKind.u32 0]:=rfl
theorem by48e : Program.bytesOf Try.prog 78 = 4:=rfl
theorem ld51 : ldTy Try.prog 51 = some (Bool.false,1):=rfl
theorem sl52 : slTy Try.prog 52 = some (51,1):=rfl
theorem zo52e : zeroOf Try.prog 51 = some [Value.int IntKind.u64 0]:=rfl
theorem by52e : Program.bytesOf Try.prog 51 = 8:=rfl
theorem zo52 : zeroOf Try.prog 52 = some [Value.slice none 0 0]:=rfl
theorem ld52 : ldTy Try.prog 52 = some (Bool.false,1):=rfl
theorem ld78 : ldTy Try.prog 78 = some (Bool.false,1):=rfl
abbrev itl : List (TypeId × IntKind):=[(2,.i64),(3,.i64),(5,.u8),(6,.u8),(12,.u64),(21,.i32),(25,.i64),(51,.u64),(78,.u32),(84,.u64),(130,.u8),(131,.u8),(134,.i32),(135,.i32)]
theorem it : IntTys Try.prog itl:=IntTys.cons (t:=2) (k:=.i64) rfl (IntTys.cons (t:=3) (k:=.i64) rfl (IntTys.cons (t:=5) (k:=.u8) rfl (IntTys.cons (t:=6) (k:=.u8) rfl (IntTys.cons (t:=12) (k:=.u64) rfl (IntTys.cons (t:=21) (k:=.i32) rfl (IntTys.cons (t:=25) (k:=.i64) rfl (IntTys.cons (t:=51) (k:=.u64) rfl (IntTys.cons (t:=78) (k:=.u32) rfl (IntTys.cons (t:=84) (k:=.u64) rfl (IntTys.cons (t:=130) (k:=.u8) rfl (IntTys.cons (t:=131) (k:=.u8) rfl (IntTys.cons (t:=134) (k:=.i32) rfl (IntTys.cons (t:=135) (k:=.i32) rfl (IntTys.nil _))))))))))))))
theorem mx : Try.prog.follows .mixedOrders = true:=rfl
noncomputable def F_codewrightlaw24_MacwilliamsDerived : Fun Try.prog:=⟨4,Try.f4,_,Try.func4,rfl,rfl⟩
noncomputable def F_codewrightlaw24_crowded : Fun Try.prog:=⟨6,Try.f6,_,Try.func6,rfl,rfl⟩
noncomputable def F_macwilliams_Design : Fun Try.prog:=⟨8,Try.f8,_,Try.func8,rfl,rfl⟩
noncomputable def F_codewrightref24_Block : Fun Try.prog:=⟨10,Try.f10,_,Try.func10,rfl,rfl⟩
noncomputable def F_nat_Binomial : Fun Try.prog:=⟨22,Try.f22,_,Try.func22,rfl,rfl⟩
noncomputable def F_nat_Cmp : Fun Try.prog:=⟨23,Try.f23,_,Try.func23,rfl,rfl⟩
noncomputable def F_nat_Of : Fun Try.prog:=⟨24,Try.f24,_,Try.func24,rfl,rfl⟩
noncomputable def F_macwilliams_subsets : Fun Try.prog:=⟨25,Try.f25,_,Try.func25,rfl,rfl⟩
noncomputable def F_macwilliams_Design_1 : Fun Try.prog:=⟨26,Try.f26,_,Try.func26,rfl,rfl⟩
noncomputable def F_nat_digit : Fun Try.prog:=⟨49,Try.f49,_,Try.func49,rfl,rfl⟩
noncomputable def F_nat_times : Fun Try.prog:=⟨50,Try.f50,_,Try.func50,rfl,rfl⟩
noncomputable def F_nat_Trim : Fun Try.prog:=⟨51,Try.f51,_,Try.func51,rfl,rfl⟩
noncomputable def F_nat_short : Fun Try.prog:=⟨52,Try.f52,_,Try.func52,rfl,rfl⟩
end Go.Proofs.Ytmhcfhddmkhaiaa
namespace Go.Fw
open Go.ChangeShapes Go.WideShapes Go.RowKit
def Opens {α : Type} (P : Program) (t : TypeId) (E : Enc α) : Prop :=
 P.cellsOf t = E.size ∧ P.bytesOf t = E.bytes ∧ ∀ {H : Type} (enc : TypeId × Value → H) (W : World) (fuel : Nat) (cs : List Value) (d : DataW H) (ps : List MemPlace),
  DataW.trod enc P W 0 (fun _=>true) true fuel t cs = some (d,ps) → (∀ n ∈ d.weights P t,n ≤ reachBytes) → ∃ x : α,E.rd W (fun k=>k < W.heap.size) cs x
theorem inR_of_wf {k : IntKind} {n : Int} (h : (Lit.int k n).wf = true) : InR k n:=by
 cases k <;> simp [Lit.wf,IntKind.min,IntKind.max,IntKind.bits,IntKind.signed] at h <;> simp only [InR] <;> omega
section
variable {P : Program} {t : TypeId}
theorem opens_int {k : IntKind} {by' : Nat} (ht : P.underlying t = some (.int k)) (hc : P.cellsOf t = 1) (hb : P.bytesOf t = by') : Opens P t (encInt k by') :=
 ⟨hc,hb,fun enc W fuel cs d ps h _=>by
  obtain ⟨n,rfl,_,hw⟩:=DataW.trod_int ht h
  exact ⟨n,rfl,inR_of_wf hw⟩⟩
theorem opens_nat {k : IntKind} {by' : Nat} (ht : P.underlying t = some (.int k)) (hc : P.cellsOf t = 1) (hb : P.bytesOf t = by') (hk : ∀ n,InR k n → 0 ≤ n) : Opens P t (encNat k by') :=
 ⟨hc,hb,fun enc W fuel cs d ps h _=>by
  obtain ⟨n,rfl,_,hw⟩:=DataW.trod_int ht h
  have h1:=inR_of_wf hw
  have h0:=hk n h1
  refine ⟨n.toNat,?_,?_⟩
  ·rw [Int.toNat_of_nonneg h0]
  ·rwa [Int.toNat_of_nonneg h0]⟩
theorem cellsAt_of_cells? {W : World} {a : Addr} {n : Nat} {cs : List Value} (h : W.cells? 0 a n = some cs) (hn : 0 < n) : a.spot = none ∧ a.block < W.heap.size ∧ cellsAt W a.block a.off n cs:=by
 obtain ⟨_,hl,hc⟩:=World.cells?_some h
 have h0:=hc 0 hn
 rw [List.getElem?_eq_getElem (by omega)] at h0
 have e0 : a.add 0 = a:=rfl
 rw [e0] at h0
 unfold World.cell? at h0
 split at h0
 ·rename_i c T fr hb
  split at h0
  ·cases h0
  ·rename_i hs
   have hs' : a.spot = none:=by cases ha : a.spot with
    | none=>rfl
    | some _=>rw [ha] at hs;simp at hs
   refine ⟨hs',?_,c,T,fr,hb,?_,hl⟩
   ·rcases Nat.lt_or_ge a.block W.heap.size with h | h
    ·exact h
    ·rw [Array.getElem?_eq_none h] at hb;cases hb
   ·apply List.ext_getElem?
    intro i
    by_cases hi : i < n
    ·have:=hc i hi
     unfold World.cell? Addr.add at this
     rw [List.getElem?_take,if_pos hi,List.getElem?_drop,← this]
     by_cases h0 : i = 0
     ·subst h0;simp [hb,hs']
     ·simp [h0,hb]
    ·rw [List.getElem?_take,if_neg hi,List.getElem?_eq_none (by omega)]
 ·cases h0
theorem list_of_all {α : Type} : ∀ (n : Nat) (p : Nat → α → Prop),(∀ i,i < n → ∃ x,p i x) → ∃ l : List α,l.length = n ∧ ∀ i x,l[i]? = some x → p i x:=by
 intro n p h
 refine ⟨List.ofFn (fun i : Fin n=>Classical.choose (h i.1 i.2)),by simp,fun i x hx=>?_⟩
 have hi : i < n:=by
  have:=(List.getElem?_eq_some_iff.1 hx).1
  simpa using this
 have e : x = Classical.choose (h i hi):=by
  rw [List.getElem?_eq_getElem (by simpa using hi),List.getElem_ofFn] at hx
  exact (Option.some.inj hx).symm
 rw [e]
 exact Classical.choose_spec (h i hi)
theorem weightsAll_of {H : Type} {e : TypeId} : ∀ {l : List (DataW H)} {d : DataW H},d ∈ l → ∀ n ∈ d.weights P e,n ∈ DataW.weightsAll P e l
 | [],_,hd,_,_=>by cases hd
 | x::l,d,hd,n,hn=>by
  simp only [DataW.weightsAll,List.mem_append]
  rcases List.mem_cons.1 hd with rfl | hd
  ·exact .inl hn
  ·exact .inr (weightsAll_of hd n hn)
theorem opens_sl {α : Type} {E : Enc α} {e : TypeId} (ht : P.underlying t = some (.slice e)) (hE : Opens P e E) (hc : P.cellsOf t = 1) (hb : P.bytesOf t = 24) (hs : 0 < E.size) : Opens P t (encSl E) :=
 ⟨hc,hb,fun enc W fuel cs d ps h hw=>by
  obtain ⟨he,hby,hE⟩:=hE
  rcases Deep.open_slice ht h with ⟨rfl,_⟩ | ⟨a,len,cap,m,n,D,Pl,rfl,_,hl,_,hm,hx,hel⟩
  ·exact ⟨[],none,0,rfl,Nat.zero_le _,by simp,.inl rfl⟩
  ·simp only [Prod.mk.injEq] at hx
   obtain ⟨rfl,_⟩:=hx
   simp only [if_true] at hm
   subst hm
   have hsz : len * E.bytes ≤ 140737488355328:=by
    have h1 : ((List.range len).map D).length + ((List.range (m - len)).map fun j=>D (len + j)).length = m:=by simp;omega
    have h2:=hw (m * P.bytesOf e) (by rw [DataW.weights,ht];show m * P.bytesOf e ∈ _::_;rw [h1];exact List.mem_cons_self)
    rw [hby] at h2
    exact Nat.le_trans (Nat.mul_le_mul_right _ hl) (Nat.le_trans h2 (by decide))
   have each : ∀ i,i < len → ∃ x : α,(a.spot = none ∧ a.block < W.heap.size) ∧ ∃ vs,cellsAt W a.block (a.off + i * E.size) E.size vs ∧ E.rd W (fun k=>k < W.heap.size) vs x:=by
    intro i hi
    obtain ⟨cs',h1,h2⟩:=hel i (by omega)
    obtain ⟨x,hxr⟩:=hE enc W n cs' _ _ h2 (fun k hk=>hw k (by
     rw [DataW.weights,ht]
     refine List.mem_cons_of_mem _ (List.mem_append_left _ (weightsAll_of (List.mem_map.2 ⟨i,List.mem_range.2 hi,rfl⟩) k hk))))
    rw [he] at h1
    obtain ⟨hsp,hlt,hca⟩:=cellsAt_of_cells? h1 hs
    have hadd : (a.add (i * E.size)).block = a.block ∧ (a.add (i * E.size)).off = a.off + i * E.size:=by
     unfold Addr.add
     split
     ·rename_i h;rw [h];exact ⟨rfl,rfl⟩
     ·exact ⟨rfl,rfl⟩
    rw [hadd.1] at hlt
    rw [hadd.1,hadd.2] at hca
    have hsp0 : a.spot = none:=by
     obtain ⟨cs0,h10,_⟩:=hel 0 (by omega)
     rw [he,Nat.zero_mul] at h10
     exact (cellsAt_of_cells? h10 hs).1
    exact ⟨x,⟨hsp0,hlt⟩,cs',hca,hxr⟩
   obtain ⟨l,hll,hlx⟩:=list_of_all len _ each
   refine ⟨l,some a,m,by rw [hll],by omega,by rw [hll];exact hsz,?_⟩
   cases l with
   | nil=>exact .inl rfl
   | cons y l =>
    obtain ⟨⟨h1,h2⟩,_⟩:=hlx 0 y rfl
    refine .inr ⟨a.block,a.off,?_,h2,fun i x hi=>(hlx i x hi).2⟩
    cases a;simp_all⟩
def Arg (P : Program) (W : World) (t : TypeId) (v : Value) : Prop :=
 (∃ b,Value.okWide P W .any b t v) ∧ ∃ (H : Type) (enc : TypeId × Value → H) (d : DataW H) (p : List MemPlace),DataW.Trod enc P W 0 (fun _=>true) true t v d p ∧ ∀ n ∈ d.weights P t,n ≤ reachBytes
def Args (P : Program) (W : World) : List TypeId → List Value → Prop
 | [],[]=>True
 | t::ts,v::vs=>Arg P W t v ∧ Args P W ts vs
 | _,_=>False
variable {W : World} {v : Value}
theorem Arg.slice {α : Type} {E : Enc α} {e : TypeId} (h : Arg P W t v) (ht : P.underlying t = some (.slice e)) (hE : Opens P t (encSl E)) : ∃ pa ca l,v = .slice pa l.length ca ∧ (slF E pa l.length ca l).holds W (fun k=>k < W.heap.size):=by
 obtain ⟨⟨b,hv⟩,H,enc,d,p,⟨fuel,hf⟩,hw⟩:=h
 obtain ⟨a,len,cap,rfl⟩:=okWide_slice ht hv
 obtain ⟨l,pa,ca,e1,hs⟩:=hE.2.2 enc W fuel _ d p hf hw
 have e2 : Value.slice a len cap = .slice pa l.length ca:=by simpa [Value.cells] using e1
 exact ⟨pa,ca,l,e2,rfl,hs⟩
theorem Arg.int {k : IntKind} (h : Arg P W t v) (ht : P.underlying t = some (.int k)) : ∃ n,v = .int k n ∧ InR k n:=by
 obtain ⟨⟨b,hv⟩,H,enc,d,p,hf,hw⟩:=h
 obtain ⟨n,e,_,_,hn⟩:=open_int ht hv hf
 exact ⟨n,e,inR_of_wf hn⟩
theorem Arg.bool (h : Arg P W t v) (ht : P.underlying t = some .bool) : ∃ b,v = .bool b:=by
 obtain ⟨⟨b,hv⟩,H,enc,d,p,hf,hw⟩:=h
 obtain ⟨n,e,_⟩:=open_bool ht hv hf
 exact ⟨n,e⟩
theorem Arg.agg {α : Type} {E : Enc α} {fs : Array Field} (h : Arg P W t v) (ht : P.underlying t = some (.struct fs)) (hE : Opens P t E) : ∃ vs x,v = .agg vs.toArray ∧ (vF E vs x).holds W (fun k=>k < W.heap.size):=by
 obtain ⟨⟨b,hv⟩,H,enc,d,p,⟨fuel,hf⟩,hw⟩:=h
 obtain ⟨cs,rfl,_⟩:=okWide_struct ht hv
 obtain ⟨x,hx⟩:=hE.2.2 enc W fuel _ d p hf hw
 have hx' : E.rd W (fun k=>k < W.heap.size) cs.toList x:=hx
 exact ⟨cs.toList,x,by simp,hx'⟩
end
theorem trodAll_below {H : Type} {enc : TypeId × Value → H} {P : Program} (hl : laidOutB P = true) {W W' : World} (hb : Below W.heap.size W W') : ∀ {ts : List TypeId} {vs : List Value} {ds : List (DataW H)} {ps : List MemPlace},
  (ts.all fun t=>P.readableRec t && decide (t < P.types.size)) = true → DataW.TrodAll enc P W 0 (fun _=>true) true ts vs ds ps → DataW.TrodAll enc P W' 0 (fun b=>decide (b < W.heap.size)) true ts vs ds ps
 | [],[],[],_,_,h=>h
 | t::ts,v::vs,d::ds,ps,ha,⟨p,q,h1,h2,e⟩=>by
  simp only [List.all_cons,Bool.and_eq_true,decide_eq_true_eq] at ha
  refine ⟨p,q,Below.trod hl ha.1.1 ha.1.2 h1 hb ?_,trodAll_below hl hb (by simpa using ha.2) h2,e⟩
  obtain ⟨m,hm⟩:=h1
  exact DataW.trod_lt m _ _ _ hm
 | [],_::_,_,_,_,h=>h.elim
 | [],[],_::_,_,_,h=>h.elim
 | _::_,[],_,_,_,h=>h.elim
 | _::_,_::_,[],_,_,h=>h.elim
theorem args_of {H : Type} {enc : TypeId × Value → H} {P : Program} {W : World} {base : Nat} : ∀ (ts : List TypeId) (vs : List Value) (ds : List (DataW H)) (ps : List MemPlace),
  (∀ (j : Nat) t v,ts[j]? = some t → vs[j]? = some v → Value.okWide P W .any base t v) → DataW.TrodAll enc P W 0 (fun _=>true) true ts vs ds ps → (∀ n ∈ DataW.weightsEach P ts ds,n ≤ reachBytes) → Args P W ts vs
 | [],[],[],_,_,_,_=>trivial
 | t::ts,v::vs,d::ds,ps,hv,⟨p,q,h1,h2,e⟩,hw=>by
  refine ⟨⟨⟨base,hv 0 t v rfl rfl⟩,H,enc,d,p,h1,fun n hn=>hw n (by simp only [DataW.weightsEach,List.mem_append];exact .inl hn)⟩,args_of ts vs ds q (fun j t v ht hv'=>hv (j + 1) t v (by simpa using ht) (by simpa using hv')) h2 (fun n hn=>hw n (by simp only [DataW.weightsEach,List.mem_append];exact .inr hn))⟩
 | [],_::_,_,_,_,h,_=>h.elim
 | [],[],_::_,_,_,h,_=>h.elim
 | _::_,[],_,_,_,h,_=>h.elim
 | _::_,_::_,[],_,_,h,_=>h.elim
def LawSays (P : Program) (f : FuncId) (fn : Func) : Prop :=
 ∀ (W : World) (args : List Value),Args P W fn.params.toList args → Calls P f args.toArray W (Ret fun v W'=>v = .bool true ∧ Below W.heap.size W W')
theorem law_of_gives {P : Program} {f : FuncId} {args : List Value} {Γ : List Fact} {W : World} {Q : Value → List Fact → List Blk → Prop} (h : Ctr P f args [] Γ Q) (hq : ∀ v Φ β,Q v Φ β → v = .bool true) (hG : ∀ g ∈ Γ,g.holds W (fun k=>k < W.heap.size)) :
  Calls P f args.toArray W (Ret fun v W'=>v = .bool true ∧ Below W.heap.size W W'):=by
 refine (h.2 W (fun k=>k < W.heap.size) (fun k hk=>hk) (fun x hx=>by cases hx) trivial (fun g hg=>g.stable (fun k hk=>⟨⟨hk,fun ⟨x,hx,_⟩=>by cases hx⟩,rfl⟩) (hG g hg))).mono ?_
 intro e w' he
 cases e <;> try exact he.elim
 obtain ⟨Φ,β,hQ,hO,_⟩:=he
 exact ⟨hq _ _ _ hQ,hO.ext.os,hO.ext.tape,hO.ext.output,hO.ext.size,fun k hk=>hO.ext.block k hk (fun ⟨x,hx,_⟩=>by cases hx)⟩
theorem law_lift {H : Type} {enc : TypeId × Value → H} {C : Checked} {f : FuncId} {fn : Func} {s : ChangeSpec} {tb : TypeId} {os : Os} {conds : List PathCond}
  (own : ownKnob C.prog.godebug = none) (started : os.Started) (noInit : C.prog.inits.idxOf? f = none) (hfn : C.prog.funcs[f]? = some fn)
  (witness : ∃ (w : World) (tape : Tape) (i : Input),w.os = os ∧ (w.forCall tape i).Shaped C.prog ∧ i.vars = [] ∧ Input.okWide C.prog (w.forCall tape i) .any w.heap.size f i ∧
   s.pre6 enc C.prog fn conds false (w.forCall tape i).memory i.args ∧ (Assume.holds {} C.prog (lone (Frame.enter C.prog f i.args .normal) [] (w.forCall tape i))))
  (laid : laidOutB C.prog = true) (hvars : s.vars = []) (hts : (fn.params.toList.all fun t=>C.prog.readableRec t && decide (t < C.prog.types.size)) = true)
  (hres : fn.resultTypes = #[tb]) (htb : C.prog.underlying tb = some .bool)
  (hspec : ∀ ds : List (DataW H),ds.length = fn.params.toList.length → s.fn H ds = { results:=[.lit (.bool true)],args:=ds })
  (walk : LawSays C.prog f fn) :
  ReturnsInHanded {} C os f .any (s.pre6 enc C.prog fn conds false) (s.post enc C.prog fn false true false false):=by
 refine returnsInHanded_of_change_sized own started noInit hfn witness ?_
 intro W base args ds gs before hval hW _ hsz _
 have hW':=hW
 obtain ⟨p,q,hA,hV,rfl,_,_⟩:=hW
 rw [hvars] at hV
 obtain ⟨rfl,rfl⟩:=trodVars_none hV
 have hlen : ∀ {ts : List TypeId} {vs : List Value} {ds : List (DataW H)} {ps : List MemPlace},DataW.TrodAll enc C.prog W 0 (fun _=>true) true ts vs ds ps → ds.length = ts.length:=by
  intro ts
  induction ts with
  | nil=>intro vs ds ps h;cases vs <;> cases ds <;> first | rfl | exact h.elim
  | cons t ts ih =>
   intro vs ds ps h
   cases vs <;> cases ds <;> try exact h.elim
   obtain ⟨p,q,_,h2,_⟩:=h
   simp [ih h2]
 have hw : ∀ n ∈ DataW.weightsEach C.prog fn.params.toList ds,n ≤ reachBytes:=fun n hn=>by
  have e : s.plain.varTypes C.prog = []:=by
   unfold DataSpec.varTypes ChangeSpec.plain
   rw [hvars];rfl
  rw [e,List.append_nil,List.append_nil] at hsz
  simpa using List.all_eq_true.1 hsz n hn
 have:=walk W args.toList (args_of fn.params.toList args.toList ds p (fun j t v ht hv=>hval j t v (by simpa using ht) (by simpa using hv)) hA hw)
 rw [Array.toArray_toList] at this
 refine this.mono fun e W' he=>?_
 cases e <;> try exact he.elim
 obtain ⟨rfl,hb⟩:=he
 refine ⟨_,rfl,ds,[],p++[],[],p,[],hW',?_,?_,?_,hb.frame _,fun h=>by cases h⟩
 ·rw [List.append_nil,hspec ds (hlen hA),hres]
  exact trodAll_mk1 (shut_bool htb _)
 ·rw [List.append_nil,hspec ds (hlen hA)]
  exact trodAll_below laid hb hts hA
 ·rw [List.append_nil,hspec ds (hlen hA),hvars]
  rfl
end Go.Fw
namespace Go.Proofs.Ytmhcfhddmkhaiaa
set_option maxRecDepth 100000
set_option linter.unusedVariables false
set_option linter.unusedSimpArgs false
def val : List Nat → Nat
 | []=>0
 | x::l=>x + 4294967296 * val l
def trim : List Nat → List Nat
 | []=>[]
 | x::l=>match trim l with
  | []=>if x = 0 then [] else [x]
  | y::l'=>x::y::l'
theorem val_trim : ∀ l,val (trim l) = val l:=by
 intro l
 induction l with
 | nil=>rfl
 | cons x l ih =>
  simp only [trim]
  cases h : trim l with
  | nil =>
   rw [h] at ih
   simp only [val] at ih ⊢
   split
   ·subst_vars;simp [val,← ih]
   ·simp [val,← ih]
  | cons y l'=>rw [h] at ih;simp only [val] at ih ⊢;omega
theorem trim_length_le : ∀ l,(trim l).length ≤ l.length:=by
 intro l
 induction l with
 | nil=>exact Nat.le_refl _
 | cons x l ih =>
  simp only [trim]
  cases h : trim l with
  | nil=>by_cases hx : x = 0 <;> simp [hx]
  | cons y l'=>rw [h] at ih;simp at ih ⊢;omega
theorem trim_eq_take : ∀ l,trim l = l.take (trim l).length:=by
 intro l
 induction l with
 | nil=>rfl
 | cons x l ih =>
  simp only [trim]
  cases h : trim l with
  | nil=>by_cases hx : x = 0 <;> simp [hx]
  | cons y l'=>rw [h] at ih;simp at ih ⊢;exact ih
theorem trim_append_zero (l : List Nat) : trim (l++[0]) = trim l:=by
 induction l with
 | nil=>simp [trim]
 | cons x l ih=>simp only [List.cons_append,trim,ih]
theorem trim_append_ne (l : List Nat) (x : Nat) (hx : x ≠ 0) : trim (l++[x]) = l++[x]:=by
 induction l with
 | nil=>simp [trim,hx]
 | cons y l ih =>
  simp only [List.cons_append,trim,ih]
  cases l <;> simp
theorem trim_take_zero {l : List Nat} {n : Nat} (hn : l[n]? = some 0) : trim (l.take (n + 1)) = trim (l.take n):=by
 have : l.take (n + 1) = l.take n++[0]:=by rw [List.take_add_one,hn];rfl
 rw [this,trim_append_zero]
theorem trim_take_ne {l : List Nat} {n z : Nat} (hn : l[n]? = some z) (hz : z ≠ 0) : trim (l.take (n + 1)) = l.take (n + 1):=by
 have : l.take (n + 1) = l.take n++[z]:=by rw [List.take_add_one,hn];rfl
 rw [this,trim_append_ne _ _ hz]
theorem mem_trim {l : List Nat} {x : Nat} (h : x ∈ trim l) : x ∈ l:=by
 rw [trim_eq_take] at h;exact List.mem_of_mem_take h
def limbs (n : Nat) : List Nat:=if _h : n = 0 then [] else n % 4294967296::limbs (n / 4294967296)
termination_by n
decreasing_by omega
theorem limbs_zero : limbs 0 = []:=by rw [limbs];rfl
theorem limbs_pos {n : Nat} (h : n ≠ 0) : limbs n = n % 4294967296::limbs (n / 4294967296):=by rw [limbs,dif_neg h]
theorem val_limbs (n : Nat) : val (limbs n) = n:=by
 induction n using Nat.strongRecOn with
 | ind n ih =>
  by_cases h : n = 0
  ·subst h;rw [limbs_zero];rfl
  ·rw [limbs_pos h,val,ih _ (by omega)];omega
theorem limbs_lt (n : Nat) : ∀ x ∈ limbs n,x < 4294967296:=by
 induction n using Nat.strongRecOn with
 | ind n ih =>
  intro x hx
  by_cases h : n = 0
  ·subst h;rw [limbs_zero] at hx;cases hx
  ·rw [limbs_pos h] at hx
   rcases List.mem_cons.1 hx with rfl | hx
   ·omega
   ·exact ih _ (by omega) x hx
theorem trim_eq {l : List Nat} (h : ∀ x ∈ l,x < 4294967296) : trim l = limbs (val l):=by
 induction l with
 | nil=>exact limbs_zero.symm
 | cons x l ih =>
  have ih:=ih fun y hy=>h y (.tail _ hy)
  have hx:=h x (.head _)
  simp only [trim,val]
  rw [ih]
  by_cases hv : val l = 0
  ·rw [hv,limbs_zero]
   by_cases h0 : x = 0
   ·subst h0;simp [limbs_zero]
   ·simp only [if_neg h0]
    rw [limbs_pos (by omega),show (x + 4294967296 * 0) / 4294967296 = 0 by omega,limbs_zero,show (x + 4294967296 * 0) % 4294967296 = x by omega]
  ·rw [limbs_pos (show x + 4294967296 * val l ≠ 0 by omega),show (x + 4294967296 * val l) / 4294967296 = val l by omega,show (x + 4294967296 * val l) % 4294967296 = x by omega]
   rw [limbs_pos hv]
theorem trim_limbs (n : Nat) : trim (limbs n) = limbs n:=by rw [trim_eq (limbs_lt n),val_limbs]
theorem val_append (l m : List Nat) : val (l++m) = val l + 4294967296 ^ l.length * val m:=by
 induction l with
 | nil=>simp [val]
 | cons x l ih =>
  simp only [List.cons_append,val,ih,List.length_cons,Nat.pow_succ]
  rw [Nat.mul_add,Nat.mul_comm (4294967296 ^ l.length) 4294967296,Nat.mul_assoc];omega
theorem val_lt {l : List Nat} (h : ∀ x ∈ l,x < 4294967296) : val l < 4294967296 ^ l.length:=by
 induction l with
 | nil=>simp [val]
 | cons x l ih =>
  have ih:=ih fun y hy=>h y (.tail _ hy)
  have hx:=h x (.head _)
  simp only [val,List.length_cons,Nat.pow_succ]
  have : val l + 1 ≤ 4294967296 ^ l.length:=ih
  have:=Nat.mul_le_mul_right 4294967296 this
  omega
theorem limbs_length_le {n k : Nat} (h : n < 4294967296 ^ k) : (limbs n).length ≤ k:=by
 induction k generalizing n with
 | zero => have : n = 0 := by simpa using h
           subst this; rw [limbs_zero]; exact Nat.le_refl _
 | succ k ih =>
  by_cases h0 : n = 0
  ·subst h0;rw [limbs_zero];exact Nat.zero_le _
  ·rw [limbs_pos h0,List.length_cons]
   have:=ih (n:=n / 4294967296) (by rw [Nat.pow_succ] at h;exact Nat.div_lt_of_lt_mul (by rw [Nat.mul_comm];exact h))
   omega
theorem limbs_le_length {n k : Nat} (h : (limbs n).length ≤ k) : n < 4294967296 ^ k:=by
 have:=val_lt (limbs_lt n)
 rw [val_limbs] at this
 exact Nat.lt_of_lt_of_le this (Nat.pow_le_pow_right (by omega) h)
theorem val_take_succ {l : List Nat} {i x : Nat} (h : l[i]? = some x) : val (l.take (i + 1)) = val (l.take i) + 4294967296 ^ i * x:=by
 have hi : i < l.length:=(List.getElem?_eq_some_iff.1 h).1
 rw [List.take_add_one,h,val_append]
 simp [val,List.length_take,Nat.min_eq_left (Nat.le_of_lt hi)]
theorem val_replicate (n : Nat) : val (List.replicate n 0) = 0:=by
 induction n with
 | zero=>rfl
 | succ n ih=>rw [List.replicate_succ,val,ih]
theorem val_set_take {l : List Nat} {k z : Nat} (h : k < l.length) : val ((l.set k z).take (k + 1)) = val (l.take k) + 4294967296 ^ k * z:=by
 rw [val_take_succ (x:=z) (by simp [h]),List.take_set_of_le (Nat.le_refl k)]
theorem set_lt {l : List Nat} {k z m : Nat} (h : ∀ x ∈ l,x < m) (hz : z < m) : ∀ x ∈ l.set k z,x < m:=fun x hx=>by
 rcases List.mem_or_eq_of_mem_set hx with h1 | rfl
 ·exact h x h1
 ·exact hz
theorem carry_step {V P c A b x y s : Nat} (h : V + P * c = A + b) (hs : s = x + c + y) : V + P * (s % 4294967296) + P * 4294967296 * (s / 4294967296) = A + P * x + (b + P * y):=by
 have h1 : P * (s % 4294967296) + P * 4294967296 * (s / 4294967296) = P * s:=by rw [Nat.mul_assoc,← Nat.mul_add,Nat.mod_add_div]
 rw [Nat.add_assoc,h1,hs,Nat.mul_add,Nat.mul_add];omega
theorem rep_lt {n m : Nat} (h : 0 < m) : ∀ x ∈ List.replicate n 0,x < m:=fun x hx=>by rw [(List.mem_replicate.1 hx).2];exact h
theorem limbs_one : limbs 1 = [1]:=by rw [limbs_pos (by omega)];simp [limbs_zero]
theorem val_drop {l : List Nat} {k x : Nat} (h : l[k]? = some x) : val (l.drop k) = x + 4294967296 * val (l.drop (k + 1)):=by
 have hk : k < l.length:=(List.getElem?_eq_some_iff.1 h).1
 rw [List.drop_eq_getElem_cons hk,val]
 rw [List.getElem?_eq_getElem hk] at h
 rw [Option.some.inj h]
theorem val_set_drop {l : List Nat} {k z : Nat} (h : k < l.length) : val ((l.set k z).drop k) = z + 4294967296 * val (l.drop (k + 1)):=by
 rw [val_drop (x:=z) (by simp [h]),List.drop_set_of_lt (by omega)]
theorem div_step {A Q b r x : Nat} (h : A = Q * b + r) (hb : 0 < b) : x + 4294967296 * A = ((r * 4294967296 + x) / b + 4294967296 * Q) * b + (r * 4294967296 + x) % b:=by
 have h1:=Nat.div_add_mod (r * 4294967296 + x) b
 rw [Nat.add_mul,Nat.mul_comm _ b]
 rw [h,Nat.mul_add,Nat.mul_assoc]
 omega
theorem div_lt' {r x b : Nat} (hr : r < b) (hx : x < 4294967296) : (r * 4294967296 + x) / b < 4294967296:=by
 refine Nat.div_lt_of_lt_mul ?_
 have:=Nat.mul_le_mul_right 4294967296 (show r + 1 ≤ b from hr)
 omega
theorem limbs_mono {x W k : Nat} (h : (limbs W).length ≤ k) (hx : x ≤ W) : (limbs x).length ≤ k :=
 limbs_length_le (Nat.lt_of_le_of_lt hx (limbs_le_length h))
def binom : Nat → Nat → Nat
 | _,0=>1
 | 0,_ + 1=>0
 | n + 1,k + 1=>binom n k + binom n (k + 1)
theorem binom_zero (n : Nat) : binom n 0 = 1:=by cases n <;> rfl
theorem binom_succ (n k : Nat) : binom (n + 1) (k + 1) = binom n k + binom n (k + 1):=rfl
theorem binom_gt : ∀ (n k : Nat),n < k → binom n k = 0:=by
 intro n
 induction n with
 | zero=>intro k h;cases k with
  | zero=>omega
  | succ k=>rfl
 | succ n ih=>intro k h;cases k with
  | zero=>omega
  | succ k=>rw [binom_succ,ih k (by omega),ih (k + 1) (by omega)]
theorem binom_self (n : Nat) : binom n n = 1:=by
 induction n with
 | zero=>rfl
 | succ n ih=>rw [binom_succ,ih,binom_gt n (n + 1) (by omega)]
theorem binom_symm : ∀ (n a b : Nat),a + b = n → binom n a = binom n b:=by
 intro n
 induction n with
 | zero => intro a b h; have : a = 0 := by omega
           have : b = 0 := by omega
           subst_vars; rfl
 | succ n ih =>
  intro a b h
  cases a with
  | zero => have : b = n + 1 := by omega
            subst this; rw [binom_self, binom_zero]
  | succ a=>cases b with
   | zero => have : a = n := by omega
             subst this; rw [binom_self, binom_zero]
   | succ b=>rw [binom_succ,binom_succ,ih a (b + 1) (by omega),ih (a + 1) b (by omega),Nat.add_comm]
theorem binom_le (n : Nat) : ∀ k,binom n k ≤ 2 ^ n:=by
 induction n with
 | zero=>intro k;cases k <;> simp [binom]
 | succ n ih=>intro k;cases k with
  | zero=>rw [binom_zero];exact Nat.pow_pos (by omega)
  | succ k=>rw [binom_succ,Nat.pow_succ];have:=ih k;have:=ih (k + 1);omega
theorem binom_step : ∀ (n k m : Nat),n = k + m → (k + 1) * binom n (k + 1) = m * binom n k:=by
 intro n
 induction n with
 | zero => intro k m h; have : k = 0 := by omega
           have : m = 0 := by omega
           subst_vars; rfl
 | succ n ih =>
  intro k m h
  cases k with
  | zero =>
   have hm : m = n + 1:=by omega
   subst hm
   have:=ih 0 n (by omega)
   rw [binom_succ,binom_zero,binom_zero] at *
   simp only [Nat.zero_add,Nat.one_mul,Nat.mul_one] at this ⊢
   omega
  | succ j =>
   cases m with
   | zero=>rw [Nat.zero_mul,binom_gt (n + 1) (j + 1 + 1) (by omega),Nat.mul_zero]
   | succ m =>
    have h1:=ih j (m + 1) (by omega)
    have h2:=ih (j + 1) m (by omega)
    rw [binom_succ,binom_succ]
    have h3 : (j + 1 + 1) * (binom n (j + 1) + binom n (j + 1 + 1)) = (j + 1) * binom n (j + 1) + binom n (j + 1) + (j + 1 + 1) * binom n (j + 1 + 1):=by rw [Nat.mul_add,Nat.add_mul (j + 1) 1,Nat.one_mul]
    rw [h3,h2,h1,Nat.mul_add,Nat.add_mul m 1 (binom n (j + 1)),Nat.one_mul]
    omega
theorem binom_next {n k : Nat} (h : k ≤ n) : binom n k * (n - k) / (k + 1) = binom n (k + 1):=by
 have:=binom_step n k (n - k) (by omega)
 rw [Nat.mul_comm,← this]
 exact Nat.mul_div_cancel_left _ (by omega)
theorem binom_min {n k : Nat} (h : k ≤ n) : binom n (if n - k < k then n - k else k) = binom n k:=by
 split
 ·exact binom_symm n (n - k) k (by omega)
 ·rfl
theorem pow_chain {x n m k : Nat} (h : x ≤ 2 ^ n) (hn : n ≤ m) (hm : m < 32 * k) : x < 4294967296 ^ k:=by
 have e : (4294967296 : Nat) ^ k = 2 ^ (32 * k):=by rw [Nat.pow_mul]
 rw [e]
 exact Nat.lt_of_le_of_lt h (Nat.pow_lt_pow_right (by decide) (by omega))
theorem binom_len {n : Nat} (h : n ≤ 4096) (k : Nat) : (limbs (binom n k)).length ≤ 129 :=
 limbs_length_le (pow_chain (binom_le n k) h (by decide))
def cmpN (a b : Nat) : Int:=if a < b then -1 else if b < a then 1 else 0
theorem cmpN_lt {a b : Nat} (h : a < b) : cmpN a b = -1:=by rw [cmpN,if_pos h]
theorem cmpN_gt {a b : Nat} (h : b < a) : cmpN a b = 1:=by rw [cmpN,if_neg (by omega),if_pos h]
theorem cmpN_eq {a b : Nat} (h : a = b) : cmpN a b = 0:=by rw [cmpN,if_neg (by omega),if_neg (by omega)]
theorem val_take_drop (l : List Nat) (k : Nat) (hk : k ≤ l.length) : val l = val (l.take k) + 4294967296 ^ k * val (l.drop k):=by
 have h:=val_append (l.take k) (l.drop k)
 rw [List.take_append_drop,List.length_take,Nat.min_eq_left hk] at h
 exact h
theorem take_lt {l : List Nat} (h : ∀ x ∈ l,x < 4294967296) {k : Nat} (hk : k ≤ l.length) : val (l.take k) < 4294967296 ^ k:=by
 have:=val_lt (l:=l.take k) (fun x hx=>h x (List.mem_of_mem_take hx))
 rwa [List.length_take,Nat.min_eq_left hk] at this
theorem lt_of_len {x y : Nat} (h : (limbs x).length < (limbs y).length) : x < y:=by
 rcases Nat.lt_or_ge x y with h1 | h1
 ·exact h1
 ·have:=limbs_mono (x:=y) (W:=x) (Nat.le_refl _) h1
  omega
theorem lt_of_top {l m : List Nat} {k x y : Nat} (hl : ∀ z ∈ l,z < 4294967296) (hd : val (l.drop (k + 1)) = val (m.drop (k + 1))) (hx : l[k]? = some x) (hy : m[k]? = some y) (h : x < y) : val l < val m:=by
 have hkl : k < l.length:=(List.getElem?_eq_some_iff.1 hx).1
 have hkm : k < m.length:=(List.getElem?_eq_some_iff.1 hy).1
 rw [val_take_drop l k (by omega),val_take_drop m k (by omega),val_drop hx,val_drop hy,hd]
 have h1:=take_lt hl (Nat.le_of_lt hkl)
 generalize 4294967296 ^ k = P at *
 generalize val (m.drop (k + 1)) = V at *
 have e : P * (x + 4294967296 * V) + P = P * ((x + 1) + 4294967296 * V):=by rw [← Nat.mul_succ];congr 1;omega
 have h2 : P * ((x + 1) + 4294967296 * V) ≤ P * (y + 4294967296 * V):=Nat.mul_le_mul_left _ (by omega)
 omega
theorem drop_step {l m : List Nat} {k x : Nat} (hd : l.drop (k + 1) = m.drop (k + 1)) (hx : l[k]? = some x) (hy : m[k]? = some x) : l.drop k = m.drop k:=by
 obtain ⟨h1,rfl⟩:=List.getElem?_eq_some_iff.1 hx
 obtain ⟨h2,e⟩:=List.getElem?_eq_some_iff.1 hy
 rw [List.drop_eq_getElem_cons h1,List.drop_eq_getElem_cons h2,hd,e]
theorem get_some {α : Type} {l : List α} {i : Nat} {dflt : α} (h : i < l.length) : l[i]? = some (l.getD i dflt):=by
 rw [List.getD,List.getElem?_eq_getElem h];rfl
def blkN (n : Nat) : Int → Nat → List Int → Option Nat
 | _,m,[]=>some m
 | last,m,p::l=>if p ≤ last ∨ (n : Int) ≤ p then none else blkN n p (m ||| 1 * 2 ^ p.toNat) l
theorem blkN_bit {n : Nat} : ∀ {l : List Int} {last : Int} {m M : Nat},-1 ≤ last → blkN n last m l = some M → ∀ i : Nat,M.testBit i = (m.testBit i || decide ((i : Int) ∈ l))
 | [],last,m,M,_,h,i=>by
  rw [blkN,Option.some.injEq] at h;subst h;simp
 | p::l,last,m,M,h0,h,i=>by
  rw [blkN] at h
  by_cases hc : p ≤ last ∨ (n : Int) ≤ p
  ·rw [if_pos hc] at h;cases h
  ·rw [if_neg hc] at h
   have hp : 0 ≤ p:=by omega
   rw [blkN_bit (by omega) h i,Nat.one_mul,Nat.testBit_or,Nat.testBit_two_pow,Bool.or_assoc]
   congr 1
   by_cases e : p.toNat = i
   ·have e2 : (i : Int) = p:=by omega
    simp [e,e2]
   ·have e2 : (i : Int) ≠ p:=by omega
    simp [e,e2]
theorem sub_bit {m s : Nat} : m &&& s = s ↔ ∀ i,s.testBit i = true → m.testBit i = true:=by
 constructor
 ·intro h i hi
  have:=congrArg (fun x=>x.testBit i) h
  simp only [Nat.testBit_and,hi,Bool.and_true] at this
  exact this
 ·intro h
  refine Nat.eq_of_testBit_eq fun i=>?_
  rw [Nat.testBit_and]
  cases hs : s.testBit i with
  | false=>simp
  | true=>rw [h i hs];rfl
def blksN (n : Nat) : List (List Int) → Option (List Nat)
 | []=>some []
 | l::L=>match blkN n (-1) 0 l,blksN n L with
  | some m,some ms=>some (m::ms)
  | _,_=>none
theorem blksN_snoc {n : Nat} {l : List Int} {m : Nat} (hm : blkN n (-1) 0 l = some m) : ∀ {L : List (List Int)} {ms : List Nat},blksN n L = some ms → blksN n (L++[l]) = some (ms++[m])
 | [],ms,h=>by
  rw [blksN,Option.some.injEq] at h;subst h
  simp [blksN,hm]
 | x::L,ms,h=>by
  rw [blksN] at h
  cases h1 : blkN n (-1) 0 x with
  | none=>rw [h1] at h;cases h
  | some a =>
   cases h2 : blksN n L with
   | none=>rw [h1,h2] at h;cases h
   | some bs =>
    rw [h1,h2] at h
    have e : a::bs = ms:=by simpa using h
    subst e
    rw [List.cons_append,blksN,h1,blksN_snoc hm h2];rfl
theorem blksN_none {n : Nat} {l : List Int} (hm : blkN n (-1) 0 l = none) : ∀ {L : List (List Int)},l ∈ L → blksN n L = none
 | x::L,h=>by
  rw [blksN]
  rcases List.mem_cons.1 h with rfl | h
  ·rw [hm]
  ·rw [blksN_none hm h]
   cases blkN n (-1) 0 x <;> rfl
theorem blksN_len {n : Nat} : ∀ {L : List (List Int)} {ms : List Nat},blksN n L = some ms → ms.length = L.length
 | [],ms,h=>by rw [blksN,Option.some.injEq] at h;subst h;rfl
 | l::L,ms,h=>by
  rw [blksN] at h
  cases h1 : blkN n (-1) 0 l with
  | none=>rw [h1] at h;cases h
  | some a =>
   cases h2 : blksN n L with
   | none=>rw [h1,h2] at h;cases h
   | some bs =>
    rw [h1,h2] at h
    have e : a::bs = ms:=by simpa using h
    subst e
    rw [List.length_cons,List.length_cons,blksN_len h2]
open Go Go.Fw
theorem S_nat_short {pa : Option Addr} {n ca : Nat} {l : List Nat} : Ctr Try.prog 52 [.slice pa n ca] [] [slF U32 pa n ca l]
  (fun v Φ β=>v = .slice pa (trim l).length (trim l).length ∧ Φ = [slF U32 pa (trim l).length (trim l).length (trim l)] ∧ β = []):=by
 refine Ctr_of_j' (F:=F_nat_short) rfl fun C=>?_
 refine j_len 0 rfl fun hn hb hc=>?_
 subst hn
 have hb' : l.length * 4 ≤ 140737488355328:=hb
 refine j_nf [_,_] rfl (j_run it 1 rfl (by simp) ?_)
 refine j_nf [_,_] rfl (j_run it 1 rfl (by simp) ?_)
 refine j_step rfl (x_len sl48 rfl ?_)
 refine j_run it 1 rfl (by simp) ?_
 refine j_nf [_,_,_] rfl ?_
 refine j_loopN (X:=Nat) (fun k=>[(0,.slice pa l.length ca),(3,.int .i64 k)]) (fun _=>[]) (fun _=>[slF U32 pa l.length ca l]) (fun k=>k ≤ l.length ∧ trim (l.take k) = trim l) (fun k=>k) l.length [0] rfl ⟨Nat.le_refl _,by rw [List.take_length]⟩ (by repeat (first | exact Fr.sub_nil _ | refine Fr.sub_cons rfl ?_)) rfl rfl ?_
 intro k ⟨hk,ht⟩ ih
 -- the end,once
 have done : trim (l.take k) = l.take k → J F_nat_short C [.c [1,1,1]] [(0,.slice pa l.length ca),(3,.int .i64 k)] [] [slF U32 pa l.length ca l]
   (Gives C fun v Φ β=>v = .slice pa (trim l).length (trim l).length ∧ Φ = [slF U32 pa (trim l).length (trim l).length (trim l)] ∧ β = []):=by
  intro he
  have e : trim l = l.take k:=by rw [← ht,he]
  have e2 : (trim l).length = k:=by rw [e,List.length_take];omega
  refine j_nf [_,_] rfl (j_run it 3 rfl (by simp) ?_)
  refine j_step rfl (x_slice_hm 0 (k) (k) rfl rfl rfl rfl sl48 (by omega) (by omega) (by omega) (by omega) (by omega) ?_)
  refine j_run it 1 rfl (by simp) ?_
  refine j_nf [_] rfl ?_
  refine j_gives [0] rfl rfl rfl ⟨?_,?_,rfl⟩
  ·rw [e2];rfl
  ·rw [e2,e]
 refine j_nf [_,_,_,_,_,_] rfl (j_run it 3 rfl (by simp) ?_)
 refine j_split_dec (t:=8) rfl (fun h1=>?_) (fun h1=>?_)
 ·refine j_run it 3 rfl ⟨⟨by omega,by omega⟩,trivial,trivial,trivial⟩ ?_
  refine j_gstep rfl rfl (x_idx 0 ((k) - 1) rfl rfl rfl sl48 (by omega) (by omega) fun z1 hz1 b1 o1=>?_)
  refine j_gstep rfl rfl (x_ld_nat 0 rfl rfl ld78 fun ⟨r1,r2⟩=>?_)
  refine j_run it 2 rfl (by simp) ?_
  refine j_nf [_,_,_,_,_] rfl (j_if rfl rfl (fun h2=>?_) (fun h2=>?_))
  ·have hz : z1 = 0:=by omega
   subst hz
   refine j_nf [_,_,_,_,_] rfl (j_run it 3 rfl ⟨trivial,⟨by omega,by omega⟩,trivial,trivial⟩ ?_)
   refine j_nfn 2 [.lp [1,1,0,0,0],.blk 0,.c [1,1,1]] rfl ?_
   refine j_to [1] (by exact fcc rfl (fii rfl (by omega) (fzz _))) rfl rfl (ih (k - 1) (by omega) ⟨by omega,by rw [← trim_take_zero hz1];rw [show k - 1 + 1 = k by omega];exact ht⟩)
  ·refine j_nfn 1 [.c [1,1,1]] rfl ?_
   refine j_to [1] (by exact fra rfl) rfl rfl (done (by have:=trim_take_ne hz1 (by omega);rwa [show k - 1 + 1 = k by omega] at this))
 ·refine j_run it 7 rfl (by simp) ?_
  refine j_nf [_,_,_,_,_] rfl ?_
  refine j_false rfl rfl ?_
  refine j_nfn 1 [.c [1,1,1]] rfl ?_
  refine j_to [0] (by exact fra rfl) rfl rfl (done (by rw [show k = 0 by omega];rfl))
set_option maxHeartbeats 8000000
def kM (ms : List Nat) (s : Nat) : Nat:=(ms.filter fun m=>decide (m &&& s = s)).length
theorem kM_snoc (ms : List Nat) (m s : Nat) : kM (ms++[m]) s = kM ms s + if m &&& s = s then 1 else 0:=by
 rw [kM,List.filter_append,List.length_append,← kM]
 congr 1
 by_cases h : m &&& s = s
 ·rw [if_pos h,List.filter_cons,if_pos (decide_eq_true h)];rfl
 ·rw [if_neg h,List.filter_cons,if_neg (by simp [h])];rfl
theorem kM_le (ms : List Nat) (s : Nat) : kM ms s ≤ ms.length:=List.length_filter_le _ _
theorem S_macwilliams_Design_1 {b1 b2 b3 n cap s : Nat} {pm : Option Addr} {ms : List Nat} {c : Int} {e : Bool} (hs : s < 18446744073709551616) (hn : ms.length ≤ 1000000) (hc : -1 ≤ c) (hc2 : c ≤ 1000000) :
  Ctr Try.prog 26 [.int .u64 s,.pointer (some ⟨b1,0,none⟩),.pointer (some ⟨b2,0,none⟩),.pointer (some ⟨b3,0,none⟩)]
   [(some b1,52,[.slice pm n cap]),(some b2,3,[.int .i64 c]),(some b3,4,[.bool e])] [slF (encNat .u64 8) pm n cap ms]
   (fun v Φ β=>v = .bool (decide (c < 0 ∨ (kM ms s : Int) = c)) ∧ Φ = [] ∧ β = [(some b1,52,[.slice pm n cap]),(some b2,3,[.int .i64 (kM ms s)]),(some b3,4,[.bool (decide (c < 0 ∨ (kM ms s : Int) = c))])]):=by
 refine Ctr_of_j' (F:=F_macwilliams_Design_1) rfl fun C=>?_
 refine j_len 0 rfl fun e1 hb1 _=>?_
 have hb1' : ms.length * 8 ≤ 140737488355328:=hb1
 subst e1
 refine j_nf [_,_] rfl (j_run it 1 rfl (by simp) ?_)
 refine j_nf [_,_] rfl (j_run it 1 rfl (by simp) ?_)
 refine j_nf [_,_,_] rfl (j_step rfl (x_bld 0 rfl rfl ld52 rfl ?_))
 refine j_step rfl (x_len sl52 rfl ?_)
 refine j_run it 1 rfl (by simp) ?_
 refine j_nf [_,_,_] rfl ?_
 refine j_loopG (X:=Nat) [0,2,3,5,9,10] [0] (fun i=>[(11,.int .i64 (i : Int)),(6,.int .i64 (kM (ms.take i) s : Int))]) (fun _=>[(some b1,52,[.slice pm ms.length cap]),(some b2,3,[.int .i64 c]),(some b3,4,[.bool e])]) (fun _=>[]) (fun i=>i ≤ ms.length) (fun i=>ms.length - i) 0 [] rfl rfl rfl (Nat.zero_le _) (by repeat (first | exact Fr.sub_nil _ | refine Fr.sub_cons rfl ?_)) rfl rfl ?_
 rintro i hi ih
 simp only [List.cons_append,List.nil_append] at hi ih ⊢
 by_cases hil : i < ms.length
 ·have ih':=ih (i + 1) (by omega) (by omega)
  have hz : ms[i]? = some (ms.getD i default):=by rw [List.getD_eq_getElem?_getD,List.getElem?_eq_getElem hil];rfl
  have hk:=kM_le (ms.take i) s
  rw [List.length_take] at hk
  rw [show ms.take (i + 1) = ms.take i++[ms.getD i default] by rw [List.take_succ_eq_append_getElem hil,List.getD_eq_getElem?_getD,List.getElem?_eq_getElem hil];rfl,kM_snoc] at ih'
  refine j_nf [_,_,_,_,_] rfl (j_run it 1 rfl (by simp) ?_)
  refine j_nf [_,_,_,_,_] rfl (j_if rfl rfl (fun h1=>?_) (fun h1=>by exfalso;omega))
  refine j_nf [_,_,_,_,_,_,_] rfl (j_step rfl (x_idx 0 (i) rfl rfl rfl sl52 rfl (by omega) fun z1 hz1 b4 o1=>?_))
  refine j_step rfl (x_ld_nat 0 rfl rfl ld51 fun ⟨r1,r2⟩=>?_)
  refine j_run it 1 rfl (by simp) ?_
  refine j_nf [_,_,_,_,_,_,_] rfl (j_run it 2 rfl (by simp) ?_)
  refine j_step rfl (x_and_nat (z1) (s) rfl rfl (by first | rfl | omega) (by first | rfl | omega) (by omega) (by omega) ?_)
  refine j_run it 2 rfl (by simp) ?_
  refine j_nf [_,_,_,_,_,_] rfl (j_if rfl rfl (fun h2=>?_) (fun h2=>?_))
  ·obtain rfl : z1 = ms.getD i default:=Option.some.inj (hz1.symm.trans hz)
   rw [if_pos (by omega)] at ih'
   refine j_nf [_,_,_,_,_,_] rfl (j_run it 3 rfl ⟨trivial,⟨by omega,by omega⟩,trivial,trivial⟩ ?_)
   refine j_nf [_,_,_,_] rfl (j_run it 2 rfl ⟨trivial,⟨by omega,by omega⟩,trivial⟩ ?_)
   refine j_nfn 1 [.lp (pL 116),.blk 0,.c [1,1,1]] rfl ?_
   refine j_to [1] (by exact fra rfl) rfl rfl (ih')
  ·obtain rfl : z1 = ms.getD i default:=Option.some.inj (hz1.symm.trans hz)
   rw [if_neg (by omega),Nat.add_zero] at ih'
   refine j_nf [_,_,_,_] rfl (j_run it 2 rfl ⟨trivial,⟨by omega,by omega⟩,trivial⟩ ?_)
   refine j_nfn 1 [.lp (pL 116),.blk 0,.c [1,1,1]] rfl ?_
   refine j_to [1] (by exact fra rfl) rfl rfl (ih')
 ·obtain rfl : i = ms.length:=by omega
  rw [List.take_length]
  have hk:=kM_le ms s
  by_cases h0 : c < 0
  ·rw [decide_eq_true (show c < 0 ∨ (kM ms s : Int) = c from .inl h0)]
   refine j_nf [_,_,_,_,_] rfl (j_run it 1 rfl (by simp) ?_)
   refine j_nf [_,_,_,_,_] rfl (j_if rfl rfl (fun h1=>by exfalso;omega) (fun h1=>?_))
   refine j_nf [_,_] rfl (j_step rfl (x_bld 1 rfl rfl ld3 rfl ?_))
   refine j_run it 2 rfl (by simp) ?_
   refine j_split_dec (t:=25) rfl (fun h2=>?_) (fun h2=>by exfalso;omega)
   refine j_run it 4 rfl (by simp) ?_
   refine j_step rfl (x_bst1 2 rfl rfl rfl rfl ld4 rfl (Nat.le_of_ble_eq_true rfl) ?_)
   refine j_nf [_,_] rfl (j_run it 1 rfl (by simp) ?_)
   refine j_step rfl (x_bst1 1 rfl rfl rfl rfl ld3 rfl (Nat.le_of_ble_eq_true rfl) ?_)
   refine j_nf [_,_] rfl (j_step rfl (x_bld 2 rfl rfl ld4 rfl ?_))
   refine j_run it 1 rfl (by simp) ?_
   refine j_nf [_] rfl ?_
   refine j_givK 3 [0,1,2] [] rfl (.tmp rfl .nil) rfl rfl rfl ⟨rfl,rfl,rfl⟩
  ·by_cases h1 : (kM ms s : Int) = c
   ·rw [decide_eq_true (show c < 0 ∨ (kM ms s : Int) = c from .inr h1)]
    refine j_nf [_,_,_,_,_] rfl (j_run it 1 rfl (by simp) ?_)
    refine j_nf [_,_,_,_,_] rfl (j_if rfl rfl (fun h2=>by exfalso;omega) (fun h2=>?_))
    refine j_nf [_,_] rfl (j_step rfl (x_bld 1 rfl rfl ld3 rfl ?_))
    refine j_run it 2 rfl (by simp) ?_
    refine j_split_dec (t:=25) rfl (fun h3=>by exfalso;omega) (fun h3=>?_)
    refine j_run it 1 rfl (by simp) ?_
    refine j_gstep rfl rfl (x_bld 1 rfl rfl ld3 rfl ?_)
    refine j_run it 2 rfl (by simp) ?_
    refine j_step rfl (x_bst1 2 rfl rfl rfl rfl ld4 rfl (Nat.le_of_ble_eq_true rfl) ?_)
    refine j_nf [_,_] rfl (j_run it 1 rfl (by simp) ?_)
    refine j_step rfl (x_bst1 1 rfl rfl rfl rfl ld3 rfl (Nat.le_of_ble_eq_true rfl) ?_)
    refine j_nf [_,_] rfl (j_step rfl (x_bld 2 rfl rfl ld4 rfl ?_))
    refine j_run it 1 rfl (by simp) ?_
    refine j_nf [_] rfl ?_
    rw [decide_eq_true h1]
    refine j_givK 3 [0,1,2] [] rfl (.tmp rfl .nil) rfl rfl rfl ⟨rfl,rfl,rfl⟩
   ·rw [decide_eq_false (show ¬ (c < 0 ∨ (kM ms s : Int) = c) from fun h=>h.elim h0 h1)]
    refine j_nf [_,_,_,_,_] rfl (j_run it 1 rfl (by simp) ?_)
    refine j_nf [_,_,_,_,_] rfl (j_if rfl rfl (fun h2=>by exfalso;omega) (fun h2=>?_))
    refine j_nf [_,_] rfl (j_step rfl (x_bld 1 rfl rfl ld3 rfl ?_))
    refine j_run it 2 rfl (by simp) ?_
    refine j_split_dec (t:=25) rfl (fun h3=>by exfalso;omega) (fun h3=>?_)
    refine j_run it 1 rfl (by simp) ?_
    refine j_gstep rfl rfl (x_bld 1 rfl rfl ld3 rfl ?_)
    refine j_run it 2 rfl (by simp) ?_
    refine j_step rfl (x_bst1 2 rfl rfl rfl rfl ld4 rfl (Nat.le_of_ble_eq_true rfl) ?_)
    refine j_nf [_,_] rfl (j_run it 1 rfl (by simp) ?_)
    refine j_step rfl (x_bst1 1 rfl rfl rfl rfl ld3 rfl (Nat.le_of_ble_eq_true rfl) ?_)
    refine j_nf [_,_] rfl (j_step rfl (x_bld 2 rfl rfl ld4 rfl ?_))
    refine j_run it 1 rfl (by simp) ?_
    refine j_nf [_] rfl ?_
    rw [decide_eq_false h1]
    refine j_givK 3 [0,1,2] [] rfl (.tmp rfl .nil) rfl rfl rfl ⟨rfl,rfl,rfl⟩
end Go.Proofs.Ytmhcfhddmkhaiaa
namespace Go.Fw
set_option linter.unusedVariables false
variable {P : Program} {C : Cx} {σ : Fr} {ty : TypeId} {β : List Blk} {Γ : List Fact}
theorem evs_const (σ : Fr) : ∀ l : List Value,evs σ (l.map Operand.const) = some l
 | []=>rfl
 | v::l=>by
  have h:=evs_const σ l
  simp [evs,ev,h]
theorem x_fv {K : Value → List Blk → List Fact → Prop} {f : FuncId} {x : Operand} {xs : List Operand} {ts : Array TypeId} {args caps : List Value} (hv : ev σ x = some (.func (.func f) #[] caps.toArray)) (hx : evs σ xs = some args)
  (h : Jop P C (.call { callee:=.value (.func f),args:=((args++caps).map Operand.const).toArray,argTypes:=ts }) ty σ β Γ K) : Jop P C (.call { callee:=.value x,args:=xs.toArray,argTypes:=ts }) ty σ β Γ K:=by
 intro w hO hG ρ hρ
 have h1:=h w hO hG ρ hρ
 have hc : ρ (.func f) = .func (.func f) #[] #[]:=hρ _ _ rfl
 have hv' : ρ x = .func (.func f) #[] caps.toArray:=hρ _ _ hv
 have ha : xs.toArray.map ρ = args.toArray:=by rw [List.map_toArray,evs_eq hρ hx]
 have hb : ((args++caps).map Operand.const).toArray.map ρ = (args++caps).toArray:=by rw [List.map_toArray,evs_eq hρ (evs_const σ _)]
 simp only [execOp,bare,resolve,hb,hc,Deferred.ofValue,Sem.run_bind,Sem.run_pure,Result.andThen_ok,invoke,Array.append_empty,Array.empty_append] at h1
 simp only [execOp,bare,resolve,ha,hv',Deferred.ofValue,Sem.run_bind,Sem.run_pure,Result.andThen_ok,invoke,Array.append_empty,Array.empty_append]
 rw [List.append_toArray]
 exact h1
end Go.Fw
namespace Go.Proofs.Ytmhcfhddmkhaiaa
open Go Go.Fw
set_option maxRecDepth 100000
set_option linter.unusedVariables false
set_option linter.unusedSimpArgs false
set_option maxHeartbeats 8000000
def visL (ms : List Nat) : List Nat → Int → Bool → Int × Bool × Bool
 | [],c,e=>(c,e,true)
 | s::l,c,_=>if c < 0 ∨ (kM ms s : Int) = c then visL ms l (kM ms s) true else (kM ms s,false,false)
theorem visL_app (ms : List Nat) : ∀ (l k : List Nat) (c : Int) (e : Bool),visL ms (l++k) c e = if (visL ms l c e).2.2 = true then visL ms k (visL ms l c e).1 (visL ms l c e).2.1 else visL ms l c e
 | [],k,c,e=>rfl
 | s::l,k,c,e=>by
  rw [List.cons_append,visL,visL]
  by_cases h : c < 0 ∨ (kM ms s : Int) = c
  ·rw [if_pos h,if_pos h];exact visL_app ms l k _ _
  ·rw [if_neg h,if_neg h];rfl
theorem visL_rng (ms : List Nat) : ∀ (l : List Nat) (c : Int) (e : Bool),-1 ≤ c → c ≤ 1000000 → ms.length ≤ 1000000 → -1 ≤ (visL ms l c e).1 ∧ (visL ms l c e).1 ≤ 1000000
 | [],c,e,h,h2,_=>⟨h,h2⟩
 | s::l,c,e,h,h2,h3=>by
  have hk:=kM_le ms s
  rw [visL]
  by_cases h : c < 0 ∨ (kM ms s : Int) = c
  ·rw [if_pos h];exact visL_rng ms l _ _ (by omega) (by omega) h3
  ·rw [if_neg h];exact ⟨by show (-1 : Int) ≤ kM ms s;omega,by show (kM ms s : Int) ≤ 1000000;omega⟩
def subsL (n : Nat) : Nat → Nat → Nat → List Nat
 | 0,_,s=>[s]
 | t + 1,low,s=>(List.range' low (n - t - low)).flatMap fun p=>subsL n t (p + 1) (s ||| 1 * 2 ^ p)
abbrev visB (b1 b2 b3 : Nat) (pm : Option Addr) (n cap : Nat) (c : Int) (e : Bool) : List Blk:=[(some b1,52,[.slice pm n cap]),(some b2,3,[.int .i64 c]),(some b3,4,[.bool e])]
theorem S_macwilliams_subsets {b1 b2 b3 nm cap n : Nat} {pm : Option Addr} {ms : List Nat} (hn : n ≤ 64) (hm : ms.length ≤ 1000000) : ∀ {t low s : Nat} {c : Int} {e : Bool},t ≤ n → low ≤ n → s < 18446744073709551616 → -1 ≤ c → c ≤ 1000000 →
  Ctr Try.prog 25 [.int .i64 n,.int .i64 t,.int .i64 low,.int .u64 s,.func (.func 26) #[] #[.pointer (some ⟨b1,0,none⟩),.pointer (some ⟨b2,0,none⟩),.pointer (some ⟨b3,0,none⟩)]]
   (visB b1 b2 b3 pm nm cap c e) [slF (encNat .u64 8) pm nm cap ms]
   (fun v Φ β=>v = .bool (visL ms (subsL n t low s) c e).2.2 ∧ Φ = [] ∧ β = visB b1 b2 b3 pm nm cap (visL ms (subsL n t low s) c e).1 (visL ms (subsL n t low s) c e).2.1):=by
 intro t
 induction t with
 | zero =>
  intro low s c e ht hl hs hc hc2
  refine Ctr_of_j' (F:=F_macwilliams_subsets) rfl fun C=>?_
  have hk:=kM_le ms s
  unfold visB
  have e0 : visL ms (subsL n 0 low s) c e = ((kM ms s : Int),decide (c < 0 ∨ (kM ms s : Int) = c),decide (c < 0 ∨ (kM ms s : Int) = c)):=by
   rw [subsL,visL]
   by_cases h : c < 0 ∨ (kM ms s : Int) = c
   ·rw [if_pos h,decide_eq_true h];rfl
   ·rw [if_neg h,decide_eq_false h]
  rw [e0]
  refine j_nf [_,_] rfl (j_run it 1 rfl (by simp) ?_)
  refine j_nf [_,_,_] rfl (j_run it 2 rfl (by simp) ?_)
  refine j_nf [_,_] rfl (j_if rfl rfl (fun h1=>?_) (fun h1=>by exfalso;omega))
  refine j_nf [_,_,_] rfl (j_run it 2 rfl (by simp) ?_)
  refine j_step rfl <| x_fv rfl rfl (x_callN 3 [0] rfl rfl (S_macwilliams_Design_1 (by omega) (by omega) (by omega) (by omega)) rfl ?_)
  rintro _ _ _ ⟨rfl,rfl,rfl⟩
  simp only [List.cons_append,List.nil_append]
  refine j_run it 1 rfl (by simp) ?_
  refine j_nf [_,_] rfl ?_
  refine j_givK 3 [0,1,2] [] rfl (.tmp rfl .nil) rfl rfl rfl ⟨rfl,rfl,rfl⟩
 | succ t ih =>
  intro low s c e ht hl hs hc hc2
  refine Ctr_of_j' (F:=F_macwilliams_subsets) rfl fun C=>?_
  unfold visB
  rw [show subsL n (t + 1) low s = (List.range' low (n - t - low)).flatMap fun p=>subsL n t (p + 1) (s ||| 1 * 2 ^ p) from rfl]
  generalize hR : visL ms ((List.range' low (n - t - low)).flatMap fun p=>subsL n t (p + 1) (s ||| 1 * 2 ^ p)) c e = R
  refine j_nf [_,_] rfl (j_run it 1 rfl (by simp) ?_)
  refine j_nf [_,_,_] rfl (j_run it 2 rfl (by simp) ?_)
  refine j_nf [_,_] rfl (j_if rfl rfl (fun h1=>by exfalso;omega) (fun h1=>?_))
  refine j_nf [_,_,_] rfl (j_run it 2 rfl (by simp) ?_)
  refine j_nf [_,_,_] rfl ?_
  refine j_loopG (X:=Nat × Int × Bool) [0,1,3,4] [0] (fun x=>[(11,.int .i64 (x.1 : Int))]) (fun x=>[(some b1,52,[.slice pm nm cap]),(some b2,3,[.int .i64 x.2.1]),(some b3,4,[.bool x.2.2])]) (fun _=>[])
   (fun x=>x.1 ≤ n ∧ -1 ≤ x.2.1 ∧ x.2.1 ≤ 1000000 ∧ visL ms ((List.range' x.1 (n - t - x.1)).flatMap fun p=>subsL n t (p + 1) (s ||| 1 * 2 ^ p)) x.2.1 x.2.2 = R) (fun x=>n - x.1) (low,c,e) [] rfl rfl rfl ⟨hl,hc,hc2,hR⟩ (by repeat (first | exact Fr.sub_nil _ | refine Fr.sub_cons rfl ?_)) rfl rfl ?_
  rintro ⟨p,c0,e0⟩ ⟨hp,h1,h2,hv⟩ ihl
  simp only [List.cons_append,List.nil_append] at hp h1 h2 hv ihl ⊢
  by_cases hpl : p < n - t
  ·rw [show n - t - p = (n - t - (p + 1)) + 1 by omega,List.range'_succ,List.flatMap_cons,visL_app] at hv
   have h2p : 2 ^ p < 18446744073709551616:=Nat.pow_lt_pow_right (n:=64) (by decide) (by omega)
   have hb : s ||| 1 * 2 ^ p < 18446744073709551616:=Nat.or_lt_two_pow (n:=64) hs (by rw [Nat.one_mul];exact h2p)
   have hir : InR .u64 ((1 * 2 ^ p : Nat) : Int):=by
    rw [Nat.one_mul]
    generalize 2 ^ p = z at *
    simp only [InR];omega
   have hg:=visL_rng ms (subsL n t (p + 1) (s ||| 1 * 2 ^ p)) c0 e0 h1 h2 hm
   have c_macwilliams_subsets:=ih (low:=p + 1) (s:=s ||| 1 * 2 ^ p) (c:=c0) (e:=e0) (by omega) (by omega) hb h1 h2
   unfold visB at c_macwilliams_subsets
   refine j_nf [_,_,_,_,_,_] rfl (j_run it 5 rfl ⟨trivial,⟨by omega,by omega⟩,trivial,trivial,trivial,trivial⟩ ?_)
   refine j_nf [_,_,_,_,_] rfl (j_if rfl rfl (fun h3=>?_) (fun h3=>by exfalso;omega))
   refine j_nf [_,_,_,_,_,_,_] rfl (j_run it 7 rfl ⟨trivial,trivial,⟨by omega,by omega⟩,trivial,⟨by omega,by omega⟩,trivial,trivial,trivial⟩ ?_)
   refine j_step rfl (x_shl_nat 1 (p) rfl rfl (by first | rfl | omega) (by first | rfl | omega) (by first | decide | (simp only [IntKind.bits];omega)) (by first | assumption | (simp only [InR];omega)) ?_)
   refine j_step rfl (x_or_nat (s) (1 * 2 ^ p) rfl rfl (by first | rfl | omega) (by first | rfl | omega) (by omega) (by omega) ?_)
   refine j_run it 1 rfl (by simp) ?_
   rw [show ((t + 1 : Nat) : Int) - 1 = (t : Int) by omega,show (p : Int) + 1 = ((p + 1 : Nat) : Int) by omega]
   generalize visL ms (subsL n t (p + 1) (s ||| 1 * 2 ^ p)) c0 e0 = v at *
   obtain ⟨c1,e1,r1⟩:=v
   cases r1 with
   | false =>
    rw [if_neg (by simp)] at hv
    subst hv
    refine j_step rfl (x_callN 3 [0] rfl rfl (c_macwilliams_subsets) rfl ?_)
    rintro _ _ _ ⟨rfl,rfl,rfl⟩
    simp only [List.cons_append,List.nil_append]
    refine j_run it 1 rfl (by simp) ?_
    refine j_nf [_,_,_,_,_,_] rfl ?_
    refine j_true rfl rfl ?_
    refine j_nf [_,_,_,_,_,_,_] rfl (j_run it 1 rfl (by simp) ?_)
    refine j_nf [_,_,_,_,_,_] rfl ?_
    refine j_givK 3 [0,1,2] [] rfl (.tmp rfl .nil) rfl rfl rfl ⟨rfl,rfl,rfl⟩
   | true =>
    rw [if_pos rfl] at hv
    refine j_step rfl (x_callN 3 [0] rfl rfl (c_macwilliams_subsets) rfl ?_)
    rintro _ _ _ ⟨rfl,rfl,rfl⟩
    simp only [List.cons_append,List.nil_append]
    refine j_run it 1 rfl (by simp) ?_
    refine j_nf [_,_,_,_,_,_] rfl ?_
    refine j_false rfl rfl ?_
    refine j_nf [_,_,_,_] rfl (j_run it 3 rfl ⟨trivial,⟨by omega,by omega⟩,trivial,trivial⟩ ?_)
    refine j_nfn 1 [.lp (pL 116),.blk 0,.c [1,1,1]] rfl ?_
    refine j_to [0] (by exact fra rfl) rfl rfl (ihl (p + 1,c1,e1) (by dsimp only;omega) ⟨by dsimp only;omega,hg.1,hg.2,hv⟩)
  ·rw [show n - t - p = 0 by omega,List.range'_zero,List.flatMap_nil,visL] at hv
   subst hv
   refine j_nf [_,_,_,_,_,_] rfl (j_run it 5 rfl ⟨trivial,⟨by omega,by omega⟩,trivial,trivial,trivial,trivial⟩ ?_)
   refine j_nf [_,_,_,_,_] rfl (j_if rfl rfl (fun h3=>by exfalso;omega) (fun h3=>?_))
   refine j_nf [_,_] rfl (j_run it 1 rfl (by simp) ?_)
   refine j_nf [_] rfl ?_
   refine j_givK 3 [0,1,2] [] rfl (.tmp rfl .nil) rfl rfl rfl ⟨rfl,rfl,rfl⟩
def setsL (n : Nat) : Nat → Nat → List (List Int)
 | 0,_=>[[]]
 | t + 1,first=>(List.range' first (n - t - first)).flatMap fun i=>(setsL n t (i + 1)).map fun r=>(i : Int)::r
def mskF (s : Nat) (l : List Int) : Nat:=l.foldl (fun m p=>m ||| 1 * 2 ^ p.toNat) s
theorem subs_sets (n : Nat) : ∀ t low s,subsL n t low s = (setsL n t low).map (mskF s)
 | 0,low,s=>rfl
 | t + 1,low,s=>by
  rw [subsL,setsL,List.map_flatMap]
  congr 1
  funext i
  rw [subs_sets n t (i + 1),List.map_map]
  rfl
theorem mskF_bit : ∀ {l : List Int} {s : Nat},(∀ p ∈ l,0 ≤ p) → ∀ i : Nat,(mskF s l).testBit i = (s.testBit i || decide ((i : Int) ∈ l))
 | [],s,_,i=>by simp [mskF]
 | p::l,s,h,i=>by
  have hp:=h p (.head _)
  show (mskF (s ||| 1 * 2 ^ p.toNat) l).testBit i = _
  rw [mskF_bit (fun x hx=>h x (.tail _ hx)) i,Nat.one_mul,Nat.testBit_or,Nat.testBit_two_pow,Bool.or_assoc]
  congr 1
  by_cases e : p.toNat = i
  ·have e2 : (i : Int) = p:=by omega
   simp [e,e2]
  ·have e2 : (i : Int) ≠ p:=by omega
   simp [e,e2]
theorem S_nat_Trim {pa : Option Addr} {n ca : Nat} {l : List Nat} : Ctr Try.prog 51 [.slice pa n ca] [] [slF U32 pa n ca l] (Sv U32 (trim l)):=by
 refine Ctr_of_j' (F:=F_nat_Trim) rfl fun C=>?_
 refine j_len 0 rfl fun hn hb hc=>?_
 subst hn
 have hb' : l.length * 4 ≤ 140737488355328:=hb
 have:=trim_length_le l
 refine j_nf [_,_] rfl (j_run it 1 rfl (by simp) ?_)
 refine j_nf [_,_] rfl (j_run it 1 rfl (by simp) ?_)
 refine j_step rfl (x_call [0] rfl (S_nat_short) rfl ?_)
 rintro _ _ _ ⟨rfl,rfl,rfl⟩
 simp only [List.cons_append,List.nil_append]
 refine j_nil el48 ?_
 refine j_step rfl (x_app_sl 0 0 rfl rfl rfl rfl sl48 zo48e rfl (by first | exact GrOk.nil _ | assumption | exact .inr ⟨_,rfl,Nat.le_refl _,by omega,rfl⟩) (by omega) _ by48e (by omega) fun bo1 cap1 cs1 vss1 hg1 ht1=>?_)
 refine j_run it 1 rfl (by simp) ?_
 refine j_nf [_] rfl ?_
 simp only [Nat.zero_add] at hg1 ht1 ⊢
 refine j_pub 0 0 rfl rfl hg1 (by simpa using ht1) rfl (by show _ * 4 ≤ _;omega) ?_
 refine j_giv [0] rfl rfl rfl ⟨_,_,rfl,rfl,rfl⟩
theorem val_two (n : Nat) : val [n % 4294967296,n / 4294967296] = n:=by simp only [val];omega
theorem S_nat_Of {n : Nat} (hn : n < 18446744073709551616) : Ctr Try.prog 24 [.int .u64 n] [] [] (Sv U32 (limbs n)):=by
 refine Ctr_of_j' (F:=F_nat_Of) rfl fun C=>?_
 refine j_nf [_,_] rfl (j_run it 1 rfl (by simp) ?_)
 refine j_nf [_,_] rfl (j_run it 1 rfl (by simp) ?_)
 refine j_step rfl (x_conv_u32 it rfl rfl rfl ?_)
 refine j_run it 3 rfl ⟨⟨by omega,by omega⟩,trivial,trivial,trivial⟩ ?_
 refine j_step rfl (x_lit sl48 zo48e rfl rfl rfl rfl (by decide) (by decide) rfl fun b1=>?_)
 refine j_pub_made (n:=2) (kd:=.u32) 4 [n % 4294967296,n / 4294967296] 0 rfl rfl (by simp [InR];omega) (by decide) (by decide) ?_
 refine j_step rfl (x_call [0] rfl (S_nat_Trim) rfl ?_)
 rintro _ _ _ ⟨pa1,ca1,rfl,rfl,rfl⟩
 simp only [List.cons_append,List.nil_append]
 refine j_run it 1 rfl (by simp) ?_
 refine j_nf [_] rfl ?_
 rw [trim_eq (l:=[n % 4294967296,n / 4294967296]) (by simp;omega),val_two]
 refine j_giv [0] rfl rfl rfl ⟨_,_,rfl,rfl,rfl⟩
set_option maxHeartbeats 1000000
theorem drop_set_ge {l : List Nat} {k z m : Nat} (h : k < m) : (l.set k z).drop m = l.drop m:=by rw [List.drop_set_of_lt h]
theorem get_of_drop {l l' : List Nat} {k z : Nat} (h : l.drop k = l'.drop k) (hz : l[k]? = some z) : l'[k]? = some z:=by
 have:=congrArg (fun x=>x[0]?) h
 simpa [List.getElem?_drop,hz] using this.symm
theorem drop_more {l l' : List Nat} {k : Nat} (h : l.drop k = l'.drop k) : l.drop (k + 1) = l'.drop (k + 1):=by
 have:=congrArg (List.drop 1) h
 simpa [List.drop_drop,Nat.add_comm] using this
theorem mul_step {i j c x y z : Nat} {out v0 b : List Nat} (h : val (out.take (i + j)) + 4294967296 ^ (i + j) * c = val (v0.take (i + j)) + 4294967296 ^ i * (x * val (b.take j)))
  (hz : v0[i + j]? = some z) (hy : b[j]? = some y) (ho : i + j < out.length) :
  val ((out.set (i + j) ((x * y + z + c) % 4294967296)).take (i + (j + 1))) + 4294967296 ^ (i + (j + 1)) * ((x * y + z + c) / 4294967296) = val (v0.take (i + (j + 1))) + 4294967296 ^ i * (x * val (b.take (j + 1))):=by
 rw [show i + (j + 1) = (i + j) + 1 by omega,val_set_take ho,Nat.pow_succ,val_take_succ hz,val_take_succ hy,carry_step (x:=z) (y:=x * y) h (by omega),Nat.mul_add,Nat.mul_add,Nat.pow_add]
 simp only [Nat.mul_assoc,Nat.mul_left_comm]
theorem mul_row {i x : Nat} {a : List Nat} {c : Nat} {out : List Nat} {vb lb : Nat} (h : val (out.take (i + lb)) + 4294967296 ^ (i + lb) * c = val (a.take i) * vb + 4294967296 ^ i * (x * vb)) (hx : a[i]? = some x) (ho : i + lb < out.length) :
  val ((out.set (i + lb) c).take (i + 1 + lb)) = val (a.take (i + 1)) * vb:=by
 rw [show i + 1 + lb = i + lb + 1 by omega,val_set_take ho,h,val_take_succ hx,Nat.add_mul,Nat.mul_assoc]
theorem S_nat_times {pa pb : Option Addr} {n m ca cb : Nat} {a b : List Nat} (ha : a.length ≤ 1099511627776) (hb : b.length ≤ 1099511627776) :
  Ctr Try.prog 50 [.slice pa n ca,.slice pb m cb] [] [slF U32 pa n ca a,slF U32 pb m cb b] (Sv U32 (limbs (val a * val b))):=by
 refine Ctr_of_j' (F:=F_nat_times) rfl fun C=>?_
 refine j_len 0 rfl fun hn _ _=>?_
 refine j_len 1 rfl fun hm _ _=>?_
 subst hn;subst hm
 refine j_range 0 rfl fun hra=>?_
 refine j_range 1 rfl fun hrb=>?_
 simp only [InR] at hra hrb
 refine j_nf [_,_] rfl (j_run it 1 rfl (by simp) ?_)
 refine j_nf [_,_] rfl (j_run it 1 rfl (by simp) ?_)
 refine j_step rfl (x_len sl48 rfl ?_)
 refine j_run it 1 rfl (by simp) ?_
 refine j_step rfl (x_len sl48 rfl ?_)
 refine j_run it 1 rfl ⟨⟨by omega,by omega⟩,trivial⟩ ?_
 refine j_step rfl (x_make_nat ((a.length) + (b.length)) _ rfl rfl sl48 zo48e by48e (by omega) (by omega) (by omega) fun b1=>?_)
 refine j_run it 1 rfl (by simp) ?_
 refine j_nf [_,_,_] rfl (j_run it 1 rfl (by simp) ?_)
 refine j_step rfl (x_len sl48 rfl ?_)
 refine j_run it 1 rfl (by simp) ?_
 refine j_nf [_,_,_] rfl ?_
 refine j_loopN (X:=Nat × List Nat) (fun x=>[(0,.slice pa a.length ca),(1,.slice pb b.length cb),(5,.slice (some ⟨b1,0,none⟩) (a.length + b.length) (a.length + b.length)),(18,.slice pa a.length ca),(19,.int .i64 a.length),(20,.int .i64 x.1)])
  (fun x=>[(some b1,78,natCells .u32 x.2)]) (fun _=>[slF U32 pa a.length ca a,slF U32 pb b.length cb b])
  (fun x=>x.1 ≤ a.length ∧ x.2.length = a.length + b.length ∧ (∀ y ∈ x.2,y < 4294967296) ∧ val (x.2.take (x.1 + b.length)) = val (a.take x.1) * val b)
  (fun x=>a.length - x.1) (0,List.replicate (a.length + b.length) 0) [0,1] rfl ⟨Nat.zero_le _,by simp,rep_lt (by decide),by simp [val,val_replicate]⟩ (by repeat (first | exact Fr.sub_nil _ | refine Fr.sub_cons rfl ?_)) rfl rfl ?_
 rintro ⟨i,v0⟩ ⟨hi,hl,ho,hv⟩ ih
 simp only at hi hl ho hv ih ⊢
 by_cases hil : i < a.length
 ·refine j_nf [_,_,_,_,_] rfl (j_run it 1 rfl (by simp) ?_)
  refine j_nf [_,_,_,_,_] rfl (j_if rfl rfl (fun h1=>?_) (fun h1=>by exfalso;omega))
  refine j_nf [_,_,_,_,_,_,_] rfl (j_run it 1 rfl (by simp) ?_)
  refine j_step rfl (x_idx 0 (i) rfl rfl rfl sl48 rfl (by omega) fun z1 hz1 b2 o1=>?_)
  refine j_step rfl (x_ld_nat 0 rfl rfl ld78 fun ⟨r1,r2⟩=>?_)
  refine j_run it 2 rfl (by simp) ?_
  refine j_nf [_,_,_,_,_,_,_] rfl (j_run it 1 rfl (by simp) ?_)
  refine j_nf [_,_,_,_,_,_,_,_] rfl (j_run it 1 rfl (by simp) ?_)
  refine j_step rfl (x_len sl48 rfl ?_)
  refine j_run it 1 rfl (by simp) ?_
  refine j_nf [_,_,_,_,_,_,_,_] rfl ?_
  refine j_loopN (X:=Nat × Nat × List Nat) (fun x=>[(0,.slice pa a.length ca),(1,.slice pb b.length cb),(5,.slice (some ⟨b1,0,none⟩) (a.length + b.length) (a.length + b.length)),(18,.slice pa a.length ca),(19,.int .i64 a.length),(20,.int .i64 i),(6,.int .i64 i),(7,.int .u32 z1),(8,.int .u64 x.2.1),(25,.slice pb b.length cb),(26,.int .i64 b.length),(27,.int .i64 x.1)])
   (fun x=>[(some b1,78,natCells .u32 x.2.2)]) (fun _=>[slF U32 pa a.length ca a,slF U32 pb b.length cb b])
   (fun x=>x.1 ≤ b.length ∧ x.2.2.length = a.length + b.length ∧ x.2.1 < 4294967296 ∧ (∀ y ∈ x.2.2,y < 4294967296) ∧ val (x.2.2.take (i + x.1)) + 4294967296 ^ (i + x.1) * x.2.1 = val (v0.take (i + x.1)) + 4294967296 ^ i * (z1 * val (b.take x.1)) ∧ x.2.2.drop (i + x.1) = v0.drop (i + x.1))
   (fun x=>b.length - x.1) (0,0,v0) [1,2] rfl ⟨Nat.zero_le _,hl,Nat.zero_lt_succ _,ho,by simp [val],rfl⟩ (by repeat (first | exact Fr.sub_nil _ | refine Fr.sub_cons rfl ?_)) rfl rfl ?_
  rintro ⟨j,c,out⟩ ⟨hj,hl',hc,ho',hv',hd⟩ ih'
  simp only at hj hl' hc ho' hv' hd ih' ⊢
  by_cases hjl : j < b.length
  ·refine j_nf [_,_,_,_,_,_,_,_,_,_] rfl (j_run it 1 rfl (by simp) ?_)
   refine j_nf [_,_,_,_,_,_,_,_,_,_] rfl (j_if rfl rfl (fun h2=>?_) (fun h2=>by exfalso;omega))
   refine j_nf [_,_,_,_,_,_,_,_,_,_,_,_] rfl (j_run it 1 rfl (by simp) ?_)
   refine j_step rfl (x_idx 1 (j) rfl rfl rfl sl48 rfl (by omega) fun z2 hz2 b3 o2=>?_)
   refine j_step rfl (x_ld_nat 0 rfl rfl ld78 fun ⟨r3,r4⟩=>?_)
   refine j_run it 2 rfl (by simp) ?_
   refine j_nf [_,_,_,_,_,_,_,_,_,_,_,_] rfl (j_run it 9 rfl ⟨⟨by omega,by omega⟩,trivial,trivial,trivial,⟨Int.mul_nonneg (by omega) (by omega),mul64_1 (by omega) (by omega) (by omega) (by omega)⟩,⟨by omega,by omega⟩,trivial,⟨by omega,by omega⟩,trivial,trivial⟩ ?_)
   refine j_step rfl (x_idx_own ((i) + (j)) ((i) + (j)) rfl rfl sl48 (by omega) (by omega) (Nat.mul_one _) ?_)
   refine j_step rfl (x_bld_natR 0 rfl rfl ld78 (by assumption) (by first | omega | (simp;omega)) fun z3 hz3 hlt1=>?_)
   refine j_run it 5 rfl ⟨trivial,⟨mul64_nnn (by omega) (by omega) (by omega) (by omega),mul64_3 (by omega) (by omega) (by omega) (by omega) (by omega) (by omega)⟩,trivial,⟨mul64_nn (by omega) (by omega) (by omega),mul64_2 (by omega) (by omega) (by omega) (by omega) (by omega)⟩,⟨by omega,by omega⟩,trivial⟩ ?_
   refine j_nf [_,_,_,_,_,_,_,_,_,_,_,_] rfl (j_run it 5 rfl ⟨trivial,⟨by omega,by omega⟩,trivial,trivial,trivial,trivial⟩ ?_)
   refine j_step rfl (x_conv_u32 it rfl rfl rfl ?_)
   refine j_step rfl (x_idx_own ((i) + (j)) ((i) + (j)) rfl rfl sl48 (by omega) (by omega) (Nat.mul_one _) ?_)
   refine j_step rfl (x_bst_nat 0 (((((z1) * (z2)) + (z3)) + (c)) % 4294967296) rfl rfl rfl ld78 (by first | rfl | omega) (by first | omega | (simp;omega)) ?_)
   refine j_nf [_,_,_,_,_,_,_,_,_,_,_] rfl (j_run it 3 rfl (by simp) ?_)
   refine j_nf [_,_,_,_,_,_,_,_,_] rfl (j_run it 2 rfl ⟨trivial,⟨by omega,by omega⟩,trivial⟩ ?_)
   refine j_nfn 1 [.lp (pL 119604),.blk 2,.c (pL 14951),.blk 1,.c (pL 935),.lp (pL 116),.blk 0,.c [1,1,1]] rfl ?_
   have e3:=get_of_drop hd hz3
   refine j_to [1,2] (by exact fra rfl) rfl rfl (ih' (j + 1,(z1 * z2 + z3 + c) / 4294967296,out.set (i + j) ((z1 * z2 + z3 + c) % 4294967296)) (by simp only;omega) ⟨by simp only;omega,by simpa using hl',by
     have:=Nat.mul_le_mul (show z1 ≤ 4294967295 by omega) (show z2 ≤ 4294967295 by omega)
     simp only;omega,set_lt ho' (by omega),mul_step hv' e3 hz2 (by omega),by
     simp only
     rw [drop_set_ge (by omega),← Nat.add_assoc];exact drop_more hd⟩)
  ·refine j_nf [_,_,_,_,_,_,_,_,_,_] rfl (j_run it 1 rfl (by simp) ?_)
   refine j_nf [_,_,_,_,_,_,_,_,_,_] rfl (j_if rfl rfl (fun h2=>by exfalso;omega) (fun h2=>?_))
   refine j_nf [_,_,_,_,_,_] rfl (j_run it 3 rfl (by simp) ?_)
   refine j_step rfl (x_len sl48 rfl ?_)
   refine j_run it 3 rfl ⟨⟨by omega,by omega⟩,trivial,⟨by omega,by omega⟩,trivial⟩ ?_
   refine j_step rfl (x_idx_own ((i) + (b.length)) ((i) + (b.length)) rfl rfl sl48 (by omega) (by omega) (Nat.mul_one _) ?_)
   refine j_step rfl (x_bst_nat 0 (c) rfl rfl rfl ld78 (by first | rfl | omega) (by first | omega | (simp;omega)) ?_)
   refine j_nf [_,_,_,_] rfl (j_run it 2 rfl ⟨trivial,⟨by omega,by omega⟩,trivial⟩ ?_)
   refine j_nfn 1 [.lp (pL 116),.blk 0,.c [1,1,1]] rfl ?_
   have e : j = b.length:=by omega
   subst e
   refine j_to [0,1] (by exact fra rfl) rfl rfl (ih (i + 1,out.set (i + b.length) c) (by simp only;omega) ⟨by simp only;omega,by simpa using hl',set_lt ho' hc,by
     simp only
     exact mul_row (by rw [List.take_length,hv] at hv';exact hv') hz1 (by omega)⟩)
 ·refine j_nf [_,_,_,_,_] rfl (j_run it 1 rfl (by simp) ?_)
  refine j_nf [_,_,_,_,_] rfl (j_if rfl rfl (fun h1=>by exfalso;omega) (fun h1=>?_))
  refine j_nf [_,_] rfl (j_run it 1 rfl (by simp) ?_)
  refine j_pub32 (n:=a.length + b.length) 0 rfl (by simp [*]) (by first | assumption | exact set_all (by assumption) (by omega) | (simp;omega)) (by omega) ?_
  refine j_step rfl (x_call [0] rfl (S_nat_short) rfl ?_)
  rintro _ _ _ ⟨rfl,rfl,rfl⟩
  simp only [List.cons_append,List.nil_append]
  refine j_run it 1 rfl (by simp) ?_
  refine j_nf [_] rfl ?_
  have e : i = a.length:=by omega
  subst e
  rw [List.take_length,List.take_of_length_le (by omega)] at hv
  rw [trim_eq ho,hv]
  refine j_giv [0] rfl rfl rfl ⟨_,_,rfl,rfl,rfl⟩
theorem S_nat_digit {pa : Option Addr} {n ca : Nat} {a : List Nat} {b : Nat} (hb : 0 < b) (hbB : b < 4294967296) :
  Ctr Try.prog 49 [.slice pa n ca,.int .u32 b] [] [slF U32 pa n ca a]
   (fun v Φ β=>∃ pa ca,v = .tuple #[.slice pa (limbs (val a / b)).length ca,.int .u32 (val a % b : Nat)] ∧ Φ = [slF U32 pa (limbs (val a / b)).length ca (limbs (val a / b))] ∧ β = []):=by
 refine Ctr_of_j' (F:=F_nat_digit) rfl fun C=>?_
 refine j_len 0 rfl fun hn hby _=>?_
 subst hn
 have hby' : a.length * 4 ≤ 140737488355328:=hby
 refine j_range 0 rfl fun hra=>?_
 simp only [InR] at hra
 refine j_nf [_,_] rfl (j_run it 2 rfl (by simp) ?_)
 refine j_nf [_,_] rfl (j_run it 1 rfl (by simp) ?_)
 refine j_step rfl (x_len sl48 rfl ?_)
 refine j_step rfl (x_make_nat (a.length) _ rfl rfl sl48 zo48e by48e (by omega) (by omega) (by omega) fun b1=>?_)
 refine j_run it 1 rfl (by simp) ?_
 refine j_nf [_,_] rfl (j_run it 1 rfl (by simp) ?_)
 refine j_nf [_,_,_] rfl (j_run it 1 rfl (by simp) ?_)
 refine j_step rfl (x_len sl48 rfl ?_)
 refine j_run it 2 rfl ⟨trivial,⟨by omega,by omega⟩,trivial⟩ ?_
 refine j_nf [_,_,_] rfl ?_
 refine j_loopN (X:=Nat × Nat × List Nat) (fun x=>[(0,.slice pa a.length ca),(1,.int .u32 b),(6,.slice (some ⟨b1,0,none⟩) a.length a.length),(7,.int .u64 x.2.1),(8,.int .i64 ((x.1 : Int) - 1))])
  (fun x=>[(some b1,78,natCells .u32 x.2.2)]) (fun _=>[slF U32 pa a.length ca a])
  (fun x=>x.1 ≤ a.length ∧ x.2.2.length = a.length ∧ x.2.1 < b ∧ (∀ y ∈ x.2.2,y < 4294967296) ∧ val (a.drop x.1) = val (x.2.2.drop x.1) * b + x.2.1)
  (fun x=>x.1) (a.length,0,List.replicate a.length 0) [0] rfl ⟨Nat.le_refl _,by simp,hb,rep_lt (by decide),by simp [val]⟩ (by repeat (first | exact Fr.sub_nil _ | refine Fr.sub_cons rfl ?_)) rfl rfl ?_
 rintro ⟨k,r,out⟩ ⟨hk,hl,hr,ho,hv⟩ ih
 simp only at hk hl hr ho hv ih ⊢
 by_cases hk0 : 0 < k
 ·refine j_nf [_,_,_,_,_,_] rfl (j_run it 2 rfl (by simp) ?_)
  refine j_nf [_,_,_,_,_] rfl (j_if rfl rfl (fun h1=>?_) (fun h1=>by exfalso;omega))
  refine j_nf [_,_,_,_,_,_,_] rfl (j_run it 4 rfl ⟨trivial,trivial,⟨by omega,by omega⟩,trivial,trivial⟩ ?_)
  refine j_step rfl (x_idx 0 ((k) - 1) rfl rfl rfl sl48 (by omega) (by omega) fun z1 hz1 b2 o1=>?_)
  refine j_step rfl (x_ld_nat 0 rfl rfl ld78 fun ⟨r1,r2⟩=>?_)
  refine j_run it 1 rfl ⟨⟨by omega,by omega⟩,trivial⟩ ?_
  refine j_step rfl (x_or_shl (r) (z1) rfl rfl (by first | rfl | omega) (by first | rfl | omega) (by omega) (by omega) ?_)
  refine j_run it 1 rfl (by simp) ?_
  refine j_nf [_,_,_,_,_,_,_] rfl (j_run it 6 rfl ⟨⟨by omega,by omega,by omega,by omega⟩,⟨by omega,by omega⟩,trivial,trivial,trivial,trivial,trivial⟩ ?_)
  refine j_step rfl (x_conv_u32 it rfl rfl rfl ?_)
  refine j_step rfl (x_idx_own ((k) - 1) ((k) - 1) rfl rfl sl48 (by omega) (by omega) (Nat.mul_one _) ?_)
  refine j_step rfl (x_bst_nat 0 (((r * 4294967296 + z1) / (b)) % 4294967296) rfl rfl rfl ld78 (by first | rfl | omega) (by first | omega | (simp;omega)) ?_)
  refine j_nf [_,_,_,_,_,_] rfl (j_run it 5 rfl ⟨trivial,⟨by omega,by omega⟩,⟨by omega,by omega⟩,trivial,trivial,trivial⟩ ?_)
  refine j_nf [_,_,_,_] rfl (j_run it 3 rfl ⟨trivial,⟨by omega,by omega⟩,trivial,trivial⟩ ?_)
  refine j_nfn 1 [.lp (pL 244),.blk 0,.c [1,1,1,1]] rfl ?_
  have hz:=(hra z1 (List.mem_of_getElem? hz1)).2
  have hq:=div_lt' (x:=z1) hr (by omega)
  refine j_to [1] (by exact fcc rfl (fcc rfl (fcc rfl (fcc rfl (fii rfl (by omega) (fzz _)))))) rfl rfl (ih (k - 1,(r * 4294967296 + z1) % b,out.set (k - 1) ((r * 4294967296 + z1) / b % 4294967296)) (by simp only;omega) ⟨by simp only;omega,by simpa using hl,Nat.mod_lt _ hb,set_lt ho (by omega),by
   simp only
   rw [Nat.mod_eq_of_lt hq]
   have e : k - 1 + 1 = k:=by omega
   have hz1' : a[k - 1]? = some z1:=by first | exact hz1 | simpa using hz1
   rw [val_drop hz1',val_set_drop (by omega),e]
   exact div_step hv hb⟩)
 ·refine j_nf [_,_,_,_,_,_] rfl (j_run it 2 rfl (by simp) ?_)
  refine j_nf [_,_,_,_,_] rfl (j_if rfl rfl (fun h1=>by exfalso;omega) (fun h1=>?_))
  refine j_nf [_,_] rfl (j_run it 1 rfl (by simp) ?_)
  refine j_pub32 (n:=a.length) 0 rfl (by simp [*]) (by first | assumption | exact set_all (by assumption) (by omega) | (simp;omega)) (by omega) ?_
  refine j_step rfl (x_call [0] rfl (S_nat_short) rfl ?_)
  rintro _ _ _ ⟨rfl,rfl,rfl⟩
  simp only [List.cons_append,List.nil_append]
  refine j_run it 4 rfl ⟨trivial,trivial,⟨by omega,by omega⟩,trivial,trivial⟩ ?_
  refine j_nf [_] rfl ?_
  have e : k = 0:=by omega
  subst e
  simp only [List.drop_zero] at hv
  have h1 : val a / b = val out:=by rw [hv,Nat.mul_comm,Nat.mul_add_div hb,Nat.div_eq_of_lt hr,Nat.add_zero]
  have h2 : val a % b = r:=by rw [hv,Nat.mul_comm,Nat.mul_add_mod,Nat.mod_eq_of_lt hr]
  rw [trim_eq ho,← h1]
  refine j_giv [0] rfl rfl rfl ⟨_,_,by rw [h2];rfl,rfl,rfl⟩
theorem S_nat_Binomial {n k : Nat} (hn : n ≤ 4096) : Ctr Try.prog 22 [.int .i64 n,.int .i64 k] [] [] (S2 U32 (limbs (binom n k)) 0):=by
 refine Ctr_of_j' (F:=F_nat_Binomial) rfl fun C=>?_
 have e1 : limbs (binom n 0) = [1]:=by rw [binom_zero,limbs_one]
 by_cases hkn : n < k
 ·have hz : limbs (binom n k) = []:=by rw [binom_gt n k hkn,limbs_zero]
  refine j_nf [_,_] rfl (j_run it 2 rfl (by simp) ?_)
  refine j_nf [_,_,_] rfl (j_run it 6 rfl (by simp) ?_)
  refine j_nf [_,_] rfl (j_if rfl rfl (fun h1=>by exfalso;omega) (fun h1=>?_))
  refine j_nf [_,_,_] rfl (j_run it 7 rfl (by simp) ?_)
  refine j_nf [_,_] rfl (j_if rfl rfl (fun h2=>?_) (fun h2=>by exfalso;omega))
  refine j_nf [_,_,_] rfl (j_run it 2 rfl (by simp) ?_)
  refine j_nf [_,_] rfl ?_
  refine j_add (slF U32 none 0 0 []) (fun w A _=>slF_nil _ _ _ _ _) ?_
  refine j_giv [0] rfl rfl rfl ⟨_,_,by rw [hz];rfl,by rw [hz];rfl,rfl⟩
 have hk : k ≤ n:=by omega
 refine j_nf [_,_] rfl (j_run it 2 rfl (by simp) ?_)
 refine j_nf [_,_,_] rfl (j_run it 6 rfl (by simp) ?_)
 refine j_nf [_,_] rfl (j_if rfl rfl (fun h1=>by exfalso;omega) (fun h1=>?_))
 refine j_nf [_,_,_] rfl (j_run it 7 rfl (by simp) ?_)
 refine j_nf [_,_] rfl (j_if rfl rfl (fun h2=>by exfalso;omega) (fun h2=>?_))
 refine j_nf [_,_] rfl (j_step rfl (x_lit sl48 zo48e rfl rfl rfl rfl (by decide) (by decide) rfl fun b1=>?_))
 refine j_run it 1 rfl (by simp) ?_
 refine j_nf [_,_,_] rfl ?_
 refine j_pub_made (n:=1) (kd:=.u32) 4 [1] 0 rfl rfl (by simp [InR]) (by decide) (by decide) ?_
 obtain ⟨M,hM,hMk,hMb⟩ : ∃ M : Nat,(if ((n : Int) - k) < k then ((n : Int) - k) else (k : Int)) = M ∧ M ≤ n ∧ binom n M = binom n k:=by
  refine ⟨if n - k < k then n - k else k,?_,?_,binom_min hk⟩
  ·split <;> split <;> omega
  ·split <;> omega
 refine j_run it 4 rfl ⟨⟨by omega,by omega⟩,trivial,trivial,trivial,trivial⟩ ?_
 refine j_step rfl (x_min rfl rfl ?_)
 refine j_run it 1 rfl (by simp) ?_
 refine j_nf [_,_,_] rfl ?_
 refine j_loopN (X:=Nat × Option Addr × Nat) (fun x=>[(0,.int .i64 n),(6,.slice x.2.1 (limbs (binom n x.1)).length x.2.2),(26,.int .i64 M),(27,.int .i64 x.1)])
  (fun _=>[]) (fun x=>[slF U32 x.2.1 (limbs (binom n x.1)).length x.2.2 (limbs (binom n x.1))])
  (fun x=>x.1 ≤ M) (fun x=>M - x.1) (0,some ⟨b1,0,none⟩,1) [0] rfl (Nat.zero_le _) (by simp only [e1];repeat (first | exact Fr.sub_nil _ | refine Fr.sub_cons rfl ?_ | refine Fr.sub_consI rfl (by first | omega | exact hM) ?_)) rfl (by simp only [e1];rfl) ?_
 rintro ⟨i,pa,ca⟩ hi ih
 simp only at hi ih ⊢
 have hlen:=binom_len hn i
 by_cases hiM : i < M
 ·refine j_nf [_,_,_,_,_] rfl (j_run it 1 rfl (by simp) ?_)
  refine j_nf [_,_,_,_,_] rfl (j_if rfl rfl (fun h3=>?_) (fun h3=>by exfalso;omega))
  refine j_nf [_,_,_,_,_,_,_] rfl (j_run it 2 rfl (by simp) ?_)
  refine j_nf [_,_,_,_,_,_] rfl (j_run it 5 rfl ⟨⟨by omega,by omega⟩,⟨by omega,by omega⟩,trivial,trivial,trivial,trivial⟩ ?_)
  refine j_step rfl (x_lit sl48 zo48e rfl rfl rfl rfl (by decide) (by decide) rfl fun b2=>?_) --ok
  rw [show ((n : Int) - i) = ((n - i : Nat) : Int) by omega]
  refine j_pub_made (n:=1) (kd:=.u32) 4 [n - i] 0 rfl rfl (by simp [InR];omega) (by decide) (by decide) ?_
  have v1 : val (limbs (binom n i)) * val [n - i] = binom n i * (n - i):=by rw [val_limbs];simp [val]
  refine j_step rfl (x_call [1,0] rfl (S_nat_times (by omega) (by simp)) rfl ?_)
  rintro _ _ _ ⟨pa1,ca1,rfl,rfl,rfl⟩
  simp only [List.cons_append,List.nil_append]
  refine j_run it 3 rfl ⟨⟨by omega,by omega⟩,⟨by omega,by omega⟩,trivial,trivial⟩ ?_
  refine j_recast (t:=40) ((((i) + 1) : Nat) : Int) rfl (by omega) ?_
  refine j_step rfl (x_call [0] rfl (S_nat_digit (by omega) (by omega)) rfl ?_)
  rintro _ _ _ ⟨pa2,ca2,rfl,rfl,rfl⟩
  simp only [List.cons_append,List.nil_append]
  refine j_run it 4 rfl (by simp) ?_
  refine j_nf [_,_,_,_] rfl (j_run it 2 rfl ⟨trivial,⟨by omega,by omega⟩,trivial⟩ ?_)
  refine j_nfn 1 [.lp (pL 500),.blk 0,.c [1,1,1,1,1]] rfl ?_ --ok
  rw [v1,show ((i : Int) + 1) = ((i + 1 : Nat) : Int) by omega]
  skip
  simp only [val_limbs,binom_next (show i ≤ n by omega)]
  refine j_to [0] (by exact fra rfl) rfl rfl (ih (i + 1,pa2,ca2) (by simp only;omega) (by simp only;omega))
 ·refine j_nf [_,_,_,_,_] rfl (j_run it 1 rfl (by simp) ?_)
  refine j_nf [_,_,_,_,_] rfl (j_if rfl rfl (fun h3=>by exfalso;omega) (fun h3=>?_))
  refine j_nf [_,_] rfl (j_run it 1 rfl (by simp) ?_)
  refine j_step rfl (x_call [0] rfl (S_nat_Trim) rfl ?_)
  rintro _ _ _ ⟨pa1,ca1,rfl,rfl,rfl⟩
  simp only [List.cons_append,List.nil_append]
  refine j_run it 2 rfl (by simp) ?_
  refine j_nf [_] rfl ?_
  have e : i = M:=by omega
  rw [trim_limbs,e,hMb]
  refine j_giv [0] rfl rfl rfl ⟨_,_,rfl,rfl,rfl⟩
end Go.Proofs.Ytmhcfhddmkhaiaa
