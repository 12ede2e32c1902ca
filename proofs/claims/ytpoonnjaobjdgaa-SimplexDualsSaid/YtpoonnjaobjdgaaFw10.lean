/-
The tenth text of the frame: a region that draws its order. Its operations are gone through once, in the order of the text; what each leaves is a value that is known outright, or a fact; a fact is lent to those operations alone that wait for it.
-/
import Derived.Test.YtpoonnjaobjdgaaFw9
namespace Go.Fw
open Go.RowKit (Below)

/-- What is not known of a value beforehand: addresses and numbers. -/
abbrev Gh := Nat → Option Addr × Nat × Nat

/-- What is said of an operation's value: it is reckoned from what is known; it is this; it is some value of this form, of which this is so; it is the address of a new block of one's own. -/
inductive Po where
  | auto
  | eq (v : Value)
  | fa (val : Gh → Value) (f : Gh → List Fact)
  | al (T : TypeId) (cs : List Value)

/-- An operation that adds to memory alone. -/
def JD (P : Program) (op : Op) (ty : TypeId) (σ : Fr) (β : List Blk) (Γ : List Fact) (val : Gh → Value) (f : Gh → List Fact) : Prop :=
  ∀ C w, Own C w β → (∀ g ∈ Γ, g.holds w (ok C w β)) → Ex P op ty σ w fun v w' => Ext w w' ∧ ∃ x, v = val x ∧ ∀ g ∈ f x, g.holds w' (ok C w' β)

/-- An operation that makes a block. -/
def JA (P : Program) (op : Op) (ty : TypeId) (σ : Fr) (T : TypeId) (cs : List Value) : Prop :=
  ∀ w, Ex P op ty σ w fun v w' => v = .pointer (some ⟨w.heap.size, 0, none⟩) ∧ w' = w.alloc (.cells cs.toArray T)

def depsOf (o : Oper) : List Nat := (o.after.toList.filter (Region.binds .any)).map (·.on)

def slotsOf (xs : List Operand) : List Tmp := xs.filterMap fun
  | .tmp t => some t
  | _ => none

def guardSlot (L : List Oper) (o : Oper) : List Tmp :=
  match o.guard with
  | some (j, _) => match nth L j with
    | some g => g.dst.toList
    | none => []
  | none => []

def readsOf (L : List Oper) (o : Oper) : List Tmp := slotsOf o.op.operands.toList ++ guardSlot L o

def memB (n : Nat) : List Nat → Bool
  | [] => false
  | m :: l => match Nat.beq n m with
    | true => true
    | false => memB n l

theorem memB_iff {n : Nat} {l : List Nat} : memB n l = true ↔ n ∈ l := by
  induction l with
  | nil => simp [memB]
  | cons m l ih =>
    simp only [memB, List.mem_cons]
    cases hb : Nat.beq n m with
    | true => simp [Nat.eq_of_beq_eq_true hb]
    | false => simp [Nat.ne_of_beq_eq_false hb, ih]

/-- All that comes before an operation. -/
def preAt (pt : List (List Nat)) (i : Nat) : List Nat := (nth pt i).getD []

def addTo (l : List Nat) (n : Nat) : List Nat := match memB n l with
  | true => l
  | false => n :: l

def mkPre : List Oper → List (List Nat) → List (List Nat)
  | [], acc => acc
  | o :: l, acc => mkPre l (acc ++ [((depsOf o).foldl (fun s e => (preAt acc e).foldl addTo (addTo s e)) [])])

/-- The n-th of a list is so of its place. -/
def allIx {α : Type} (f : Nat → α → Bool) : Nat → List α → Bool
  | _, [] => true
  | n, x :: l => f n x && allIx f (n + 1) l

theorem allIx_get {α : Type} {f : Nat → α → Bool} : ∀ {l : List α} {n : Nat}, allIx f n l = true → ∀ {i : Nat} {x : α}, l[i]? = some x → f (n + i) x = true := by
  intro l
  induction l with
  | nil => intro n _ i x h; simp at h
  | cons y l ih =>
    intro n h i x hi
    simp only [allIx, Bool.and_eq_true] at h
    cases i with
    | zero => simp at hi; subst hi; exact h.1
    | succ i => have := ih h.2 (i := i) (by simpa using hi); rwa [show n + (i + 1) = n + 1 + i by omega]

/-- May the two operations at places i < j come in one order alone, if they have to do with one slot? -/
def okPair (L : List Oper) (pt : List (List Nat)) (i : Nat) (a : Oper) (j : Nat) (b : Oper) : Bool :=
  match Nat.blt i j with
  | false => true
  | true => memB i (preAt pt j) ||
    ((match b.dst with
      | some d => !(memB d (readsOf L a))
      | none => true) &&
     (match a.dst with
      | some d => !(memB d (readsOf L b)) && (match b.dst with
        | some e => !(Nat.beq d e)
        | none => true)
      | none => true))

structure RegOk (L : List Oper) (pt : List (List Nat)) (k : Nat) : Prop where
  le : k ≤ L.length
  deps : ∀ i o, L[i]? = some o → ∀ e ∈ depsOf o, e < i
  pre : ∀ i o, L[i]? = some o → ∀ j ∈ preAt pt i, ∃ e ∈ depsOf o, j = e ∨ j ∈ preAt pt e
  pair : ∀ i j a b, i < k → j < k → L[i]? = some a → L[j]? = some b → okPair L pt i a j b = true
  tail : ∀ i, k ≤ i → i < L.length → ∀ j, j < i → j ∈ preAt pt i
  noSel : ∀ (i : Nat) (o : Oper) cs b, L[i]? = some o → o.op ≠ Op.select cs b

def isSel : Op → Bool
  | .select _ _ => true
  | _ => false

def regOk (L : List Oper) (pt : List (List Nat)) (k : Nat) : Bool :=
  Nat.ble k L.length &&
  allIx (fun i (o : Oper) => (depsOf o).all (fun e => Nat.blt e i) && (preAt pt i).all (fun j => (depsOf o).any fun e => Nat.beq j e || memB j (preAt pt e)) &&
    (Nat.blt i k || (List.range i).all fun j => memB j (preAt pt i)) && !isSel o.op) 0 L &&
  allIx (fun i (a : Oper) => allIx (fun j (b : Oper) => okPair L pt i a j b) 0 (L.take k)) 0 (L.take k)

theorem regOk_spec {L : List Oper} {pt : List (List Nat)} {k : Nat} (h : regOk L pt k = true) : RegOk L pt k := by
  simp only [regOk, Bool.and_eq_true] at h
  obtain ⟨⟨h1, h2⟩, h3⟩ := h
  have g2 := fun {i o} (hi : L[i]? = some o) => allIx_get h2 (i := i) hi
  simp only [Nat.zero_add, Bool.and_eq_true, List.all_eq_true, List.any_eq_true, Bool.or_eq_true] at g2
  refine ⟨Nat.le_of_ble_eq_true h1, fun i o hi e he => ?_, fun i o hi j hj => ?_, fun i j a b hi hj ha hb => ?_, fun i hk hi j hj => ?_, fun i o cs b hi e => ?_⟩
  · exact Nat.le_of_ble_eq_true ((g2 hi).1.1.1 e he)
  · obtain ⟨e, he, h⟩ := (g2 hi).1.1.2 j hj
    refine ⟨e, he, ?_⟩
    rcases h with h | h
    · exact .inl (Nat.eq_of_beq_eq_true h)
    · exact .inr (memB_iff.1 h)
  · have e1 := allIx_get h3 (i := i) (x := a) (by rw [List.getElem?_take, if_pos hi]; exact ha)
    have e2 := allIx_get e1 (i := j) (x := b) (by rw [List.getElem?_take, if_pos hj]; exact hb)
    simpa using e2
  · have hx : L[i]? = some L[i] := by simp [hi]
    rcases (g2 hx).1.2 with h | h
    · have := Nat.le_of_ble_eq_true h; omega
    · exact memB_iff.1 (h j (by simpa using hj))
  · have := (g2 hi).2
    rw [e] at this
    simp [isSel] at this

/-- Closed under what comes before. -/
theorem pre_in {L : List Oper} {pt : List (List Nat)} {k : Nat} (hr : RegOk L pt k) {T : Nat → Prop} (hT : ∀ i o, T i → L[i]? = some o → ∀ e ∈ depsOf o, T e) :
    ∀ i, i < L.length → (∀ o, L[i]? = some o → ∀ e ∈ depsOf o, T e) → ∀ j ∈ preAt pt i, T j := by
  intro i
  induction i using Nat.strongRecOn with
  | _ i ih =>
    intro hi hd j hj
    have hx : L[i]? = some L[i] := by simp [hi]
    obtain ⟨e, he, h⟩ := hr.pre i _ hx j hj
    have hTe := hd _ hx e he
    have hlt := hr.deps i _ hx e he
    rcases h with rfl | h
    · exact hTe
    · exact ih e hlt (by omega) (fun o ho => hT e o hTe ho) j h

/-! ### What is known as one goes along the text -/

def delF (d : Option Tmp) (κ : Fr) : Fr :=
  match d with
  | some d => Fr.del d κ
  | none => κ

/-- Is a guarded operation carried out? none: it is not known. -/
def gd (L : List Oper) (κ : Fr) (o : Oper) : Option Bool :=
  match o.guard with
  | none => some true
  | some (j, want) => match nth L j with
    | some g => match g.dst with
      | some s => match Fr.get s κ with
        | some (.bool true) => some want
        | some (.bool false) => some (!want)
        | some (.tuple ⟨[]⟩) => some false
        | _ => none
      | none => none
    | none => none

/-- The value that is known outright of an operation. -/
def known (it : List (TypeId × IntKind)) (L : List Oper) (κ : Fr) (o : Oper) (po : Po) : Option Value :=
  match gd L κ o with
  | some false => some undef
  | _ => match po with
    | .eq v => some v
    | .auto => (pev it κ o.op).map (·.1)
    | .fa _ _ => none
    | .al _ _ => none

def stepK (it : List (TypeId × IntKind)) (L : List Oper) (κ : Fr) (o : Oper) (po : Po) : Fr :=
  match known it L κ o po with
  | some v => putF o.dst v κ
  | none => delF o.dst κ

section
variable {P : Program} {F : Fun P} {C : Cx} {S : List It} {R : Value → World → Prop} {β : List Blk}

/-- The facts that an operation may lean on. -/
def sel (pre : List Nat) : List (Nat × Fact) → List Fact
  | [] => []
  | (i, f) :: l => match memB i pre with
    | true => f :: sel pre l
    | false => sel pre l

def outOk (d : Option Tmp) (n : Nat) : Bool :=
  match d with
  | some d => Nat.blt d n
  | none => true

/-- Along the text: what is owed of each operation, and what follows behind the last that is spoken of. -/
def Lx (it : List (TypeId × IntKind)) (F : Fun P) (C : Cx) (p : List Nat) (S : List It) (L : List Oper) (pt : List (List Nat)) (β : List Blk) (Γ : List Fact) (R : Value → World → Prop) : Nat → List Po → Fr → Fr → List (Nat × Fact) → List Blk → Prop
  | i, [], _, σ, fs, al => J F C (.o p i :: S) σ (al ++ β) (fs.map (·.2) ++ Γ) R
  | i, po :: pos, κ, σ, fs, al => match nth L i with
    | none => False
    | some o => match outOk o.dst F.fn.ntmps, gd L κ o with
      | true, some false => Lx it F C p S L pt β Γ R (i + 1) pos (putF o.dst undef κ) (putF o.dst undef σ) fs al
      | true, some true => match po with
        | .auto => match pev it κ o.op with
          | some (v, q) => q ∧ Lx it F C p S L pt β Γ R (i + 1) pos (putF o.dst v κ) (putF o.dst v σ) fs al
          | none => False
        | .eq v => JD P o.op o.type σ β (sel (preAt pt i) fs ++ Γ) (fun _ => v) (fun _ => []) ∧ Lx it F C p S L pt β Γ R (i + 1) pos (putF o.dst v κ) (putF o.dst v σ) fs al
        | .fa val f => JD P o.op o.type σ β (sel (preAt pt i) fs ++ Γ) val f ∧ ∀ x, Lx it F C p S L pt β Γ R (i + 1) pos (delF o.dst κ) (putF o.dst (val x) σ) ((f x).map (fun g => (i, g)) ++ fs) al
        | .al T cs => JA P o.op o.type σ T cs ∧ ∀ b, Lx it F C p S L pt β Γ R (i + 1) pos (delF o.dst κ) (putF o.dst (.pointer (some ⟨b, 0, none⟩)) σ) fs ((some b, T, cs) :: al)
      | _, _ => False

end

/-! ### Why that is enough -/

def kap (it : List (TypeId × IntKind)) (L : List Oper) (pos : List Po) (κ : Fr) : Nat → Fr
  | 0 => κ
  | i + 1 => match nth L i, nth pos i with
    | some o, some po => stepK it L (kap it L pos κ i) o po
    | _, _ => kap it L pos κ i

def kv (it : List (TypeId × IntKind)) (L : List Oper) (pos : List Po) (κ : Fr) (i : Nat) : Option Value :=
  match nth L i, nth pos i with
  | some o, some po => known it L (kap it L pos κ i) o po
  | _, _ => none

def vl (it : List (TypeId × IntKind)) (L : List Oper) (pos : List Po) (κ : Fr) (vs : Nat → Gh) (i : Nat) : Value :=
  match kv it L pos κ i with
  | some v => v
  | none => match nth pos i with
    | some (.fa val _) => val (vs i)
    | some (.al _ _) => .pointer (some ⟨(vs i 0).2.1, 0, none⟩)
    | _ => undef

def dstAt (L : List Oper) (i : Nat) : Option Tmp := (nth L i).bind (·.dst)

def lexF (it : List (TypeId × IntKind)) (L : List Oper) (pos : List Po) (σ : Fr) (vs : Nat → Gh) : Nat → Fr
  | 0 => σ
  | i + 1 => putF (dstAt L i) (vl it L pos σ vs i) (lexF it L pos σ vs i)

def lexFs (it : List (TypeId × IntKind)) (L : List Oper) (pos : List Po) (σ : Fr) (vs : Nat → Gh) : Nat → List (Nat × Fact)
  | 0 => []
  | i + 1 => match kv it L pos σ i, nth pos i with
    | none, some (.fa _ f) => (f (vs i)).map (fun g => (i, g)) ++ lexFs it L pos σ vs i
    | _, _ => lexFs it L pos σ vs i

def lexAl (it : List (TypeId × IntKind)) (L : List Oper) (pos : List Po) (σ : Fr) (vs : Nat → Gh) : Nat → List Blk
  | 0 => []
  | i + 1 => match kv it L pos σ i, nth pos i with
    | none, some (.al T cs) => (some (vs i 0).2.1, T, cs) :: lexAl it L pos σ vs i
    | _, _ => lexAl it L pos σ vs i

/-- The operation makes a block. -/
def isAl (it : List (TypeId × IntKind)) (L : List Oper) (pos : List Po) (σ : Fr) (i : Nat) (T : TypeId) (cs : List Value) : Prop := i < pos.length ∧ kv it L pos σ i = none ∧ nth pos i = some (.al T cs)

/-- The blocks made by the operations in T. -/
def NA (it : List (TypeId × IntKind)) (L : List Oper) (pos : List Po) (σ : Fr) (T : Nat → Prop) (vs : Nat → Gh) (k : Nat) : Prop := ∃ i Ty cs, T i ∧ isAl it L pos σ i Ty cs ∧ (vs i 0).2.1 = k

/-- The blocks on which facts may lean there. -/
def okN (C : Cx) (w : World) (β : List Blk) (N : Nat → Prop) (k : Nat) : Prop := ok C w β k ∧ ¬ N k

section
variable {P : Program} {F : Fun P} {C : Cx} {S : List It} {R : Value → World → Prop} {β : List Blk} {Γ : List Fact} {it : List (TypeId × IntKind)} {L : List Oper} {pos : List Po} {pt : List (List Nat)} {p : List Nat} {σ : Fr}

theorem drop_cons {α : Type} {l : List α} {i : Nat} {x : α} (h : nth l i = some x) : l.drop i = x :: l.drop (i + 1) := by
  rw [nth_eq] at h
  have hi : i < l.length := (List.getElem?_eq_some_iff.1 h).1
  rw [List.drop_eq_getElem_cons hi]
  congr 1
  exact (List.getElem?_eq_some_iff.1 h).2

theorem lx_at (h : Lx it F C p S L pt β Γ R 0 pos σ σ [] []) (vs : Nat → Gh) : ∀ i, i ≤ pos.length → Lx it F C p S L pt β Γ R i (pos.drop i) (kap it L pos σ i) (lexF it L pos σ vs i) (lexFs it L pos σ vs i) (lexAl it L pos σ vs i) := by
  intro i
  induction i with
  | zero => intro _; exact h
  | succ i ih =>
    intro hi
    have h' := ih (by omega)
    obtain ⟨po, hpo⟩ : ∃ po, nth pos i = some po := ⟨pos[i], by rw [nth_eq]; simp⟩
    rw [drop_cons hpo] at h'
    simp only [Lx] at h'
    cases ho : nth L i with
    | none => rw [ho] at h'; exact h'.elim
    | some o =>
      rw [ho] at h'
      simp only at h'
      cases hout : outOk o.dst F.fn.ntmps with
      | false => rw [hout] at h'; exact h'.elim
      | true =>
        rw [hout] at h'
        have hd : dstAt L i = o.dst := by simp [dstAt, ho]
        cases hg : gd L (kap it L pos σ i) o with
        | none => rw [hg] at h'; exact h'.elim
        | some b =>
          rw [hg] at h'
          have hkap : kap it L pos σ (i + 1) = stepK it L (kap it L pos σ i) o po := by simp only [kap, ho, hpo]
          have hkv : kv it L pos σ i = known it L (kap it L pos σ i) o po := by simp only [kv, ho, hpo]
          cases b with
          | false =>
            have hk : known it L (kap it L pos σ i) o po = some undef := by simp only [known, hg]
            simp only [lexF, lexFs, lexAl, hd, vl, hkap, stepK, hkv, hk]
            exact h'
          | true =>
            cases po with
            | auto =>
              simp only at h'
              cases hp : pev it (kap it L pos σ i) o.op with
              | none => rw [hp] at h'; exact h'.elim
              | some vq =>
                obtain ⟨v, q⟩ := vq
                rw [hp] at h'
                have hk : known it L (kap it L pos σ i) o .auto = some v := by simp only [known, hg, hp, Option.map_some]
                simp only [lexF, lexFs, lexAl, hd, vl, hkap, stepK, hkv, hk]
                exact h'.2
            | eq v =>
              have hk : known it L (kap it L pos σ i) o (.eq v) = some v := by simp only [known, hg]
              simp only [lexF, lexFs, lexAl, hd, vl, hkap, stepK, hkv, hk]
              exact h'.2
            | fa val f =>
              have hk : known it L (kap it L pos σ i) o (.fa val f) = none := by simp only [known, hg]
              simp only [lexF, lexFs, lexAl, hd, vl, hkap, stepK, hkv, hk, hpo]
              exact h'.2 (vs i)
            | al T cs =>
              have hk : known it L (kap it L pos σ i) o (.al T cs) = none := by simp only [known, hg]
              simp only [lexF, lexFs, lexAl, hd, vl, hkap, stepK, hkv, hk, hpo]
              exact h'.2 (vs i 0).2.1

theorem kap_sub (vs : Nat → Gh) : ∀ i, i ≤ pos.length → Fr.sub (kap it L pos σ i) (lexF it L pos σ vs i) := by
  intro i
  induction i with
  | zero => intro _; exact Fr.sub_refl _
  | succ i ih =>
    intro hi
    have ih := ih (by omega)
    have put : ∀ (d : Option Tmp) (v : Value), Fr.sub (putF d v (kap it L pos σ i)) (putF d v (lexF it L pos σ vs i)) := by
      intro d v
      cases d with
      | none => exact ih
      | some d =>
        intro t u hu
        simp only [putF, Fr.get] at hu ⊢
        cases hb : Nat.beq d t with
        | true => rw [hb] at hu; exact hu
        | false => rw [hb] at hu; exact ih t u hu
    have del : ∀ (d : Option Tmp) (v : Value), Fr.sub (delF d (kap it L pos σ i)) (putF d v (lexF it L pos σ vs i)) := by
      intro d v
      cases d with
      | none => exact ih
      | some d =>
        intro t u hu
        obtain ⟨hne, hg⟩ := Fr.get_del _ _ _ _ hu
        simp only [putF, Fr.get]
        have : Nat.beq d t = false := by
          cases hb : Nat.beq d t with
          | true => exact absurd (Nat.eq_of_beq_eq_true hb).symm hne
          | false => rfl
        rw [this]
        exact ih t u hg
    simp only [kap, lexF]
    split
    · rename_i o po ho hpo
      have hd : dstAt L i = o.dst := by simp [dstAt, ho]
      have hkv : kv it L pos σ i = known it L (kap it L pos σ i) o po := by simp only [kv, ho, hpo]
      simp only [stepK, vl, hkv, hd]
      cases known it L (kap it L pos σ i) o po with
      | some v => exact put _ _
      | none => exact del _ _
    · rename_i hne
      cases ho : nth L i with
      | none =>
        have hd : dstAt L i = none := by simp [dstAt, ho]
        rw [hd]; exact ih
      | some o =>
        cases hpo : nth pos i with
        | some po => exact absurd hpo (hne o po ho)
        | none =>
          rw [nth_eq] at hpo
          have := List.getElem?_eq_none_iff.1 hpo
          omega

/-- What a slot holds along the text: what the last writer left, or what it held. -/
theorem lexF_get (vs : Nat → Gh) (t : Tmp) : ∀ i v, Fr.get t (lexF it L pos σ vs i) = some v →
    (∃ j, j < i ∧ dstAt L j = some t ∧ (∀ j', j' < i → dstAt L j' = some t → j' ≤ j) ∧ v = vl it L pos σ vs j) ∨ ((∀ j, j < i → dstAt L j ≠ some t) ∧ Fr.get t σ = some v) := by
  intro i
  induction i with
  | zero => intro v h; exact .inr ⟨fun j hj => by omega, h⟩
  | succ i ih =>
    intro v h
    have old : dstAt L i ≠ some t → Fr.get t (lexF it L pos σ vs i) = some v →
        (∃ j, j < i + 1 ∧ dstAt L j = some t ∧ (∀ j', j' < i + 1 → dstAt L j' = some t → j' ≤ j) ∧ v = vl it L pos σ vs j) ∨ ((∀ j, j < i + 1 → dstAt L j ≠ some t) ∧ Fr.get t σ = some v) := fun hne h' => by
      rcases ih v h' with ⟨j, h1, h2, h3, h4⟩ | ⟨h1, h2⟩
      · refine Or.inl ⟨j, by omega, h2, fun j' hj' hd => ?_, h4⟩
        rcases Nat.lt_or_ge j' i with h | h
        · exact h3 j' h hd
        · have : j' = i := by omega
          subst this; exact absurd hd hne
      · refine Or.inr ⟨fun j hj => ?_, h2⟩
        rcases Nat.lt_or_ge j i with h | h
        · exact h1 j h
        · have : j = i := by omega
          subst this; exact hne
    simp only [lexF] at h
    cases hd : dstAt L i with
    | none => rw [hd] at h; exact old (by rw [hd]; simp) h
    | some d =>
      rw [hd] at h
      simp only [putF, Fr.get] at h
      cases hb : Nat.beq d t with
      | true =>
        rw [hb] at h
        have e : d = t := Nat.eq_of_beq_eq_true hb
        subst e
        exact .inl ⟨i, by omega, hd, fun j' hj' _ => by omega, (Option.some.inj h).symm⟩
      | false =>
        rw [hb] at h
        exact old (by rw [hd]; intro e; exact Nat.ne_of_beq_eq_false hb (Option.some.inj e)) h

theorem mem_lexFs {vs : Nat → Gh} : ∀ {i j : Nat} {g : Fact}, (j, g) ∈ lexFs it L pos σ vs i → j < i ∧ kv it L pos σ j = none ∧ ∃ val f, nth pos j = some (.fa val f) ∧ g ∈ f (vs j) := by
  intro i
  induction i with
  | zero => intro j g h; simp [lexFs] at h
  | succ i ih =>
    intro j g h
    simp only [lexFs] at h
    split at h
    · rename_i val f hk hp
      rcases List.mem_append.1 h with h | h
      · obtain ⟨g', hg', e⟩ := List.mem_map.1 h
        obtain ⟨rfl, rfl⟩ := Prod.mk.inj e
        exact ⟨by omega, hk, val, f, hp, hg'⟩
      · obtain ⟨h1, h2⟩ := ih h; exact ⟨by omega, h2⟩
    · obtain ⟨h1, h2⟩ := ih h; exact ⟨by omega, h2⟩

theorem mem_lexAl {vs : Nat → Gh} : ∀ {i : Nat} {x : Blk}, x ∈ lexAl it L pos σ vs i → ∃ j T cs, j < i ∧ kv it L pos σ j = none ∧ nth pos j = some (.al T cs) ∧ x = (some (vs j 0).2.1, T, cs) := by
  intro i
  induction i with
  | zero => intro x h; simp [lexAl] at h
  | succ i ih =>
    intro x h
    simp only [lexAl] at h
    split at h
    · rename_i T cs hk hp
      rcases List.mem_cons.1 h with rfl | h
      · exact ⟨i, T, cs, by omega, hk, hp, rfl⟩
      · obtain ⟨j, T, cs, h1, h2⟩ := ih h; exact ⟨j, T, cs, by omega, h2⟩
    · obtain ⟨j, T, cs, h1, h2⟩ := ih h; exact ⟨j, T, cs, by omega, h2⟩

theorem lexAl_distinct {vs : Nat → Gh} : ∀ i, i ≤ pos.length → (∀ j j' T cs T' cs', j < i → j' < i → isAl it L pos σ j T cs → isAl it L pos σ j' T' cs' → j ≠ j' → (vs j 0).2.1 ≠ (vs j' 0).2.1) → Distinct (lexAl it L pos σ vs i) := by
  intro i
  induction i with
  | zero => intro _ _; simp [lexAl, Distinct]
  | succ i ih =>
    intro hi h
    have ih := ih (by omega) (fun j j' T cs T' cs' h1 h2 => h j j' T cs T' cs' (by omega) (by omega))
    simp only [lexAl]
    split
    · rename_i T cs hk hp
      refine ⟨fun y hy b hb hyb => ?_, ih⟩
      obtain ⟨j, T', cs', h1, h2, h3, rfl⟩ := mem_lexAl hy
      have e1 := Option.some.inj hb
      have e2 := Option.some.inj hyb
      exact h i j T cs T' cs' (by omega) (by omega) ⟨by omega, hk, hp⟩ ⟨by omega, h2, h3⟩ (by omega) (by rw [e2]; exact e1)
    · exact ih

theorem mem_sel {pre : List Nat} {g : Fact} : ∀ {l : List (Nat × Fact)}, g ∈ sel pre l → ∃ j, j ∈ pre ∧ (j, g) ∈ l := by
  intro l
  induction l with
  | nil => intro h; simp [sel] at h
  | cons x l ih =>
    obtain ⟨i, f⟩ := x
    intro h
    simp only [sel] at h
    cases hb : memB i pre with
    | true =>
      rw [hb] at h
      rcases List.mem_cons.1 h with rfl | h
      · exact ⟨i, memB_iff.1 hb, .head _⟩
      · obtain ⟨j, h1, h2⟩ := ih h; exact ⟨j, h1, .tail _ h2⟩
    | false =>
      rw [hb] at h
      obtain ⟨j, h1, h2⟩ := ih h; exact ⟨j, h1, .tail _ h2⟩

/-- Half way: the operations in T are done. -/
structure Mid (F : Fun P) (C : Cx) (it : List (TypeId × IntKind)) (L : List Oper) (pos : List Po) (β : List Blk) (σ : Fr) (w0 : World) (T : Nat → Prop) (vs : Nat → Gh) (a : Act) (w : World) : Prop where
  size : a.tmps.size = F.fn.ntmps
  defers : a.defers = []
  ext : Ext w0 w
  fact : ∀ i, T i → i < pos.length → kv it L pos σ i = none → ∀ val f, nth pos i = some (.fa val f) → ∀ g ∈ f (vs i), g.holds w (okN C w β (NA it L pos σ T vs))
  made : ∀ i Ty cs, T i → isAl it L pos σ i Ty cs → w.heap[(vs i 0).2.1]? = some (.cells cs.toArray Ty (0, 0)) ∧ w0.heap.size ≤ (vs i 0).2.1
  apart : ∀ i j Ty cs Ty' cs', T i → T j → isAl it L pos σ i Ty cs → isAl it L pos σ j Ty' cs' → i ≠ j → (vs i 0).2.1 ≠ (vs j 0).2.1
  last : ∀ t i, T i → i < pos.length → dstAt L i = some t → (∀ j, T j → j < pos.length → dstAt L j = some t → j ≤ i) → a.tmps[t]? = some (vl it L pos σ vs i)
  rest : ∀ t v, (∀ i, T i → i < pos.length → dstAt L i ≠ some t) → Fr.get t σ = some v → a.tmps[t]? = some v

/-- One operation more. -/
theorem Mid.step {w0 w w' : World} {T : Nat → Prop} {vs : Nat → Gh} {a : Act} {i : Nat} {o : Oper} {v : Value} {x : Gh} (hr : RegOk L pt pos.length) (hm : Mid F C it L pos β σ w0 T vs a w) (hi : i < pos.length) (ho : L[i]? = some o) (hT : ¬ T i)
    (hcl : ∀ j, T j → j < L.length ∧ ∀ m ∈ preAt pt j, T m) (hout : outOk o.dst F.fn.ntmps = true) (hx : Ext w w') (hv : ∀ u, kv it L pos σ i = some u → v = u) (hf : kv it L pos σ i = none → (∃ val f, nth pos i = some (.fa val f) ∧ v = val x ∧ ∀ g ∈ f x, g.holds w' (okN C w' β (NA it L pos σ T vs))) ∨
      ∃ Ty cs, nth pos i = some (.al Ty cs) ∧ v = .pointer (some ⟨(x 0).2.1, 0, none⟩) ∧ (x 0).2.1 = w.heap.size ∧ w' = w.alloc (.cells cs.toArray Ty)) :
    Mid F C it L pos β σ w0 (fun j => T j ∨ j = i) (fun j => if j = i then x else vs j) (a.put o.dst v) w' := by
  have hdi : dstAt L i = o.dst := by simp [dstAt, nth_eq, ho]
  have hval : vl it L pos σ (fun j => if j = i then x else vs j) i = v := by
    unfold vl
    cases h : kv it L pos σ i with
    | some u => exact (hv u h).symm
    | none =>
      rcases hf h with ⟨val, f, hp, rfl, _⟩ | ⟨Ty, cs, hp, rfl, _⟩
      · simp [hp]
      · simp [hp]
  have hoth : ∀ j, j ≠ i → vl it L pos σ (fun j => if j = i then x else vs j) j = vl it L pos σ vs j := fun j hj => by unfold vl; simp [hj]
  -- of two that write one slot the done one comes first
  have later : ∀ j t, T j → j < pos.length → dstAt L j = some t → o.dst = some t → j < i := by
    intro j t hj hjk hdj hdo
    rcases Nat.lt_trichotomy j i with h | h | h
    · exact h
    · subst h; exact absurd hj hT
    · obtain ⟨b, hb⟩ : ∃ b, L[j]? = some b := ⟨L[j]'(hcl j hj).1, by simp⟩
      have hp := hr.pair i j o b hi hjk ho hb
      have hdb : b.dst = some t := by simpa [dstAt, nth_eq, hb] using hdj
      have hblt : Nat.blt i j = true := Nat.ble_eq_true_of_le h
      simp only [okPair, hblt, hdb, hdo, Bool.or_eq_true] at hp
      rcases hp with hp | hp
      · exact absurd ((hcl j hj).2 i (memB_iff.1 hp)) hT
      · have : Nat.beq t t = true := Nat.beq_refl t
        simp [this] at hp
  have hsize : ∀ j Ty cs, T j → isAl it L pos σ j Ty cs → (vs j 0).2.1 < w.heap.size := fun j Ty cs hj hA =>
    (Array.getElem?_eq_some_iff.1 (hm.made j Ty cs hj hA).1).1
  -- what was allowed stays allowed
  have hN : ∀ k, k < w.heap.size → ¬ NA it L pos σ T vs k → ¬ NA it L pos σ (fun j => T j ∨ j = i) (fun j => if j = i then x else vs j) k := by
    rintro k hk hno ⟨j, Ty, cs, hj, hA, e⟩
    by_cases hji : j = i
    · subst hji
      rcases hf hA.2.1 with ⟨val, f, hp, _⟩ | ⟨Ty', cs', hp, _, hb, _⟩
      · rw [hA.2.2] at hp; cases hp
      · simp only [if_true] at e; omega
    · simp only [hji, if_false] at e
      exact hno ⟨j, Ty, cs, hj.resolve_right hji, hA, e⟩
  have hok : ∀ k, okN C w β (NA it L pos σ T vs) k → okN C w' β (NA it L pos σ (fun j => T j ∨ j = i) (fun j => if j = i then x else vs j)) k ∧ w'.heap[k]? = w.heap[k]? :=
    fun k hk => ⟨⟨(ok_step hx k hk.1).1, hN k hk.1.2.1 hk.2⟩, (ok_step hx k hk.1).2⟩
  refine ⟨?_, ?_, hm.ext.trans (hx.mono hm.ext.size), ?_, ?_, ?_, ?_, ?_⟩
  · cases hd : o.dst <;> simp [Act.put, hm.size]
  · cases hd : o.dst <;> simp [Act.put, hm.defers]
  · intro j hj hjk hk val f hp
    by_cases e : j = i
    · subst e
      rcases hf hk with ⟨val', f', hp', _, hh⟩ | ⟨Ty, cs, hp', _⟩
      · rw [hp] at hp'
        obtain ⟨rfl, rfl⟩ := Po.fa.inj (Option.some.inj hp')
        simp only [if_true]
        refine fun g hg => g.stable (fun k hk' => ⟨⟨hk'.1, ?_⟩, rfl⟩) (hh g hg)
        rintro ⟨m, Ty, cs, hmm, hA, e⟩
        by_cases hmj : m = j
        · subst hmj; have := hA.2.2; rw [hp] at this; cases this
        · simp only [hmj, if_false] at e
          exact hk'.2 ⟨m, Ty, cs, hmm.resolve_right hmj, hA, e⟩
      · rw [hp] at hp'; cases hp'
    · have := hm.fact j (hj.resolve_right e) hjk hk val f hp
      simp only [e, if_false]
      exact fun g hg => g.stable hok (this g hg)
  · intro j Ty cs hj hA
    by_cases e : j = i
    · subst e
      rcases hf hA.2.1 with ⟨val, f, hp, _⟩ | ⟨Ty', cs', hp, _, hb, rfl⟩
      · rw [hA.2.2] at hp; cases hp
      · rw [hA.2.2] at hp
        obtain ⟨rfl, rfl⟩ := Po.al.inj (Option.some.inj hp)
        simp only [if_true]
        rw [hb]
        exact ⟨heap_alloc_new w _, hm.ext.size⟩
    · simp only [e, if_false]
      have hTj := hj.resolve_right e
      obtain ⟨h1, h2⟩ := hm.made j Ty cs hTj hA
      exact ⟨by rw [hx.block _ (hsize j Ty cs hTj hA)]; exact h1, h2⟩
  · intro j m Ty cs Ty' cs' hj hmm hA hB hne
    by_cases e1 : j = i
    · subst e1
      have e2 : m ≠ j := fun e => hne e.symm
      simp only [if_true, e2, if_false]
      rcases hf hA.2.1 with ⟨val, f, hp, _⟩ | ⟨Ty2, cs2, hp, _, hb, _⟩
      · rw [hA.2.2] at hp; cases hp
      · have := hsize m Ty' cs' (hmm.resolve_right e2) hB
        omega
    · by_cases e2 : m = i
      · subst e2
        simp only [if_true, e1, if_false]
        rcases hf hB.2.1 with ⟨val, f, hp, _⟩ | ⟨Ty2, cs2, hp, _, hb, _⟩
        · rw [hB.2.2] at hp; cases hp
        · have := hsize j Ty cs (hj.resolve_right e1) hA
          omega
      · simp only [e1, e2, if_false]
        exact hm.apart j m Ty cs Ty' cs' (hj.resolve_right e1) (hmm.resolve_right e2) hA hB hne
  · intro t j hj hjk hd hmax
    by_cases e : j = i
    · subst e
      rw [hval]
      have hdo : o.dst = some t := hdi ▸ hd
      rw [hdo] at hout ⊢
      have hlt : t < a.tmps.size := by rw [hm.size]; exact Nat.le_of_ble_eq_true hout
      simp [Act.put, hlt]
    · have hTj := hj.resolve_right e
      have hne : o.dst ≠ some t := fun hdo => by
        have h1 := later j t hTj hjk hd hdo
        have h2 := hmax i (.inr rfl) hi (hdi.trans hdo)
        omega
      have := hm.last t j hTj hjk hd (fun m hm' hmk hmd => hmax m (.inl hm') hmk hmd)
      rw [hoth j e, ← this]
      cases hdo : o.dst with
      | none => rfl
      | some d =>
        have : d ≠ t := fun e => hne (by rw [hdo, e])
        simp only [Act.put]
        rw [Array.getElem?_setIfInBounds_ne this]
  · intro t u hno hu
    have hne : o.dst ≠ some t := fun hdo => hno i (.inr rfl) hi (hdi.trans hdo)
    have := hm.rest t u (fun j hj hjk => hno j (.inl hj) hjk) hu
    rw [← this]
    cases hdo : o.dst with
    | none => rfl
    | some d =>
      have : d ≠ t := fun e => hne (by rw [hdo, e])
      simp only [Act.put]
      rw [Array.getElem?_setIfInBounds_ne this]

/-- What an operation that is due reads is what stands there along the text. -/
theorem Mid.reads {w0 w : World} {T : Nat → Prop} {vs : Nat → Gh} {a : Act} {i : Nat} {o : Oper} (hr : RegOk L pt pos.length) (hm : Mid F C it L pos β σ w0 T vs a w) (hi : i < pos.length) (ho : L[i]? = some o) (hT : ¬ T i)
    (hcl : ∀ j, T j → j < L.length ∧ ∀ m ∈ preAt pt j, T m) (hpre : ∀ m ∈ preAt pt i, T m) : ∀ t ∈ readsOf L o, ∀ v, Fr.get t (lexF it L pos σ vs i) = some v → a.tmps[t]? = some v := by
  intro t ht v hv
  have hlt := hr.le
  -- a writer before it is done
  have before : ∀ j, j < i → dstAt L j = some t → T j := by
    intro j hj hd
    obtain ⟨b, hb⟩ : ∃ b, L[j]? = some b := ⟨L[j]'(by omega), by simp⟩
    have hp := hr.pair j i b o (by omega) hi hb ho
    have hdb : b.dst = some t := by simpa [dstAt, nth_eq, hb] using hd
    have hblt : Nat.blt j i = true := Nat.ble_eq_true_of_le hj
    simp only [okPair, hblt, hdb, Bool.or_eq_true, Bool.and_eq_true] at hp
    rcases hp with hp | ⟨_, hp, _⟩
    · exact hpre j (memB_iff.1 hp)
    · simp [memB_iff.2 ht] at hp
  have behind : ∀ j, T j → j < pos.length → dstAt L j = some t → j < i := by
    intro j hj hjk hd
    rcases Nat.lt_trichotomy j i with h | h | h
    · exact h
    · subst h; exact absurd hj hT
    · obtain ⟨b, hb⟩ : ∃ b, L[j]? = some b := ⟨L[j]'(hcl j hj).1, by simp⟩
      have hp := hr.pair i j o b hi hjk ho hb
      have hdb : b.dst = some t := by simpa [dstAt, nth_eq, hb] using hd
      have hblt : Nat.blt i j = true := Nat.ble_eq_true_of_le h
      simp only [okPair, hblt, hdb, Bool.or_eq_true, Bool.and_eq_true] at hp
      rcases hp with hp | ⟨hp, _⟩
      · exact absurd ((hcl j hj).2 i (memB_iff.1 hp)) hT
      · simp [memB_iff.2 ht] at hp
  rcases lexF_get vs t i v hv with ⟨j, h1, h2, h3, rfl⟩ | ⟨h1, h2⟩
  · exact hm.last t j (before j h1 h2) (by omega) h2 fun m hm' hmk hmd => h3 m (behind m hm' hmk hmd) hmd
  · exact hm.rest t v (fun j hj hjk hd => h1 j (behind j hj hjk hd) hd) h2


def cf : List Bool → Nat
  | [] => 0
  | true :: l => cf l
  | false :: l => cf l + 1

theorem cf_set : ∀ (l : List Bool) (i : Nat), l[i]? = some false → cf (l.set i true) + 1 = cf l := by
  intro l
  induction l with
  | nil => intro i h; simp at h
  | cons b l ih =>
    intro i h
    cases i with
    | zero => simp at h; subst h; simp [cf]
    | succ i =>
      have := ih i (by simpa using h)
      cases b <;> simp [cf] <;> omega

theorem cf_pos : ∀ (l : List Bool) (i : Nat), l[i]? = some false → 0 < cf l := by
  intro l i h
  have := cf_set l i h
  omega

theorem cf_rep : ∀ n, cf (List.replicate n false) = n := by
  intro n
  induction n with
  | zero => rfl
  | succ n ih => simp [List.replicate_succ, cf, ih]

theorem filter_one (p : Nat → Bool) (m : Nat) : ∀ n, (∀ i, i < n → (p i = true ↔ i = m)) → m < n → (List.range n).filter p = [m] := by
  intro n
  induction n with
  | zero => intro _ h; omega
  | succ n ih =>
    intro h hm
    rw [List.range_succ, List.filter_append]
    by_cases e : m = n
    · subst e
      have h0 : (List.range m).filter p = [] := by
        rw [List.filter_eq_nil_iff]
        intro i hi
        have hi' : i < m := by simpa using hi
        intro hp
        have := (h i (by omega)).1 hp
        omega
      rw [h0]
      simp [(h m (by omega)).2 rfl]
    · rw [ih (fun i hi => h i (by omega)) (by omega)]
      have : p n = false := by
        cases hp : p n with
        | false => rfl
        | true => exact absurd ((h n (by omega)).1 hp).symm e
      simp [this]

theorem mem_ready {L : List Oper} {listed : Array Bool} (hs : listed.size = L.length) {i : Nat} : i ∈ Region.ready .any L.toArray listed ↔ listed[i]? = some false ∧ ∃ o, L[i]? = some o ∧ ∀ e ∈ depsOf o, listed[e]? = some true := by
  simp only [Region.ready, List.mem_filter, List.mem_range, List.size_toArray, Bool.and_eq_true]
  constructor
  · rintro ⟨hi, h1, h2⟩
    have hl : listed[i]? = some listed[i] := by simp [hs, hi]
    refine ⟨?_, L[i], by simp [hi], fun e he => ?_⟩
    · simp [hl] at h1; rw [hl, h1]
    · simp only [List.getElem?_toArray, List.getElem?_eq_getElem hi, Option.map_some, Option.getD_some, Array.all_eq_true_iff_forall_mem] at h2
      obtain ⟨ed, hed, rfl⟩ := List.mem_map.1 he
      obtain ⟨hm, hb⟩ := List.mem_filter.1 hed
      have := h2 ed (by simpa using hm)
      rw [hb] at this
      simp at this
      cases hh : listed[ed.on]? with
      | none => simp [hh] at this
      | some b => simp [hh] at this; rw [this]
  · rintro ⟨h1, o, ho, h2⟩
    have hi : i < L.length := (List.getElem?_eq_some_iff.1 ho).1
    refine ⟨hi, by simp [h1], ?_⟩
    simp only [List.getElem?_toArray, ho, Option.map_some, Option.getD_some, Array.all_eq_true_iff_forall_mem]
    intro ed hed
    cases hb : Region.binds .any ed with
    | false => simp
    | true =>
      have := h2 ed.on (List.mem_map.2 ⟨ed, List.mem_filter.2 ⟨by simpa using hed, hb⟩, rfl⟩)
      simp [this]

theorem go_step (ops : Array Oper) (fuel t : Nat) (listed : Array Bool) : Region.linearise.go .any ops (fuel + 1) t listed [] =
    match (Region.ready .any ops listed)[t % (Region.ready .any ops listed).length]? with
    | some i => i :: Region.linearise.go .any ops fuel (t / (Region.ready .any ops listed).length) (listed.setIfInBounds i true) []
    | none => [] := by
  simp only [Region.linearise.go]
  change (match (Region.ready .any ops listed)[t % (Region.ready .any ops listed).length]? with
      | some i => Region.linearise.go .any ops fuel (t / (Region.ready .any ops listed).length) (listed.setIfInBounds i true) [i]
      | none => [].reverse) = _
  cases (Region.ready .any ops listed)[t % (Region.ready .any ops listed).length]? with
  | none => rfl
  | some i => simp only []; rw [linearise_go_acc]; rfl

theorem pick_ready (ops : Array Oper) (t : Nat) (listed : Array Bool) : ((Region.ready .any ops listed) = [] ∧ (Region.ready .any ops listed)[t % (Region.ready .any ops listed).length]? = none) ∨
    ∃ i, i ∈ Region.ready .any ops listed ∧ (Region.ready .any ops listed)[t % (Region.ready .any ops listed).length]? = some i := by
  cases hr : Region.ready .any ops listed with
  | nil => left; simp
  | cons x xs =>
    right
    have hlt : t % (x :: xs).length < (x :: xs).length := Nat.mod_lt _ (by simp)
    exact ⟨(x :: xs)[t % (x :: xs).length], List.getElem_mem _, List.getElem?_eq_getElem hlt⟩

/-- Behind the operations that are spoken of, the order is the text's. -/
theorem go_tail {k : Nat} (hr : RegOk L pt k) : ∀ (fuel t m : Nat) (listed : Array Bool), k ≤ m → m ≤ L.length → listed.size = L.length → (∀ i, i < L.length → listed[i]? = some (decide (i < m))) → L.length - m ≤ fuel →
    Region.linearise.go .any L.toArray fuel t listed [] = List.range' m (L.length - m) := by
  intro fuel
  induction fuel with
  | zero => intro t m listed _ hm _ _ hf; have : L.length - m = 0 := by omega
            rw [this]; simp [Region.linearise.go]
  | succ fuel ih =>
    intro t m listed hkm hm hs hl hf
    rw [go_step]
    by_cases e : m = L.length
    · have hnil : Region.ready .any L.toArray listed = [] := by
        rw [List.eq_nil_iff_forall_not_mem]
        intro i hi
        obtain ⟨h1, o, ho, _⟩ := (mem_ready hs).1 hi
        have hi' : i < L.length := (List.getElem?_eq_some_iff.1 ho).1
        have := hl i hi'
        rw [h1] at this
        simp at this
        omega
      rw [hnil, e]
      simp
    · have hone : Region.ready .any L.toArray listed = [m] := by
        refine filter_one _ m _ (fun i hi => ?_) (by simp; omega)
        have hi' : i < L.length := by simpa using hi
        have hmem : (i ∈ Region.ready .any L.toArray listed) ↔ i = m := by
          rw [mem_ready hs]
          constructor
          · rintro ⟨h1, o, ho, h2⟩
            have h3 := hl i hi'
            rw [h1] at h3
            simp at h3
            rcases Nat.lt_or_ge m i with hmi | hmi
            · have hcl : ∀ j ∈ preAt pt i, j < m := pre_in hr (T := fun j => j < m) (fun j o' hj ho' e he => Nat.lt_trans (hr.deps j o' ho' e he) hj) i hi' (fun o' ho' e he => by
                rw [ho] at ho'
                obtain rfl := Option.some.inj ho'
                have h4 := h2 e he
                have h5 := hr.deps i o ho e he
                have h6 := hl e (by omega)
                rw [h4] at h6
                simpa using h6.symm)
              have := hcl m (hr.tail i (by omega) hi' m hmi)
              omega
            · omega
          · rintro rfl
            refine ⟨by rw [hl i hi']; simp, L[i], by simp [hi'], fun e he => ?_⟩
            have h5 := hr.deps i L[i] (by simp [hi']) e he
            rw [hl e (by omega)]
            simp [h5]
        simp only [Region.ready, List.mem_filter, List.mem_range] at hmem
        constructor
        · intro hp; exact hmem.1 ⟨hi, hp⟩
        · intro e; exact (hmem.2 e).2
      rw [hone]
      simp only [List.length_singleton, Nat.mod_one, List.getElem?_cons_zero, Nat.div_one]
      rw [ih t (m + 1) (listed.setIfInBounds m true) (by omega) (by omega) (by simpa using hs) (fun i hi => ?_) (by omega)]
      · rw [show L.length - m = (L.length - (m + 1)) + 1 by omega, List.range'_succ]
      · rw [Array.getElem?_setIfInBounds]
        by_cases e2 : m = i
        · subst e2; simp [hs, hi]
        · rw [if_neg e2, hl i hi]
          congr 1
          simp only [decide_eq_decide]
          omega

/-- The region in whatever order, from half way on. -/
theorem at_rest {k : List Item} {w0 : World} (hr : RegOk L pt pos.length) (hL : ∀ (vs : Nat → Gh) (i : Nat), i ≤ pos.length → Lx it F C p S L pt β Γ R i (pos.drop i) (kap it L pos σ i) (lexF it L pos σ vs i) (lexFs it L pos σ vs i) (lexAl it L pos σ vs i))
    (hit : IntTys P it) (hO : Own C w0 β) (hG : ∀ g ∈ Γ, g.holds w0 (ok C w0 β))
    (fin : ∀ vs a w, Mid F C it L pos β σ w0 (fun i => i < pos.length) vs a w → At F (.inRegion L.toArray (List.range' pos.length (L.length - pos.length)) :: k) a w R) :
    ∀ (fuel t : Nat) (listed : Array Bool) (vs : Nat → Gh) (a : Act) (w : World), listed.size = L.length → (∀ (i : Nat), listed[i]? = some true → i < pos.length) →
      (∀ (i : Nat), listed[i]? = some true → ∀ (o : Oper), L[i]? = some o → ∀ e ∈ depsOf o, listed[e]? = some true) →
      cf listed.toList ≤ fuel → Mid F C it L pos β σ w0 (fun (i : Nat) => listed[i]? = some true) vs a w →
      At F (.inRegion L.toArray (Region.linearise.go .any L.toArray fuel t listed []) :: k) a w R := by
  intro fuel
  induction fuel with
  | zero =>
    intro t listed vs a w hs hlt hcl hf hm
    have hall : ∀ i, i < L.length → listed[i]? = some true := fun i hi => by
      have hl : listed[i]? = some listed[i] := by simp [hs, hi]
      cases hb : listed[i] with
      | true => rw [hl, hb]
      | false =>
        have := cf_pos listed.toList i (by rw [Array.getElem?_toList, hl, hb])
        omega
    have hk : L.length = pos.length := by
      have := hr.le
      rcases Nat.lt_or_ge pos.length L.length with h | h
      · have := hlt _ (hall pos.length h); omega
      · omega
    have hm' : Mid F C it L pos β σ w0 (fun i => i < pos.length) vs a w := by
      have e : (fun i => listed[i]? = some true) = (fun i => i < pos.length) := funext fun i => propext ⟨hlt i, fun h => hall i (by omega)⟩
      rwa [e] at hm
    have := fin vs a w hm'
    rw [hk, Nat.sub_self] at this
    simpa [Region.linearise.go] using this
  | succ fuel ih =>
    intro t listed vs a w hs hlt hcl hf hm
    by_cases hdone : ∀ i, i < pos.length → listed[i]? = some true
    · have hm' : Mid F C it L pos β σ w0 (fun i => i < pos.length) vs a w := by
        have e : (fun i => listed[i]? = some true) = (fun i => i < pos.length) := funext fun i => propext ⟨hlt i, hdone i⟩
        rwa [e] at hm
      have hl : ∀ i, i < L.length → listed[i]? = some (decide (i < pos.length)) := fun i hi => by
        by_cases h : i < pos.length
        · rw [hdone i h]; simp [h]
        · have hx : listed[i]? = some listed[i] := by simp [hs, hi]
          cases hb : listed[i] with
          | true => exact absurd (hlt i (by rw [hx, hb])) h
          | false => rw [hx, hb]; simp [h]
      have hcount : L.length - pos.length ≤ fuel + 1 := by
        have key : ∀ (l : List Bool) (n m : Nat), l.length = n → (∀ i, i < n → l[i]? = some (decide (i < m))) → n - m ≤ cf l := by
          intro l
          induction l with
          | nil => intro n m h _; simp at h; omega
          | cons b l ihl =>
            intro n m h hx
            cases n with
            | zero => simp at h
            | succ n =>
              have h0 := hx 0 (by omega)
              simp at h0
              have := ihl n (m - 1) (by simpa using h) (fun i hi => by
                have := hx (i + 1) (by omega)
                simp at this
                rw [this]
                congr 1
                simp only [decide_eq_decide]
                omega)
              cases b with
              | true => simp [cf] at h0 ⊢; omega
              | false => simp [cf] at h0 ⊢; omega
        have := key listed.toList L.length pos.length (by simpa using hs) (fun i hi => by rw [Array.getElem?_toList]; exact hl i hi)
        omega
      rw [go_tail hr (fuel + 1) t pos.length listed (Nat.le_refl _) hr.le hs hl hcount]
      exact fin vs a w hm'
    · obtain ⟨i0, hi0, hn0⟩ : ∃ i, i < pos.length ∧ listed[i]? ≠ some true := by
        simpa using hdone
      rw [go_step]
      have hclosed : ∀ j, listed[j]? = some true → j < L.length ∧ ∀ m ∈ preAt pt j, listed[m]? = some true := fun j hj => by
        have hjl : j < L.length := by have := hlt j hj; have := hr.le; omega
        exact ⟨hjl, pre_in hr (T := fun m => listed[m]? = some true) (fun i o hi ho => hcl i hi o ho) j hjl (fun o ho => hcl j hj o ho)⟩
      rcases pick_ready L.toArray t listed with ⟨hnil, _⟩ | ⟨i, hi, hpick⟩
      · -- some operation is due
        exfalso
        have key : ∀ n, n ≤ pos.length → (∀ j, j < n → listed[j]? = some true) := by
          intro n
          induction n with
          | zero => intro _ j hj; omega
          | succ n ihn =>
            intro hn j hj
            rcases Nat.lt_or_ge j n with h | h
            · exact ihn (by omega) j h
            · have e : j = n := by omega
              subst e
              have hjl : j < L.length := by have := hr.le; omega
              cases hb : listed[j]? with
              | none => rw [Array.getElem?_eq_none_iff] at hb; omega
              | some b =>
                cases b with
                | true => rfl
                | false =>
                  have : j ∈ Region.ready .any L.toArray listed := (mem_ready hs).2 ⟨hb, L[j], by simp [hjl], fun e he => ihn (by omega) e (hr.deps j _ (by simp [hjl]) e he)⟩
                  rw [hnil] at this; cases this
        exact hn0 (key pos.length (Nat.le_refl _) i0 hi0)
      · rw [hpick]
        simp only
        obtain ⟨hfalse, o, ho, hdeps⟩ := (mem_ready hs).1 hi
        have hil : i < L.length := (List.getElem?_eq_some_iff.1 ho).1
        have hpre : ∀ m ∈ preAt pt i, listed[m]? = some true :=
          pre_in hr (T := fun m => listed[m]? = some true) (fun i o hi ho => hcl i hi o ho) i hil (fun o' ho' e he => by rw [ho] at ho'; obtain rfl := Option.some.inj ho'; exact hdeps e he)
        have hik : i < pos.length := by
          rcases Nat.lt_or_ge i pos.length with h | h
          · exact h
          · exact absurd (hpre i0 (hr.tail i h hil i0 (by omega))) hn0
        have hTi : ¬ listed[i]? = some true := by rw [hfalse]; simp
        -- what is owed of it
        obtain ⟨po, hpo⟩ : ∃ po, nth pos i = some po := ⟨pos[i], by rw [nth_eq]; simp⟩
        have hlx := hL vs i (by omega)
        rw [drop_cons hpo] at hlx
        have hnth : nth L i = some o := by rw [nth_eq]; exact ho
        simp only [Lx, hnth] at hlx
        have hreads := hm.reads hr hik ho hTi hclosed hpre
        have hkv : kv it L pos σ i = known it L (kap it L pos σ i) o po := by simp only [kv, hnth, hpo]
        cases hout : outOk o.dst F.fn.ntmps with
        | false => rw [hout] at hlx; exact hlx.elim
        | true =>
          rw [hout] at hlx
          -- going on
          have next : ∀ (v : Value) (x : Gh) (w' : World), Ext w w' → (∀ u, kv it L pos σ i = some u → v = u) → (kv it L pos σ i = none → (∃ val f, nth pos i = some (.fa val f) ∧ v = val x ∧ ∀ g ∈ f x, g.holds w' (okN C w' β (NA it L pos σ (fun j => listed[j]? = some true) vs))) ∨
              ∃ Ty cs, nth pos i = some (.al Ty cs) ∧ v = .pointer (some ⟨(x 0).2.1, 0, none⟩) ∧ (x 0).2.1 = w.heap.size ∧ w' = w.alloc (.cells cs.toArray Ty)) →
              At F (.inRegion L.toArray (Region.linearise.go .any L.toArray fuel (t / (Region.ready .any L.toArray listed).length) (listed.setIfInBounds i true) []) :: k) (a.put o.dst v) w' R := by
            intro v x w' hx hv hf'
            have hm2 := hm.step hr hik ho hTi hclosed hout hx hv hf'
            have hget : ∀ j, (listed.setIfInBounds i true)[j]? = some true ↔ (listed[j]? = some true ∨ j = i) := by
              intro j
              rw [Array.getElem?_setIfInBounds]
              by_cases e : i = j
              · subst e
                simp [hs, hil]
              · rw [if_neg e]
                constructor
                · exact .inl
                · rintro (h | h)
                  · exact h
                  · exact absurd h.symm e
            have eT : (fun j => (listed.setIfInBounds i true)[j]? = some true) = (fun j => listed[j]? = some true ∨ j = i) := funext fun j => propext (hget j)
            refine ih _ _ _ _ _ (by simpa using hs) (fun j hj => ?_) (fun j hj o' ho' e he => ?_) ?_ (by rw [eT]; exact hm2)
            · rcases (hget j).1 hj with h | rfl
              · exact hlt j h
              · exact hik
            · rw [hget]
              rcases (hget j).1 hj with h | rfl
              · exact .inl (hcl j h o' ho' e he)
              · rw [ho] at ho'; obtain rfl := Option.some.inj ho'
                exact .inl (hdeps e he)
            · have := cf_set listed.toList i (by rw [Array.getElem?_toList]; exact hfalse)
              rw [Array.toList_setIfInBounds]
              omega
          have hsub := kap_sub (it := it) (L := L) (pos := pos) (σ := σ) vs i (by omega)
          have hoarr : L.toArray[i]? = some o := by simpa using ho
          -- the guard
          have hwant : ∀ b, gd L (kap it L pos σ i) o = some b → Region.wanted o (yielded L.toArray a.tmps) = b := by
            intro b hb
            unfold gd at hb
            unfold Region.wanted
            cases hgd : o.guard with
            | none => rw [hgd] at hb; simpa using hb
            | some jw =>
              obtain ⟨j, want⟩ := jw
              rw [hgd] at hb
              simp only at hb ⊢
              cases hj : nth L j with
              | none => rw [hj] at hb; simp at hb
              | some g =>
                rw [hj] at hb
                simp only at hb
                cases hgs : g.dst with
                | none => rw [hgs] at hb; simp at hb
                | some s =>
                  rw [hgs] at hb
                  simp only at hb
                  have hsr : s ∈ readsOf L o := by
                    refine List.mem_append.2 (.inr ?_)
                    simp [guardSlot, hgd, hj, hgs]
                  have hsl : ∀ c, Fr.get s (kap it L pos σ i) = some (.bool c) → yielded L.toArray a.tmps j = some c := fun c hc =>
                    yielded_slot (g := s) (by rw [nth_eq] at hj; simp [hj, hgs]) (hreads s hsr _ (hsub s _ hc))
                  split at hb
                  · rename_i hc; rw [hsl true hc]; obtain rfl := Option.some.inj hb; cases want <;> rfl
                  · rename_i hc; rw [hsl false hc]; obtain rfl := Option.some.inj hb; cases want <;> rfl
                  · rename_i hc
                    have hy : yielded L.toArray a.tmps j = none := by
                      have hd : (L.toArray[j]?).bind (·.dst) = some s := by rw [nth_eq] at hj; simp [hj, hgs]
                      have ht := hreads s hsr _ (hsub s _ hc)
                      have hd' : (L[j]?).bind (·.dst) = some s := by simpa using hd
                      simp [yielded, hd', ht]
                    rw [hy]; obtain rfl := Option.some.inj hb; cases want <;> rfl
                  · simp at hb
          -- running it
          have runs : ∀ (post : Value → World → Prop), Ex P o.op o.type (lexF it L pos σ vs i) w post → Out P post ((execOp a.eval o).run P w) := by
            intro post hx
            classical
            let ρ : Operand → Value := fun x => if x ∈ o.op.operands then a.eval x else (ev (lexF it L pos σ vs i) x).getD undef
            have hρ : ∀ x v, ev (lexF it L pos σ vs i) x = some v → ρ x = v := by
              intro x v hv
              by_cases hx : x ∈ o.op.operands
              · simp only [ρ, hx, if_true]
                cases x with
                | tmp s =>
                  have hs : s ∈ readsOf L o := List.mem_append.2 (.inl (List.mem_filterMap.2 ⟨.tmp s, by simpa using hx, rfl⟩))
                  have := hreads s hs v hv
                  simp [Act.eval, this]
                | const u => simpa [ev, Act.eval] using hv
                | global g => simpa [ev, Act.eval] using hv
                | func f => simpa [ev, Act.eval] using hv
              · simp only [ρ, hx, if_false, hv, Option.getD_some]
            have h1 := hx ρ hρ
            rw [← execOp_bare] at h1
            have e : execOp a.eval o = execOp ρ o := execOp_congr o (fun cs b => hr.noSel i o cs b ho) (fun x hx => by simp only [ρ, hx, if_true])
            rw [e]; exact h1
          have hO0 := hO.step hm.ext
          -- the blocks made since are nobody's there
          let N := NA it L pos σ (fun j => listed[j]? = some true) vs
          have hNsize : ∀ k, N k → w0.heap.size ≤ k ∧ k < w.heap.size := by
            rintro k ⟨j, Ty, cs, hj, hA, rfl⟩
            obtain ⟨h1, h2⟩ := hm.made j Ty cs hj hA
            exact ⟨h2, (Array.getElem?_eq_some_iff.1 h1).1⟩
          let C2 : Cx := ⟨w, okN C w β N, inB β⟩
          have hO' : Own C2 w β := ⟨Keep.refl _ _, fun x hx b hb => .inr ⟨x, hx, hb⟩, hO0.blk, hO0.apart⟩
          have hfacts : ∀ g ∈ sel (preAt pt i) (lexFs it L pos σ vs i) ++ Γ, g.holds w (ok C2 w β) := by
            intro g hg
            have up : g.holds w (okN C w β N) := by
              rcases List.mem_append.1 hg with hg | hg
              · obtain ⟨j, hj, hjg⟩ := mem_sel hg
                obtain ⟨h1, h2, val, f, h3, h4⟩ := mem_lexFs hjg
                exact hm.fact j (hpre j hj) (by omega) h2 val f h3 g h4
              · exact g.stable (fun k hk => ⟨⟨(ok_step hm.ext k hk).1, fun hn => by have := (hNsize k hn).1; have := hk.2.1; omega⟩, (ok_step hm.ext k hk).2⟩) (hG g hg)
            exact g.stable (fun k hk => ⟨⟨.inl hk, hk.1.2.1, hk.1.2.2⟩, rfl⟩) up
          have back : ∀ w', Ext w w' → ∀ g : Fact, g.holds w' (ok C2 w' β) → g.holds w' (okN C w' β N) := fun w' hx g hg =>
            g.stable (fun k hk => ⟨by
              rcases hk.1 with h | ⟨y, hy, hb⟩ | h
              · exact ⟨(ok_step hx k h.1).1, h.2⟩
              · exact absurd hb (hk.2.2 y hy)
              · have h' : w.heap.size ≤ k := h
                exact ⟨⟨.inr (.inr (Nat.le_trans hO0.ext.size h')), hk.2.1, hk.2.2⟩, fun hn => by have := (hNsize k hn).2; omega⟩, rfl⟩) hg
          cases hgb : gd L (kap it L pos σ i) o with
          | none => rw [hgb] at hlx; exact hlx.elim
          | some b =>
            rw [hgb] at hlx
            cases b with
            | false =>
              refine At_skip hoarr (hwant false hgb) (next undef (fun _ => default) w (Below.refl _ _) (fun u hu => ?_) (fun hn => ?_))
              · rw [hkv] at hu; simp only [known, hgb, Option.some.injEq] at hu; exact hu
              · rw [hkv] at hn; simp [known, hgb] at hn
            | true =>
              cases po with
              | auto =>
                simp only at hlx
                cases hp : pev it (kap it L pos σ i) o.op with
                | none => rw [hp] at hlx; exact hlx.elim
                | some vq =>
                  obtain ⟨v, q⟩ := vq
                  rw [hp] at hlx
                  have hpure : Pure P o.op o.type (kap it L pos σ i) w v := pev_sound hit hp hlx.1 w
                  have hex : Ex P o.op o.type (lexF it L pos σ vs i) w (fun u w' => u = v ∧ w' = w) := fun ρ hρ => hpure.ex ρ (fun x u hu => hρ x u (by
                    cases x with
                    | tmp s => exact hsub s u hu
                    | _ => exact hu))
                  refine At_op hoarr (hwant true hgb) (runs _ hex) ?_
                  rintro u w' ⟨rfl, rfl⟩
                  refine next u (fun _ => default) w' (Below.refl _ _) (fun u' hu => ?_) (fun hn => ?_)
                  · rw [hkv] at hu; simp only [known, hgb, hp, Option.map_some, Option.some.injEq] at hu; exact hu
                  · rw [hkv] at hn; simp [known, hgb, hp] at hn
              | eq v =>
                refine At_op hoarr (hwant true hgb) (runs _ (hlx.1 C2 w hO' hfacts)) ?_
                rintro u w' ⟨hx, _, rfl, _⟩
                refine next u (fun _ => default) w' hx (fun u' hu => ?_) (fun hn => ?_)
                · rw [hkv] at hu; simp only [known, hgb, Option.some.injEq] at hu; exact hu
                · rw [hkv] at hn; simp [known, hgb] at hn
              | fa val f =>
                refine At_op hoarr (hwant true hgb) (runs _ (hlx.1 C2 w hO' hfacts)) ?_
                rintro u w' ⟨hx, x, hux, hu⟩
                refine next u x w' hx (fun u' hu' => ?_) (fun _ => .inl ⟨val, f, hpo, hux, fun g hg => back w' hx g (hu g hg)⟩)
                rw [hkv] at hu'; simp [known, hgb] at hu'
              | al Ty cs =>
                refine At_op hoarr (hwant true hgb) (runs _ (hlx.1 w)) ?_
                rintro u w' ⟨rfl, rfl⟩
                refine next _ (fun _ => (none, w.heap.size, 0)) _ ((Below.refl _ _).alloc (Nat.le_refl _) _) (fun u' hu' => ?_) (fun _ => .inr ⟨Ty, cs, hpo, rfl, rfl, rfl⟩)
                rw [hkv] at hu'; simp [known, hgb] at hu'

def isDraw (B : Code) (p : List Nat) : Bool :=
  match sub p B with
  | .region _ _ true => true
  | _ => false

/-- A REGION THAT DRAWS ITS ORDER: the operations that are spoken of in 'pos' in whatever order, the others behind them. -/
theorem j_draw {it : List (TypeId × IntKind)} (hit : IntTys P it) (hmx : P.follows .mixedOrders = true) (pos : List Po) (hd : isDraw F.B p = true) (hc : regOk (opsOf (sub p F.B)) (mkPre (opsOf (sub p F.B)) []) pos.length = true)
    (h : Lx it F C p S (opsOf (sub p F.B)) (mkPre (opsOf (sub p F.B)) []) β Γ R 0 pos σ σ [] []) : J F C (.c p :: S) σ β Γ R := by
  intro w hO hG a ha
  have hr := regOk_spec hc
  obtain ⟨id, ops, hs⟩ : ∃ id ops, sub p F.B = .region id ops true := by
    unfold isDraw at hd
    cases hs : sub p F.B <;> rw [hs] at hd <;> try (simp at hd; done)
    rename_i id ops dr
    cases dr with
    | true => exact ⟨id, ops, rfl⟩
    | false => simp at hd
  have hops : opsOf (sub p F.B) = ops.toList := by rw [hs]; rfl
  have hO' := hO.drew
  have hG' := facts_drew hG
  intro cs
  refine At.of_step (F := F) (k' := .inRegion ops (Region.linearise.go .any ops ops.size (w.tape w.drawn (.order F.f id)) (Array.replicate ops.size false) []) :: S.map (It.item F.B)) (a' := a) (w' := w.drew) (fun cs => ?_) ?_ cs
  · have := step_region_draw (P := P) (b := F.base) (a := a) (k := S.map (It.item F.B)) (cs := cs) (w := w) (id := id) (ops := ops)
    simp only [List.map_cons, It.item, hs]
    rw [this]
    simp only [Region.schedule, hmx, Bool.true_or, if_true]
    rfl
  · have key := at_rest (R := R) (k := S.map (It.item F.B)) (w0 := w.drew) hr (fun vs i hi => lx_at h vs i hi) hit hO' hG' ?_ ops.size (w.tape w.drawn (.order F.f id)) (Array.replicate ops.size false) (fun _ _ => default) a w.drew
      (by rw [hops]; simp) (fun i hi => ?_) (fun i hi => ?_) (by simp [cf_rep]) ?_
    · rw [hops, Array.toArray_toList] at key
      exact key
    · -- behind the last
      intro vs a' w' hm
      have hfin := lx_at h vs pos.length (Nat.le_refl _)
      rw [List.drop_length] at hfin
      simp only [Lx] at hfin
      have hfit : Fits F.fn.ntmps (lexF it (opsOf (sub p F.B)) pos σ vs pos.length) a' := ⟨hm.size, hm.defers, fun t v hv => by
        rcases lexF_get vs t pos.length v hv with ⟨j, h1, h2, h3, rfl⟩ | ⟨h1, h2⟩
        · exact hm.last t j h1 h1 h2 fun m hm' _ hmd => h3 m hm' hmd
        · exact hm.rest t v (fun j hj _ => h1 j hj) h2⟩
      have hO2 := hO'.step hm.ext
      have hal : ∀ x ∈ lexAl it (opsOf (sub p F.B)) pos σ vs pos.length, ∀ b, x.1 = some b → NA it (opsOf (sub p F.B)) pos σ (fun i => i < pos.length) vs b ∧ w.drew.heap.size ≤ b ∧ w'.heap[b]? = some (.cells x.2.2.toArray x.2.1 (0, 0)) := by
        intro x hx b hb
        obtain ⟨j, T, cs, h1, h2, h3, rfl⟩ := mem_lexAl hx
        obtain rfl := Option.some.inj hb
        have hA : isAl it (opsOf (sub p F.B)) pos σ j T cs := ⟨h1, h2, h3⟩
        obtain ⟨g1, g2⟩ := hm.made j T cs h1 hA
        exact ⟨⟨j, T, cs, h1, hA, rfl⟩, g2, g1⟩
      have hown : Own C w' (lexAl it (opsOf (sub p F.B)) pos σ vs pos.length ++ β) := by
        refine ⟨hO2.ext, fun x hx b hb => ?_, fun x hx b hb => ?_, ?_⟩
        · rcases List.mem_append.1 hx with hx | hx
          · exact .inl (Nat.le_trans hO'.ext.size (hal x hx b hb).2.1)
          · exact hO2.new x hx b hb
        · rcases List.mem_append.1 hx with hx | hx
          · exact (hal x hx b hb).2.2
          · exact hO2.blk x hx b hb
        · refine Distinct.append (lexAl_distinct pos.length (Nat.le_refl _) fun j j' T cs T' cs' h1 h2 => hm.apart j j' T cs T' cs' h1 h2) hO2.apart fun x hx y hy b hb hyb => ?_
          have h1 := (hal x hx b hb).2.1
          have h2 := hO'.lt hy hyb
          omega
      have hokN : ∀ k, okN C w' β (NA it (opsOf (sub p F.B)) pos σ (fun i => i < pos.length) vs) k → ok C w' (lexAl it (opsOf (sub p F.B)) pos σ vs pos.length ++ β) k := fun k hk =>
        ⟨hk.1.1, hk.1.2.1, fun x hx e => by
          rcases List.mem_append.1 hx with hx | hx
          · exact hk.2 (hal x hx k e).1
          · exact hk.1.2.2 x hx e⟩
      have := hfin w' hown (fun g hg => ?_) a' hfit
      · exact this
      · refine g.stable (A := okN C w' β (NA it (opsOf (sub p F.B)) pos σ (fun i => i < pos.length) vs)) (fun k hk => ⟨hokN k hk, rfl⟩) ?_
        rcases List.mem_append.1 hg with hg | hg
        · obtain ⟨⟨j, g'⟩, hjg, rfl⟩ := List.mem_map.1 hg
          obtain ⟨h1, h2, val, f, h3, h4⟩ := mem_lexFs hjg
          exact hm.fact j h1 h1 h2 val f h3 _ h4
        · exact g.stable (fun k hk => ⟨⟨(ok_step hm.ext k hk).1, by
            rintro ⟨j, T, cs, hj, hA, e⟩
            have h1 := (hm.made j T cs hj hA).2
            have h2 := hk.2.1
            omega⟩, (ok_step hm.ext k hk).2⟩) (hG' g hg)
    · exfalso
      rw [Array.getElem?_replicate] at hi
      split at hi <;> simp at hi
    · exfalso
      rw [Array.getElem?_replicate] at hi
      split at hi <;> simp at hi
    · refine ⟨ha.size, ha.defers, Below.refl _ _, fun i hi => ?_, fun i _ _ hi => ?_, fun i _ _ _ _ _ hi => ?_, fun t i hi => ?_, fun t v _ hv => ha.get t v hv⟩ <;>
      · exfalso
        rw [Array.getElem?_replicate] at hi
        split at hi <;> simp at hi

end
end Go.Fw
