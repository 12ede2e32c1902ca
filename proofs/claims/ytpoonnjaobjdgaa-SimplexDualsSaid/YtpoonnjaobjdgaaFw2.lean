/-
The second text of the frame: one operation of a region, in its turn.
-/
import Derived.Test.YtpoonnjaobjdgaaFw1
namespace Go.Fw

def At {P : Program} (F : Fun P) (k : List Item) (a : Act) (w : World) (R : Value → World → Prop) : Prop :=
  ∀ cs : List Frame, ∃ e w' fr, Ret R e w' ∧ Comes P (lone (F.base.at a k) cs w) (lone fr cs w') e ∧ fr.fn = F.f ∧ fr.leaving P w' e

theorem run_iff_at {P : Program} {F : Fun P} {S : List It} {σ : Fr} {w : World} {R : Value → World → Prop} :
    Run F S σ w R ↔ ∀ a, Fits F.fn.ntmps σ a → At F (S.map (It.item F.B)) a w R := Iff.rfl

/-- What an operation comes to. -/
def Out (P : Program) (post : Value → World → Prop) : Result Next → Prop
  | .ok (.value v) w => post v w
  | .ok .skip w => post undef w
  | .ok (.enter f args) w => Calls P f args w (Ret post)
  | _ => False

theorem Out.mono {P : Program} {post post' : Value → World → Prop} (h : ∀ v w, post v w → post' v w) : ∀ {r : Result Next}, Out P post r → Out P post' r := by
  intro r hr
  cases r with
  | halt x w => exact hr.elim
  | ok n w =>
    cases n with
    | value v => exact h _ _ hr
    | skip => exact h _ _ hr
    | enter f args =>
      refine Calls.mono hr fun e w' he => ?_
      cases e with
      | returned v => exact h _ _ he
      | panicked _ => exact he
      | outgrown => exact he
    | _ => exact hr.elim

theorem At.of_step {P : Program} {F : Fun P} {k k' : List Item} {a a' : Act} {w w' : World} {R : Value → World → Prop}
    (hs : ∀ cs, step P (lone (F.base.at a k) cs w) = .next (lone (F.base.at a' k') cs w')) (h : At F k' a' w' R) : At F k a w R := fun cs =>
  let ⟨e, w'', fr, hr, hc, rest⟩ := h cs
  ⟨e, w'', fr, hr, .of_steps (.one (hs cs)) hc, rest⟩

section
variable {P : Program} {F : Fun P} {k : List Item} {a : Act} {w : World} {R : Value → World → Prop} {ops : Array Oper} {i : Nat} {rest : List Nat} {o : Oper}

theorem At_op (ho : ops[i]? = some o) (hw : Region.wanted o (yielded ops a.tmps) = true) {post : Value → World → Prop} (hx : Out P post ((execOp a.eval o).run P w))
    (h : ∀ v w', post v w' → At F (.inRegion ops rest :: k) (a.put o.dst v) w' R) : At F (.inRegion ops (i :: rest) :: k) a w R := by
  intro cs
  have hg := stepG_op (P := P) (b := F.base) (k := k) (cs := cs) (w := w) (rest := rest) ho hw
  have hfin : ∀ v, (F.base.at a (.inRegion ops (i :: rest) :: k)).finish v = F.base.at (a.put o.dst v) (.inRegion ops rest :: k) := by
    intro v; rw [Frame.finish_at, ho]; rfl
  generalize hr : (execOp a.eval o).run P w = r at hx
  cases r with
  | halt x w' => exact hx.elim
  | ok n w' =>
    cases n with
    | value v =>
      refine At.of_step (fun cs => step_lone_go ?_) (h v w' hx) cs
      have hg := stepG_op (P := P) (b := F.base) (k := k) (cs := cs) (w := w) (rest := rest) ho hw
      rw [hg, ← hfin]; simp [stepG.apply, hr]
    | skip =>
      refine At.of_step (fun cs => step_lone_go ?_) (h undef w' hx) cs
      have hg := stepG_op (P := P) (b := F.base) (k := k) (cs := cs) (w := w) (rest := rest) ho hw
      rw [hg, ← hfin]; simp [stepG.apply, hr]
    | enter f args =>
      obtain ⟨e, w'', fr, hR, hsteps, _, hleave⟩ := hx (F.base.at a (.inRegion ops (i :: rest) :: k) :: cs)
      have henter : step P (lone (F.base.at a (.inRegion ops (i :: rest) :: k)) cs w) =
          .next (lone (Frame.enter P f args .normal) (F.base.at a (.inRegion ops (i :: rest) :: k) :: cs) w') :=
        step_lone_go (by rw [hg]; simp [stepG.apply, hr, Frame.at])
      cases e with
      | returned v =>
        obtain ⟨e, w₃, fr', hq, harr, hrest⟩ := h v w'' hR cs
        refine ⟨e, w₃, fr', hq, .of_steps (.head henter (hsteps.trans (.one ?_))) harr, hrest⟩
        rw [← hfin]; exact step_leave_returned hleave
      | panicked _ => exact hR.elim
      | outgrown => exact hR.elim
    | _ => exact hx.elim

theorem At_skip (ho : ops[i]? = some o) (hw : Region.wanted o (yielded ops a.tmps) = false)
    (h : At F (.inRegion ops rest :: k) (a.put o.dst undef) w R) : At F (.inRegion ops (i :: rest) :: k) a w R := by
  refine At.of_step (fun cs => ?_) h
  have := step_op_skip (P := P) (b := F.base) (a := a) (k := k) (cs := cs) (w := w) (ops := ops) (i := i) (rest := rest) (by simp [ho, hw])
  rw [ho] at this
  exact this

theorem At_done (h : At F k a w R) : At F (.inRegion ops [] :: k) a w R := At.of_step (fun _ => step_region_end) h
end

/-! ### In sequence -/

def nth {α : Type} : List α → Nat → Option α
  | [], _ => none
  | x :: _, 0 => some x
  | _ :: l, n + 1 => nth l n

theorem nth_eq {α : Type} (l : List α) : ∀ n, nth l n = l[n]? := by
  induction l with
  | nil => intro n; simp [nth]
  | cons x l ih => intro n; cases n with
    | zero => simp [nth]
    | succ n => simp [nth, ih]

/-- An operation at its place, without its notes; none where it is guarded, or writes outside of the slots. -/
def opAt {P : Program} (F : Fun P) (p : List Nat) (i : Nat) : Option (Option Tmp × Op × TypeId) :=
  match nth (opsOf (sub p F.B)) i with
  | some ⟨dst, op, ty, _, _, none⟩ => match dst with
    | none => some (none, op, ty)
    | some d => match Nat.blt d F.fn.ntmps with
      | true => some (some d, op, ty)
      | false => none
  | _ => none

def bare (op : Op) (ty : TypeId) : Oper := { dst := none, op := op, type := ty, pos := "", after := #[], guard := none }

theorem execOp_bare (ρ : Operand → Value) (o : Oper) : execOp ρ o = execOp ρ (bare o.op o.type) := by
  cases o with
  | mk dst op ty pos after guard => cases op <;> rfl

/-- An operation, over whatever act fits the frame, comes to such a value in such a world. -/
def Ex (P : Program) (op : Op) (ty : TypeId) (σ : Fr) (w : World) (post : Value → World → Prop) : Prop :=
  ∀ ρ : Operand → Value, (∀ x v, ev σ x = some v → ρ x = v) → Out P post ((execOp ρ (bare op ty)).run P w)

theorem Ex.mono {P : Program} {op : Op} {ty : TypeId} {σ : Fr} {w : World} {post post' : Value → World → Prop} (h : Ex P op ty σ w post) (hh : ∀ v w, post v w → post' v w) : Ex P op ty σ w post' :=
  fun ρ hρ => (h ρ hρ).mono hh

def putF (d : Option Tmp) (v : Value) (σ : Fr) : Fr :=
  match d with
  | none => σ
  | some d => (d, v) :: σ

section
variable {P : Program} {F : Fun P} {S : List It} {σ : Fr} {w : World} {R : Value → World → Prop} {p : List Nat} {i : Nat} {d : Option Tmp} {op : Op} {ty : TypeId}

theorem opAt_some (ho : opAt F p i = some (d, op, ty)) : ∃ pos after, nth (opsOf (sub p F.B)) i = some ⟨d, op, ty, pos, after, none⟩ ∧ ∀ t, d = some t → t < F.fn.ntmps := by
  unfold opAt at ho
  cases h : nth (opsOf (sub p F.B)) i with
  | none => rw [h] at ho; simp at ho
  | some o =>
    rw [h] at ho
    obtain ⟨dst, op', ty', pos, after, guard⟩ := o
    cases guard with
    | some g => simp at ho
    | none =>
      cases dst with
      | none =>
        simp at ho
        obtain ⟨rfl, rfl, rfl⟩ := ho
        exact ⟨pos, after, rfl, fun t ht => by simp at ht⟩
      | some dd =>
        simp only at ho
        cases hb : Nat.blt dd F.fn.ntmps with
        | false => rw [hb] at ho; simp at ho
        | true =>
          rw [hb] at ho
          simp at ho
          obtain ⟨rfl, rfl, rfl⟩ := ho
          refine ⟨pos, after, rfl, fun t ht => ?_⟩
          obtain rfl := Option.some.inj ht
          exact Nat.le_of_ble_eq_true hb

theorem Fits.putF {n : Nat} {a : Act} (h : Fits n σ a) (hd : ∀ t, d = some t → t < n) (v : Value) : Fits n (putF d v σ) (a.put d v) := by
  cases d with
  | none => exact h
  | some d => exact h.put (hd d rfl) v

theorem item_o {o : Oper} (h : nth (opsOf (sub p F.B)) i = some o) :
    It.item F.B (.o p i) = .inRegion (opsOf (sub p F.B)).toArray (i :: List.range' (i + 1) ((opsOf (sub p F.B)).length - (i + 1))) ∧ (opsOf (sub p F.B)).toArray[i]? = some o := by
  rw [nth_eq] at h
  have hlt : i < (opsOf (sub p F.B)).length := by
    rcases Nat.lt_or_ge i (opsOf (sub p F.B)).length with h' | h'
    · exact h'
    · simp [List.getElem?_eq_none h'] at h
  refine ⟨?_, by simpa using h⟩
  have e : (opsOf (sub p F.B)).length - i = ((opsOf (sub p F.B)).length - (i + 1)) + 1 := by omega
  simp only [It.item, e, List.range'_succ]

/-- One operation in its turn. -/
theorem run_op {post : Value → World → Prop} (ho : opAt F p i = some (d, op, ty)) (hx : Ex P op ty σ w post)
    (h : ∀ v w', post v w' → Run F (.o p (i + 1) :: S) (putF d v σ) w' R) : Run F (.o p i :: S) σ w R := by
  obtain ⟨pos, after, hn, hd⟩ := opAt_some ho
  obtain ⟨e1, e2⟩ := item_o (F := F) hn
  intro a ha
  simp only [List.map_cons, e1]
  refine At_op e2 (by simp [Region.wanted]) (post := post) ?_ fun v w' hv => ?_
  · rw [execOp_bare]
    exact hx a.eval fun x v hv => ha.eval hv
  · exact h v w' hv (a.put d v) (ha.putF hd v)

/-- An operation whose value is known outright, and which leaves the world alone. -/
def Pure (P : Program) (op : Op) (ty : TypeId) (σ : Fr) (w : World) (v : Value) : Prop :=
  ∀ ρ : Operand → Value, (∀ x v, ev σ x = some v → ρ x = v) → (execOp ρ (bare op ty)).run P w = .ok (.value v) w

theorem Pure.ex {v : Value} (h : Pure P op ty σ w v) : Ex P op ty σ w (fun u w' => u = v ∧ w' = w) := fun ρ hρ => by
  rw [h ρ hρ]; exact ⟨rfl, rfl⟩

theorem run_pure {v : Value} (ho : opAt F p i = some (d, op, ty)) (hx : Pure P op ty σ w v)
    (h : Run F (.o p (i + 1) :: S) (putF d v σ) w R) : Run F (.o p i :: S) σ w R :=
  run_op ho hx.ex fun u w' ⟨h1, h2⟩ => by subst h1; subst h2; exact h

/-! ### A guarded operation -/

/-- A guarded operation: the slot of the test, what it must hold, and the operation. -/
def opAtG {P : Program} (F : Fun P) (p : List Nat) (i : Nat) : Option (Tmp × Bool × Option Tmp × Op × TypeId) :=
  match nth (opsOf (sub p F.B)) i with
  | some ⟨dst, op, ty, _, _, some (j, want)⟩ =>
    match (nth (opsOf (sub p F.B)) j).bind (·.dst) with
    | some g => match dst with
      | none => some (g, want, none, op, ty)
      | some d => match Nat.blt d F.fn.ntmps with
        | true => some (g, want, some d, op, ty)
        | false => none
    | none => none
  | _ => none

theorem opAtG_some {g : Tmp} {want : Bool} (ho : opAtG F p i = some (g, want, d, op, ty)) : ∃ pos after j, nth (opsOf (sub p F.B)) i = some ⟨d, op, ty, pos, after, some (j, want)⟩ ∧
    (nth (opsOf (sub p F.B)) j).bind (·.dst) = some g ∧ ∀ t, d = some t → t < F.fn.ntmps := by
  unfold opAtG at ho
  cases h : nth (opsOf (sub p F.B)) i with
  | none => rw [h] at ho; simp at ho
  | some o =>
    rw [h] at ho
    obtain ⟨dst, op', ty', pos, after, guard⟩ := o
    cases guard with
    | none => simp at ho
    | some gg =>
      obtain ⟨j, want'⟩ := gg
      simp only at ho
      cases hj : (nth (opsOf (sub p F.B)) j).bind (·.dst) with
      | none => rw [hj] at ho; simp at ho
      | some g' =>
        rw [hj] at ho
        cases dst with
        | none =>
          simp at ho
          obtain ⟨rfl, rfl, rfl, rfl, rfl⟩ := ho
          exact ⟨pos, after, j, rfl, hj, fun t ht => by simp at ht⟩
        | some dd =>
          simp only at ho
          cases hb : Nat.blt dd F.fn.ntmps with
          | false => rw [hb] at ho; simp at ho
          | true =>
            rw [hb] at ho
            simp at ho
            obtain ⟨rfl, rfl, rfl, rfl, rfl⟩ := ho
            refine ⟨pos, after, j, rfl, hj, fun t ht => ?_⟩
            obtain rfl := Option.some.inj ht
            exact Nat.le_of_ble_eq_true hb

end

theorem yielded_slot {ops : Array Oper} {tmps : Array Value} {j g : Nat} {b : Bool} (hj : (ops[j]?).bind (·.dst) = some g) (hv : tmps[g]? = some (.bool b)) : yielded ops tmps j = some b := by
  cases ho : ops[j]? with
  | none => rw [ho] at hj; simp at hj
  | some o =>
    rw [ho] at hj
    have hd : o.dst = some g := by simpa using hj
    simp [yielded, ho, hd, hv]

section
variable {P : Program} {F : Fun P} {S : List It} {σ : Fr} {w : World} {R : Value → World → Prop} {p : List Nat} {i : Nat} {d : Option Tmp} {op : Op} {ty : TypeId}

theorem yielded_of {j g : Nat} {b : Bool} {a : Act} (ha : Fits F.fn.ntmps σ a) (hj : (nth (opsOf (sub p F.B)) j).bind (·.dst) = some g) (hb : Fr.get g σ = some (.bool b)) :
    yielded (opsOf (sub p F.B)).toArray a.tmps j = some b := by
  refine yielded_slot (g := g) ?_ (ha.get _ _ hb)
  rw [nth_eq] at hj
  simpa using hj

theorem run_guard {g : Tmp} {want : Bool} {post : Value → World → Prop} (ho : opAtG F p i = some (g, want, d, op, ty)) (hb : Fr.get g σ = some (.bool want)) (hx : Ex P op ty σ w post)
    (h : ∀ v w', post v w' → Run F (.o p (i + 1) :: S) (putF d v σ) w' R) : Run F (.o p i :: S) σ w R := by
  obtain ⟨pos, after, j, hn, hj, hd⟩ := opAtG_some ho
  obtain ⟨e1, e2⟩ := item_o (F := F) hn
  intro a ha
  simp only [List.map_cons, e1]
  have hy := yielded_of (F := F) (p := p) ha hj hb
  refine At_op e2 (by simp [Region.wanted, hy]) (post := post) ?_ fun v w' hv => ?_
  · rw [execOp_bare]
    exact hx a.eval fun x v hv => ha.eval hv
  · exact h v w' hv (a.put d v) (ha.putF hd v)

theorem run_guard_pure {g : Tmp} {want : Bool} {v : Value} (ho : opAtG F p i = some (g, want, d, op, ty)) (hb : Fr.get g σ = some (.bool want)) (hx : Pure P op ty σ w v)
    (h : Run F (.o p (i + 1) :: S) (putF d v σ) w R) : Run F (.o p i :: S) σ w R :=
  run_guard ho hb hx.ex fun u w' ⟨h1, h2⟩ => by subst h1; subst h2; exact h

theorem run_guard_skip {g : Tmp} {want b : Bool} (ho : opAtG F p i = some (g, want, d, op, ty)) (hb : Fr.get g σ = some (.bool b)) (hne : (b == want) = false)
    (h : Run F (.o p (i + 1) :: S) (putF d undef σ) w R) : Run F (.o p i :: S) σ w R := by
  obtain ⟨pos, after, j, hn, hj, hd⟩ := opAtG_some ho
  obtain ⟨e1, e2⟩ := item_o (F := F) hn
  intro a ha
  simp only [List.map_cons, e1]
  have hy := yielded_of (F := F) (p := p) ha hj hb
  refine At_skip e2 (by simp [Region.wanted, hy]; simpa using hne) ?_
  exact h (a.put d undef) (ha.putF hd undef)

/-- What a test came to is found out here: both outcomes. -/
theorem run_split {t : Tmp} {b : Bool} (hb : Fr.get t σ = some (.bool b)) (h1 : b = true → Run F S ((t, .bool true) :: σ) w R) (h2 : b = false → Run F S ((t, .bool false) :: σ) w R) : Run F S σ w R := by
  cases b with
  | true => exact run_sub (Fr.sub_cons hb (Fr.sub_refl σ)) (h1 rfl)
  | false => exact run_sub (Fr.sub_cons hb (Fr.sub_refl σ)) (h2 rfl)

theorem run_split_dec {t : Tmp} {q : Prop} [Decidable q] (hb : Fr.get t σ = some (.bool (decide q))) (h1 : q → Run F S ((t, .bool true) :: σ) w R) (h2 : ¬ q → Run F S ((t, .bool false) :: σ) w R) : Run F S σ w R :=
  run_split hb (fun h => h1 (of_decide_eq_true h)) (fun h => h2 (of_decide_eq_false h))
end
end Go.Fw
