/-
The first text of a small frame of laws for walking loaded functions: a run of one function is stated over a stack of places in its body (paths, not code) and over a sparse list of the slots that still matter.
-/
import Derived.Calls
import Derived.Orders
import Derived.KernelRfl
import Derived.Laws.AppendOwn
import Derived.Laws.OwnMore
namespace Go.Fw

/-- The slots that matter, the newest first. -/
abbrev Fr := List (Nat × Value)

def Fr.get (t : Nat) : Fr → Option Value
  | [] => none
  | (i, v) :: l => match Nat.beq i t with
    | true => some v
    | false => Fr.get t l

structure Fits (n : Nat) (σ : Fr) (a : Act) : Prop where
  size : a.tmps.size = n
  defers : a.defers = []
  get : ∀ t v, Fr.get t σ = some v → a.tmps[t]? = some v

def ev (σ : Fr) : Operand → Option Value
  | .tmp t => Fr.get t σ
  | .const v => some v
  | .global g => some (.pointer (some ⟨g, 0, none⟩))
  | .func f => some (.func (.func f) #[] #[])

theorem Fits.eval {n : Nat} {σ : Fr} {a : Act} (h : Fits n σ a) {x : Operand} {v : Value} (hx : ev σ x = some v) : a.eval x = v := by
  cases x with
  | tmp t =>
    have := h.get t v hx
    simp [Act.eval, this]
  | const u => simpa [ev, Act.eval] using hx
  | global g => simpa [ev, Act.eval] using hx
  | func f => simpa [ev, Act.eval] using hx

theorem Fits.put {n : Nat} {σ : Fr} {a : Act} (h : Fits n σ a) {d : Nat} (hd : d < n) (v : Value) : Fits n ((d, v) :: σ) (a.put (some d) v) := by
  refine ⟨by simpa [Act.put] using h.size, h.defers, fun t u hu => ?_⟩
  simp only [Fr.get] at hu
  simp only [Act.put]
  cases hb : Nat.beq d t with
  | true =>
    rw [hb] at hu
    have e : d = t := Nat.eq_of_beq_eq_true hb
    subst e
    have : v = u := by simpa using hu
    subst this
    have hs : d < a.tmps.size := by rw [h.size]; exact hd
    simp [hs]
  | false =>
    rw [hb] at hu
    have e : d ≠ t := Nat.ne_of_beq_eq_false hb
    rw [Array.getElem?_setIfInBounds_ne e]
    exact h.get t u hu

/-- Putting `v` into a slot whose old value does not matter keeps what the frame says of the others. -/
def Fr.del (d : Nat) : Fr → Fr
  | [] => []
  | (i, v) :: l => match Nat.beq i d with
    | true => Fr.del d l
    | false => (i, v) :: Fr.del d l

theorem Fr.get_del (d t : Nat) (σ : Fr) (v : Value) (h : Fr.get t (Fr.del d σ) = some v) : t ≠ d ∧ Fr.get t σ = some v := by
  induction σ with
  | nil => simp [Fr.del, Fr.get] at h
  | cons p l ih =>
    obtain ⟨i, u⟩ := p
    simp only [Fr.del] at h
    cases hb : Nat.beq i d with
    | true =>
      rw [hb] at h
      have e : i = d := Nat.eq_of_beq_eq_true hb
      obtain ⟨h1, h2⟩ := ih h
      refine ⟨h1, ?_⟩
      simp only [Fr.get]
      have : Nat.beq i t = false := by
        cases hc : Nat.beq i t with
        | true => have := Nat.eq_of_beq_eq_true hc; omega
        | false => rfl
      rw [this]; exact h2
    | false =>
      rw [hb] at h
      simp only [Fr.get] at h ⊢
      cases hc : Nat.beq i t with
      | true =>
        rw [hc] at h
        have e : i = t := Nat.eq_of_beq_eq_true hc
        have e2 : i ≠ d := Nat.ne_of_beq_eq_false hb
        exact ⟨by omega, h⟩
      | false =>
        rw [hc] at h
        exact ih h

/-- What a frame says is said by another. -/
def Fr.sub (σ' σ : Fr) : Prop := ∀ t v, Fr.get t σ' = some v → Fr.get t σ = some v

theorem Fr.sub_refl (σ : Fr) : Fr.sub σ σ := fun _ _ h => h
theorem Fr.sub_nil (σ : Fr) : Fr.sub [] σ := fun _ _ h => by simp [Fr.get] at h
theorem Fr.sub_cons {i : Nat} {v : Value} {σ' σ : Fr} (h : Fr.get i σ = some v) (hs : Fr.sub σ' σ) : Fr.sub ((i, v) :: σ') σ := by
  intro t u hu
  simp only [Fr.get] at hu
  cases hb : Nat.beq i t with
  | true =>
    rw [hb] at hu
    have e : i = t := Nat.eq_of_beq_eq_true hb
    subst e
    have : v = u := by simpa using hu
    subst this
    exact h
  | false => rw [hb] at hu; exact hs t u hu

theorem Fr.sub_consI {i : Nat} {k : IntKind} {m n : Int} {σ' σ : Fr} (h : Fr.get i σ = some (.int k m)) (e : m = n) (hs : Fr.sub σ' σ) : Fr.sub ((i, .int k n) :: σ') σ :=
  Fr.sub_cons (e ▸ h) hs
theorem Fr.sub_consS {i : Nat} {pa : Option Addr} {m n c c' : Nat} {σ' σ : Fr} (h : Fr.get i σ = some (.slice pa m c)) (e : m = n) (e' : c = c') (hs : Fr.sub σ' σ) : Fr.sub ((i, .slice pa n c') :: σ') σ :=
  Fr.sub_cons (e ▸ e' ▸ h) hs

theorem Fits.sub {n : Nat} {σ σ' : Fr} {a : Act} (h : Fits n σ a) (hs : Fr.sub σ' σ) : Fits n σ' a :=
  ⟨h.size, h.defers, fun t v hv => h.get t v (hs t v hv)⟩

/-! ### Places in a body -/

def child : Code → Nat → Code
  | .seq a _, 0 => a
  | .seq _ b, _ + 1 => b
  | .cond _ a _, 0 => a
  | .cond _ _ b, _ + 1 => b
  | .block _ b, _ => b
  | .loop b, _ => b
  | .scope b, _ => b
  | c, _ => c

def sub : List Nat → Code → Code
  | [], c => c
  | k :: p, c => sub p (child c k)

theorem sub_append (p q : List Nat) : ∀ c : Code, sub (p ++ q) c = sub q (sub p c) := by
  induction p with
  | nil => exact fun _ => rfl
  | cons k p ih => exact fun c => ih _

/-- One thing that is still to be done: the code at a place; the operations of a region from one on; the end of a block; the way back into a loop. -/
inductive It where
  | c (p : List Nat)
  | o (p : List Nat) (i : Nat)
  | blk (id : Nat)
  | lp (p : List Nat)

def opsOf : Code → List Oper
  | .region _ ops _ => ops.toList
  | _ => []

def It.item (B : Code) : It → Item
  | .c p => .code (sub p B)
  | .o p i => .inRegion (opsOf (sub p B)).toArray (List.range' i ((opsOf (sub p B)).length - i))
  | .blk id => .inBlock id
  | .lp p => .inLoop (sub p B)

/-- A function of a program, with its body. -/
structure Fun (P : Program) where
  f : FuncId
  fn : Func
  B : Code
  hf : P.funcs[f]? = some fn
  hb : fn.body = some B
  hn : (fn.name == "runtime.NumGoroutine") = false

def Fun.base {P : Program} (F : Fun P) : Frame := { (default : Frame) with fn := F.f, kind := .normal }

/-- A call returns, and what it returns and leaves is so. -/
def Ret (R : Value → World → Prop) : Ending → World → Prop
  | .returned v, w => R v w
  | _, _ => False

/-- From here on the function returns, and what it returns and leaves is so. -/
def Run {P : Program} (F : Fun P) (S : List It) (σ : Fr) (w : World) (R : Value → World → Prop) : Prop :=
  ∀ a, Fits F.fn.ntmps σ a → ∀ cs : List Frame, ∃ e w' fr, Ret R e w' ∧ Comes P (lone (F.base.at a (S.map (It.item F.B))) cs w) (lone fr cs w') e ∧ fr.fn = F.f ∧ fr.leaving P w' e

section
variable {P : Program} {F : Fun P} {S : List It} {σ : Fr} {w : World} {R : Value → World → Prop}

theorem run_sub {σ' : Fr} (hs : Fr.sub σ' σ) (h : Run F S σ' w R) : Run F S σ w R :=
  fun a ha cs => h a (ha.sub hs) cs

theorem run_mono {R' : Value → World → Prop} (h : Run F S σ w R) (hr : ∀ v w', R v w' → R' v w') : Run F S σ w R' :=
  fun a ha cs => by
    obtain ⟨e, w', fr, h1, h2⟩ := h a ha cs
    refine ⟨e, w', fr, ?_, h2⟩
    cases e with
    | returned v => exact hr _ _ h1
    | panicked _ => exact h1
    | outgrown => exact h1

theorem run_head {S' : List It} (hs : ∀ a, Fits F.fn.ntmps σ a → ∀ cs, step P (lone (F.base.at a (S.map (It.item F.B))) cs w) = .next (lone (F.base.at a (S'.map (It.item F.B))) cs w))
    (h : Run F S' σ w R) : Run F S σ w R :=
  fun a ha cs =>
    let ⟨e, w', fr, hr, hc, rest⟩ := h a ha cs
    ⟨e, w', fr, hr, .of_steps (.one (hs a ha cs)) hc, rest⟩

/-- Out of the call into the body. -/
theorem Calls_of_run {args : List Value} {σ : Fr} (h : Run F [.c []] σ w R)
    (hl : args.length ≤ F.fn.ntmps) (hσ : ∀ t v, Fr.get t σ = some v → args[t]? = some v) : Calls P F.f args.toArray w (Ret R) := by
  intro cs
  have := h { tmps := args.toArray ++ Array.replicate (F.fn.ntmps - args.toArray.size) undef, defers := [] } ?_ cs
  · have henter : Frame.enter P F.f args.toArray .normal =
        F.base.at { tmps := args.toArray ++ Array.replicate (F.fn.ntmps - args.toArray.size) undef, defers := [] } [.code F.B] := by
      simp [Frame.enter, Frame.at, F.hf, F.hb, Fun.base]
    rw [henter]
    exact this
  · refine ⟨by simp; omega, rfl, fun t v ht => ?_⟩
    have := hσ t v ht
    have hlt : t < args.length := by
      rcases Nat.lt_or_ge t args.length with h | h
      · exact h
      · simp [List.getElem?_eq_none h] at this
    simp [Array.getElem?_append, hlt]
    rw [List.getElem?_eq_getElem hlt] at this
    exact Option.some.inj this

/-! ### The steps that only turn the stack -/

def exitIt (id : Nat) : List It → Option (List It)
  | [] => none
  | .blk j :: S => match Nat.beq id j with
    | true => some S
    | false => exitIt id S
  | _ :: S => exitIt id S

theorem exitIt_exitTo (B : Code) (id : Nat) : ∀ (S S' : List It), exitIt id S = some S' → exitTo id (S.map (It.item B)) = some (S'.map (It.item B)) := by
  intro S
  induction S with
  | nil => intro S' h; simp [exitIt] at h
  | cons x S ih =>
    intro S' h
    cases x with
    | blk j =>
      simp only [exitIt] at h
      cases hb : Nat.beq id j with
      | true =>
        rw [hb] at h
        have e : id = j := Nat.eq_of_beq_eq_true hb
        have : S = S' := by simpa using h
        subst this
        simp [It.item, exitTo, e]
      | false =>
        rw [hb] at h
        have hji : ¬ j = id := fun e => (Nat.ne_of_beq_eq_false hb) e.symm
        simp [It.item, exitTo, hji, ih S' h]
    | c p => simp only [exitIt] at h; simp [It.item, exitTo, ih S' h]
    | o p i => simp only [exitIt] at h; simp [It.item, exitTo, ih S' h]
    | lp p => simp only [exitIt] at h; simp [It.item, exitTo, ih S' h]

/-- One step of the stack alone, if the head is such. -/
def nx (B : Code) : List It → Option (List It)
  | .blk _ :: S => some S
  | .o p i :: S => match Nat.ble (opsOf (sub p B)).length i with
    | true => some S
    | false => none
  | .c p :: S => match sub p B with
    | .skip => some S
    | .label _ => some S
    | .seq _ _ => some (.c (p ++ [0]) :: .c (p ++ [1]) :: S)
    | .block id _ => some (.c (p ++ [0]) :: .blk id :: S)
    | .region _ _ false => some (.o p 0 :: S)
    | .exit id => exitIt id S
    | _ => none
  | _ => none

theorem run_nx {S' : List It} (hn : nx F.B S = some S') (h : Run F S' σ w R) : Run F S σ w R := by
  refine run_head (S' := S') (fun a _ cs => ?_) h
  cases S with
  | nil => simp [nx] at hn
  | cons x S =>
    cases x with
    | blk id =>
      have : S = S' := by simpa [nx] using hn
      subst this
      exact step_inBlock
    | lp p => simp [nx] at hn
    | o p i =>
      simp only [nx] at hn
      cases hb : Nat.ble (opsOf (sub p F.B)).length i with
      | false => rw [hb] at hn; simp at hn
      | true =>
        rw [hb] at hn
        have : S = S' := by simpa using hn
        subst this
        have hle := Nat.le_of_ble_eq_true hb
        have e : (opsOf (sub p F.B)).length - i = 0 := by omega
        simp only [List.map_cons, It.item, e, List.range'_zero]
        exact step_region_end
    | c p =>
      simp only [nx] at hn
      simp only [List.map_cons, It.item]
      cases hc : sub p F.B with
      | skip =>
        rw [hc] at hn
        have : S = S' := by simpa using hn
        subst this
        exact step_skip
      | label l =>
        rw [hc] at hn
        have : S = S' := by simpa using hn
        subst this
        exact step_label
      | seq x y =>
        rw [hc] at hn
        have : S' = _ := (Option.some.inj hn).symm
        subst this
        simp only [List.map_cons, It.item, sub_append, hc, sub, child]
        exact step_seq
      | block id x =>
        rw [hc] at hn
        have : S' = _ := (Option.some.inj hn).symm
        subst this
        simp only [List.map_cons, It.item, sub_append, hc, sub, child]
        exact step_block
      | region id ops d =>
        rw [hc] at hn
        cases d with
        | true => simp at hn
        | false =>
          have : S' = _ := (Option.some.inj hn).symm
          subst this
          simp only [List.map_cons, It.item, hc, opsOf, Array.toArray_toList, Array.length_toList, Nat.sub_zero]
          rw [← List.range_eq_range']
          exact step_region
      | exit id =>
        rw [hc] at hn
        exact step_exit (exitIt_exitTo F.B id S S' hn)
      | cond _ _ _ => rw [hc] at hn; simp at hn
      | loop _ => rw [hc] at hn; simp at hn
      | rangeFunc _ _ _ _ => rw [hc] at hn; simp at hn
      | scope _ => rw [hc] at hn; simp at hn
      | goto _ => rw [hc] at hn; simp at hn
      | ret => rw [hc] at hn; simp at hn
      | refuse _ => rw [hc] at hn; simp at hn

/-- As many such steps as there are. -/
def nf (B : Code) : Nat → List It → List It
  | 0, S => S
  | n + 1, S => match nx B S with
    | some S' => nf B n S'
    | none => S

theorem run_nf_n (n : Nat) : ∀ {S : List It}, Run F (nf F.B n S) σ w R → Run F S σ w R := by
  induction n with
  | zero => exact fun h => h
  | succ n ih =>
    intro S h
    simp only [nf] at h
    cases hn : nx F.B S with
    | none => rw [hn] at h; exact h
    | some S' => rw [hn] at h; exact run_nx hn (ih h)

theorem run_nf (S' : List It) (hn : nf F.B 60 S = S') (h : Run F S' σ w R) : Run F S σ w R := run_nf_n 60 (hn ▸ h)

/-! ### Branches, loops, the end -/

def condOf (B : Code) (p : List Nat) : Option Operand :=
  match sub p B with
  | .cond c _ _ => some c
  | _ => none

theorem run_cond {p : List Nat} {c : Operand} {t : Bool} (hc : condOf F.B p = some c) (ht : ev σ c = some (.bool t))
    (h1 : t = true → Run F (.c (p ++ [0]) :: S) σ w R) (h2 : t = false → Run F (.c (p ++ [1]) :: S) σ w R) : Run F (.c p :: S) σ w R := by
  obtain ⟨x, y, hs⟩ : ∃ x y, sub p F.B = .cond c x y := by
    unfold condOf at hc
    cases hs : sub p F.B <;> rw [hs] at hc <;> simp at hc
    subst hc; exact ⟨_, _, rfl⟩
  cases t with
  | true =>
    refine run_head (fun a ha cs => ?_) (h1 rfl)
    simp only [List.map_cons, It.item, sub_append, hs, sub, child]
    exact step_cond (ha.eval ht)
  | false =>
    refine run_head (fun a ha cs => ?_) (h2 rfl)
    simp only [List.map_cons, It.item, sub_append, hs, sub, child]
    exact step_cond (ha.eval ht)

theorem run_if {p : List Nat} {c : Operand} {q : Prop} [Decidable q] (hc : condOf F.B p = some c) (ht : ev σ c = some (.bool (decide q)))
    (h1 : q → Run F (.c (p ++ [0]) :: S) σ w R) (h2 : ¬ q → Run F (.c (p ++ [1]) :: S) σ w R) : Run F (.c p :: S) σ w R :=
  run_cond hc ht (fun h => h1 (of_decide_eq_true h)) (fun h => h2 (of_decide_eq_false h))

def isLoop (B : Code) (p : List Nat) : Bool :=
  match sub p B with
  | .loop _ => true
  | _ => false

theorem isLoop_iff {B : Code} {p : List Nat} (h : isLoop B p = true) : ∃ c, sub p B = .loop c := by
  unfold isLoop at h
  cases hs : sub p B <;> rw [hs] at h <;> simp at h
  exact ⟨_, rfl⟩

/-- A loop: at each head one of the states `st x` under `I x`; a round may lean on every state of a smaller measure. -/
theorem run_loop {X : Type} {p : List Nat} (hp : isLoop F.B p = true) (st : X → Fr) (I : X → World → Prop) (μ : X → Nat) (x : X) (hx : I x w) (hs : Fr.sub (st x) σ)
    (round : ∀ x w, I x w → (∀ x' w', μ x' < μ x → I x' w' → Run F (.lp (p ++ [0]) :: S) (st x') w' R) → Run F (.c (p ++ [0]) :: .lp (p ++ [0]) :: S) (st x) w R) :
    Run F (.c p :: S) σ w R := by
  obtain ⟨c, hc⟩ := isLoop_iff hp
  have key : ∀ n x w, μ x = n → I x w → Run F (.c (p ++ [0]) :: .lp (p ++ [0]) :: S) (st x) w R := by
    intro n
    induction n using Nat.strongRecOn with
    | _ n ih =>
      intro x w hn hI
      refine round x w hI fun x' w' hlt hI' => ?_
      refine run_head (fun a ha cs => ?_) (ih (μ x') (hn ▸ hlt) x' w' rfl hI')
      simp only [List.map_cons, It.item]
      exact step_inLoop
  refine run_sub hs ?_
  refine run_head (fun a ha cs => ?_) (key _ x w rfl hx)
  simp only [List.map_cons, It.item, sub_append, hc, sub, child]
  exact step_loop

def isRet (B : Code) (p : List Nat) : Bool :=
  match sub p B with
  | .ret => true
  | _ => false

/-- What the results come to, read off the slots alone. -/
def resOf (σ : Fr) : List ResultVar → Option (List Value)
  | [] => some []
  | .tmp t :: l => match Fr.get t σ, resOf σ l with
    | some v, some vs => some (v :: vs)
    | _, _ => none
  | .cell _ _ :: _ => none

def resVal : List Value → Value
  | [v] => v
  | vs => .tuple vs.toArray

def resOne (tmps : Array Value) : ResultVar → Sem Value
  | .tmp t => pure (tmps.getD t undef)
  | .cell a t => do loadVar t (← asAddr (tmps.getD a undef))

/-- Each result by itself comes to its value. -/
inductive ResAll (P : Program) (w : World) (tmps : Array Value) : List ResultVar → List Value → Prop
  | nil : ResAll P w tmps [] []
  | cons {x : ResultVar} {v : Value} {l : List ResultVar} {vs : List Value} : (resOne tmps x).run P w = .ok v w → ResAll P w tmps l vs → ResAll P w tmps (x :: l) (v :: vs)

theorem results_eq (fn : Func) (tmps : Array Value) : results fn tmps = (do
    let vs ← fn.results.mapM (resOne tmps)
    pure (if h : vs.size = 1 then vs[0] else .tuple vs)) := rfl

theorem run_results_all {fn : Func} {tmps : Array Value} {P : Program} {w : World} {vs : List Value} (h : ResAll P w tmps fn.results.toList vs) :
    (results fn tmps).run P w = .ok (resVal vs) w := by
  have key : ∀ (l : List ResultVar) (vs : List Value), ResAll P w tmps l vs → (l.mapM (resOne tmps)).run P w = .ok vs w := by
    intro l vs h
    induction h with
    | nil => simp
    | cons h1 _ ih => simp only [List.mapM_cons, Sem.run_bind, h1, Result.andThen_ok, ih, Sem.run_pure]
  have hk := key _ _ h
  rw [results_eq, ← Array.toArray_toList (xs := fn.results)]
  simp only [List.mapM_toArray, Sem.run_bind, Sem.run_map, hk, Result.andThen_ok, Sem.run_pure]
  simp only [Result.ok.injEq, and_true, List.size_toArray]
  split
  · rename_i hl
    match vs, hl with
    | [v], _ => rfl
  · rename_i hl
    match vs, hl with
    | [], _ => rfl
    | [_], hl => simp at hl
    | _ :: _ :: _, _ => rfl

theorem ResAll.of_resOf {n : Nat} {σ : Fr} {a : Act} (ha : Fits n σ a) (P : Program) (w : World) : ∀ (l : List ResultVar) (vs : List Value), resOf σ l = some vs → ResAll P w a.tmps l vs := by
  intro l
  induction l with
  | nil => intro vs h; simp [resOf] at h; subst h; exact .nil
  | cons x l ih =>
    intro vs h
    cases x with
    | cell _ _ => simp [resOf] at h
    | tmp t =>
      simp only [resOf] at h
      cases h1 : Fr.get t σ with
      | none => rw [h1] at h; simp at h
      | some v =>
        cases h2 : resOf σ l with
        | none => rw [h1, h2] at h; simp at h
        | some us =>
          rw [h1, h2] at h
          have : v :: us = vs := by simpa using h
          subst this
          have hv := ha.get t v h1
          exact .cons (by simp [resOne, hv]) (ih us h2)

theorem run_results {fn : Func} {n : Nat} {σ : Fr} {a : Act} (ha : Fits n σ a) {vs : List Value} (h : resOf σ fn.results.toList = some vs) (P : Program) (w : World) :
    (results fn a.tmps).run P w = .ok (resVal vs) w := run_results_all (ResAll.of_resOf ha P w _ _ h)

theorem run_ret_at {p : List Nat} (hp : isRet F.B p = true) {v : Value}
    (hr : ∀ a, Fits F.fn.ntmps σ a → (results F.fn a.tmps).run P w = .ok v w) (h : R v w) : Run F (.c p :: S) σ w R := by
  intro a ha cs
  have hs : sub p F.B = .ret := by
    unfold isRet at hp
    cases hs : sub p F.B <;> rw [hs] at hp <;> first | rfl | simp at hp
  refine ⟨.returned v, w, { F.base.at a (.code .ret :: S.map (It.item F.B)) with mode := .returning }, h, ?_, rfl, ?_⟩
  · simp only [List.map_cons, It.item, hs]
    exact .one step_ret
  · exact ⟨rfl, ha.defers, rfl, F.fn, F.hf, hr a ha⟩

/-- The end, where the results lie in slots. -/
theorem run_ret {p : List Nat} {vs : List Value} (hp : isRet F.B p = true) (hr : resOf σ F.fn.results.toList = some vs) (h : R (resVal vs) w) : Run F (.c p :: S) σ w R :=
  run_ret_at hp (fun _ ha => run_results ha hr P w) h

theorem run_end {vs : List Value} (hr : resOf σ F.fn.results.toList = some vs) (h : R (resVal vs) w) : Run F [] σ w R := by
  intro a ha cs
  refine ⟨.returned (resVal vs), w, { F.base.at a [] with mode := .returning }, h, .one step_end, rfl, ?_⟩
  exact ⟨rfl, ha.defers, rfl, F.fn, F.hf, run_results ha hr P w⟩

end
end Go.Fw
