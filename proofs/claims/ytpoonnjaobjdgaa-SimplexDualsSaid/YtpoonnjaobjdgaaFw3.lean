/-
The third text of the frame: what a function knows of memory while it runs: its own blocks, written out; and facts on memory that nobody writes any more, which outlast every step. The world itself is named no more.
-/
import Derived.Test.YtpoonnjaobjdgaaFw2
import Derived.Deep.MidRow
import Derived.Below
namespace Go.Fw
open Go.RowKit (Below)

/-- A block of the function's own: its number (none: a nil slice's), the type of its elements, its cells. -/
abbrev Blk := Option Nat × TypeId × List Value

/-- The world in which the function began, the old blocks that its facts may speak of, and the old blocks that it may write. -/
structure Cx where
  w0 : World
  A : Nat → Prop
  M : Nat → Prop

/-- A block on which facts may lean: old and allowed, or new; there; and none of the function's own. -/
def ok (C : Cx) (w : World) (β : List Blk) (k : Nat) : Prop := (C.A k ∨ C.M k ∨ C.w0.heap.size ≤ k) ∧ k < w.heap.size ∧ ∀ x ∈ β, x.1 ≠ some k

def Distinct : List Blk → Prop
  | [] => True
  | x :: l => (∀ y ∈ l, ∀ b, x.1 = some b → y.1 ≠ some b) ∧ Distinct l

/-- Nothing old has turned but in the blocks M. -/
structure Keep (w0 : World) (M : Nat → Prop) (w : World) : Prop where
  os : w.os = w0.os
  tape : w.tape = w0.tape
  output : w.output = w0.output
  size : w0.heap.size ≤ w.heap.size
  block : ∀ k, k < w0.heap.size → ¬ M k → w.heap[k]? = w0.heap[k]?

structure Own (C : Cx) (w : World) (β : List Blk) : Prop where
  ext : Keep C.w0 C.M w
  new : ∀ x ∈ β, ∀ b, x.1 = some b → C.w0.heap.size ≤ b ∨ C.M b
  blk : ∀ x ∈ β, ∀ b, x.1 = some b → w.heap[b]? = some (.cells x.2.2.toArray x.2.1 (0, 0))
  apart : Distinct β

/-- A fact on memory: it stays wherever the blocks on which it leans stay. -/
structure Fact where
  holds : World → (Nat → Prop) → Prop
  stable : ∀ {w w' : World} {A A' : Nat → Prop}, (∀ k, A k → A' k ∧ w'.heap[k]? = w.heap[k]?) → holds w A → holds w' A'

def J {P : Program} (F : Fun P) (C : Cx) (S : List It) (σ : Fr) (β : List Blk) (Γ : List Fact) (R : Value → World → Prop) : Prop :=
  ∀ w, Own C w β → (∀ f ∈ Γ, f.holds w (ok C w β)) → Run F S σ w R

/-- A world that goes on: nothing that was there has turned. -/
abbrev Ext (w w' : World) : Prop := Below w.heap.size w w'

theorem Keep.refl (w : World) (M : Nat → Prop) : Keep w M w := ⟨rfl, rfl, rfl, Nat.le_refl _, fun _ _ _ => rfl⟩

theorem Keep.step {w0 w w' : World} {M : Nat → Prop} (h : Keep w0 M w) (hx : Ext w w') : Keep w0 M w' :=
  ⟨hx.os.trans h.os, hx.tape.trans h.tape, hx.output.trans h.output, Nat.le_trans h.size hx.size, fun k hk hm => (hx.block k (Nat.lt_of_lt_of_le hk h.size)).trans (h.block k hk hm)⟩

theorem Own.lt {C : Cx} {w : World} {β : List Blk} (h : Own C w β) {x : Blk} (hx : x ∈ β) {b : Nat} (hb : x.1 = some b) : b < w.heap.size :=
  (Array.getElem?_eq_some_iff.1 (h.blk x hx b hb)).1

theorem Own.step {C : Cx} {w w' : World} {β : List Blk} (h : Own C w β) (hx : Ext w w') : Own C w' β :=
  ⟨h.ext.step hx, h.new, fun x hm b hb => by rw [hx.block _ (h.lt hm hb)]; exact h.blk x hm b hb, h.apart⟩

theorem ok_step {C : Cx} {w w' : World} {β : List Blk} (hx : Ext w w') : ∀ k, ok C w β k → ok C w' β k ∧ w'.heap[k]? = w.heap[k]? :=
  fun k hk => ⟨⟨hk.1, Nat.lt_of_lt_of_le hk.2.1 hx.size, hk.2.2⟩, hx.block k hk.2.1⟩

theorem facts_step {C : Cx} {w w' : World} {β : List Blk} {Γ : List Fact} (hx : Ext w w') (h : ∀ f ∈ Γ, f.holds w (ok C w β)) : ∀ f ∈ Γ, f.holds w' (ok C w' β) :=
  fun f hf => f.stable (ok_step hx) (h f hf)

/-- A new block. -/
theorem Own.push {C : Cx} {w : World} {β : List Blk} (h : Own C w β) (T : TypeId) (cs : List Value) : Own C (w.alloc (.cells cs.toArray T)) ((some w.heap.size, T, cs) :: β) := by
  have hx : Ext w (w.alloc (.cells cs.toArray T)) := (Below.refl _ _).alloc (Nat.le_refl _) _
  have h' := h.step hx
  refine ⟨h'.ext, ?_, ?_, ?_, h'.apart⟩
  · intro x hm b hb
    rcases List.mem_cons.1 hm with rfl | hm
    · obtain rfl := Option.some.inj hb
      exact .inl h.ext.size
    · exact h'.new x hm b hb
  · intro x hm b hb
    rcases List.mem_cons.1 hm with rfl | hm
    · obtain rfl := Option.some.inj hb
      exact heap_alloc_new w _
    · exact h'.blk x hm b hb
  · intro y hy b hb hyb
    obtain rfl := Option.some.inj hb
    have := h.lt hy hyb
    omega

theorem facts_push {C : Cx} {w : World} {β : List Blk} {Γ : List Fact} {T : TypeId} {cs : List Value} (h : ∀ f ∈ Γ, f.holds w (ok C w β)) :
    ∀ f ∈ Γ, f.holds (w.alloc (.cells cs.toArray T)) (ok C (w.alloc (.cells cs.toArray T)) ((some w.heap.size, T, cs) :: β)) :=
  fun f hf => f.stable (fun k hk => ⟨⟨hk.1, by simp; have := hk.2.1; omega, fun x hx => by
    rcases List.mem_cons.1 hx with rfl | hx
    · intro e
      have := Option.some.inj e
      have := hk.2.1; omega
    · exact hk.2.2 x hx⟩, heap_alloc_old w _ k hk.2.1⟩) (h f hf)

/-- One of the own blocks, by its place in the list, gets other cells. -/
def setB : List Blk → Nat → List Value → List Blk
  | [], _, _ => []
  | (b, T, _) :: l, 0, cs => (b, T, cs) :: l
  | x :: l, n + 1, cs => x :: setB l n cs

theorem setB_fst {β : List Blk} : ∀ {n : Nat} {cs : List Value} {x : Blk}, x ∈ setB β n cs → ∃ y ∈ β, y.1 = x.1 := by
  induction β with
  | nil => intro n cs x h; simp [setB] at h
  | cons y l ih =>
    intro n cs x h
    obtain ⟨b, T, c⟩ := y
    cases n with
    | zero =>
      simp only [setB, List.mem_cons] at h
      rcases h with rfl | h
      · exact ⟨_, .head _, rfl⟩
      · exact ⟨x, .tail _ h, rfl⟩
    | succ n =>
      simp only [setB, List.mem_cons] at h
      rcases h with rfl | h
      · exact ⟨_, .head _, rfl⟩
      · obtain ⟨z, hz, e⟩ := ih h
        exact ⟨z, .tail _ hz, e⟩

theorem Distinct.setB {β : List Blk} : ∀ {n : Nat} {cs : List Value}, Distinct β → Distinct (setB β n cs) := by
  induction β with
  | nil => intro n cs h; simp [Fw.setB, Distinct]
  | cons y l ih =>
    intro n cs h
    obtain ⟨b, T, c⟩ := y
    cases n with
    | zero => exact h
    | succ n =>
      refine ⟨fun z hz bb hb => ?_, ih h.2⟩
      obtain ⟨u, hu, e⟩ := setB_fst hz
      rw [← e]
      exact h.1 u hu bb hb

theorem ok_setB {C : Cx} {w : World} {β : List Blk} {n : Nat} {cs : List Value} {k : Nat} (h : ok C w β k) : ok C w (setB β n cs) k :=
  ⟨h.1, h.2.1, fun x hx => by obtain ⟨y, hy, e⟩ := setB_fst hx; rw [← e]; exact h.2.2 y hy⟩

theorem mem_setB {β : List Blk} : ∀ {n : Nat} {cs : List Value} {b : Nat} {T : TypeId} {c : List Value}, Distinct β → nth β n = some (some b, T, c) → ∀ x ∈ setB β n cs, x = (some b, T, cs) ∨ (x ∈ β ∧ x.1 ≠ some b) := by
  induction β with
  | nil => intro n cs b T c _ h; simp [nth] at h
  | cons y l ih =>
    intro n cs b T c hd h x hx
    obtain ⟨b', T', c'⟩ := y
    cases n with
    | zero =>
      simp only [nth, Option.some.injEq, Prod.mk.injEq] at h
      obtain ⟨rfl, rfl, rfl⟩ := h
      simp only [setB, List.mem_cons] at hx
      rcases hx with rfl | hx
      · exact .inl rfl
      · exact .inr ⟨.tail _ hx, hd.1 x hx b rfl⟩
    | succ n =>
      simp only [nth] at h
      simp only [setB, List.mem_cons] at hx
      rcases hx with rfl | hx
      · refine .inr ⟨.head _, fun e => ?_⟩
        have hm : (some b, T, c) ∈ l := by rw [nth_eq] at h; exact List.mem_of_getElem? h
        exact hd.1 _ hm b e rfl
      · rcases ih hd.2 h x hx with rfl | ⟨h1, h2⟩
        · exact .inl rfl
        · exact .inr ⟨.tail _ h1, h2⟩

theorem nth_mem {β : List Blk} {n : Nat} {x : Blk} (h : nth β n = some x) : x ∈ β := by
  rw [nth_eq] at h; exact List.mem_of_getElem? h

/-- What a store into an own block leaves. -/
theorem Own.set {C : Cx} {w w' : World} {β : List Blk} (h : Own C w β) {n b : Nat} {T : TypeId} {c cs : List Value} (hn : nth β n = some (some b, T, c))
    (ho : w'.os = w.os) (ht : w'.tape = w.tape) (hp : w'.output = w.output) (hs : w'.heap.size = w.heap.size)
    (hb : w'.heap[b]? = some (.cells cs.toArray T (0, 0))) (hk : ∀ k, k ≠ b → w'.heap[k]? = w.heap[k]?) : Own C w' (setB β n cs) := by
  have hnew := h.new _ (nth_mem hn) b rfl
  refine ⟨⟨ho.trans h.ext.os, ht.trans h.ext.tape, hp.trans h.ext.output, by rw [hs]; exact h.ext.size, fun k hk' hm => (hk k (fun e => ?_)).trans (h.ext.block k hk' hm)⟩, ?_, ?_, h.apart.setB⟩
  · subst e
    rcases hnew with h1 | h1
    · omega
    · exact hm h1
  · intro x hx
    obtain ⟨y, hy, e⟩ := setB_fst hx
    rw [← e]; exact h.new y hy
  · intro x hx bb hbb
    rcases mem_setB h.apart hn x hx with rfl | ⟨h1, h2⟩
    · obtain rfl := Option.some.inj hbb
      exact hb
    · rw [hk _ (fun e => h2 (e ▸ hbb))]; exact h.blk x h1 bb hbb

theorem facts_set {C : Cx} {w w' : World} {β : List Blk} {Γ : List Fact} {n b : Nat} {T : TypeId} {c cs : List Value} (hn : nth β n = some (some b, T, c))
    (hs : w'.heap.size = w.heap.size) (hk : ∀ k, k ≠ b → w'.heap[k]? = w.heap[k]?) (h : ∀ f ∈ Γ, f.holds w (ok C w β)) :
    ∀ f ∈ Γ, f.holds w' (ok C w' (setB β n cs)) :=
  fun f hf => f.stable (fun k hk' => by
    have hne : k ≠ b := fun e => hk'.2.2 _ (nth_mem hn) (by rw [e])
    exact ⟨ok_setB ⟨hk'.1, by rw [hs]; exact hk'.2.1, hk'.2.2⟩, hk k hne⟩) (h f hf)

section
variable {P : Program} {F : Fun P} {C : Cx} {S : List It} {σ : Fr} {β : List Blk} {Γ : List Fact} {R : Value → World → Prop} {p : List Nat} {i : Nat} {d : Option Tmp} {op : Op} {ty : TypeId}

theorem j_sub {σ' : Fr} (hs : Fr.sub σ' σ) (h : J F C S σ' β Γ R) : J F C S σ β Γ R := fun w ho hf => run_sub hs (h w ho hf)

/-- Facts, and own blocks, may be forgotten. -/
theorem j_weak {Γ' : List Fact} (hs : ∀ f ∈ Γ', f ∈ Γ) (h : J F C S σ β Γ' R) : J F C S σ β Γ R := fun w ho hf => h w ho fun f hm => hf f (hs f hm)

theorem Distinct.sub {β β' : List Blk} (hs : β'.Sublist β) (h : Distinct β) : Distinct β' := by
  induction hs with
  | slnil => exact h
  | cons _ _ ih => exact ih h.2
  | cons_cons _ hsub ih => exact ⟨fun y hy b hb => h.1 y (hsub.subset hy) b hb, ih h.2⟩

theorem j_weakB {β' : List Blk} (hs : β'.Sublist β) (h : J F C S σ β' Γ R) : J F C S σ β Γ R := fun w ho hf =>
  h w ⟨ho.ext, fun x hx => ho.new x (hs.subset hx), fun x hx => ho.blk x (hs.subset hx), ho.apart.sub hs⟩
    fun f hm => f.stable (fun _ hk => ⟨⟨hk.1, hk.2.1, fun x hx => hk.2.2 x (hs.subset hx)⟩, rfl⟩) (hf f hm)

theorem j_nf (S' : List It) (hn : nf F.B 60 S = S') (h : J F C S' σ β Γ R) : J F C S σ β Γ R := fun w ho hf => run_nf S' hn (h w ho hf)

theorem j_nfn (n : Nat) (S' : List It) (hn : nf F.B n S = S') (h : J F C S' σ β Γ R) : J F C S σ β Γ R := fun w ho hf => run_nf_n n (hn ▸ h w ho hf)

theorem j_cond {c : Operand} {t : Bool} (hc : condOf F.B p = some c) (ht : ev σ c = some (.bool t))
    (h1 : t = true → J F C (.c (p ++ [0]) :: S) σ β Γ R) (h2 : t = false → J F C (.c (p ++ [1]) :: S) σ β Γ R) : J F C (.c p :: S) σ β Γ R :=
  fun w ho hf => run_cond hc ht (fun e => h1 e w ho hf) (fun e => h2 e w ho hf)

theorem j_true {c : Operand} (hc : condOf F.B p = some c) (ht : ev σ c = some (.bool true)) (h1 : J F C (.c (p ++ [0]) :: S) σ β Γ R) : J F C (.c p :: S) σ β Γ R :=
  j_cond hc ht (fun _ => h1) (fun e => by cases e)

theorem j_false {c : Operand} (hc : condOf F.B p = some c) (ht : ev σ c = some (.bool false)) (h1 : J F C (.c (p ++ [1]) :: S) σ β Γ R) : J F C (.c p :: S) σ β Γ R :=
  j_cond hc ht (fun e => by cases e) (fun _ => h1)

theorem j_if {c : Operand} {q : Prop} [Decidable q] (hc : condOf F.B p = some c) (ht : ev σ c = some (.bool (decide q)))
    (h1 : q → J F C (.c (p ++ [0]) :: S) σ β Γ R) (h2 : ¬ q → J F C (.c (p ++ [1]) :: S) σ β Γ R) : J F C (.c p :: S) σ β Γ R :=
  fun w ho hf => run_if hc ht (fun e => h1 e w ho hf) (fun e => h2 e w ho hf)

theorem j_ifn {c : Operand} {q : Prop} [Decidable q] (hc : condOf F.B p = some c) (ht : ev σ c = some (.bool (!decide q)))
    (h1 : ¬ q → J F C (.c (p ++ [0]) :: S) σ β Γ R) (h2 : q → J F C (.c (p ++ [1]) :: S) σ β Γ R) : J F C (.c p :: S) σ β Γ R :=
  j_cond hc ht (fun e => h1 (by simpa using e)) (fun e => h2 (by simpa using e))

theorem j_split {t : Tmp} {b : Bool} (hb : Fr.get t σ = some (.bool b)) (h1 : b = true → J F C S ((t, .bool true) :: σ) β Γ R) (h2 : b = false → J F C S ((t, .bool false) :: σ) β Γ R) : J F C S σ β Γ R :=
  fun w ho hf => run_split hb (fun e => h1 e w ho hf) (fun e => h2 e w ho hf)

theorem j_split_dec {t : Tmp} {q : Prop} [Decidable q] (hb : Fr.get t σ = some (.bool (decide q))) (h1 : q → J F C S ((t, .bool true) :: σ) β Γ R) (h2 : ¬ q → J F C S ((t, .bool false) :: σ) β Γ R) : J F C S σ β Γ R :=
  fun w ho hf => run_split_dec hb (fun e => h1 e w ho hf) (fun e => h2 e w ho hf)

theorem j_split_ndec {t : Tmp} {q : Prop} [Decidable q] (hb : Fr.get t σ = some (.bool (!decide q))) (h1 : ¬ q → J F C S ((t, .bool true) :: σ) β Γ R) (h2 : q → J F C S ((t, .bool false) :: σ) β Γ R) : J F C S σ β Γ R :=
  j_split hb (fun e => h1 (by simpa using e)) (fun e => h2 (by simpa using e))

/-- A loop: at each head one of the states 'st x', 'bl x', 'fa x'. -/
theorem j_loop {X : Type} (hp : isLoop F.B p = true) (st : X → Fr) (bl : X → List Blk) (fa : X → List Fact) (I : X → Prop) (μ : X → Nat)
    (x : X) (hx : I x) (hs : Fr.sub (st x) σ) (hb : β = bl x) (hf : ∀ f ∈ fa x, f ∈ Γ)
    (round : ∀ x, I x → (∀ x', μ x' < μ x → I x' → J F C (.lp (p ++ [0]) :: S) (st x') (bl x') (fa x') R) → J F C (.c (p ++ [0]) :: .lp (p ++ [0]) :: S) (st x) (bl x) (fa x) R) :
    J F C (.c p :: S) σ β Γ R := by
  intro w ho hG
  subst hb
  refine run_loop (X := X) hp st (fun x w => I x ∧ Own C w (bl x) ∧ ∀ f ∈ fa x, f.holds w (ok C w (bl x))) μ x ⟨hx, ho, fun f hm => hG f (hf f hm)⟩ hs ?_
  intro x w ⟨hI, ho, hG⟩ ih
  exact round x hI (fun x' hlt hI' w' ho' hG' => ih x' w' hlt ⟨hI', ho', hG'⟩) w ho hG

/-- An operation, from these own blocks and facts, comes to a value, own blocks and facts of which K is so. -/
def Jop (P : Program) (C : Cx) (op : Op) (ty : TypeId) (σ : Fr) (β : List Blk) (Γ : List Fact) (K : Value → List Blk → List Fact → Prop) : Prop :=
  ∀ w, Own C w β → (∀ f ∈ Γ, f.holds w (ok C w β)) → Ex P op ty σ w fun v w' => ∃ β' Γ', K v β' Γ' ∧ Own C w' β' ∧ ∀ f ∈ Γ', f.holds w' (ok C w' β')

theorem Jop.mono {K K' : Value → List Blk → List Fact → Prop} (h : Jop P C op ty σ β Γ K) (hh : ∀ v β' Γ', K v β' Γ' → K' v β' Γ') : Jop P C op ty σ β Γ K' :=
  fun w hO hG => (h w hO hG).mono fun _ _ ⟨β', Γ', hk, h1, h2⟩ => ⟨β', Γ', hh _ _ _ hk, h1, h2⟩

theorem j_step (ho : opAt F p i = some (d, op, ty)) (hx : Jop P C op ty σ β Γ fun v β' Γ' => J F C (.o p (i + 1) :: S) (putF d v σ) β' Γ' R) : J F C (.o p i :: S) σ β Γ R :=
  fun w hO hG => run_op ho (hx w hO hG) fun _ w' ⟨_, _, hk, h1, h2⟩ => hk w' h1 h2

theorem j_gstep {g : Tmp} {want : Bool} (ho : opAtG F p i = some (g, want, d, op, ty)) (hb : Fr.get g σ = some (.bool want)) (hx : Jop P C op ty σ β Γ fun v β' Γ' => J F C (.o p (i + 1) :: S) (putF d v σ) β' Γ' R) : J F C (.o p i :: S) σ β Γ R :=
  fun w hO hG => run_guard ho hb (hx w hO hG) fun _ w' ⟨_, _, hk, h1, h2⟩ => hk w' h1 h2

theorem Pure.done {K : Value → List Blk → List Fact → Prop} {w : World} {v : Value} {β' : List Blk} {Γ' : List Fact} (hp : Pure P op ty σ w v) (hk : K v β' Γ') (hO : Own C w β') (hG : ∀ f ∈ Γ', f.holds w (ok C w β')) :
    Ex P op ty σ w fun v w' => ∃ β' Γ', K v β' Γ' ∧ Own C w' β' ∧ ∀ f ∈ Γ', f.holds w' (ok C w' β') :=
  hp.ex.mono fun u w' ⟨h1, h2⟩ => by subst h1; subst h2; exact ⟨β', Γ', hk, hO, hG⟩

/-- An operation whose value is known outright. -/
theorem x_pure {K : Value → List Blk → List Fact → Prop} {v : Value} (hx : ∀ w, Pure P op ty σ w v) (h : K v β Γ) : Jop P C op ty σ β Γ K :=
  fun w hO hG => (hx w).ex.mono fun u w' ⟨h1, h2⟩ => by subst h1; subst h2; exact ⟨β, Γ, h, hO, hG⟩

theorem j_gskip {g : Tmp} {want b : Bool} (ho : opAtG F p i = some (g, want, d, op, ty)) (hb : Fr.get g σ = some (.bool b)) (hne : (b == want) = false)
    (h : J F C (.o p (i + 1) :: S) (putF d undef σ) β Γ R) : J F C (.o p i :: S) σ β Γ R :=
  fun w hO hG => run_guard_skip ho hb hne (h w hO hG)

/-- The end. -/
theorem j_ret {vs : List Value} (hp : isRet F.B p = true) (hr : resOf σ F.fn.results.toList = some vs)
    (h : ∀ w, Own C w β → (∀ f ∈ Γ, f.holds w (ok C w β)) → R (resVal vs) w) : J F C (.c p :: S) σ β Γ R :=
  fun w hO hG => run_ret hp hr (h w hO hG)

theorem j_end {vs : List Value} (hr : resOf σ F.fn.results.toList = some vs)
    (h : ∀ w, Own C w β → (∀ f ∈ Γ, f.holds w (ok C w β)) → R (resVal vs) w) : J F C [] σ β Γ R :=
  fun w hO hG => run_end hr (h w hO hG)

/-- What a call is to give: a value, facts, and blocks that are handed over. -/
def Gives (C : Cx) (Q : Value → List Fact → List Blk → Prop) : Value → World → Prop := fun v w => ∃ Φ β, Q v Φ β ∧ Own C w β ∧ ∀ f ∈ Φ, f.holds w (ok C w β)

/-- The blocks in a list. -/
def inB (β : List Blk) (k : Nat) : Prop := ∃ x ∈ β, x.1 = some k

/-- The function that a number names has a body, and is none of the model's own. -/
def plainFn (P : Program) (f : FuncId) : Bool :=
  match P.funcs[f]? with
  | some fn => fn.body.isSome && !(fn.name == "runtime.NumGoroutine")
  | none => false

theorem Fun.plain (F : Fun P) : plainFn P F.f = true := by
  simp only [plainFn, F.hf, F.hb, F.hn, Option.isSome_some, Bool.not_false, Bool.and_self]

/-- A CONTRACT: from facts on the arguments, and blocks that are handed in, to what the call gives. -/
def Ctr (P : Program) (f : FuncId) (args : List Value) (β : List Blk) (Γ : List Fact) (Q : Value → List Fact → List Blk → Prop) : Prop :=
  plainFn P f = true ∧ ∀ w A, (∀ k, A k → k < w.heap.size) → (∀ x ∈ β, ∀ b, x.1 = some b → w.heap[b]? = some (.cells x.2.2.toArray x.2.1 (0, 0))) → Distinct β →
    (∀ g ∈ Γ, g.holds w (fun k => A k ∧ ¬ inB β k)) → Calls P f args.toArray w (Ret (Gives ⟨w, A, inB β⟩ Q))

/-- Into a function. -/
theorem Ctr_of_j {args : List Value} {β : List Blk} {Γ : List Fact} {Q : Value → List Fact → List Blk → Prop} (σ : Fr) (hl : Nat.ble args.length F.fn.ntmps = true) (hσ : ∀ t v, Fr.get t σ = some v → args[t]? = some v)
    (h : ∀ C, J F C [.c []] σ β Γ (Gives C Q)) : Ctr P F.f args β Γ Q := ⟨F.plain, fun w A hlt hb hd hG =>
  Calls_of_run (h ⟨w, A, inB β⟩ w ⟨Keep.refl _ _, fun x hx _ hxb => .inr ⟨x, hx, hxb⟩, hb, hd⟩
    fun f hf => f.stable (fun k hk => ⟨⟨.inl hk.1, hlt k hk.1, fun x hx e => hk.2 ⟨x, hx, e⟩⟩, rfl⟩) (hG f hf)) (Nat.le_of_ble_eq_true hl) hσ⟩

/-- The frame that holds just the arguments. -/
def argF : Nat → List Value → Fr
  | _, [] => []
  | n, v :: l => (n, v) :: argF (n + 1) l

theorem argF_get (l : List Value) : ∀ (n t : Nat) (v : Value), Fr.get t (argF n l) = some v → n ≤ t ∧ l[t - n]? = some v := by
  induction l with
  | nil => intro n t v h; simp [argF, Fr.get] at h
  | cons x l ih =>
    intro n t v h
    simp only [argF, Fr.get] at h
    cases hb : Nat.beq n t with
    | true =>
      rw [hb] at h
      have e : n = t := Nat.eq_of_beq_eq_true hb
      subst e
      exact ⟨Nat.le_refl _, by simpa using h⟩
    | false =>
      rw [hb] at h
      have e : n ≠ t := Nat.ne_of_beq_eq_false hb
      obtain ⟨h1, h2⟩ := ih _ _ _ h
      refine ⟨by omega, ?_⟩
      rw [show t - n = (t - (n + 1)) + 1 by omega]
      simpa using h2

theorem Ctr_of_j' {args : List Value} {β : List Blk} {Γ : List Fact} {Q : Value → List Fact → List Blk → Prop} (hl : Nat.ble args.length F.fn.ntmps = true)
    (h : ∀ C, J F C [.c []] (argF 0 args) β Γ (Gives C Q)) : Ctr P F.f args β Γ Q :=
  Ctr_of_j _ hl (fun t v ht => by simpa using (argF_get _ _ _ _ ht).2) h

theorem Distinct.append {l l' : List Blk} (h : Distinct l) (h' : Distinct l') (hh : ∀ x ∈ l, ∀ y ∈ l', ∀ b, x.1 = some b → y.1 ≠ some b) : Distinct (l ++ l') := by
  induction l with
  | nil => exact h'
  | cons x l ih =>
    refine ⟨fun y hy b hb => ?_, ih h.2 fun x hx => hh x (.tail _ hx)⟩
    rcases List.mem_append.1 hy with hy | hy
    · exact h.1 y hy b hb
    · exact hh x (.head _) y hy b hb

theorem run_callFunc {w : World} {f : FuncId} {fn : Func} {args : Array Value} (h : P.funcs[f]? = some fn) (hb : fn.body.isSome = true) (hn : (fn.name == "runtime.NumGoroutine") = false) :
    (callFunc f args).run P w = .ok (.enter f args) w := by
  have h1 : ¬ fn.name = "runtime.NumGoroutine" := by simpa using hn
  have h2 : ¬ fn.body = none := fun e => by rw [e] at hb; simp at hb
  simp [callFunc, h, h1, h2]

def evs (σ : Fr) : List Operand → Option (List Value)
  | [] => some []
  | x :: l => match ev σ x, evs σ l with
    | some v, some vs => some (v :: vs)
    | _, _ => none

theorem evs_eq {σ : Fr} {ρ : Operand → Value} (hρ : ∀ x v, ev σ x = some v → ρ x = v) : ∀ {l : List Operand} {vs : List Value}, evs σ l = some vs → l.map ρ = vs := by
  intro l
  induction l with
  | nil => intro vs h; simp [evs] at h; subst h; rfl
  | cons x l ih =>
    intro vs h
    simp only [evs] at h
    cases h1 : ev σ x with
    | none => rw [h1] at h; simp at h
    | some v =>
      cases h2 : evs σ l with
      | none => rw [h1, h2] at h; simp at h
      | some us =>
        rw [h1, h2] at h
        have : v :: us = vs := by simpa using h
        subst this
        simp [hρ _ _ h1, ih h2]

theorem Ex_call {w : World} {f : FuncId} {xs : List Operand} {ts : Array TypeId} {args : List Value} {post : Value → World → Prop} (hf : plainFn P f = true)
    (hx : evs σ xs = some args) (h : Calls P f args.toArray w (Ret post)) : Ex P (.call { callee := .value (.func f), args := xs.toArray, argTypes := ts }) ty σ w post := fun ρ hρ => by
  unfold plainFn at hf
  cases hp : P.funcs[f]? with
  | none => rw [hp] at hf; simp at hf
  | some fn =>
    rw [hp] at hf
    simp at hf
    have e := run_callFunc (P := P) (w := w) (args := args.toArray) hp hf.1 (by simpa using hf.2)
    have hr : ρ (.func f) = .func (.func f) #[] #[] := hρ _ _ rfl
    have ha : xs.toArray.map ρ = args.toArray := by rw [List.map_toArray, evs_eq hρ hx]
    simp only [execOp, bare, resolve, ha, hr, Deferred.ofValue, Sem.run_bind, Sem.run_pure, Result.andThen_ok, invoke, Array.append_empty, Array.empty_append, e]
    exact h

/-- The facts at these places. -/
def pick (Γ : List Fact) : List Nat → Option (List Fact)
  | [] => some []
  | n :: l => match nth Γ n, pick Γ l with
    | some f, some fs => some (f :: fs)
    | _, _ => none

theorem pick_mem {Γ : List Fact} : ∀ {l : List Nat} {Γ' : List Fact}, pick Γ l = some Γ' → ∀ f ∈ Γ', f ∈ Γ := by
  intro l
  induction l with
  | nil => intro Γ' h f hf; simp [pick] at h; subst h; cases hf
  | cons n l ih =>
    intro Γ' h f hf
    simp only [pick] at h
    cases h1 : nth Γ n with
    | none => rw [h1] at h; simp at h
    | some g =>
      cases h2 : pick Γ l with
      | none => rw [h1, h2] at h; simp at h
      | some gs =>
        rw [h1, h2] at h
        have : g :: gs = Γ' := by simpa using h
        subst this
        rcases List.mem_cons.1 hf with rfl | hf
        · rw [nth_eq] at h1; exact List.mem_of_getElem? h1
        · exact ih h2 f hf

/-- Keep the facts at these places alone. -/
theorem j_pick {Γ' : List Fact} (l : List Nat) (hp : pick Γ l = some Γ') (h : J F C S σ β Γ' R) : J F C S σ β Γ R := j_weak (pick_mem hp) h

/-- A call by its contract; no block is handed in. -/
theorem x_call {K : Value → List Blk → List Fact → Prop} {f : FuncId} {xs : List Operand} {ts : Array TypeId} {args : List Value} {Γ' : List Fact} {Q : Value → List Fact → List Blk → Prop} (l : List Nat)
    (hx : evs σ xs = some args) (hc : Ctr P f args [] Γ' Q) (hp : pick Γ l = some Γ')
    (h : ∀ v Φ β', Q v Φ β' → K v (β' ++ β) (Φ ++ Γ)) : Jop P C (.call { callee := .value (.func f), args := xs.toArray, argTypes := ts }) ty σ β Γ K := by
  intro w hO hG
  have hcall := hc.2 w (ok C w β) (fun k hk => hk.2.1) (fun x hx => by cases hx) trivial (fun g hg => g.stable (fun k hk => ⟨⟨hk, fun ⟨x, hx, _⟩ => by cases hx⟩, rfl⟩) (hG g (pick_mem hp g hg)))
  refine (Ex_call hc.1 hx hcall).mono ?_
  rintro v w' ⟨Φ, β', hQ, hO', hΦ⟩
  have hx : Ext w w' := ⟨hO'.ext.os, hO'.ext.tape, hO'.ext.output, hO'.ext.size, fun k hk => hO'.ext.block k hk (fun ⟨x, hx, _⟩ => by cases hx)⟩
  have hnew : ∀ x ∈ β', ∀ b, x.1 = some b → w.heap.size ≤ b := fun x hx b hb => by
    rcases hO'.new x hx b hb with h | ⟨y, hy, _⟩
    · exact h
    · cases hy
  have hO2 := hO.step hx
  refine ⟨_, _, h v Φ β' hQ, ⟨hO2.ext, ?_, ?_, ?_⟩, ?_⟩
  · intro x hm b hb
    rcases List.mem_append.1 hm with hm | hm
    · exact .inl (Nat.le_trans hO.ext.size (hnew x hm b hb))
    · exact hO.new x hm b hb
  · intro x hm b hb
    rcases List.mem_append.1 hm with hm | hm
    · exact hO'.blk x hm b hb
    · exact hO2.blk x hm b hb
  · refine hO'.apart.append hO.apart fun x hx y hy b hb e => ?_
    have h1 := hnew x hx b hb
    have h2 := hO.lt hy e
    omega
  · intro g hg
    rcases List.mem_append.1 hg with hg | hg
    · refine g.stable (fun k hk => ⟨⟨?_, hk.2.1, fun x hx => ?_⟩, rfl⟩) (hΦ g hg)
      · rcases hk.1 with h1 | ⟨x, hx, _⟩ | h1
        · exact h1.1
        · cases hx
        · exact .inr (.inr (Nat.le_trans hO.ext.size h1))
      · rcases List.mem_append.1 hx with hx | hx
        · exact hk.2.2 x hx
        · intro e
          have h2 := hO.lt hx e
          rcases hk.1 with h1 | ⟨y, hy, _⟩ | h1
          · exact h1.2.2 x hx e
          · cases hy
          · have : w.heap.size ≤ k := h1
            omega
    · refine g.stable (fun k hk => ⟨⟨hk.1, Nat.lt_of_lt_of_le hk.2.1 hx.size, fun x hx => ?_⟩, hx.block k hk.2.1⟩) (hG g hg)
      rcases List.mem_append.1 hx with hx | hx
      · intro e
        have h1 := hnew x hx k e
        have := hk.2.1
        omega
      · exact hk.2.2 x hx

/-- The end of a function that is to give something. -/
theorem j_gives {vs : List Value} {Q : Value → List Fact → List Blk → Prop} {Φ : List Fact} (l : List Nat) (hp : isRet F.B p = true) (hr : resOf σ F.fn.results.toList = some vs) (hl : pick Γ l = some Φ)
    (h : Q (resVal vs) Φ β) : J F C (.c p :: S) σ β Γ (Gives C Q) :=
  j_ret hp hr fun _ hO hG => ⟨Φ, β, h, hO, fun f hf => hG f (pick_mem hl f hf)⟩

theorem j_gives_end {vs : List Value} {Q : Value → List Fact → List Blk → Prop} {Φ : List Fact} (l : List Nat) (hr : resOf σ F.fn.results.toList = some vs) (hl : pick Γ l = some Φ)
    (h : Q (resVal vs) Φ β) : J F C [] σ β Γ (Gives C Q) :=
  j_end hr fun _ hO hG => ⟨Φ, β, h, hO, fun f hf => hG f (pick_mem hl f hf)⟩

/-- What is known here is more than is asked there. -/
theorem j_to {σ' : Fr} {β' : List Blk} {Γ' : List Fact} (l : List Nat) (hs : Fr.sub σ' σ) (hb : β' = β) (hp : pick Γ l = some Γ') (h : J F C S σ' β' Γ' R) : J F C S σ β Γ R := by
  subst hb
  exact j_sub hs (j_pick l hp h)

/-- A loop, its facts by their places. -/
theorem j_loopN {X : Type} (st : X → Fr) (bl : X → List Blk) (fa : X → List Fact) (I : X → Prop) (μ : X → Nat)
    (x : X) (l : List Nat) (hp : isLoop F.B p = true) (hx : I x) (hs : Fr.sub (st x) σ) (hb : β = bl x) (hf : pick Γ l = some (fa x))
    (round : ∀ x, I x → (∀ x', μ x' < μ x → I x' → J F C (.lp (p ++ [0]) :: S) (st x') (bl x') (fa x') R) → J F C (.c (p ++ [0]) :: .lp (p ++ [0]) :: S) (st x) (bl x) (fa x) R) :
    J F C (.c p :: S) σ β Γ R :=
  j_loop hp st bl fa I μ x hx hs hb (pick_mem hf) round

end
end Go.Fw
