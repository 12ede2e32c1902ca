/-
The fourth text of the frame: how data lie in memory: integers, bools, slices of what is read itself, structs; and the facts that say so.
-/
import Derived.Test.YtpoonnjaobjdgaaFw3
namespace Go.Fw

/-- Some cells of a block, one behind the other. -/
def cellsAt (w : World) (b o n : Nat) (vs : List Value) : Prop := ∃ cs T fr, w.heap[b]? = some (.cells cs T fr) ∧ (cs.toList.drop o).take n = vs ∧ vs.length = n

theorem cellsAt.rangeAt {w : World} {b o n : Nat} {vs : List Value} (h : cellsAt w b o n vs) : w.rangeAt b o vs := by
  obtain ⟨cs, T, fr, h1, h2, h3⟩ := h
  intro j v hv
  have hj : j < vs.length := by
    rcases Nat.lt_or_ge j vs.length with h | h
    · exact h
    · simp [List.getElem?_eq_none h] at hv
  subst h2
  simp only [List.getElem?_take, List.getElem?_drop] at hv
  rw [if_pos (by omega)] at hv
  simp [World.cell?, h1]
  simpa using hv

theorem cellsAt.same {w w' : World} {b o n : Nat} {vs : List Value} (h : cellsAt w b o n vs) (hb : w'.heap[b]? = w.heap[b]?) : cellsAt w' b o n vs := by
  obtain ⟨cs, T, fr, h1, h2⟩ := h
  exact ⟨cs, T, fr, hb.trans h1, h2⟩

theorem cellsAt.cell {w : World} {b o : Nat} {v : Value} (h : cellsAt w b o 1 [v]) : w.cell? ⟨b, o, none⟩ = some v := by
  simpa using h.rangeAt 0 v rfl

/-- A part of some cells. -/
theorem cellsAt.part {w : World} {b o n k m : Nat} {vs : List Value} (h : cellsAt w b o n vs) (hk : k + m ≤ n) : cellsAt w b (o + k) m ((vs.drop k).take m) := by
  obtain ⟨cs, T, fr, h1, h2, h3⟩ := h
  refine ⟨cs, T, fr, h1, ?_, by simp; omega⟩
  subst h2
  rw [← List.drop_drop, List.drop_take, List.take_take]
  congr 1
  omega

structure Enc (α : Type) where
  size : Nat
  bytes : Nat
  rd : World → (Nat → Prop) → List Value → α → Prop
  len : ∀ {w : World} {A : Nat → Prop} {vs : List Value} {x : α}, rd w A vs x → vs.length = size
  one : ∀ {w : World} {A : Nat → Prop} {vs : List Value} {x : α}, rd w A vs x → ∀ v ∈ vs, v.oneCell' = true
  stable : ∀ {w w' : World} {A A' : Nat → Prop} {vs : List Value} {x : α}, (∀ k, A k → A' k ∧ w'.heap[k]? = w.heap[k]?) → rd w A vs x → rd w' A' vs x

/-- A slice's elements. -/
def SlRd {α : Type} (E : Enc α) (w : World) (A : Nat → Prop) (pa : Option Addr) (ca : Nat) (l : List α) : Prop :=
  l.length ≤ ca ∧ l.length * E.bytes ≤ 140737488355328 ∧
    (l = [] ∨ ∃ b o, pa = some ⟨b, o, none⟩ ∧ A b ∧ ∀ i x, l[i]? = some x → ∃ vs, cellsAt w b (o + i * E.size) E.size vs ∧ E.rd w A vs x)

theorem SlRd.stable {α : Type} {E : Enc α} {w w' : World} {A A' : Nat → Prop} {pa : Option Addr} {ca : Nat} {l : List α} (h : ∀ k, A k → A' k ∧ w'.heap[k]? = w.heap[k]?) (hs : SlRd E w A pa ca l) : SlRd E w' A' pa ca l := by
  refine ⟨hs.1, hs.2.1, ?_⟩
  rcases hs.2.2 with h0 | ⟨b, o, e, hb, hx⟩
  · exact .inl h0
  · refine .inr ⟨b, o, e, (h b hb).1, fun i x hi => ?_⟩
    obtain ⟨vs, h1, h2⟩ := hx i x hi
    exact ⟨vs, h1.same (h b hb).2, E.stable h h2⟩

/-- In the range of a kind, in numerals. -/
def InR : IntKind → Int → Prop
  | .i8, n => -128 ≤ n ∧ n ≤ 127
  | .i16, n => -32768 ≤ n ∧ n ≤ 32767
  | .i32, n => -2147483648 ≤ n ∧ n ≤ 2147483647
  | .i64, n => -9223372036854775808 ≤ n ∧ n ≤ 9223372036854775807
  | .u8, n => 0 ≤ n ∧ n ≤ 255
  | .u16, n => 0 ≤ n ∧ n ≤ 65535
  | .u32, n => 0 ≤ n ∧ n ≤ 4294967295
  | .u64, n => 0 ≤ n ∧ n ≤ 18446744073709551615

theorem wrap_in {k : IntKind} {n : Int} (h : InR k n) : k.wrap n = n := by
  cases k <;> simp only [InR] at h <;> simp [IntKind.wrap, IntKind.bits, IntKind.signed] <;> omega

/-- An integer of a kind, read as an Int. -/
def encInt (k : IntKind) (bytes : Nat) : Enc Int where
  size := 1
  bytes := bytes
  rd := fun _ _ vs n => vs = [.int k n] ∧ InR k n
  len := fun h => by rw [h.1]; rfl
  one := fun h v hv => by rw [h.1] at hv; obtain rfl := List.mem_singleton.1 hv; rfl
  stable := fun _ h => h

/-- An unsigned integer, read as a Nat. -/
def encNat (k : IntKind) (bytes : Nat) : Enc Nat where
  size := 1
  bytes := bytes
  rd := fun _ _ vs n => vs = [.int k n] ∧ InR k n
  len := fun h => by rw [h.1]; rfl
  one := fun h v hv => by rw [h.1] at hv; obtain rfl := List.mem_singleton.1 hv; rfl
  stable := fun _ h => h

def encBool : Enc Bool where
  size := 1
  bytes := 1
  rd := fun _ _ vs b => vs = [.bool b]
  len := fun h => by rw [h]; rfl
  one := fun h v hv => by rw [h] at hv; obtain rfl := List.mem_singleton.1 hv; rfl
  stable := fun _ h => h

def encSl {α : Type} (E : Enc α) : Enc (List α) where
  size := 1
  bytes := 24
  rd := fun w A vs l => ∃ pa ca, vs = [.slice pa l.length ca] ∧ SlRd E w A pa ca l
  len := fun ⟨_, _, h, _⟩ => by rw [h]; rfl
  one := fun ⟨_, _, h, _⟩ v hv => by rw [h] at hv; obtain rfl := List.mem_singleton.1 hv; rfl
  stable := fun h ⟨pa, ca, h1, h2⟩ => ⟨pa, ca, h1, h2.stable h⟩

def encPair {α β : Type} (E : Enc α) (F : Enc β) (bytes : Nat) : Enc (α × β) where
  size := E.size + F.size
  bytes := bytes
  rd := fun w A vs x => ∃ v1 v2, vs = v1 ++ v2 ∧ E.rd w A v1 x.1 ∧ F.rd w A v2 x.2
  len := fun ⟨_, _, h, h1, h2⟩ => by rw [h, List.length_append, E.len h1, F.len h2]
  one := fun ⟨_, _, h, h1, h2⟩ v hv => by
    rw [h] at hv
    rcases List.mem_append.1 hv with hv | hv
    · exact E.one h1 v hv
    · exact F.one h2 v hv
  stable := fun h ⟨v1, v2, e, h1, h2⟩ => ⟨v1, v2, e, E.stable h h1, F.stable h h2⟩

/-- The numbers of the program. -/
abbrev U32 : Enc Nat := encNat .u32 4
abbrev I64 : Enc Int := encInt .i64 8
abbrev NatE : Enc (List Nat) := encSl U32
/-- A fraction: its sign, its numerator, its denominator. -/
abbrev Rt := Bool × List Nat × List Nat
abbrev RatE : Enc Rt := encPair encBool (encPair NatE NatE 48) 56

/-! ### The facts -/

def vF {α : Type} (E : Enc α) (vs : List Value) (x : α) : Fact where
  holds := fun w A => E.rd w A vs x
  stable := fun h => E.stable h

/-- The slice (pa, n, ca) reads as l. -/
def slF {α : Type} (E : Enc α) (pa : Option Addr) (n ca : Nat) (l : List α) : Fact where
  holds := fun w A => n = l.length ∧ SlRd E w A pa ca l
  stable := fun h hs => ⟨hs.1, SlRd.stable h hs.2⟩

def ptF {α : Type} (E : Enc α) (b o : Nat) (x : α) : Fact where
  holds := fun w A => A b ∧ ∃ vs, cellsAt w b o E.size vs ∧ E.rd w A vs x
  stable := fun h ⟨hb, vs, h1, h2⟩ => ⟨(h _ hb).1, vs, h1.same (h _ hb).2, E.stable h h2⟩

theorem slF_nil {α : Type} (E : Enc α) (w : World) (A : Nat → Prop) (pa : Option Addr) (ca : Nat) : (slF E pa 0 ca []).holds w A := ⟨rfl, Nat.zero_le _, by simp, .inl rfl⟩

section
variable {P : Program} {F : Fun P} {C : Cx} {S : List It} {σ : Fr} {β : List Blk} {Γ : List Fact} {R : Value → World → Prop} {p : List Nat} {i : Nat} {d : Option Tmp} {op : Op} {ty : TypeId}

/-- The fact number n. -/
theorem fact_mem {n : Nat} {f : Fact} (h : nth Γ n = some f) : f ∈ Γ := by rw [nth_eq] at h; exact List.mem_of_getElem? h

/-- What follows of the facts may be added. -/
theorem j_add (f : Fact) (hf : ∀ w A, (∀ g ∈ Γ, g.holds w A) → f.holds w A) (h : J F C S σ β (f :: Γ) R) : J F C S σ β Γ R :=
  fun w hO hG => h w hO fun g hg => by
    rcases List.mem_cons.1 hg with rfl | hg
    · exact hf _ _ hG
    · exact hG g hg

/-- What the facts say outside of memory. -/
theorem j_know {q : Prop} (hq : ∀ w A, (∀ g ∈ Γ, g.holds w A) → q) (h : q → J F C S σ β Γ R) : J F C S σ β Γ R :=
  fun w hO hG => h (hq _ _ hG) w hO hG

/-- How long a slice is, and may be. -/
theorem j_len {α : Type} {E : Enc α} {pa : Option Addr} {m ca : Nat} {l : List α} (n : Nat) (hn : nth Γ n = some (slF E pa m ca l)) (h : m = l.length → l.length * E.bytes ≤ 140737488355328 → l.length ≤ ca → J F C S σ β Γ R) : J F C S σ β Γ R :=
  fun w hO hG => h (hG _ (fact_mem hn)).1 (hG _ (fact_mem hn)).2.2.1 (hG _ (fact_mem hn)).2.1 w hO hG

/-- A value that is known by its fact alone is opened: a slice. -/
theorem j_open_sl {α : Type} {E : Enc α} {vs : List Value} {l : List α} (n : Nat) (hn : nth Γ n = some (vF (encSl E) vs l)) (h : ∀ pa ca, vs = [.slice pa l.length ca] → J F C S σ β (slF E pa l.length ca l :: Γ) R) : J F C S σ β Γ R :=
  fun w hO hG => by
    obtain ⟨pa, ca, e, hs⟩ := hG _ (fact_mem hn)
    exact h pa ca e w hO fun g hg => by
      rcases List.mem_cons.1 hg with rfl | hg
      · exact ⟨rfl, hs⟩
      · exact hG g hg

/-- A fraction. -/
theorem rt_open {w : World} {A : Nat → Prop} {vs : List Value} {x : Rt} (h : RatE.rd w A vs x) : ∃ pn cn pd cd, vs = [.bool x.1, .slice pn x.2.1.length cn, .slice pd x.2.2.length cd] ∧ SlRd U32 w A pn cn x.2.1 ∧ SlRd U32 w A pd cd x.2.2 := by
  obtain ⟨v1, v2, rfl, h1, v3, v4, rfl, ⟨pn, cn, rfl, h3⟩, ⟨pd, cd, rfl, h4⟩⟩ := h
  have : v1 = [.bool x.1] := h1
  subst this
  exact ⟨pn, cn, pd, cd, rfl, h3, h4⟩

theorem rt_shut {w : World} {A : Nat → Prop} {x : Rt} {pn pd : Option Addr} {cn cd : Nat} (h1 : SlRd U32 w A pn cn x.2.1) (h2 : SlRd U32 w A pd cd x.2.2) :
    RatE.rd w A [.bool x.1, .slice pn x.2.1.length cn, .slice pd x.2.2.length cd] x :=
  ⟨[.bool x.1], _, rfl, rfl, [.slice pn x.2.1.length cn], _, rfl, ⟨pn, cn, rfl, h1⟩, ⟨pd, cd, rfl, h2⟩⟩

theorem j_open_rt {vs : List Value} {x : Rt} (n : Nat) (hn : nth Γ n = some (vF RatE vs x)) (h : ∀ pn cn pd cd, vs = [.bool x.1, .slice pn x.2.1.length cn, .slice pd x.2.2.length cd] → J F C S σ β (slF U32 pn x.2.1.length cn x.2.1 :: slF U32 pd x.2.2.length cd x.2.2 :: Γ) R) : J F C S σ β Γ R :=
  fun w hO hG => by
    obtain ⟨pn, cn, pd, cd, e, h1, h2⟩ := rt_open (hG _ (fact_mem hn))
    exact h pn cn pd cd e w hO fun g hg => by
      rcases List.mem_cons.1 hg with rfl | hg
      · exact ⟨rfl, h1⟩
      · rcases List.mem_cons.1 hg with rfl | hg
        · exact ⟨rfl, h2⟩
        · exact hG g hg

/-! ### Addresses and loads -/

/-- What the walk reads off the table of types: a slice type's element and its size. -/
def slTy (P : Program) (t : TypeId) : Option (TypeId × Nat) :=
  match P.underlying t with
  | some (.slice e) => match P.info? e with
    | some i => some (e, i.size)
    | none => none
  | _ => none

theorem slTy_some {t e : TypeId} {n : Nat} (h : slTy P t = some (e, n)) : P.underlying t = some (.slice e) ∧ ∃ i, P.info? e = some i ∧ i.size = n := by
  unfold slTy at h
  split at h
  · rename_i e' hu
    split at h
    · rename_i i hi
      simp only [Option.some.injEq, Prod.mk.injEq] at h
      obtain ⟨rfl, rfl⟩ := h
      exact ⟨hu, i, hi, rfl⟩
    · simp at h
  · simp at h

theorem run_indexAt_some {w : World} {t e : TypeId} {n k len cap : Nat} {kd : IntKind} {b o : Nat} (h : slTy P t = some (e, n)) (hk : k < len) :
    (Instr.indexAt t (.slice (some ⟨b, o, none⟩) len cap) (.int kd k)).run P w = .ok (.pointer (some ⟨b, o + k * n, none⟩)) w := by
  obtain ⟨h1, i, h2, h3⟩ := slTy_some h
  simp [Instr.indexAt, asIntOf, run_underlying h1, sizeOf, typeInfo, h2, h3, hk, Addr.add_mid]

theorem Pure_idx {w : World} {t e : TypeId} {n k len cap : Nat} {kd : IntKind} {b o : Nat} {x y : Operand} {m : Int} (h : slTy P t = some (e, n)) (hx : ev σ x = some (.slice (some ⟨b, o, none⟩) len cap)) (hy : ev σ y = some (.int kd m)) (hm : m = (k : Int)) (hk : k < len) :
    Pure P (.indexAddr t x y) ty σ w (.pointer (some ⟨b, o + k * n, none⟩)) := fun ρ hρ => by
  subst hm
  simp only [execOp, bare, hρ _ _ hx, hρ _ _ hy, Sem.run_bind, run_indexAt_some (P := P) h hk, Result.andThen_ok, Sem.run_pure]

/-- The address of an element of a slice that is read. -/
theorem x_idx {K : Value → List Blk → List Fact → Prop} {α : Type} {E : Enc α} {t e : TypeId} {kd : IntKind} {x y : Operand} {pa : Option Addr} {len ca : Nat} {l : List α} {m : Int} (n k : Nat)
    (hx : ev σ x = some (.slice pa len ca)) (hy : ev σ y = some (.int kd m))
    (hn : nth Γ n = some (slF E pa len ca l)) (hT : slTy P t = some (e, E.size)) (hm : m = (k : Int)) (hk : k < len)
    (h : ∀ z, l[k]? = some z → ∀ b o, K (.pointer (some ⟨b, o, none⟩)) β (ptF E b o z :: Γ)) : Jop P C (.indexAddr t x y) ty σ β Γ K := by
  intro w hO hG
  obtain ⟨rfl, _, _, hs⟩ := hG _ (fact_mem hn)
  rcases hs with rfl | ⟨b, o, rfl, hb, hel⟩
  · simp at hk
  · obtain ⟨z, hz⟩ : ∃ z, l[k]? = some z := ⟨l[k], by simp [hk]⟩
    obtain ⟨vs, h1, h2⟩ := hel k z hz
    exact Pure.done (Pure_idx hT hx hy hm hk) (h z hz b (o + k * E.size)) hO (fun g hg => by
      rcases List.mem_cons.1 hg with rfl | hg
      · exact ⟨hb, vs, h1, h2⟩
      · exact hG g hg)

/-- Is a type's value more than one cell by its form? And how many cells. -/
def ldTy (P : Program) (t : TypeId) : Option (Bool × Nat) :=
  match P.underlying t, P.info? t with
  | some (.struct _), some i => some (true, i.size)
  | some (.array _ _), some i => some (true, i.size)
  | some _, some i => some (false, i.size)
  | _, _ => none

theorem run_load_one {w : World} {t : TypeId} {n b o : Nat} {v : Value} (h : ldTy P t = some (false, n)) (hc : w.cell? ⟨b, o, none⟩ = some v) :
    (Instr.loadAt t (.pointer (some ⟨b, o, none⟩))).run P w = .ok v w := by
  unfold ldTy at h
  cases hu : P.underlying t with
  | none => rw [hu] at h; simp at h
  | some dd =>
    have hagg : (isAgg t).run P w = .ok false w := by
      unfold isAgg
      rw [Sem.run_bind, run_underlying hu w]
      rw [hu] at h
      cases hi : P.info? t with
      | none => rw [hi] at h; cases dd <;> simp at h
      | some i => rw [hi] at h; cases dd <;> simp_all
    simp [Instr.loadAt, Instr.sureAddr, loadVar, hagg, hc]

theorem run_load_agg {w : World} {t : TypeId} {n b o : Nat} {vs : List Value} (h : ldTy P t = some (true, n)) (hl : vs.length = n) (hc : w.rangeAt b o vs) :
    (Instr.loadAt t (.pointer (some ⟨b, o, none⟩))).run P w = .ok (.agg vs.toArray) w := by
  unfold ldTy at h
  cases hu : P.underlying t with
  | none => rw [hu] at h; simp at h
  | some dd =>
    rw [hu] at h
    cases hi : P.info? t with
    | none => rw [hi] at h; cases dd <;> simp at h
    | some i =>
      rw [hi] at h
      refine run_loadAt_mid w b o t vs dd hc hu ?_ ?_
      · cases dd <;> simp_all
      · cases dd <;> simp_all

theorem Pure_load {w : World} {t : TypeId} {n b o : Nat} {v : Value} {x : Operand} (hT : ldTy P t = some (false, n)) (hx : ev σ x = some (.pointer (some ⟨b, o, none⟩))) (hc : w.cell? ⟨b, o, none⟩ = some v) :
    Pure P (.load t x) ty σ w v := fun ρ hρ => by
  simp only [execOp, bare, hρ _ _ hx, Sem.run_bind, run_load_one (P := P) hT hc, Result.andThen_ok, Sem.run_pure]

theorem Pure_load_agg {w : World} {t : TypeId} {n b o : Nat} {vs : List Value} {x : Operand} (hT : ldTy P t = some (true, n)) (hl : vs.length = n) (hx : ev σ x = some (.pointer (some ⟨b, o, none⟩))) (hc : w.rangeAt b o vs) :
    Pure P (.load t x) ty σ w (.agg vs.toArray) := fun ρ hρ => by
  simp only [execOp, bare, hρ _ _ hx, Sem.run_bind, run_load_agg (P := P) hT hl hc, Result.andThen_ok, Sem.run_pure]

/-- A number is loaded. -/
theorem x_ld_nat {K : Value → List Blk → List Fact → Prop} {t : TypeId} {kd : IntKind} {by' b o z : Nat} {x : Operand} (n : Nat) (hx : ev σ x = some (.pointer (some ⟨b, o, none⟩)))
    (hn : nth Γ n = some (ptF (encNat kd by') b o z)) (hT : ldTy P t = some (false, 1)) (h : InR kd z → K (.int kd z) β Γ) : Jop P C (.load t x) ty σ β Γ K := by
  intro w hO hG
  obtain ⟨hb, vs, h1, rfl, hz⟩ := hG _ (fact_mem hn)
  exact Pure.done (Pure_load hT hx h1.cell) (h hz) hO (hG)

theorem x_ld_int {K : Value → List Blk → List Fact → Prop} {t : TypeId} {kd : IntKind} {by' b o : Nat} {z : Int} {x : Operand} (n : Nat) (hx : ev σ x = some (.pointer (some ⟨b, o, none⟩)))
    (hn : nth Γ n = some (ptF (encInt kd by') b o z)) (hT : ldTy P t = some (false, 1)) (h : InR kd z → K (.int kd z) β Γ) : Jop P C (.load t x) ty σ β Γ K := by
  intro w hO hG
  obtain ⟨hb, vs, h1, rfl, hz⟩ := hG _ (fact_mem hn)
  exact Pure.done (Pure_load hT hx h1.cell) (h hz) hO (hG)

theorem x_ld_bool {K : Value → List Blk → List Fact → Prop} {t : TypeId} {b o : Nat} {z : Bool} {x : Operand} (n : Nat) (hx : ev σ x = some (.pointer (some ⟨b, o, none⟩)))
    (hn : nth Γ n = some (ptF encBool b o z)) (hT : ldTy P t = some (false, 1)) (h : K (.bool z) β Γ) : Jop P C (.load t x) ty σ β Γ K := by
  intro w hO hG
  obtain ⟨hb, vs, h1, h2⟩ := hG _ (fact_mem hn)
  have : vs = [.bool z] := h2
  subst this
  exact Pure.done (Pure_load hT hx h1.cell) (h) hO (hG)

theorem x_ld_sl {K : Value → List Blk → List Fact → Prop} {α : Type} {E : Enc α} {t : TypeId} {b o : Nat} {l : List α} {x : Operand} (n : Nat) (hx : ev σ x = some (.pointer (some ⟨b, o, none⟩)))
    (hn : nth Γ n = some (ptF (encSl E) b o l)) (hT : ldTy P t = some (false, 1)) (h : ∀ pa ca, K (.slice pa l.length ca) β (slF E pa l.length ca l :: Γ)) : Jop P C (.load t x) ty σ β Γ K := by
  intro w hO hG
  obtain ⟨hb, vs, h1, pa, ca, rfl, hs⟩ := hG _ (fact_mem hn)
  exact Pure.done (Pure_load hT hx h1.cell) (h pa ca) hO (fun g hg => by
      rcases List.mem_cons.1 hg with rfl | hg
      · exact ⟨rfl, hs⟩
      · exact hG g hg)

/-- A whole struct is loaded. -/
theorem x_ld_agg {K : Value → List Blk → List Fact → Prop} {α : Type} {E : Enc α} {t : TypeId} {b o : Nat} {z : α} {x : Operand} (n : Nat) (hx : ev σ x = some (.pointer (some ⟨b, o, none⟩)))
    (hn : nth Γ n = some (ptF E b o z)) (hT : ldTy P t = some (true, E.size)) (h : ∀ vs, K (.agg vs.toArray) β (vF E vs z :: Γ)) : Jop P C (.load t x) ty σ β Γ K := by
  intro w hO hG
  obtain ⟨hb, vs, h1, hs⟩ := hG _ (fact_mem hn)
  exact Pure.done (Pure_load_agg hT (E.len hs) hx h1.rangeAt) (h vs) hO (fun g hg => by
      rcases List.mem_cons.1 hg with rfl | hg
      · exact hs
      · exact hG g hg)

theorem x_ld_rt {K : Value → List Blk → List Fact → Prop} {t : TypeId} {b o : Nat} {z : Rt} {x : Operand} (n : Nat) (hx : ev σ x = some (.pointer (some ⟨b, o, none⟩)))
    (hn : nth Γ n = some (ptF RatE b o z)) (hT : ldTy P t = some (true, 3))
    (h : ∀ pn cn pd cd, K (.agg #[.bool z.1, .slice pn z.2.1.length cn, .slice pd z.2.2.length cd]) β (slF U32 pn z.2.1.length cn z.2.1 :: slF U32 pd z.2.2.length cd z.2.2 :: Γ)) : Jop P C (.load t x) ty σ β Γ K := by
  intro w hO hG
  obtain ⟨hb, vs, h1, hs⟩ := hG _ (fact_mem hn)
  obtain ⟨pn, cn, pd, cd, rfl, h2, h3⟩ := rt_open hs
  exact Pure.done (Pure_load_agg hT rfl hx h1.rangeAt) (h pn cn pd cd) hO fun g hg => by
    rcases List.mem_cons.1 hg with rfl | hg
    · exact ⟨rfl, h2⟩
    · rcases List.mem_cons.1 hg with rfl | hg
      · exact ⟨rfl, h3⟩
      · exact hG g hg

/-! ### Fields of a struct that is read -/

theorem ptF_fst {α γ : Type} {E : Enc α} {G : Enc γ} {n b o : Nat} {x : α × γ} {w : World} {A : Nat → Prop} (h : (ptF (encPair E G n) b o x).holds w A) : (ptF E b o x.1).holds w A := by
  obtain ⟨hb, vs, h1, v1, v2, rfl, h2, h3⟩ := h
  refine ⟨hb, v1, ?_, h2⟩
  have := h1.part (k := 0) (m := E.size) (by show 0 + E.size ≤ E.size + G.size; omega)
  have e : v1.length = E.size := E.len h2
  simpa [← e] using this

theorem ptF_snd {α γ : Type} {E : Enc α} {G : Enc γ} {n b o : Nat} {x : α × γ} {w : World} {A : Nat → Prop} (h : (ptF (encPair E G n) b o x).holds w A) : (ptF G b (o + E.size) x.2).holds w A := by
  obtain ⟨hb, vs, h1, v1, v2, rfl, h2, h3⟩ := h
  refine ⟨hb, v2, ?_, h3⟩
  have := h1.part (k := E.size) (m := G.size) (by show E.size + G.size ≤ E.size + G.size; omega)
  have e : v1.length = E.size := E.len h2
  have e2 : v2.length = G.size := G.len h3
  simpa [← e, ← e2] using this

/-- A field's offset, where the struct's type and the field's size allow it. -/
def fldTy (P : Program) (t : TypeId) (j : Nat) : Option Nat :=
  match P.underlying t with
  | some (.struct fields) => match nth fields.toList j with
    | some f => match P.info? f.type with
      | some i => match Nat.beq i.size 0 with
        | true => none
        | false => some f.offset
      | none => none
    | none => none
  | _ => none

theorem run_fieldAt_some {w : World} {t : TypeId} {j off b o : Nat} (h : fldTy P t j = some off) :
    (Instr.fieldAt t (.pointer (some ⟨b, o, none⟩)) j).run P w = .ok (.pointer (some ⟨b, o + off, none⟩)) w := by
  unfold fldTy at h
  split at h
  · rename_i fields hu
    split at h
    · rename_i f hf
      split at h
      · rename_i ii hi
        cases hb : Nat.beq ii.size 0 with
        | true => rw [hb] at h; simp at h
        | false =>
          rw [hb] at h
          obtain rfl := Option.some.inj h
          have hne : ii.size ≠ 0 := Nat.ne_of_beq_eq_false hb
          rw [nth_eq] at hf
          have hf' : fields[j]? = some f := by simpa using hf
          simp [Instr.fieldAt, run_underlying hu, hf', Instr.sureAddr, fieldPlace, sizeOf, typeInfo, hi, hne, Addr.add_mid]
      · simp at h
    · simp at h
  · simp at h

theorem Pure_field {w : World} {t : TypeId} {j off b o : Nat} {x : Operand} (hT : fldTy P t j = some off) (hx : ev σ x = some (.pointer (some ⟨b, o, none⟩))) :
    Pure P (.fieldAddr t x j) ty σ w (.pointer (some ⟨b, o + off, none⟩)) := fun ρ hρ => by
  simp only [execOp, bare, hρ _ _ hx, Sem.run_bind, run_fieldAt_some (P := P) hT, Result.andThen_ok, Sem.run_pure]

theorem x_field {K : Value → List Blk → List Fact → Prop} {t : TypeId} {j off b o : Nat} {x : Operand} (hx : ev σ x = some (.pointer (some ⟨b, o, none⟩))) (hT : fldTy P t j = some off)
    (h : K (.pointer (some ⟨b, o + off, none⟩)) β Γ) : Jop P C (.fieldAddr t x j) ty σ β Γ K :=
  x_pure (fun _ => Pure_field hT hx) h

end
end Go.Fw
