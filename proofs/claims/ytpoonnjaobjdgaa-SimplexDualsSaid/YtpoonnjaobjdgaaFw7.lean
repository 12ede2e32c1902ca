/-
The seventh text of the frame: operations whose value is known outright, many at a time; wraps, shifts; slices of slices; structs by value.
-/
import Derived.Test.YtpoonnjaobjdgaaFw6
import Derived.Laws.Small
import Derived.Laws.Slices
namespace Go.Fw

def look {α : Type} (t : Nat) : List (Nat × α) → Option α
  | [] => none
  | (i, v) :: l => match Nat.beq i t with
    | true => some v
    | false => look t l

/-- The integer types of the program, read off its table. -/
def IntTys (P : Program) (it : List (TypeId × IntKind)) : Prop := ∀ t k, look t it = some k → P.underlying t = some (.int k)

theorem IntTys.nil (P : Program) : IntTys P [] := fun t k h => by simp [look] at h
theorem IntTys.cons {P : Program} {t : TypeId} {k : IntKind} {it : List (TypeId × IntKind)} (h : P.underlying t = some (.int k)) (ht : IntTys P it) : IntTys P ((t, k) :: it) := by
  intro t' k' h'
  simp only [look] at h'
  cases hb : Nat.beq t t' with
  | true =>
    rw [hb] at h'
    obtain rfl : t = t' := Nat.eq_of_beq_eq_true hb
    obtain rfl := Option.some.inj h'
    exact h
  | false => rw [hb] at h'; exact ht t' k' h'

def shiftBy (c : Int) : Option Int :=
  if c = 32 then some 4294967296 else if c = 1 then some 2 else if c = 63 then some 9223372036854775808 else if c = 31 then some 2147483648 else if c = 62 then some 4611686018427387904 else none

theorem shiftBy_some {c r : Int} (h : shiftBy c = some r) : 0 ≤ c ∧ c ≤ 63 ∧ (2 : Int) ^ c.toNat = r := by
  unfold shiftBy at h
  split at h
  · subst_vars; obtain rfl := Option.some.inj h; decide
  · split at h
    · subst_vars; obtain rfl := Option.some.inj h; decide
    · split at h
      · subst_vars; obtain rfl := Option.some.inj h; decide
      · split at h
        · subst_vars; obtain rfl := Option.some.inj h; decide
        · split at h
          · subst_vars; obtain rfl := Option.some.inj h; decide
          · simp at h

/-- A binary operation on integers of one kind: its value, and what it owes. -/
def ibin (op : BinOp) (k : IntKind) (m n : Int) : Option (Value × Prop) :=
  match op with
  | .add => some (.int k (m + n), InR k (m + n))
  | .sub => some (.int k (m - n), InR k (m - n))
  | .mul => some (.int k (m * n), InR k (m * n))
  | .quo => some (.int k (m / n), 0 ≤ m ∧ 0 < n ∧ InR k m)
  | .rem => some (.int k (m % n), 0 ≤ m ∧ 0 < n)
  | .eql => some (.bool (decide (m = n)), True)
  | .neq => some (.bool (!decide (m = n)), True)
  | .lss => some (.bool (decide (m < n)), True)
  | .leq => some (.bool (decide (m ≤ n)), True)
  | .gtr => some (.bool (decide (n < m)), True)
  | .geq => some (.bool (decide (n ≤ m)), True)
  | _ => none

def beqKind : IntKind → IntKind → Bool
  | .i8, .i8 | .i16, .i16 | .i32, .i32 | .i64, .i64 | .u8, .u8 | .u16, .u16 | .u32, .u32 | .u64, .u64 => true
  | _, _ => false

theorem beqKind_eq {a b : IntKind} (h : beqKind a b = true) : a = b := by
  cases a <;> cases b <;> first | rfl | simp [beqKind] at h

def is64 : IntKind → Bool
  | .i64 | .u64 => true
  | _ => false

theorem bits64 (k : IntKind) (h : is64 k = true) : k.bits = 64 := by
  cases k <;> first | rfl | simp [is64] at h

/-- What a pure operation comes to, and what it owes. -/
def pev (it : List (TypeId × IntKind)) (σ : Fr) (op : Op) : Option (Value × Prop) :=
  match op with
  | .move x => match ev σ x with
    | some v => some (v, True)
    | none => none
  | .assign x => match ev σ x with
    | some v => some (v, True)
    | none => none
  | .pick c a b => match ev σ c, ev σ a, ev σ b with
    | some (.bool true), some v, _ => some (v, True)
    | some (.bool false), _, some v => some (v, True)
    | _, _, _ => none
  | .binOp .shl _ x y _ => match ev σ x, ev σ y with
    | some (.int k m), some (.int _ c) => match is64 k, shiftBy c with
      | true, some r => some (.int k (m * r), InR k (m * r))
      | _, _ => none
    | _, _ => none
  | .binOp .shr _ x y _ => match ev σ x, ev σ y with
    | some (.int k m), some (.int _ c) => match is64 k, shiftBy c with
      | true, some r => some (.int k (m / r), True)
      | _, _ => none
    | _, _ => none
  | .binOp .eql _ x y _ => match ev σ x, ev σ y with
    | some (.int k m), some (.int k' n) => match beqKind k k' with
      | true => ibin .eql k m n
      | false => none
    | _, _ => none
  | .binOp .neq _ x y _ => match ev σ x, ev σ y with
    | some (.int k m), some (.int k' n) => match beqKind k k' with
      | true => ibin .neq k m n
      | false => none
    | _, _ => none
  | .binOp o _ x y _ => match ev σ x, ev σ y with
    | some (.int k m), some (.int k' n) => match beqKind k k' with
      | true => ibin o k m n
      | false => none
    | _, _ => none
  | .unOp .not _ x => match ev σ x with
    | some (.bool b) => some (.bool (!b), True)
    | _ => none
  | .unOp .neg _ x => match ev σ x with
    | some (.int k n) => some (.int k (-n), InR k (-n))
    | _ => none
  | .convert s t x => match ev σ x, look s it, look t it with
    | some (.int _ n), some _, some k => some (.int k n, InR k n)
    | _, _, _ => none
  | .extract x i => match ev σ x with
    | some (.tuple ⟨vs⟩) => match nth vs i with
      | some v => some (v, True)
      | none => none
    | _ => none
  | .nilCheck x => match ev σ x with
    | some (.pointer (some a)) => some (.pointer (some a), True)
    | _ => none
  | .makeFunc fn ⟨first⟩ ⟨captured⟩ => match evs σ first, evs σ captured with
    | some us, some vs => some (.func fn us.toArray vs.toArray, True)
    | _, _ => none
  | _ => none

theorem pev_sound {P : Program} {it : List (TypeId × IntKind)} (hit : IntTys P it) {σ : Fr} {op : Op} {ty : TypeId} {v : Value} {q : Prop} (h : pev it σ op = some (v, q)) (hq : q) (w : World) : Pure P op ty σ w v := by
  intro ρ hρ
  have ibin_run : ∀ (o : BinOp) (k : IntKind) (m n : Int) (v : Value) (q : Prop), ibin o k m n = some (v, q) → q → ∀ t x y u, ρ x = .int k m → ρ y = .int k n → (execOp ρ (bare (.binOp o t x y u) ty)).run P w = .ok (.value v) w := by
    intro o k m n v q h hq t x y u hx hy
    cases o <;> simp only [ibin, Option.some.injEq, Prod.mk.injEq, reduceCtorEq] at h
    case add => obtain ⟨rfl, rfl⟩ := h; simp [execOp, bare, hx, hy, eqGuard, Go.binOp, Op.intArith, wrap_in hq]
    case sub => obtain ⟨rfl, rfl⟩ := h; simp [execOp, bare, hx, hy, eqGuard, Go.binOp, Op.intArith, wrap_in hq]
    case mul => obtain ⟨rfl, rfl⟩ := h; simp [execOp, bare, hx, hy, eqGuard, Go.binOp, Op.intArith, wrap_in hq]
    case quo =>
      obtain ⟨rfl, rfl⟩ := h
      obtain ⟨h0, h1, h2⟩ := hq
      have hne : ¬ n = 0 := by omega
      have e : m.tdiv n = m / n := Int.tdiv_eq_ediv_of_nonneg h0
      have hr : InR k (m / n) := by
        have hge : 0 ≤ m / n := Int.ediv_nonneg h0 (by omega)
        have hle : m / n ≤ m := Int.ediv_le_self _ h0
        cases k <;> simp only [InR] at h2 ⊢ <;> omega
      simp [execOp, bare, hx, hy, eqGuard, Go.binOp, Op.intDiv, hne, e, wrap_in hr]
    case rem =>
      obtain ⟨rfl, rfl⟩ := h
      obtain ⟨h0, h1⟩ := hq
      have hne : ¬ n = 0 := by omega
      have e : m.tmod n = m % n := Int.tmod_eq_emod_of_nonneg h0
      simp [execOp, bare, hx, hy, eqGuard, Go.binOp, Op.intDiv, hne, e]
    case eql => obtain ⟨rfl, rfl⟩ := h; simp [execOp, bare, hx, hy, eqGuard, Go.binOp, Op.intCmp]; rfl
    case neq => obtain ⟨rfl, rfl⟩ := h; simp [execOp, bare, hx, hy, eqGuard, Go.binOp, Op.intCmp]; rfl
    case lss => obtain ⟨rfl, rfl⟩ := h; simp [execOp, bare, hx, hy, eqGuard, Go.binOp, Op.intCmp]
    case leq => obtain ⟨rfl, rfl⟩ := h; simp [execOp, bare, hx, hy, eqGuard, Go.binOp, Op.intCmp]
    case gtr => obtain ⟨rfl, rfl⟩ := h; simp [execOp, bare, hx, hy, eqGuard, Go.binOp, Op.intCmp]
    case geq => obtain ⟨rfl, rfl⟩ := h; simp [execOp, bare, hx, hy, eqGuard, Go.binOp, Op.intCmp]
  have two : ∀ (o : BinOp) t x y u, (match ev σ x, ev σ y with
      | some (.int k m), some (.int k' n) => match beqKind k k' with
        | true => ibin o k m n
        | false => none
      | _, _ => none) = some (v, q) → (execOp ρ (bare (.binOp o t x y u) ty)).run P w = .ok (.value v) w := by
    intro o t x y u h
    split at h
    · rename_i k m k' n hx hy
      split at h
      · rename_i hb
        obtain rfl := beqKind_eq hb
        exact ibin_run o k m n v q h hq t x y u (hρ _ _ hx) (hρ _ _ hy)
      · simp at h
    · simp at h
  unfold pev at h
  split at h
  · split at h
    · rename_i hx; obtain ⟨rfl, rfl⟩ := Prod.mk.inj (Option.some.inj h)
      simp [execOp, bare, hρ _ _ hx]
    · simp at h
  · split at h
    · rename_i hx; obtain ⟨rfl, rfl⟩ := Prod.mk.inj (Option.some.inj h)
      simp [execOp, bare, hρ _ _ hx]
    · simp at h
  · split at h
    · rename_i hc ha; obtain ⟨rfl, rfl⟩ := Prod.mk.inj (Option.some.inj h)
      simp [execOp, bare, hρ _ _ hc, hρ _ _ ha, asBool]
    · rename_i vv hc hb; obtain ⟨rfl, rfl⟩ := Prod.mk.inj (Option.some.inj h)
      simp [execOp, bare, hρ _ _ hc, hρ _ _ hb, asBool]
    · simp at h
  · split at h
    · rename_i k m _ c hx hy
      split at h
      · rename_i r hk hr
        obtain ⟨rfl, rfl⟩ := Prod.mk.inj (Option.some.inj h)
        obtain ⟨h0, h1, h2⟩ := shiftBy_some hr
        have hb := bits64 k hk
        have hn : ¬ c < 0 := by omega
        have hm : min c.toNat 64 = c.toNat := by omega
        simp [execOp, bare, hρ _ _ hx, hρ _ _ hy, eqGuard, Go.binOp, Op.shift, hn, hb, hm, h2, wrap_in hq]
      · simp at h
    · simp at h
  · split at h
    · rename_i k m _ c hx hy
      split at h
      · rename_i r hk hr
        obtain ⟨rfl, rfl⟩ := Prod.mk.inj (Option.some.inj h)
        obtain ⟨h0, h1, h2⟩ := shiftBy_some hr
        have hb := bits64 k hk
        have hn : ¬ c < 0 := by omega
        have hm : min c.toNat 64 = c.toNat := by omega
        have hf : m.fdiv r = m / r := Int.fdiv_eq_ediv_of_nonneg _ (by rw [← h2]; exact Int.pow_nonneg (by decide))
        simp [execOp, bare, hρ _ _ hx, hρ _ _ hy, eqGuard, Go.binOp, Op.shift, hn, hb, hm, h2, hf]
      · simp at h
    · simp at h
  · exact two _ _ _ _ _ h
  · exact two _ _ _ _ _ h
  · exact two _ _ _ _ _ h
  · split at h
    · rename_i b hx; obtain ⟨rfl, rfl⟩ := Prod.mk.inj (Option.some.inj h)
      simp [execOp, bare, hρ _ _ hx, Op.unary]
    · simp at h
  · split at h
    · rename_i k n hx; obtain ⟨rfl, rfl⟩ := Prod.mk.inj (Option.some.inj h)
      simp [execOp, bare, hρ _ _ hx, Op.unary, Op.intArith, wrap_in hq]
    · simp at h
  · split at h
    · rename_i n k0 k hx hs hk; obtain ⟨rfl, rfl⟩ := Prod.mk.inj (Option.some.inj h)
      simp [execOp, bare, hρ _ _ hx, convert, run_underlying (hit _ _ hs), run_underlying (hit _ _ hk), Conv.intToInt, wrap_in hq]
    · simp at h
  · split at h
    · rename_i vs hx
      split at h
      · rename_i hv
        obtain ⟨rfl, rfl⟩ := Prod.mk.inj (Option.some.inj h)
        rw [nth_eq] at hv
        simp [execOp, bare, hρ _ _ hx, Instr.extract, hv]
      · simp at h
    · simp at h
  · split at h
    · rename_i hx; obtain ⟨rfl, rfl⟩ := Prod.mk.inj (Option.some.inj h)
      simp [execOp, bare, hρ _ _ hx]
    · simp at h
  · split at h
    · rename_i us vs hu hv; obtain ⟨rfl, rfl⟩ := Prod.mk.inj (Option.some.inj h)
      simp [execOp, bare, Instr.makeFunc, evs_eq hρ hu, evs_eq hρ hv]
    · simp at h
  · simp at h

/-- Many pure operations, one behind the other; a guarded one whose test is known is carried out or passed over. -/
def runP {P : Program} (it : List (TypeId × IntKind)) (F : Fun P) (p : List Nat) : Nat → Nat → Fr → Prop → Option (Fr × Prop)
  | 0, _, σ, q => some (σ, q)
  | n + 1, i, σ, q => match opAt F p i with
    | some (some d, op, _) => match pev it σ op with
      | some (v, q') => runP it F p n (i + 1) ((d, v) :: σ) (q' ∧ q)
      | none => none
    | some (none, _, _) => none
    | none => match opAtG F p i with
      | some (g, want, some d, op, _) => match Fr.get g σ with
        | some (.bool true) => match want with
          | true => match pev it σ op with
            | some (v, q') => runP it F p n (i + 1) ((d, v) :: σ) (q' ∧ q)
            | none => none
          | false => runP it F p n (i + 1) ((d, undef) :: σ) q
        | some (.bool false) => match want with
          | false => match pev it σ op with
            | some (v, q') => runP it F p n (i + 1) ((d, v) :: σ) (q' ∧ q)
            | none => none
          | true => runP it F p n (i + 1) ((d, undef) :: σ) q
        | _ => none
      | _ => none

section
variable {P : Program} {F : Fun P} {C : Cx} {S : List It} {σ : Fr} {β : List Blk} {Γ : List Fact} {R : Value → World → Prop} {p : List Nat} {i : Nat} {d : Option Tmp} {op : Op} {ty : TypeId} {K : Value → List Blk → List Fact → Prop}

theorem runP_owes {it : List (TypeId × IntKind)} : ∀ (n i : Nat) (σ σ' : Fr) (q q' : Prop), runP it F p n i σ q = some (σ', q') → q' → q := by
  intro n
  induction n with
  | zero => intro i σ σ' q q' h hq; simp only [runP, Option.some.injEq, Prod.mk.injEq] at h; rw [h.2]; exact hq
  | succ n ih =>
    intro i σ σ' q q' h hq
    simp only [runP] at h
    repeat' split at h
    all_goals first | exact (ih _ _ _ _ _ h hq).2 | exact ih _ _ _ _ _ h hq | simp at h

theorem j_runP {it : List (TypeId × IntKind)} (hit : IntTys P it) : ∀ (n i : Nat) (σ σ' : Fr) (q q' : Prop), runP it F p n i σ q = some (σ', q') → q' → J F C (.o p (i + n) :: S) σ' β Γ R → J F C (.o p i :: S) σ β Γ R := by
  intro n
  induction n with
  | zero => intro i σ σ' q q' h hq hJ; simp only [runP, Option.some.injEq, Prod.mk.injEq] at h; rw [h.1]; exact hJ
  | succ n ih =>
    intro i σ σ' q q' h hq hJ
    have hJ' : J F C (.o p (i + 1 + n) :: S) σ' β Γ R := by rw [Nat.add_assoc, Nat.add_comm 1 n]; exact hJ
    simp only [runP] at h
    split at h
    · rename_i dd op' ty' ho
      split at h
      · rename_i v q1 hv
        exact j_step ho (x_pure (fun w => pev_sound hit hv (runP_owes _ _ _ _ _ _ h hq).1 w) (ih _ _ _ _ _ h hq hJ'))
      · simp at h
    · simp at h
    · split at h
      · rename_i g want dd op' ty' ho
        split at h
        · rename_i hb
          split at h
          · split at h
            · rename_i v q1 hv
              exact j_gstep ho hb (x_pure (fun w => pev_sound hit hv (runP_owes _ _ _ _ _ _ h hq).1 w) (ih _ _ _ _ _ h hq hJ'))
            · simp at h
          · exact j_gskip ho hb rfl (ih _ _ _ _ _ h hq hJ')
        · rename_i hb
          split at h
          · split at h
            · rename_i v q1 hv
              exact j_gstep ho hb (x_pure (fun w => pev_sound hit hv (runP_owes _ _ _ _ _ _ h hq).1 w) (ih _ _ _ _ _ h hq hJ'))
            · simp at h
          · exact j_gskip ho hb rfl (ih _ _ _ _ _ h hq hJ')
        · simp at h
      · simp at h

/-- n pure operations from here on. -/
theorem j_run {it : List (TypeId × IntKind)} (hit : IntTys P it) (n : Nat) {σ' : Fr} {q : Prop} (h : runP it F p n i σ True = some (σ', q)) (hq : q) (hJ : J F C (.o p (i + n) :: S) σ' β Γ R) : J F C (.o p i :: S) σ β Γ R :=
  j_runP hit n i σ σ' True q h hq hJ

/-! ### What is not pure by form -/

/-- A conversion that cuts off: uint32(x). -/
theorem x_conv_u32 {it : List (TypeId × IntKind)} (hit : IntTys P it) {s t : TypeId} {x : Operand} {k k0 : IntKind} {n : Int} (hx : ev σ x = some (.int k0 n)) (hs : look s it = some k) (ht : look t it = some .u32) (h : K (.int .u32 (n % 4294967296)) β Γ) : Jop P C (.convert s t x) ty σ β Γ K :=
  x_pure (fun w ρ hρ => by
    simp [execOp, bare, hρ _ _ hx, convert, run_underlying (hit _ _ hs), run_underlying (hit _ _ ht), Conv.intToInt, IntKind.wrap, IntKind.bits, IntKind.signed]) h

theorem x_conv_u64 {it : List (TypeId × IntKind)} (hit : IntTys P it) {s t : TypeId} {x : Operand} {k k0 : IntKind} {n : Int} (hx : ev σ x = some (.int k0 n)) (hs : look s it = some k) (ht : look t it = some .u64) (h : K (.int .u64 (n % 18446744073709551616)) β Γ) : Jop P C (.convert s t x) ty σ β Γ K :=
  x_pure (fun w ρ hρ => by
    simp [execOp, bare, hρ _ _ hx, convert, run_underlying (hit _ _ hs), run_underlying (hit _ _ ht), Conv.intToInt, IntKind.wrap, IntKind.bits, IntKind.signed]) h

/-- Subtraction of uint64 that may wrap. -/
theorem x_sub_u64 {x y : Operand} {t u : TypeId} {m n : Int} (hx : ev σ x = some (.int .u64 m)) (hy : ev σ y = some (.int .u64 n)) (h : K (.int .u64 ((m - n) % 18446744073709551616)) β Γ) : Jop P C (.binOp .sub t x y u) ty σ β Γ K :=
  x_pure (fun w ρ hρ => by
    simp [execOp, bare, hρ _ _ hx, hρ _ _ hy, eqGuard, Go.binOp, Op.intArith, IntKind.wrap, IntKind.bits, IntKind.signed]) h

/-- The length of a slice. -/
theorem x_len {x : Operand} {t e : TypeId} {m : Nat} {pa : Option Addr} {n ca : Nat} (hT : slTy P t = some (e, m)) (hx : ev σ x = some (.slice pa n ca)) (h : K (.int .i64 n) β Γ) :
    Jop P C (.call { callee := .builtin .len, args := #[x], argTypes := #[t] }) ty σ β Γ K :=
  x_pure (fun w ρ hρ => by
    obtain ⟨hu, _⟩ := slTy_some hT
    simp [execOp, bare, resolve, invoke, builtin, Builtin.len_, run_underlying hu, hρ _ _ hx, goInt]) h

/-- Two bools compared. -/
theorem x_eqb {x y : Operand} {t u : TypeId} {a b : Bool} (ht : P.underlying t = some .bool) (hx : ev σ x = some (.bool a)) (hy : ev σ y = some (.bool b)) (h : K (.bool (a == b)) β Γ) : Jop P C (.binOp .eql t x y u) ty σ β Γ K :=
  x_pure (fun w ρ hρ => by
    have := run_eql_bool (P := P) w t a b ht
    simp [execOp, bare, hρ _ _ hx, hρ _ _ hy, eqGuard, this]) h

theorem x_neb {x y : Operand} {t u : TypeId} {a b : Bool} (ht : P.underlying t = some .bool) (hx : ev σ x = some (.bool a)) (hy : ev σ y = some (.bool b)) (h : K (.bool (a != b)) β Γ) : Jop P C (.binOp .neq t x y u) ty σ β Γ K :=
  x_pure (fun w ρ hρ => by
    have := run_neq_bool (P := P) w t a b ht
    simp [execOp, bare, hρ _ _ hx, hρ _ _ hy, eqGuard, this]
    cases a <;> cases b <;> rfl) h

end
end Go.Fw
