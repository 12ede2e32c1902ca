/-
The twelfth text of the frame: bitwise operations, the lesser of two integers, a sign of a text, an empty literal.
-/
import Derived.Test.YtpoonnjaobjdgaaFw11
namespace Go.Fw
open Go.RowKit (Below)

section
variable {P : Program} {F : Fun P} {C : Cx} {S : List It} {R : Value → World → Prop} {σ : Fr} {β : List Blk} {Γ : List Fact} {ty : TypeId} {K : Value → List Blk → List Fact → Prop}

theorem bv_nat {a : Nat} (h : a < 18446744073709551616) : (BitVec.ofInt 64 (a : Int)).toNat = a := by
  rw [BitVec.toNat_ofInt]; omega

theorem wrap_nat {a : Nat} (h : a < 18446744073709551616) : IntKind.wrap .u64 (a : Int) = a := by
  simp [IntKind.wrap, IntKind.bits, IntKind.signed]; omega

theorem x_or_nat {x y : Operand} {t u : TypeId} {m n : Int} (a b : Nat) (hx : ev σ x = some (.int .u64 m)) (hy : ev σ y = some (.int .u64 n)) (hm : m = a) (hn : n = b) (ha : a < 18446744073709551616) (hb : b < 18446744073709551616)
    (h : K (.int .u64 ((a ||| b : Nat) : Int)) β Γ) : Jop P C (.binOp .or t x y u) ty σ β Γ K :=
  x_pure (fun w ρ hρ => by
    subst hm; subst hn
    have h1 : a ||| b < 18446744073709551616 := Nat.or_lt_two_pow (n := 64) ha hb
    have h2 := wrap_nat h1
    simp only [execOp, bare, hρ _ _ hx, hρ _ _ hy, eqGuard, Go.binOp, Op.intBits]
    have e : (BitVec.ofNat 64 a ||| BitVec.ofNat 64 b).toNat = a ||| b := by rw [BitVec.toNat_or, BitVec.toNat_ofNat, BitVec.toNat_ofNat, Nat.mod_eq_of_lt (by omega), Nat.mod_eq_of_lt (by omega)]
    simp [IntKind.bits]
    exact (congrArg (fun z : Nat => IntKind.wrap .u64 (z : Int)) e).trans h2) h

theorem x_and_nat {x y : Operand} {t u : TypeId} {m n : Int} (a b : Nat) (hx : ev σ x = some (.int .u64 m)) (hy : ev σ y = some (.int .u64 n)) (hm : m = a) (hn : n = b) (ha : a < 18446744073709551616) (hb : b < 18446744073709551616)
    (h : K (.int .u64 ((a &&& b : Nat) : Int)) β Γ) : Jop P C (.binOp .and t x y u) ty σ β Γ K :=
  x_pure (fun w ρ hρ => by
    subst hm; subst hn
    have h1 : a &&& b < 18446744073709551616 := Nat.lt_of_le_of_lt Nat.and_le_left ha
    have h2 := wrap_nat h1
    simp only [execOp, bare, hρ _ _ hx, hρ _ _ hy, eqGuard, Go.binOp, Op.intBits]
    have e : (BitVec.ofNat 64 a &&& BitVec.ofNat 64 b).toNat = a &&& b := by rw [BitVec.toNat_and, BitVec.toNat_ofNat, BitVec.toNat_ofNat, Nat.mod_eq_of_lt (by omega), Nat.mod_eq_of_lt (by omega)]
    simp [IntKind.bits]
    exact (congrArg (fun z : Nat => IntKind.wrap .u64 (z : Int)) e).trans h2) h

/-- A limb behind another one. -/
theorem x_or_shl {x y : Operand} {t u : TypeId} {m n : Int} (a b : Nat) (hx : ev σ x = some (.int .u64 m)) (hy : ev σ y = some (.int .u64 n)) (hm : m = a * 4294967296) (hn : n = b) (ha : a < 4294967296) (hb : b < 4294967296)
    (h : K (.int .u64 ((a * 4294967296 + b : Nat) : Int)) β Γ) : Jop P C (.binOp .or t x y u) ty σ β Γ K :=
  x_or_nat (a * 4294967296) b hx hy (by rw [hm]; simp) hn (by omega) (by omega) (by
    have := Nat.two_pow_add_eq_or_of_lt (i := 32) (b := b) (by simpa using hb) a
    rw [show (2 : Nat) ^ 32 = 4294967296 from rfl] at this
    rw [Nat.mul_comm a, ← this, Nat.mul_comm]; exact h)

/-- Odd or even. -/
theorem x_and_one {x y : Operand} {t u : TypeId} {m : Int} (a : Nat) (hx : ev σ x = some (.int .i64 m)) (hy : ev σ y = some (.int .i64 1)) (hm : m = a) (ha : a < 9223372036854775808)
    (h : K (.int .i64 ((a % 2 : Nat) : Int)) β Γ) : Jop P C (.binOp .and t x y u) ty σ β Γ K :=
  x_pure (fun w ρ hρ => by
    subst hm
    have e : (BitVec.ofNat 64 a &&& BitVec.ofInt 64 1).toNat = a % 2 := by
      rw [BitVec.toNat_and, BitVec.toNat_ofNat, Nat.mod_eq_of_lt (by omega), show (BitVec.ofInt 64 1).toNat = 1 from rfl, Nat.and_one_is_mod]
    have h2 : IntKind.wrap .i64 ((a % 2 : Nat) : Int) = ((a % 2 : Nat) : Int) := wrap_in (by simp only [InR]; omega)
    simp only [execOp, bare, hρ _ _ hx, hρ _ _ hy, eqGuard, Go.binOp, Op.intBits]
    simp [IntKind.bits]
    exact (congrArg (fun z : Nat => IntKind.wrap .i64 (z : Int)) e).trans h2) h

/-- Shifts by any number of places. -/
theorem x_shr_nat {x y : Operand} {t u : TypeId} {k k' : IntKind} {m n : Int} (a c : Nat) (hx : ev σ x = some (.int k m)) (hy : ev σ y = some (.int k' n)) (hm : m = a) (hn : n = c) (hc : c ≤ k.bits)
    (h : K (.int k ((a / 2 ^ c : Nat) : Int)) β Γ) : Jop P C (.binOp .shr t x y u) ty σ β Γ K :=
  x_pure (fun w ρ hρ => by
    subst hm; subst hn
    have e : Int.fdiv (a : Int) (2 ^ c) = ((a / 2 ^ c : Nat) : Int) := by
      rw [Int.fdiv_eq_ediv_of_nonneg _ (Int.le_of_lt (Int.pow_pos (by decide)))]
      simp
    have hmin : min c k.bits = c := Nat.min_eq_left hc
    have hneg : ¬ ((c : Int) < 0) := by omega
    simp only [execOp, bare, hρ _ _ hx, hρ _ _ hy, eqGuard, Go.binOp, Op.shift]
    simp [hneg, hmin, e]) h

theorem x_shl_nat {x y : Operand} {t u : TypeId} {k k' : IntKind} {m n : Int} (a c : Nat) (hx : ev σ x = some (.int k m)) (hy : ev σ y = some (.int k' n)) (hm : m = a) (hn : n = c) (hc : c ≤ k.bits) (hr : InR k ((a * 2 ^ c : Nat) : Int))
    (h : K (.int k ((a * 2 ^ c : Nat) : Int)) β Γ) : Jop P C (.binOp .shl t x y u) ty σ β Γ K :=
  x_pure (fun w ρ hρ => by
    subst hm; subst hn
    have hmin : min c k.bits = c := Nat.min_eq_left hc
    have hneg : ¬ ((c : Int) < 0) := by omega
    have e := wrap_in hr
    simp only [execOp, bare, hρ _ _ hx, hρ _ _ hy, eqGuard, Go.binOp, Op.shift]
    simp [hneg, hmin]
    simpa using e) h

theorem x_min {x y : Operand} {ts : Array TypeId} {k : IntKind} {m n : Int} (hx : ev σ x = some (.int k m)) (hy : ev σ y = some (.int k n)) (h : K (.int k (if n < m then n else m)) β Γ) :
    Jop P C (.call { callee := .builtin .min, args := #[x, y], argTypes := ts }) ty σ β Γ K :=
  x_pure (fun w ρ hρ => by
    simp [execOp, bare, resolve, invoke, builtin, Builtin.min_, Builtin.min2, hρ _ _ hx, hρ _ _ hy]) h

/-- A sign of a text. -/
theorem x_char {x y : Operand} {t : TypeId} {k : IntKind} {s : ByteArray} {b : UInt8} {m : Int} (n : Nat) (ht : P.underlying t = some .string) (hx : ev σ x = some (.string s)) (hy : ev σ y = some (.int k m)) (hm : m = n) (hb : s[n]? = some b)
    (h : K (.int .u8 b.toNat) β Γ) : Jop P C (.index t x y) ty σ β Γ K :=
  x_pure (fun w ρ hρ => by
    subst hm
    simp [execOp, bare, Instr.index, hρ _ _ hx, hρ _ _ hy, asIntOf, run_underlying ht, hb]) h

/-- An empty literal. -/
theorem x_lit0 {t e : TypeId} {m : Nat} (hT : slTy P t = some (e, m))
    (h : ∀ b, K (.slice (some ⟨b, 0, none⟩) 0 0) ((some b, e, []) :: β) Γ) : Jop P C (.buildSlice t 0 #[]) ty σ β Γ K :=
  x_new (f := fun b => .slice (some ⟨b, 0, none⟩) 0 0) (fun ρ hρ w => by
    refine ⟨.slice (some ⟨w.heap.size, 0, none⟩) 0 0, ?_, rfl⟩
    obtain ⟨hu, i, hi, hsz⟩ := slTy_some hT
    simp only [execOp, bare, Instr.buildSlice, Sem.run_bind, run_underlying hu, Result.andThen_ok, sizeOf, typeInfo, Sem.run_pure, run_program, hi, hsz]
    have e0 : Array.map (fun _ : Nat => (default : Value)) (Array.range 0) = #[] := by simp
    simp [newRow, Instr.fill, e0]) h

end
end Go.Fw
