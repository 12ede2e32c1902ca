/-
The ninth text of the frame: own rows of numbers.
-/
import Derived.Test.YtpoonnjaobjdgaaFw8
namespace Go.Fw

/-- The cells of a row of numbers. -/
def natCells (k : IntKind) (l : List Nat) : List Value := l.map fun (n : Nat) => .int k n
def intCells (k : IntKind) (l : List Int) : List Value := l.map fun n => .int k n

@[simp] theorem natCells_length (k : IntKind) (l : List Nat) : (natCells k l).length = l.length := by simp [natCells]
@[simp] theorem intCells_length (k : IntKind) (l : List Int) : (intCells k l).length = l.length := by simp [intCells]
theorem natCells_get (k : IntKind) (l : List Nat) (i : Nat) : (natCells k l)[i]? = (l[i]?).map fun (n : Nat) => .int k n := by simp [natCells]
theorem natCells_set (k : IntKind) (l : List Nat) (i n : Nat) : (natCells k l).set i (.int k n) = natCells k (l.set i n) := by simp [natCells, List.map_set]
theorem intCells_set (k : IntKind) (l : List Int) (i : Nat) (n : Int) : (intCells k l).set i (.int k n) = intCells k (l.set i n) := by simp [intCells, List.map_set]
theorem natCells_append (k : IntKind) (l l' : List Nat) : natCells k (l ++ l') = natCells k l ++ natCells k l' := by simp [natCells]
theorem natCells_take (k : IntKind) (l : List Nat) (n : Nat) : (natCells k l).take n = natCells k (l.take n) := by simp [natCells]
theorem natCells_flatten (k : IntKind) (l : List Nat) : (l.map fun (n : Nat) => [Value.int k n]).flatten = natCells k l := by
  induction l with
  | nil => rfl
  | cons x l ih => simp only [List.map_cons, List.flatten_cons, ih, natCells, List.singleton_append]
theorem intCells_flatten (k : IntKind) (l : List Int) : (l.map fun n => [Value.int k n]).flatten = intCells k l := by
  induction l with
  | nil => rfl
  | cons x l ih => simp only [List.map_cons, List.flatten_cons, ih, intCells, List.singleton_append]
theorem rep_flatten (n : Nat) (v : Value) : (List.replicate n [v]).flatten = List.replicate n v := by
  induction n with
  | zero => rfl
  | succ n ih => simp only [List.replicate_succ, List.flatten_cons, ih, List.singleton_append]
theorem natCells_rep (k : IntKind) (n z : Nat) : natCells k (List.replicate n z) = List.replicate n (.int k z) := by simp [natCells]
theorem intCells_rep (k : IntKind) (n : Nat) (z : Int) : intCells k (List.replicate n z) = List.replicate n (.int k z) := by simp [intCells]

section
variable {P : Program} {F : Fun P} {C : Cx} {S : List It} {σ : Fr} {β : List Blk} {Γ : List Fact} {R : Value → World → Prop} {p : List Nat} {i : Nat} {d : Option Tmp} {op : Op} {ty : TypeId} {K : Value → List Blk → List Fact → Prop}

theorem x_make_nat {t e : TypeId} {kd kx ky : IntKind} {x y : Operand} {nn : Int} (k by' : Nat) (hx : ev σ x = some (.int kx nn)) (hy : ev σ y = some (.int ky nn)) (hT : slTy P t = some (e, 1))
    (hz : zeroOf P e = some [.int kd 0]) (hby : P.bytesOf e = by') (hm : nn = (k : Int)) (hk : by' * k ≤ 281474976710656) (h63 : k ≤ 9223372036854775807)
    (h : ∀ b, K (.slice (some ⟨b, 0, none⟩) k k) ((some b, e, natCells kd (List.replicate k 0)) :: β) Γ) : Jop P C (.makeSlice t x y) ty σ β Γ K :=
  x_make k by' hx hy hT hz rfl rfl hby hm hk h63 fun b => by
    have e : (List.replicate k [Value.int kd 0]).flatten = natCells kd (List.replicate k 0) := by rw [rep_flatten, natCells_rep]; rfl
    rw [e]; exact h b

theorem x_make_int {t e : TypeId} {kd kx ky : IntKind} {x y : Operand} {nn : Int} (k by' : Nat) (hx : ev σ x = some (.int kx nn)) (hy : ev σ y = some (.int ky nn)) (hT : slTy P t = some (e, 1))
    (hz : zeroOf P e = some [.int kd 0]) (hby : P.bytesOf e = by') (hm : nn = (k : Int)) (hk : by' * k ≤ 281474976710656) (h63 : k ≤ 9223372036854775807)
    (h : ∀ b, K (.slice (some ⟨b, 0, none⟩) k k) ((some b, e, intCells kd (List.replicate k 0)) :: β) Γ) : Jop P C (.makeSlice t x y) ty σ β Γ K :=
  x_make k by' hx hy hT hz rfl rfl hby hm hk h63 fun b => by
    have e : (List.replicate k [Value.int kd 0]).flatten = intCells kd (List.replicate k 0) := by rw [rep_flatten, intCells_rep]
    rw [e]; exact h b

theorem x_bld_nat {t : TypeId} {x : Operand} {b o : Nat} {T : TypeId} {kd : IntKind} {l : List Nat} (n : Nat) (hx : ev σ x = some (.pointer (some ⟨b, o, none⟩))) (hn : nth β n = some (some b, T, natCells kd l))
    (hT : ldTy P t = some (false, 1)) (ho : o < l.length) (h : ∀ z, l[o]? = some z → K (.int kd z) β Γ) : Jop P C (.load t x) ty σ β Γ K := by
  have hz : l[o]? = some l[o] := by simp [ho]
  exact x_bld n hx hn hT (by rw [natCells_get, hz]; rfl) (h _ hz)

theorem x_bld_int {t : TypeId} {x : Operand} {b o : Nat} {T : TypeId} {kd : IntKind} {l : List Int} (n : Nat) (hx : ev σ x = some (.pointer (some ⟨b, o, none⟩))) (hn : nth β n = some (some b, T, intCells kd l))
    (hT : ldTy P t = some (false, 1)) (ho : o < l.length) (h : ∀ z, l[o]? = some z → K (.int kd z) β Γ) : Jop P C (.load t x) ty σ β Γ K := by
  have hz : l[o]? = some l[o] := by simp [ho]
  exact x_bld n hx hn hT (by simp [intCells, hz]) (h _ hz)

theorem x_bst_nat {t : TypeId} {x y : Operand} {b o : Nat} {T : TypeId} {kd : IntKind} {l : List Nat} {v : Int} (n z : Nat) (hx : ev σ x = some (.pointer (some ⟨b, o, none⟩))) (hy : ev σ y = some (.int kd v)) (hn : nth β n = some (some b, T, natCells kd l))
    (hT : ldTy P t = some (false, 1)) (hv : v = (z : Int)) (ho : o < l.length) (h : K undef (setB β n (natCells kd (l.set o z))) Γ) : Jop P C (.store t x y) ty σ β Γ K := by
  subst hv
  exact x_bst1 n hx hy hn rfl hT rfl (by simpa using ho) (by rw [natCells_set]; exact h)

theorem x_bst_int {t : TypeId} {x y : Operand} {b o : Nat} {T : TypeId} {kd : IntKind} {l : List Int} {v : Int} (n : Nat) (hx : ev σ x = some (.pointer (some ⟨b, o, none⟩))) (hy : ev σ y = some (.int kd v)) (hn : nth β n = some (some b, T, intCells kd l))
    (hT : ldTy P t = some (false, 1)) (ho : o < l.length) (h : K undef (setB β n (intCells kd (l.set o v))) Γ) : Jop P C (.store t x y) ty σ β Γ K :=
  x_bst1 n hx hy hn rfl hT rfl (by simpa using ho) (by rw [intCells_set]; exact h)

theorem allF_nat (k : IntKind) (by' : Nat) (l : List Nat) (hl : ∀ x ∈ l, InR k x) (w : World) (A : Nat → Prop) : (allF (encNat k by') (l.map fun (n : Nat) => [.int k n]) l).holds w A := by
  refine ⟨by simp, fun i vs x hv hx => ?_⟩
  rw [List.getElem?_map, hx] at hv
  simp only [Option.map_some, Option.some.injEq] at hv
  exact ⟨hv.symm, hl x (List.mem_of_getElem? hx)⟩

theorem allF_int (k : IntKind) (by' : Nat) (l : List Int) (hl : ∀ x ∈ l, InR k x) (w : World) (A : Nat → Prop) : (allF (encInt k by') (l.map fun n => [.int k n]) l).holds w A := by
  refine ⟨by simp, fun i vs x hv hx => ?_⟩
  rw [List.getElem?_map, hx] at hv
  simp only [Option.map_some, Option.some.injEq] at hv
  exact ⟨hv.symm, hl x (List.mem_of_getElem? hx)⟩

/-- A row of numbers is given up. -/
theorem j_pub_nat {kd : IntKind} {e : TypeId} {bo : Option Nat} {n cap : Nat} {cs : List Value} (by' : Nat) (l : List Nat) (k : Nat)
    (hn : nth β k = some (bo, e, cs)) (hg : GrOk bo n cap 1 cs) (hc : cs.take n = natCells kd l) (hl : n = l.length) (hr : ∀ x ∈ l, InR kd x) (hby : n * by' ≤ 140737488355328)
    (h : J F C S σ (β.eraseIdx k) (slF (encNat kd by') (ad bo) n cap l :: Γ) R) : J F C S σ β Γ R :=
  j_add (allF (encNat kd by') (l.map fun (n : Nat) => [.int kd n]) l) (fun w A _ => allF_nat kd by' l hr w A)
    (j_pub k 0 hn rfl hg (by show cs.take (n * 1) = _; rw [Nat.mul_one, hc, natCells_flatten]) hl hby (j_weak (fun f hf => by
      rcases List.mem_cons.1 hf with rfl | hf
      · exact .head _
      · exact .tail _ (.tail _ hf)) h))

/-- A row of numbers that was made whole. -/
theorem j_pub_made {kd : IntKind} {e : TypeId} {b n : Nat} (by' : Nat) (l : List Nat) (k : Nat)
    (hn : nth β k = some (some b, e, natCells kd l)) (hl : n = l.length) (hr : ∀ x ∈ l, InR kd x) (hby : n * by' ≤ 140737488355328) (h63 : n ≤ 9223372036854775807)
    (h : J F C S σ (β.eraseIdx k) (slF (encNat kd by') (some ⟨b, 0, none⟩) n n l :: Γ) R) : J F C S σ β Γ R :=
  j_pub_nat (bo := some b) (cap := n) by' l k hn (.inr ⟨b, rfl, Nat.le_refl _, h63, by simp [hl]⟩) (by rw [hl, natCells_take, List.take_length]) hl hr hby h

theorem j_pub_madei {kd : IntKind} {e : TypeId} {b n : Nat} (by' : Nat) (l : List Int) (k : Nat)
    (hn : nth β k = some (some b, e, intCells kd l)) (hl : n = l.length) (hr : ∀ x ∈ l, InR kd x) (hby : n * by' ≤ 140737488355328) (h63 : n ≤ 9223372036854775807)
    (h : J F C S σ (β.eraseIdx k) (slF (encInt kd by') (some ⟨b, 0, none⟩) n n l :: Γ) R) : J F C S σ β Γ R :=
  j_add (allF (encInt kd by') (l.map fun n => [.int kd n]) l) (fun w A _ => allF_int kd by' l hr w A)
    (j_pub (bo := some b) (cap := n) k 0 hn rfl (.inr ⟨b, rfl, Nat.le_refl _, h63, by simp [hl, encInt]⟩) (by show (intCells kd l).take (n * 1) = _; rw [Nat.mul_one, intCells_flatten, hl, ← intCells_length kd l, List.take_length]) hl hby (j_weak (fun f hf => by
      rcases List.mem_cons.1 hf with rfl | hf
      · exact .head _
      · exact .tail _ (.tail _ hf)) h))

/-- The facts of numbers outside of memory: each is in its range. -/
theorem j_range {kd : IntKind} {by' : Nat} {pa : Option Addr} {m ca : Nat} {l : List Nat} (n : Nat) (hn : nth Γ n = some (slF (encNat kd by') pa m ca l)) (h : (∀ x ∈ l, InR kd x) → J F C S σ β Γ R) : J F C S σ β Γ R :=
  j_know (fun w A hG x hx => by
    obtain ⟨_, _, _, hs⟩ := hG _ (fact_mem hn)
    rcases hs with rfl | ⟨b, o, _, _, hel⟩
    · cases hx
    · obtain ⟨i, hi⟩ := List.getElem?_of_mem hx
      obtain ⟨vs, _, _, h2⟩ := hel i x hi
      exact h2) h

end
end Go.Fw
