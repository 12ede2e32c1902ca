/-
The eighth text of the frame: slices of slices, structs by value.
-/
import Derived.Test.YtpoonnjaobjdgaaFw7
namespace Go.Fw

theorem elem_of {P : Program} {t e : TypeId} (h : P.underlying t = some (.slice e)) : P.elem t = e := by simp [Program.elem, h]

theorem SlRd.take {α : Type} {E : Enc α} {w : World} {A : Nat → Prop} {pa : Option Addr} {ca m k : Nat} {l : List α} (h : SlRd E w A pa ca l) (hk : k ≤ m) : SlRd E w A pa m (l.take k) := by
  refine ⟨by rw [List.length_take]; omega, Nat.le_trans (Nat.mul_le_mul_right _ (List.length_take_le' k l)) h.2.1, ?_⟩
  rcases h.2.2 with rfl | ⟨b, o, e, hb, hx⟩
  · exact .inl (by simp)
  · refine .inr ⟨b, o, e, hb, fun i x hi => hx i x ?_⟩
    rw [List.getElem?_take] at hi
    split at hi
    · exact hi
    · cases hi

theorem SlRd.drop {α : Type} {E : Enc α} {w : World} {A : Nat → Prop} {pa : Option Addr} {ca k : Nat} {l : List α} (h : SlRd E w A pa ca l) :
    SlRd E w A (if ca = k then pa else pa.map (·.add (k * E.size))) (ca - k) (l.drop k) := by
  refine ⟨by rw [List.length_drop]; have := h.1; omega, Nat.le_trans (Nat.mul_le_mul_right _ (by rw [List.length_drop]; omega)) h.2.1, ?_⟩
  rcases h.2.2 with rfl | ⟨b, o, e, hb, hx⟩
  · exact .inl (by simp)
  · by_cases hck : ca = k
    · refine .inl ?_
      have := h.1
      simp; omega
    · refine .inr ⟨b, o + k * E.size, by rw [if_neg hck, e]; simp [Addr.add_mid], hb, fun i x hi => ?_⟩
      rw [List.getElem?_drop] at hi
      have := hx (k + i) x hi
      rwa [show o + k * E.size + i * E.size = o + (k + i) * E.size by rw [Nat.add_mul]; omega]

section
variable {P : Program} {F : Fun P} {C : Cx} {S : List It} {σ : Fr} {β : List Blk} {Γ : List Fact} {R : Value → World → Prop} {p : List Nat} {i : Nat} {d : Option Tmp} {op : Op} {ty : TypeId} {K : Value → List Blk → List Fact → Prop}

theorem run_sliceAt {w : World} {t e : TypeId} {m : Nat} {x : Value} {lo hi mx : Option Value} (hT : slTy P t = some (e, m)) : (Instr.sliceAt t x lo hi mx).run P w = (Instr.slice t x lo hi mx).run P w := by
  obtain ⟨hu, _⟩ := slTy_some hT
  exact run_sliceAt_slice w t x lo hi mx (by rw [elem_of hu]; exact hu)

theorem run_sizeOf' {w : World} {t e : TypeId} {m : Nat} (hT : slTy P t = some (e, m)) : (sizeOf (P.elem t)).run P w = .ok m w := by
  obtain ⟨hu, i, hi, hs⟩ := slTy_some hT
  rw [elem_of hu]
  simp [sizeOf, typeInfo, hi, hs]

/-- a[:h:m] -/
theorem x_slice_hm {α : Type} {E : Enc α} {t e : TypeId} {x y z : Operand} {pa : Option Addr} {len ca : Nat} {l : List α} {ky kz : IntKind} {hi mx : Int} (n k m : Nat) (hx : ev σ x = some (.slice pa len ca)) (hy : ev σ y = some (.int ky hi)) (hz : ev σ z = some (.int kz mx))
    (hn : nth Γ n = some (slF E pa len ca l)) (hT : slTy P t = some (e, E.size)) (hk : hi = (k : Int)) (hm : mx = (m : Int)) (h1 : k ≤ m) (h2 : k ≤ len) (h3 : m ≤ ca)
    (h : K (.slice pa k m) β (slF E pa k m (l.take k) :: Γ)) : Jop P C (.slice t x none (some y) (some z)) ty σ β Γ K := fun w hO hG => by
  obtain ⟨rfl, hs⟩ := hG _ (fact_mem hn)
  have hp : Pure P (.slice t x none (some y) (some z)) ty σ w (.slice pa k m) := fun ρ hρ => by
    obtain ⟨hu, _⟩ := slTy_some hT
    subst hk; subst hm
    have := run_slice_hm (P := P) w t pa l.length ca (by rw [elem_of hu]; exact hu) ky kz k m (by omega) (by omega) (by omega)
    have e1 : sliced pa 0 k m E.size = .slice pa k m := by cases pa <;> simp [sliced, Addr.add]
    simp [execOp, bare, hρ _ _ hx, hρ _ _ hy, hρ _ _ hz, run_sliceAt hT, this, run_sizeOf' hT, e1]
  exact Pure.done hp h hO fun g hg => by
    rcases List.mem_cons.1 hg with rfl | hg
    · exact ⟨by rw [List.length_take]; omega, hs.take h1⟩
    · exact hG g hg

/-- a[:h] -/
theorem x_slice_h {α : Type} {E : Enc α} {t e : TypeId} {x y : Operand} {pa : Option Addr} {len ca : Nat} {l : List α} {ky : IntKind} {hi : Int} (n k : Nat) (hx : ev σ x = some (.slice pa len ca)) (hy : ev σ y = some (.int ky hi))
    (hn : nth Γ n = some (slF E pa len ca l)) (hT : slTy P t = some (e, E.size)) (hk : hi = (k : Int)) (h2 : k ≤ len)
    (h : K (.slice pa k ca) β (slF E pa k ca (l.take k) :: Γ)) : Jop P C (.slice t x none (some y) none) ty σ β Γ K := fun w hO hG => by
  obtain ⟨rfl, hs⟩ := hG _ (fact_mem hn)
  have hle := hs.1
  have hp : Pure P (.slice t x none (some y) none) ty σ w (.slice pa k ca) := fun ρ hρ => by
    obtain ⟨hu, _⟩ := slTy_some hT
    subst hk
    have := run_slice_h (P := P) w t pa l.length ca (by rw [elem_of hu]; exact hu) ky k (by omega) (by omega)
    have e1 : sliced pa 0 k ca E.size = .slice pa k ca := by cases pa <;> simp [sliced, Addr.add]
    simp [execOp, bare, hρ _ _ hx, hρ _ _ hy, run_sliceAt hT, this, run_sizeOf' hT, e1]
  exact Pure.done hp h hO fun g hg => by
    rcases List.mem_cons.1 hg with rfl | hg
    · exact ⟨by rw [List.length_take]; omega, hs.take (by omega)⟩
    · exact hG g hg

/-- a[l:] -/
theorem x_slice_l {α : Type} {E : Enc α} {t e : TypeId} {x y : Operand} {pa : Option Addr} {len ca : Nat} {l : List α} {ky : IntKind} {lo : Int} (n k : Nat) (hx : ev σ x = some (.slice pa len ca)) (hy : ev σ y = some (.int ky lo))
    (hn : nth Γ n = some (slF E pa len ca l)) (hT : slTy P t = some (e, E.size)) (hk : lo = (k : Int)) (h2 : k ≤ len)
    (h : ∀ pa', K (.slice pa' (len - k) (ca - k)) β (slF E pa' (len - k) (ca - k) (l.drop k) :: Γ)) : Jop P C (.slice t x (some y) none none) ty σ β Γ K := fun w hO hG => by
  obtain ⟨rfl, hs⟩ := hG _ (fact_mem hn)
  have hle := hs.1
  have hp : Pure P (.slice t x (some y) none none) ty σ w (.slice (if ca = k then pa else pa.map (·.add (k * E.size))) (l.length - k) (ca - k)) := fun ρ hρ => by
    obtain ⟨hu, _⟩ := slTy_some hT
    subst hk
    have := run_slice_l (P := P) w t pa l.length ca (by rw [elem_of hu]; exact hu) ky k (by omega) (by omega)
    simp [execOp, bare, hρ _ _ hx, hρ _ _ hy, run_sliceAt hT, this, run_sizeOf' hT, sliced]
  exact Pure.done hp (h _) hO fun g hg => by
    rcases List.mem_cons.1 hg with rfl | hg
    · exact ⟨by rw [List.length_drop], hs.drop⟩
    · exact hG g hg

/-! ### Structs by value -/

/-- The places of a struct's fields. -/
def placesOf (P : Program) : List Field → Option (List (Nat × Nat))
  | [] => some []
  | f :: l => match P.info? f.type, placesOf P l with
    | some i, some ps => some ((f.offset, i.size) :: ps)
    | _, _ => none

def structTy (P : Program) (t : TypeId) : Option (List (Nat × Nat)) :=
  match P.underlying t with
  | some (.struct fields) => placesOf P fields.toList
  | _ => none

theorem run_places {w : World} : ∀ {fs : List Field} {ps : List (Nat × Nat)}, placesOf P fs = some ps → (fs.mapM (m := Sem) fun f => do pure (f.offset, ← sizeOf f.type)).run P w = .ok ps w := by
  intro fs
  induction fs with
  | nil => intro ps h; simp [placesOf] at h; subst h; simp
  | cons f l ih =>
    intro ps h
    simp only [placesOf] at h
    cases hi : P.info? f.type with
    | none => rw [hi] at h; simp at h
    | some i =>
      cases hl : placesOf P l with
      | none => rw [hi, hl] at h; simp at h
      | some qs =>
        rw [hi, hl] at h
        obtain rfl := Option.some.inj h
        have := ih hl
        simp only [List.mapM_cons, Sem.run_bind, Sem.run_pure, Result.andThen_ok, sizeOf, typeInfo, run_program, hi] at this ⊢
        simp only [Result.andThen_ok, this]

/-- Parts put into cells, by lists. -/
def fillL (ps : List (Nat × Nat)) : List Value → List (Nat × List Value) → Option (List Value)
  | cs, [] => some cs
  | cs, (j, vs) :: l => match nth ps j with
    | some (o, m) => match Nat.beq vs.length m, Nat.ble (o + m) cs.length with
      | true, true => fillL ps (splice cs o vs) l
      | _, _ => none
    | none => none

def partsOf (σ : Fr) : List (Nat × Operand) → Option (List (Nat × List Value))
  | [] => some []
  | (j, x) :: l => match ev σ x, partsOf σ l with
    | some v, some vs => some ((j, cellsL v) :: vs)
    | _, _ => none

theorem fillL_fill {ps : List (Nat × Nat)} {ρ : Operand → Value} (hρ : ∀ x v, ev σ x = some v → ρ x = v) : ∀ (parts : List (Nat × Operand)) (vs : List (Nat × List Value)) (cs cs' : List Value), partsOf σ parts = some vs → fillL ps cs vs = some cs' →
    Instr.fill (ps.toArray[·]?) cs.toArray (parts.map fun (i, x) => (i, ρ x)) = some cs'.toArray := by
  intro parts
  induction parts with
  | nil =>
    intro vs cs cs' h1 h2
    simp only [partsOf, Option.some.injEq] at h1
    subst h1
    simp only [fillL, Option.some.injEq] at h2
    subst h2
    simp [Instr.fill]
  | cons q parts ih =>
    obtain ⟨j, x⟩ := q
    intro vs cs cs' h1 h2
    simp only [partsOf] at h1
    cases hx : ev σ x with
    | none => rw [hx] at h1; simp at h1
    | some v =>
      cases hr : partsOf σ parts with
      | none => rw [hx, hr] at h1; simp at h1
      | some us =>
        rw [hx, hr] at h1
        obtain rfl := Option.some.inj h1
        simp only [fillL] at h2
        cases hp : nth ps j with
        | none => rw [hp] at h2; simp at h2
        | some om =>
          obtain ⟨o, m⟩ := om
          rw [hp] at h2
          simp only at h2
          cases hb : Nat.beq (cellsL v).length m with
          | false => rw [hb] at h2; simp at h2
          | true =>
            cases hc : Nat.ble (o + m) cs.length with
            | false => rw [hb, hc] at h2; simp at h2
            | true =>
              rw [hb, hc] at h2
              have hvl : (cellsL v).length = m := Nat.eq_of_beq_eq_true hb
              have hvs : v.cells.size = m := by rw [← Array.length_toList, cellsL_eq, hvl]
              have hle := Nat.le_of_ble_eq_true hc
              simp only [List.map_cons, hρ _ _ hx]
              rw [nth_eq] at hp
              rw [fill_step (ps.toArray[·]?) cs.toArray j v _ o m (by simpa using hp) hvs (by simpa using hle)]
              simpa using ih us (splice cs o (cellsL v)) cs' hr h2

theorem x_build {t : TypeId} {parts : List (Nat × Operand)} {ps : List (Nat × Nat)} {zs cs : List Value} {vs : List (Nat × List Value)} (hT : structTy P t = some ps) (hz : zeroOf P t = some zs) (hv : partsOf σ parts = some vs) (hf : fillL ps zs vs = some cs)
    (h : K (.agg cs.toArray) β Γ) : Jop P C (.build t parts.toArray) ty σ β Γ K :=
  x_pure (fun w ρ hρ => by
    obtain ⟨i, z, hi, hz', hzc⟩ := zeroOf_some hz
    have hzz : z.cells = zs.toArray := by rw [← hzc, ← cellsL_eq]
    unfold structTy at hT
    split at hT
    · rename_i fields hu
      have hpl : (fields.mapM (m := Sem) fun f => do pure (f.offset, ← sizeOf f.type)).run P w = .ok ps.toArray w := by
        have := run_places (P := P) (w := w) hT
        rw [← Array.toArray_toList (xs := fields)]
        simp only [List.mapM_toArray, Sem.run_map, this, Result.andThen_ok]
      have hfl := fillL_fill hρ parts vs zs cs hv hf
      simp only [execOp, bare, Instr.build, Sem.run_bind, run_zeroV hi hz', Result.andThen_ok, run_underlying hu, hpl, hzz, List.map_toArray, List.toList_toArray]
      rw [hfl]
      simp
    · simp at hT) h

/-- A field of a struct by value. -/
theorem x_fieldv {t : TypeId} {j o m : Nat} {x : Operand} {cs : List Value} {fl : Bool} {fields : Array Field} {f : Field} (hu : P.underlying t = some (.struct fields)) (hf : fields[j]? = some f) (hT : ldTy P f.type = some (fl, m)) (ho : f.offset = o) (hx : ev σ x = some (.agg cs.toArray))
    (h1 : fl = false → ∀ v, cs[o]? = some v → K v β Γ) (h2 : fl = true → K (.agg ((cs.drop o).take m).toArray) β Γ) (hl : fl = false → o < cs.length) : Jop P C (.field t x j) ty σ β Γ K := by
  subst ho
  unfold ldTy at hT
  cases hu2 : P.underlying f.type with
  | none => rw [hu2] at hT; simp at hT
  | some dd =>
    cases hi : P.info? f.type with
    | none => rw [hu2, hi] at hT; cases dd <;> simp at hT
    | some i =>
      rw [hu2, hi] at hT
      have hagg : ∀ w : World, (isAgg f.type).run P w = .ok fl w := by
        intro w
        unfold isAgg
        rw [Sem.run_bind, run_underlying hu2 w]
        cases dd <;> simp_all
      have hm : i.size = m := by cases dd <;> simp_all
      cases fl with
      | false =>
        have hlt := hl rfl
        refine x_pure (v := cs[f.offset]) (fun w ρ hρ => ?_) (h1 rfl _ (by simp [hlt]))
        simp [execOp, bare, hρ _ _ hx, Instr.field, run_underlying hu, hf, asAgg, part, hagg, hlt]
      | true =>
        refine x_pure (v := .agg ((cs.drop f.offset).take m).toArray) (fun w ρ hρ => ?_) (h2 rfl)
        simp [execOp, bare, hρ _ _ hx, Instr.field, run_underlying hu, hf, asAgg, part, hagg, sizeOf, typeInfo, hi, hm]

end
end Go.Fw
