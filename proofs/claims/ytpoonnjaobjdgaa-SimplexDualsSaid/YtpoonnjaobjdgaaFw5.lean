/-
The fifth text of the frame: the function's own blocks: made, read, written, appended to, and given up for good.
-/
import Derived.Test.YtpoonnjaobjdgaaFw4
import Derived.Laws.MakeOwn
import Derived.Laws.OwnMore
namespace Go.Fw

def cellsL : Value → List Value
  | .agg cs => cs.toList
  | v => [v]

theorem cellsL_eq (v : Value) : v.cells.toList = cellsL v := by cases v <;> rfl

theorem setCell_heap {w : World} {b o : Nat} {v : Value} {cs : Array Value} {T : TypeId} {fr : Nat × Nat} (h : w.heap[b]? = some (.cells cs T fr)) :
    (w.setCell ⟨b, o, none⟩ v).heap[b]? = some (.cells (cs.setIfInBounds o v) T fr) := by
  simp [World.setCell, Array.getElem?_modify, h]

theorem setCell_other {w : World} {b o k : Nat} {v : Value} (h : k ≠ b) : (w.setCell ⟨b, o, none⟩ v).heap[k]? = w.heap[k]? := by
  have : ¬ b = k := fun e => h e.symm
  simp [World.setCell, Array.getElem?_modify, this]

/-- Some cells of a list are others. -/
def splice (cs : List Value) (o : Nat) (vs : List Value) : List Value := cs.take o ++ vs ++ cs.drop (o + vs.length)

theorem splice_cons (cs : List Value) (o : Nat) (v : Value) (vs : List Value) (h : o < cs.length) : splice (cs.set o v) (o + 1) vs = splice cs o (v :: vs) := by
  unfold splice
  rw [List.drop_set_of_lt (by omega)]
  have : (cs.set o v).take (o + 1) = cs.take o ++ [v] := by
    rw [List.take_succ_eq_append_getElem (by simpa using h)]
    simp [List.take_set_of_le]
  rw [this]
  simp [Nat.add_comm, Nat.add_left_comm]

theorem setCells_heap {b : Nat} {T : TypeId} {fr : Nat × Nat} : ∀ (vs : List Value) (o : Nat) (w : World) (cs : List Value), w.heap[b]? = some (.cells cs.toArray T fr) → o + vs.length ≤ cs.length →
    (w.setCells b o vs).heap[b]? = some (.cells (splice cs o vs).toArray T fr)
  | [], o, w, cs, h, _ => by simp [World.setCells, splice, h]
  | v :: vs, o, w, cs, h, hl => by
    simp only [List.length_cons] at hl
    have h1 := setCell_heap (o := o) (v := v) h
    rw [List.setIfInBounds_toArray] at h1
    rw [World.setCells, setCells_heap vs (o + 1) _ (cs.set o v) h1 (by simp; omega), splice_cons _ _ _ _ (by omega)]

theorem setCells_other {b k : Nat} (hk : k ≠ b) : ∀ (vs : List Value) (o : Nat) (w : World), (w.setCells b o vs).heap[k]? = w.heap[k]?
  | [], _, _ => rfl
  | v :: vs, o, w => by rw [World.setCells, setCells_other hk vs, setCell_other hk]

theorem setCells_rest {b : Nat} : ∀ (vs : List Value) (o : Nat) (w : World), (w.setCells b o vs).os = w.os ∧ (w.setCells b o vs).tape = w.tape ∧ (w.setCells b o vs).output = w.output ∧ (w.setCells b o vs).heap.size = w.heap.size
  | [], _, _ => ⟨rfl, rfl, rfl, rfl⟩
  | v :: vs, o, w => by
    obtain ⟨h1, h2, h3, h4⟩ := setCells_rest (b := b) vs (o + 1) (w.setCell ⟨b, o, none⟩ v)
    exact ⟨h1, h2, h3, h4.trans (by simp)⟩

section
variable {P : Program} {F : Fun P} {C : Cx} {S : List It} {σ : Fr} {β : List Blk} {Γ : List Fact} {R : Value → World → Prop} {p : List Nat} {i : Nat} {d : Option Tmp} {op : Op} {ty : TypeId} {K : Value → List Blk → List Fact → Prop}

/-! ### Made -/

theorem x_new {T : TypeId} {cs : List Value} {f : Nat → Value} (hr : ∀ ρ : Operand → Value, (∀ x v, ev σ x = some v → ρ x = v) → ∀ w, ∃ v, (execOp ρ (bare op ty)).run P w = .ok (.value v) (w.alloc (.cells cs.toArray T)) ∧ v = f w.heap.size)
    (h : ∀ b, K (f b) ((some b, T, cs) :: β) Γ) : Jop P C op ty σ β Γ K := fun w hO hG ρ hρ => by
  obtain ⟨v, hv, e⟩ := hr ρ hρ w
  rw [hv]
  exact ⟨_, Γ, by rw [e]; exact h _, hO.push T cs, facts_push hG⟩

/-- A value is boxed. -/
theorem x_box {T : TypeId} {x : Operand} {v : Value} {cs : List Value} (hx : ev σ x = some v) (hc : cellsL v = cs)
    (h : ∀ b, K (.pointer (some ⟨b, 0, none⟩)) ((some b, T, cs) :: β) Γ) : Jop P C (.box T x) ty σ β Γ K :=
  x_new (f := fun b => .pointer (some ⟨b, 0, none⟩)) (fun ρ hρ w => by
    have e : v.cells = cs.toArray := by rw [← hc, ← cellsL_eq]
    refine ⟨.pointer (some ⟨w.heap.size, 0, none⟩), ?_, rfl⟩
    simp [execOp, bare, hρ _ _ hx, Instr.box, newVar, newRow, e]) h

/-- The cells of a type's zero value. -/
def zeroOf (P : Program) (t : TypeId) : Option (List Value) :=
  match P.info? t with
  | some i => i.zero.map cellsL
  | none => none

theorem zeroOf_some {t : TypeId} {cs : List Value} (h : zeroOf P t = some cs) : ∃ i z, P.info? t = some i ∧ i.zero = some z ∧ cellsL z = cs := by
  unfold zeroOf at h
  cases hi : P.info? t with
  | none => rw [hi] at h; simp at h
  | some i =>
    rw [hi] at h
    cases hz : i.zero with
    | none => simp [hz] at h
    | some z => exact ⟨i, z, rfl, hz, by simpa [hz] using h⟩

theorem run_zeroV {w : World} {t : TypeId} {i : TypeInfo} {z : Value} (hi : P.info? t = some i) (hz : i.zero = some z) : (zeroValue t).run P w = .ok z w := by
  simp [zeroValue, typeInfo, hi, hz]

theorem x_alloc {T : TypeId} {cs : List Value} (hT : zeroOf P T = some cs) (h : ∀ b, K (.pointer (some ⟨b, 0, none⟩)) ((some b, T, cs) :: β) Γ) : Jop P C (.alloc T) ty σ β Γ K :=
  x_new (f := fun b => .pointer (some ⟨b, 0, none⟩)) (fun ρ hρ w => by
    obtain ⟨i, z, hi, hz, hc⟩ := zeroOf_some hT
    have e : z.cells = cs.toArray := by rw [← hc, ← cellsL_eq]
    refine ⟨.pointer (some ⟨w.heap.size, 0, none⟩), ?_, rfl⟩
    simp [execOp, bare, Instr.alloc, run_zeroV hi hz, newVar, newRow, e]) h

/-! ### Read -/

theorem own_cell {w : World} {n b o : Nat} {T : TypeId} {cs : List Value} {v : Value} (hO : Own C w β) (hn : nth β n = some (some b, T, cs)) (hv : cs[o]? = some v) : w.cell? ⟨b, o, none⟩ = some v := by
  have := hO.blk _ (nth_mem hn) b rfl
  simp [World.cell?, this, hv]

/-- One cell of an own block is loaded. -/
theorem x_bld {t : TypeId} {x : Operand} {b o : Nat} {T : TypeId} {cs : List Value} {v : Value} (n : Nat) (hx : ev σ x = some (.pointer (some ⟨b, o, none⟩))) (hn : nth β n = some (some b, T, cs))
    (hT : ldTy P t = some (false, 1)) (hv : cs[o]? = some v) (h : K v β Γ) : Jop P C (.load t x) ty σ β Γ K := fun _ hO hG =>
  Pure.done (Pure_load hT hx (own_cell hO hn hv)) h hO hG

/-- Several. -/
theorem x_bld_agg {t : TypeId} {x : Operand} {b o m : Nat} {T : TypeId} {cs vs : List Value} (n : Nat) (hx : ev σ x = some (.pointer (some ⟨b, o, none⟩))) (hn : nth β n = some (some b, T, cs))
    (hT : ldTy P t = some (true, m)) (hv : (cs.drop o).take m = vs) (hl : vs.length = m) (h : K (.agg vs.toArray) β Γ) : Jop P C (.load t x) ty σ β Γ K := fun w hO hG => by
  have hb := hO.blk _ (nth_mem hn) b rfl
  exact Pure.done (Pure_load_agg hT hl hx (cellsAt.rangeAt ⟨cs.toArray, T, (0, 0), hb, hv, hl⟩)) h hO hG

/-! ### Written -/

theorem own_there {w : World} {n b o m : Nat} {T : TypeId} {cs : List Value} (hO : Own C w β) (hn : nth β n = some (some b, T, cs)) (hm : o + m ≤ cs.length) : w.there b o m := by
  intro j hj
  have hb := hO.blk _ (nth_mem hn) b rfl
  refine ⟨?_, ?_⟩
  · have : o + j < cs.length := by omega
    simp [World.cell?, hb, this]
  · simp [World.frozen?, hb]

theorem run_storeVar_any {w : World} {t : TypeId} {b o : Nat} {v : Value} {vs : List Value} {fl : Bool} (hT : ldTy P t = some (fl, vs.length)) (hv : cellsL v = vs) (h1 : ∀ u ∈ vs, u.oneCell' = true) (ht : w.there b o vs.length) :
    (Instr.storeAt t (.pointer (some ⟨b, o, none⟩)) v).run P w = .ok () (w.setCells b o vs) := by
  have hc : v.cells.toList = vs := by rw [cellsL_eq, hv]
  have hs : v.cells.size = vs.length := by rw [← Array.length_toList, hc]
  obtain ⟨i, hi, hsz⟩ : ∃ i, P.info? t = some i ∧ i.size = vs.length := by
    unfold ldTy at hT
    cases hu : P.underlying t with
    | none => rw [hu] at hT; simp at hT
    | some dd =>
      cases hi : P.info? t with
      | none => rw [hu, hi] at hT; cases dd <;> simp at hT
      | some i =>
        refine ⟨i, rfl, ?_⟩
        rw [hu, hi] at hT
        cases dd <;> simp_all
  have := run_storeCells_cells (P := P) b o vs 0 w (fun j hj => by simpa using (ht j hj).1) (fun j hj => by simpa using (ht j hj).2) h1
  simp only [Nat.add_zero] at this
  simp [Instr.storeAt, Instr.sureAddr, storeVar, sizeOf, typeInfo, hi, hsz, hs, hc, this]

/-- A value is stored into an own block. -/
theorem x_bst {t : TypeId} {x y : Operand} {b o : Nat} {T : TypeId} {cs vs cs' : List Value} {v : Value} {fl : Bool} (n : Nat) (hx : ev σ x = some (.pointer (some ⟨b, o, none⟩))) (hy : ev σ y = some v) (hn : nth β n = some (some b, T, cs))
    (hv : cellsL v = vs) (hT : ldTy P t = some (fl, vs.length)) (h1 : ∀ u ∈ vs, u.oneCell' = true) (hm : o + vs.length ≤ cs.length) (hc : splice cs o vs = cs') (h : K undef (setB β n cs') Γ) :
    Jop P C (.store t x y) ty σ β Γ K := fun w hO hG ρ hρ => by
  have hst := run_storeVar_any (P := P) hT hv h1 (own_there hO hn hm)
  have e : (execOp ρ (bare (.store t x y) ty)).run P w = .ok .skip (w.setCells b o vs) := by
    simp only [execOp, bare, hρ _ _ hx, hρ _ _ hy, Sem.run_bind, hst, Result.andThen_ok, Sem.run_pure]
  rw [e]
  have hb := setCells_heap (fr := (0, 0)) vs o w cs (hO.blk _ (nth_mem hn) b rfl) hm
  rw [hc] at hb
  obtain ⟨r1, r2, r3, r4⟩ := setCells_rest (b := b) vs o w
  exact ⟨_, Γ, h, hO.set hn r1 r2 r3 r4 hb (fun k hk => setCells_other hk vs o w), facts_set hn r4 (fun k hk => setCells_other hk vs o w) hG⟩

/-- One cell. -/
theorem x_bst1 {t : TypeId} {x y : Operand} {b o : Nat} {T : TypeId} {cs : List Value} {v : Value} (n : Nat) (hx : ev σ x = some (.pointer (some ⟨b, o, none⟩))) (hy : ev σ y = some v) (hn : nth β n = some (some b, T, cs))
    (hv : cellsL v = [v]) (hT : ldTy P t = some (false, 1)) (h1 : v.oneCell' = true) (hm : o < cs.length) (h : K undef (setB β n (cs.set o v)) Γ) :
    Jop P C (.store t x y) ty σ β Γ K :=
  x_bst n hx hy hn hv hT (fun u hu => by obtain rfl := List.mem_singleton.1 hu; exact h1) (by show o + 1 ≤ cs.length; omega)
    (by rw [← splice_cons cs o v [] hm]; simp [splice]) h

/-! ### An address in an own slice -/

theorem x_idx_own {t e : TypeId} {m' : Nat} {x y : Operand} {b len ca : Nat} {kd : IntKind} {m : Int} (k o : Nat) (hx : ev σ x = some (.slice (some ⟨b, 0, none⟩) len ca)) (hy : ev σ y = some (.int kd m)) (hT : slTy P t = some (e, m'))
    (hm : m = (k : Int)) (hk : k < len) (ho : k * m' = o) (h : K (.pointer (some ⟨b, o, none⟩)) β Γ) : Jop P C (.indexAddr t x y) ty σ β Γ K :=
  x_pure (fun _ => by
    have := Pure_idx (P := P) (ty := ty) (w := ‹World›) (o := 0) hT hx hy hm hk
    rw [Nat.zero_add, ho] at this
    exact this) h

/-! ### make -/

theorem madeCells_flatten (zs : List Value) (hp : zs.length ≠ 0) : ∀ k : Nat, (madeCells zs.toArray (k * zs.length)).toList = (List.replicate k zs).flatten := by
  intro k
  induction k with
  | zero => simp [madeCells]
  | succ k ih =>
    have e : (madeCells zs.toArray ((k + 1) * zs.length)).toList = (madeCells zs.toArray (k * zs.length)).toList ++ zs := by
      simp only [madeCells, Array.toList_map, Array.toList_range, List.size_toArray, Nat.succ_mul, List.range_add, List.map_append, List.map_map]
      congr 1
      refine List.ext_getElem (by simp) fun j h1 h2 => ?_
      simp [Nat.mod_eq_of_lt h2, h2]
    rw [e, ih, List.replicate_succ']
    simp

theorem x_make {t e : TypeId} {m : Nat} {x y : Operand} {kd kc : IntKind} {nn : Int} {zs : List Value} (k by' : Nat) (hx : ev σ x = some (.int kd nn)) (hy : ev σ y = some (.int kc nn)) (hT : slTy P t = some (e, m))
    (hz : zeroOf P e = some zs) (hl : zs.length = m) (hp : Nat.beq m 0 = false) (hby : P.bytesOf e = by') (hm : nn = (k : Int)) (hk : by' * k ≤ 281474976710656) (h63 : k ≤ 9223372036854775807)
    (h : ∀ b, K (.slice (some ⟨b, 0, none⟩) k k) ((some b, e, (List.replicate k zs).flatten) :: β) Γ) : Jop P C (.makeSlice t x y) ty σ β Γ K :=
  x_new (f := fun b => .slice (some ⟨b, 0, none⟩) k k) (fun ρ hρ w => by
    refine ⟨.slice (some ⟨w.heap.size, 0, none⟩) k k, ?_, rfl⟩
    obtain ⟨hu, i, hi, hs⟩ := slTy_some hT
    obtain ⟨i', z, hi', hz', hc⟩ := zeroOf_some hz
    obtain rfl : i = i' := Option.some.inj (hi.symm.trans hi')
    have hbi : i.bytes = by' := by simpa [Program.bytesOf, hi] using hby
    subst hm
    have hp' := hp
    have hr := run_make (P := P) w t e i z hu hi hz' kd kc k k (by omega) (Int.le_refl _) (by rw [hbi]; have : ((by' * k : Nat) : Int) ≤ 281474976710656 := by omega
                                                                                              rwa [Int.natCast_mul] at this) (by omega)
    have hzc : z.cells = zs.toArray := by rw [← hc, ← cellsL_eq]
    have hcells : madeCells z.cells ((k : Int).toNat * i.size) = (List.replicate k zs).flatten.toArray := by
      rw [hzc, hs, ← hl, Int.toNat_natCast]
      have := Nat.ne_of_beq_eq_false hp
      exact Array.toList_inj.1 (by rw [madeCells_flatten zs (by omega)])
    rw [hcells, Int.toNat_natCast] at hr
    simp only [execOp, bare, hρ _ _ hx, hρ _ _ hy, Sem.run_bind, hr, Result.andThen_ok, Sem.run_pure]) h

/-! ### A literal of a slice -/

def cellsOfAll (σ : Fr) : Nat → List (Nat × Operand) → Option (List (List Value))
  | _, [] => some []
  | n, (j, x) :: l => match Nat.beq j n, ev σ x, cellsOfAll σ (n + 1) l with
    | true, some v, some vs => some (cellsL v :: vs)
    | _, _, _ => none

def allLen (m : Nat) : List (List Value) → Bool
  | [] => true
  | x :: l => Nat.beq x.length m && allLen m l

theorem foldl_fill (vs : List Value) (off : Nat) : ∀ (cs : List Value) (j : Nat), off + j + vs.length ≤ cs.length →
    ((vs.zipIdx j).foldl (fun (acc : Array Value) (c : Value × Nat) => acc.setIfInBounds (off + c.2) c.1) cs.toArray) = (splice cs (off + j) vs).toArray := by
  induction vs with
  | nil => intro cs j h; simp [splice]
  | cons v vs ih =>
    intro cs j h
    simp only [List.length_cons] at h
    simp only [List.zipIdx_cons, List.foldl_cons, List.setIfInBounds_toArray]
    rw [ih (cs.set (off + j) v) (j + 1) (by simp; omega), ← splice_cons cs (off + j) v vs (by omega)]
    congr 1

theorem fill_step (place : Nat → Option (Nat × Nat)) (cells : Array Value) (n : Nat) (v : Value) (rest : List (Nat × Value)) (off m : Nat) (hp : place n = some (off, m)) (hl : v.cells.size = m) (ho : off + m ≤ cells.size) :
    Instr.fill place cells ((n, v) :: rest) = Instr.fill place (splice cells.toList off (cellsL v)).toArray rest := by
  have hc : v.cells = (cellsL v).toArray := by rw [← cellsL_eq]
  have e : v.cells.zipIdx.foldl (fun (cs : Array Value) (c : Value × Nat) => cs.setIfInBounds (off + c.2) c.1) cells = (splice cells.toList off (cellsL v)).toArray := by
    have h1 := foldl_fill (cellsL v) off cells.toList 0 (by rw [← cellsL_eq]; simp [hl]; omega)
    simp only [Nat.add_zero, Array.toArray_toList] at h1
    rw [← h1, hc]
    simp
  have hcond : (decide (v.cells.size ≠ m) || decide (off + v.cells.size > cells.size)) = false := by
    simp [hl]; omega
  simp only [Instr.fill, hp]
  rw [if_neg (by rw [hcond]; simp)]
  exact congrArg (fun c => Instr.fill place c rest) e

theorem fill_all (m : Nat) {σ : Fr} {ρ : Operand → Value} (hρ : ∀ x v, ev σ x = some v → ρ x = v) : ∀ (parts : List (Nat × Operand)) (n : Nat) (vss : List (List Value)) (pre : List Value) (cs : List Value), cellsOfAll σ n parts = some vss → allLen m vss = true →
    pre.length = n * m → cs.length = vss.length * m →
    Instr.fill (fun i => some (i * m, m)) (pre ++ cs).toArray (parts.map fun (i, x) => (i, ρ x)) = some (pre ++ vss.flatten).toArray := by
  intro parts
  induction parts with
  | nil =>
    intro n vss pre cs h _ _ hcs
    simp only [cellsOfAll, Option.some.injEq] at h
    subst h
    have : cs = [] := List.eq_nil_of_length_eq_zero (by simpa using hcs)
    subst this
    simp [Instr.fill]
  | cons q parts ih =>
    obtain ⟨j, x⟩ := q
    intro n vss pre cs h hall hpre hcs
    simp only [cellsOfAll] at h
    cases hb : Nat.beq j n with
    | false => rw [hb] at h; simp at h
    | true =>
      obtain rfl : j = n := Nat.eq_of_beq_eq_true hb
      cases hx : ev σ x with
      | none => rw [hb, hx] at h; simp at h
      | some v =>
        cases hr : cellsOfAll σ (j + 1) parts with
        | none => rw [hb, hx, hr] at h; simp at h
        | some us =>
          rw [hb, hx, hr] at h
          obtain rfl := Option.some.inj h
          simp only [allLen, Bool.and_eq_true] at hall
          have hvl : (cellsL v).length = m := Nat.eq_of_beq_eq_true hall.1
          have hvs : v.cells.size = m := by rw [← Array.length_toList, cellsL_eq, hvl]
          simp only [List.length_cons, Nat.succ_mul] at hcs
          simp only [List.map_cons, hρ _ _ hx]
          rw [fill_step _ _ _ _ _ (j * m) m rfl hvs (by simp [hpre, hcs])]
          have e : splice (pre ++ cs) (j * m) (cellsL v) = (pre ++ cellsL v) ++ cs.drop m := by
            unfold splice
            rw [← hpre, List.take_left, hvl, List.drop_append]
            simp
          simp only [e]
          rw [ih (j + 1) us (pre ++ cellsL v) (cs.drop m) hr hall.2 (by simp [hpre, hvl, Nat.succ_mul]) (by simp [hcs])]
          simp

theorem x_lit {t e : TypeId} {m n : Nat} {parts : List (Nat × Operand)} {vss : List (List Value)} {zs : List Value} (hT : slTy P t = some (e, m)) (hz : zeroOf P e = some zs) (hl : zs.length = m)
    (hv : cellsOfAll σ 0 parts = some vss) (ha : allLen m vss = true) (hn : vss.length = n) (hp : n * m ≠ 0) (hs : n * m ≤ 16777216) {cs : List Value} (hc : vss.flatten = cs)
    (h : ∀ b, K (.slice (some ⟨b, 0, none⟩) n n) ((some b, e, cs) :: β) Γ) : Jop P C (.buildSlice t n parts.toArray) ty σ β Γ K :=
  x_new (f := fun b => .slice (some ⟨b, 0, none⟩) n n) (fun ρ hρ w => by
    refine ⟨.slice (some ⟨w.heap.size, 0, none⟩) n n, ?_, rfl⟩
    obtain ⟨hu, i, hi, hsz⟩ := slTy_some hT
    obtain ⟨i', z, hi', hz', hzc⟩ := zeroOf_some hz
    obtain rfl : i = i' := Option.some.inj (hi.symm.trans hi')
    have hzz : z.cells = zs.toArray := by rw [← hzc, ← cellsL_eq]
    have hm0 : zs.length ≠ 0 := by rw [hl]; intro e; rw [e] at hp; simp at hp
    have hcells : ((Array.range (n * m)).map (fun x => zs.toArray[x % zs.toArray.size]!)) = (List.replicate n zs).flatten.toArray := by
      have := madeCells_flatten zs hm0 n
      rw [← hl, ← this, Array.toArray_toList]
      rfl
    have hf := fill_all m hρ parts 0 vss [] (List.replicate n zs).flatten hv ha (by simp) (by simp [hl, hn])
    simp only [List.nil_append] at hf
    rw [hc] at hf
    have hns : ¬ (16777216 < n * m) := by omega
    simp only [execOp, bare, Instr.buildSlice, Sem.run_bind, run_underlying hu, Result.andThen_ok, sizeOf, typeInfo, Sem.run_pure, run_program, hi, hsz]
    simp only [gt_iff_lt, hns, hp, if_false, run_zeroV hi hz', Sem.run_bind, Result.andThen_ok, Sem.run_pure, hzz, List.map_toArray, List.toList_toArray]
    rw [hcells, hf]
    simp [newRow]) h

end
end Go.Fw
