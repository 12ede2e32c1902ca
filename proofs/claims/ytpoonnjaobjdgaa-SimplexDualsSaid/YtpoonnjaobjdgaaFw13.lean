/-
The thirteenth text of the frame: loops that keep what they do not touch, results that lie in memory, blocks that are handed to a callee and come back, parts of own slices, fractions as results.
-/
import Derived.Test.YtpoonnjaobjdgaaFw12
namespace Go.Fw
open Go.RowKit (Below)

/-- The slots that are kept. -/
def keepF (σ : Fr) : List Nat → Option Fr
  | [] => some []
  | t :: l => match Fr.get t σ, keepF σ l with
    | some v, some r => some ((t, v) :: r)
    | _, _ => none

theorem keepF_sub {σ : Fr} : ∀ {l : List Nat} {r : Fr}, keepF σ l = some r → Fr.sub r σ := by
  intro l
  induction l with
  | nil => intro r h; simp only [keepF, Option.some.injEq] at h; subst h; exact Fr.sub_nil _
  | cons t l ih =>
    intro r h
    simp only [keepF] at h
    cases h1 : Fr.get t σ with
    | none => rw [h1] at h; simp at h
    | some v =>
      cases h2 : keepF σ l with
      | none => rw [h1, h2] at h; simp at h
      | some r' =>
        rw [h1, h2] at h
        obtain rfl := Option.some.inj h
        exact Fr.sub_cons h1 (ih h2)

theorem Fr.sub_append {a b σ : Fr} (ha : Fr.sub a σ) (hb : Fr.sub b σ) : Fr.sub (a ++ b) σ := by
  intro t v h
  have key : ∀ (a : Fr), Fr.get t (a ++ b) = some v → Fr.get t a = some v ∨ Fr.get t b = some v := by
    intro a
    induction a with
    | nil => exact fun h => .inr h
    | cons x l ih =>
      obtain ⟨i, u⟩ := x
      intro h
      simp only [List.cons_append, Fr.get] at h ⊢
      cases hb : Nat.beq i t with
      | true => rw [hb] at h; exact .inl h
      | false => rw [hb] at h; exact ih h
  rcases key a h with h | h
  · exact ha t v h
  · exact hb t v h

section
variable {P : Program} {F : Fun P} {C : Cx} {S : List It} {σ : Fr} {β : List Blk} {Γ : List Fact} {R : Value → World → Prop} {p : List Nat} {i : Nat} {d : Option Tmp} {op : Op} {ty : TypeId} {K : Value → List Blk → List Fact → Prop}

/-- A loop; the slots and the facts that it keeps are named by their places alone. -/
theorem j_loopG {X : Type} {σk : Fr} {Γk : List Fact} (ks kf : List Nat) (st : X → Fr) (bl : X → List Blk) (fa : X → List Fact) (I : X → Prop) (μ : X → Nat) (x : X) (l : List Nat)
    (hp : isLoop F.B p = true) (hk : keepF σ ks = some σk) (hkf : pick Γ kf = some Γk) (hx : I x) (hs : Fr.sub (st x) σ) (hb : β = bl x) (hf : pick Γ l = some (fa x))
    (round : ∀ x, I x → (∀ x', μ x' < μ x → I x' → J F C (.lp (p ++ [0]) :: S) (st x' ++ σk) (bl x') (fa x' ++ Γk) R) → J F C (.c (p ++ [0]) :: .lp (p ++ [0]) :: S) (st x ++ σk) (bl x) (fa x ++ Γk) R) :
    J F C (.c p :: S) σ β Γ R :=
  j_loop hp (fun x => st x ++ σk) bl (fun x => fa x ++ Γk) I μ x hx (Fr.sub_append hs (keepF_sub hk)) hb (fun f hm => by
    rcases List.mem_append.1 hm with hm | hm
    · exact pick_mem hf f hm
    · exact pick_mem hkf f hm) round

/-- A guarded operation whose test was left out itself. -/
theorem j_gskipU {g : Tmp} {want : Bool} (ho : opAtG F p i = some (g, want, d, op, ty)) (hb : Fr.get g σ = some undef) (h : J F C (.o p (i + 1) :: S) (putF d undef σ) β Γ R) : J F C (.o p i :: S) σ β Γ R := by
  intro w hO hG
  obtain ⟨pos, after, j, hn, hj, hd⟩ := opAtG_some ho
  obtain ⟨e1, e2⟩ := item_o (F := F) hn
  intro a ha
  simp only [List.map_cons, e1]
  have hy : yielded (opsOf (sub p F.B)).toArray a.tmps j = none := by
    have ht := ha.get _ _ hb
    rw [nth_eq] at hj
    have hj' : ((opsOf (sub p F.B)).toArray[j]?).bind (·.dst) = some g := by simpa using hj
    simp only [yielded, hj', Option.bind_some, ht]
    rfl
  refine At_skip e2 (by simp [Region.wanted, hy]) ?_
  exact h w hO hG (a.put d undef) (ha.putF hd undef)

theorem distinct_iff {β : List Blk} : Distinct β ↔ β.Pairwise (fun x y => ∀ b, x.1 = some b → y.1 ≠ some b) := by
  induction β with
  | nil => simp [Distinct]
  | cons x l ih => rw [List.pairwise_cons, ← ih]; rfl

/-- The own blocks in another order. -/
theorem j_perm {β' : List Blk} (hp : β'.Perm β) (h : J F C S σ β' Γ R) : J F C S σ β Γ R := fun w hO hG =>
  h w ⟨hO.ext, fun x hx => hO.new x (hp.subset hx), fun x hx => hO.blk x (hp.subset hx), by
    rw [distinct_iff]
    exact (hp.pairwise_iff (fun {x y} hxy b hb e => hxy b e hb)).2 (distinct_iff.1 hO.apart)⟩
    fun f hf => f.stable (fun k hk => ⟨⟨hk.1, hk.2.1, fun x hx => hk.2.2 x (hp.subset hx)⟩, rfl⟩) (hG f hf)

/-- Some of the own blocks, in their order. -/
def maskB : List Bool → List Blk → List Blk
  | true :: m, x :: l => x :: maskB m l
  | false :: m, _ :: l => maskB m l
  | _, _ => []

theorem maskB_sub : ∀ (m : List Bool) (l : List Blk), (maskB m l).Sublist l
  | true :: m, x :: l => (maskB_sub m l).cons_cons x
  | false :: m, x :: l => (maskB_sub m l).cons x
  | [], l => by simp [maskB]
  | true :: _, [] => by simp [maskB]
  | false :: _, [] => by simp [maskB]

theorem j_toM {σ' : Fr} {β' : List Blk} {Γ' : List Fact} (m : List Bool) (l : List Nat) (hs : Fr.sub σ' σ) (hb : maskB m β = β') (hp : pick Γ l = some Γ') (h : J F C S σ' β' Γ' R) : J F C S σ β Γ R := by
  subst hb
  exact j_sub hs (j_weakB (maskB_sub m β) (j_pick l hp h))

/-! ### Results that lie in memory -/

/-- What the results come to, read off the slots and the own blocks; the numbers say which blocks. -/
inductive ResJ (P : Program) (σ : Fr) (β : List Blk) : List ResultVar → List Value → Prop
  | nil : ResJ P σ β [] []
  | tmp {t : Tmp} {v : Value} {l : List ResultVar} {vs : List Value} : Fr.get t σ = some v → ResJ P σ β l vs → ResJ P σ β (.tmp t :: l) (v :: vs)
  | agg {a : Tmp} {t : TypeId} {b m : Nat} {T : TypeId} {cs : List Value} {l : List ResultVar} {vs : List Value} (n : Nat) :
      Fr.get a σ = some (.pointer (some ⟨b, 0, none⟩)) → nth β n = some (some b, T, cs) → ldTy P t = some (true, m) → cs.length = m → ResJ P σ β l vs → ResJ P σ β (.cell a t :: l) (.agg cs.toArray :: vs)
  | one {a : Tmp} {t : TypeId} {b : Nat} {T : TypeId} {v : Value} {l : List ResultVar} {vs : List Value} (n : Nat) :
      Fr.get a σ = some (.pointer (some ⟨b, 0, none⟩)) → nth β n = some (some b, T, [v]) → ldTy P t = some (false, 1) → ResJ P σ β l vs → ResJ P σ β (.cell a t :: l) (v :: vs)

theorem ResJ.all {n : Nat} {a : Act} {w : World} (ha : Fits n σ a) (hO : Own C w β) : ∀ {l : List ResultVar} {vs : List Value}, ResJ P σ β l vs → ResAll P w a.tmps l vs := by
  intro l vs h
  induction h with
  | nil => exact .nil
  | tmp h1 _ ih => exact .cons (by simp [resOne, ha.get _ _ h1]) ih
  | @agg a' t b m T cs l vs k h1 h2 h3 h4 _ ih =>
    refine .cons ?_ ih
    have hb := hO.blk _ (nth_mem h2) b rfl
    have hl : (Instr.loadAt t (.pointer (some ⟨b, 0, none⟩))).run P w = .ok (.agg cs.toArray) w :=
      run_load_agg h3 h4 (cellsAt.rangeAt (n := m) ⟨cs.toArray, T, (0, 0), hb, by simp [← h4], h4⟩)
    simp only [Instr.loadAt, Instr.sureAddr, Sem.run_bind, Sem.run_pure, Result.andThen_ok] at hl
    simp [resOne, ha.get _ _ h1, asAddr, Sem.run_bind, hl]
  | @one a' t b T v l vs k h1 h2 h3 _ ih =>
    refine .cons ?_ ih
    have hl : (Instr.loadAt t (.pointer (some ⟨b, 0, none⟩))).run P w = .ok v w :=
      run_load_one h3 (own_cell hO h2 rfl)
    simp only [Instr.loadAt, Instr.sureAddr, Sem.run_bind, Sem.run_pure, Result.andThen_ok] at hl
    simp [resOne, ha.get _ _ h1, asAddr, Sem.run_bind, hl]

theorem results_fits {fn : Func} {tmps : Array Value} {w : World} {vs : List Value} (h : ResAll P w tmps fn.results.toList vs) : (results fn tmps).run P w = .ok (resVal vs) w := run_results_all h

/-- The end; one's own blocks are let go. -/
theorem j_givC {vs : List Value} {Q : Value → List Fact → List Blk → Prop} {Φ : List Fact} (l : List Nat) (hp : isRet F.B p = true) (hr : ResJ P σ β F.fn.results.toList vs) (hl : pick Γ l = some Φ)
    (h : Q (resVal vs) Φ []) : J F C (.c p :: S) σ β Γ (Gives C Q) :=
  fun _ hO hG => run_ret_at hp (fun _ ha => results_fits (hr.all ha hO)) ⟨Φ, [], h, ⟨hO.ext, fun x hx => (by cases hx), fun x hx => (by cases hx), trivial⟩, fun f hf => drop_own (hG f (pick_mem hl f hf))⟩

/-! ### A block is handed to a callee -/

theorem x_callB {f : FuncId} {xs : List Operand} {ts : Array TypeId} {args : List Value} {Γ' : List Fact} {blk : Blk} {Q : Value → List Fact → List Blk → Prop} (n : Nat) (l : List Nat) (hn : nth β n = some blk)
    (hx : evs σ xs = some args) (hc : Ctr P f args [blk] Γ' Q) (hp : pick Γ l = some Γ')
    (h : ∀ v Φ β', Q v Φ β' → K v (β' ++ β.eraseIdx n) (Φ ++ Γ)) : Jop P C (.call { callee := .value (.func f), args := xs.toArray, argTypes := ts }) ty σ β Γ K := by
  intro w hO hG
  have hsub : (β.eraseIdx n).Sublist β := List.eraseIdx_sublist _ _
  have hOe : Own C w (β.eraseIdx n) := hO.sub hsub
  have hin : ∀ k, inB [blk] k → blk.1 = some k := fun k ⟨x, hx, e⟩ => by
    obtain rfl := List.mem_singleton.1 hx
    exact e
  have hcall := hc.2 w (ok C w β) (fun k hk => hk.2.1) (fun x hx b hb => by obtain rfl := List.mem_singleton.1 hx; exact hO.blk _ (nth_mem hn) b hb)
    ⟨fun y hy => (by cases hy), trivial⟩ (fun g hg => g.stable (fun k hk => ⟨⟨hk, fun hi => hk.2.2 _ (nth_mem hn) (hin k hi)⟩, rfl⟩) (hG g (pick_mem hp g hg)))
  refine (Ex_call hc.1 hx hcall).mono ?_
  rintro v w' ⟨Φ, β', hQ, hO', hΦ⟩
  have hkeep : ∀ k, k < w.heap.size → blk.1 ≠ some k → w'.heap[k]? = w.heap[k]? := fun k hk hne => hO'.ext.block k hk (fun hi => hne (hin k hi))
  have hnb : ∀ x ∈ β.eraseIdx n, ∀ b, x.1 = some b → blk.1 ≠ some b := by
    intro x hx b hb e
    obtain ⟨bb, T, cs⟩ := blk
    have e' : bb = some b := e
    subst e'
    exact mem_erase hO.apart hn x hx hb
  have hnew : ∀ x ∈ β', ∀ b, x.1 = some b → w.heap.size ≤ b ∨ blk.1 = some b := fun x hx b hb => by
    rcases hO'.new x hx b hb with h | h
    · exact .inl h
    · exact .inr (hin b h)
  refine ⟨_, _, h v Φ β' hQ, ⟨⟨hO'.ext.os.trans hO.ext.os, hO'.ext.tape.trans hO.ext.tape, hO'.ext.output.trans hO.ext.output, Nat.le_trans hO.ext.size hO'.ext.size, fun k hk hm => ?_⟩, ?_, ?_, ?_⟩, ?_⟩
  · rw [hkeep k (Nat.lt_of_lt_of_le hk hO.ext.size) (fun e => ?_)]
    · exact hO.ext.block k hk hm
    · rcases hO.new _ (nth_mem hn) k e with h | h
      · omega
      · exact hm h
  · intro x hm b hb
    rcases List.mem_append.1 hm with hm | hm
    · rcases hnew x hm b hb with h | h
      · exact .inl (Nat.le_trans hO.ext.size h)
      · exact hO.new _ (nth_mem hn) b h
    · exact hOe.new x hm b hb
  · intro x hm b hb
    rcases List.mem_append.1 hm with hm | hm
    · exact hO'.blk x hm b hb
    · rw [hkeep b (hOe.lt hm hb) (hnb x hm b hb)]
      exact hOe.blk x hm b hb
  · refine hO'.apart.append hOe.apart fun x hx y hy b hb e => ?_
    rcases hnew x hx b hb with h1 | h1
    · have h2 := hOe.lt hy e
      omega
    · exact hnb y hy b e h1
  · intro g hg
    rcases List.mem_append.1 hg with hg | hg
    · refine g.stable (fun k hk => ⟨⟨?_, hk.2.1, fun x hx => ?_⟩, rfl⟩) (hΦ g hg)
      · rcases hk.1 with h1 | h1 | h1
        · exact h1.1
        · have := hin k h1
          rcases hO.new _ (nth_mem hn) k this with h | h
          · exact .inr (.inr h)
          · exact .inr (.inl h)
        · exact .inr (.inr (Nat.le_trans hO.ext.size h1))
      · rcases List.mem_append.1 hx with hx | hx
        · exact hk.2.2 x hx
        · intro e
          rcases hk.1 with h1 | h1 | h1
          · exact h1.2.2 x (hsub.subset hx) e
          · exact hnb x hx k e (hin k h1)
          · have h2 := hOe.lt hx e
            have h1' : w.heap.size ≤ k := h1
            omega
    · refine g.stable (fun k hk => ⟨⟨hk.1, Nat.lt_of_lt_of_le hk.2.1 hO'.ext.size, fun x hx => ?_⟩, hkeep k hk.2.1 (fun e => hk.2.2 _ (nth_mem hn) e)⟩) (hG g hg)
      rcases List.mem_append.1 hx with hx | hx
      · intro e
        rcases hnew x hx k e with h1 | h1
        · have := hk.2.1
          omega
        · exact hk.2.2 _ (nth_mem hn) h1
      · exact hk.2.2 x (hsub.subset hx)

/-! ### Parts of own slices -/

theorem x_idx_ownO {t e : TypeId} {m' : Nat} {x y : Operand} {b o0 len ca : Nat} {kd : IntKind} {m : Int} (k o : Nat) (hx : ev σ x = some (.slice (some ⟨b, o0, none⟩) len ca)) (hy : ev σ y = some (.int kd m)) (hT : slTy P t = some (e, m'))
    (hm : m = (k : Int)) (hk : k < len) (ho : o0 + k * m' = o) (h : K (.pointer (some ⟨b, o, none⟩)) β Γ) : Jop P C (.indexAddr t x y) ty σ β Γ K :=
  x_pure (fun _ => by
    have := Pure_idx (P := P) (ty := ty) (w := ‹World›) (o := o0) hT hx hy hm hk
    rw [ho] at this
    exact this) h

/-- a[l:h] of an own slice. -/
theorem x_slice_own {t e : TypeId} {m : Nat} {x y z : Operand} {b o len ca : Nat} {ky kz : IntKind} {lo hi : Int} (kl kh o' : Nat) (hx : ev σ x = some (.slice (some ⟨b, o, none⟩) len ca)) (hy : ev σ y = some (.int ky lo)) (hz : ev σ z = some (.int kz hi))
    (hT : slTy P t = some (e, m)) (hkl : lo = (kl : Int)) (hkh : hi = (kh : Int)) (h1 : kl ≤ kh) (h2 : kh ≤ ca) (h3 : kl < ca) (ho : o + kl * m = o')
    (h : K (.slice (some ⟨b, o', none⟩) (kh - kl) (ca - kl)) β Γ) : Jop P C (.slice t x (some y) (some z) none) ty σ β Γ K :=
  x_pure (fun w ρ hρ => by
    obtain ⟨hu, _⟩ := slTy_some hT
    subst hkl; subst hkh; subst ho
    have := run_slice_lh (P := P) w t (some ⟨b, o, none⟩) len ca (by rw [elem_of hu]; exact hu) ky kz kl kh (by omega) (by omega) (by omega)
    have e1 : sliced (some ⟨b, o, none⟩) kl kh ca m = .slice (some ⟨b, o + kl * m, none⟩) (kh - kl) (ca - kl) := by
      have : ¬ ca = kl := by omega
      simp [sliced, this, Addr.add_mid]
    simp [execOp, bare, hρ _ _ hx, hρ _ _ hy, hρ _ _ hz, run_sliceAt hT, this, run_sizeOf' hT, e1]) h

/-- a[:h:m] of an own slice. -/
theorem x_slice_hm_own {t e : TypeId} {size : Nat} {x y z : Operand} {b o len ca : Nat} {ky kz : IntKind} {hi mx : Int} (k m : Nat) (hx : ev σ x = some (.slice (some ⟨b, o, none⟩) len ca)) (hy : ev σ y = some (.int ky hi)) (hz : ev σ z = some (.int kz mx))
    (hT : slTy P t = some (e, size)) (hk : hi = (k : Int)) (hm : mx = (m : Int)) (h1 : k ≤ m) (h3 : m ≤ ca)
    (h : K (.slice (some ⟨b, o, none⟩) k m) β Γ) : Jop P C (.slice t x none (some y) (some z)) ty σ β Γ K :=
  x_pure (fun w ρ hρ => by
    obtain ⟨hu, _⟩ := slTy_some hT
    subst hk; subst hm
    have := run_slice_hm (P := P) w t (some ⟨b, o, none⟩) len ca (by rw [elem_of hu]; exact hu) ky kz k m (by omega) (by omega) (by omega)
    have e1 : sliced (some ⟨b, o, none⟩) 0 k m size = .slice (some ⟨b, o, none⟩) k m := by simp [sliced, Addr.add]
    simp [execOp, bare, hρ _ _ hx, hρ _ _ hy, hρ _ _ hz, run_sliceAt hT, this, run_sizeOf' hT, e1]) h

/-! ### Fields of a fraction that is read -/

theorem x_field_rt {t : TypeId} {j off : Nat} {x : Operand} {b o : Nat} {γ : Type} {G : Enc γ} {y : γ} (hx : ev σ x = some (.pointer (some ⟨b, o, none⟩))) (hT : fldTy P t j = some off) (hf : ∀ w A, (∀ g ∈ Γ, g.holds w A) → (ptF G b (o + off) y).holds w A)
    (h : K (.pointer (some ⟨b, o + off, none⟩)) β (ptF G b (o + off) y :: Γ)) : Jop P C (.fieldAddr t x j) ty σ β Γ K := fun w hO hG =>
  Pure.done (Pure_field hT hx) h hO fun g hg => by
    rcases List.mem_cons.1 hg with rfl | hg
    · exact hf _ _ hG
    · exact hG g hg

theorem rt_f0 {w : World} {A : Nat → Prop} {b o : Nat} {z : Rt} (h : (ptF RatE b o z).holds w A) : (ptF encBool b (o + 0) z.1).holds w A := ptF_fst h
theorem rt_f1 {w : World} {A : Nat → Prop} {b o : Nat} {z : Rt} (h : (ptF RatE b o z).holds w A) : (ptF NatE b (o + 1) z.2.1).holds w A := ptF_fst (ptF_snd h)
theorem rt_f2 {w : World} {A : Nat → Prop} {b o : Nat} {z : Rt} (h : (ptF RatE b o z).holds w A) : (ptF NatE b (o + 2) z.2.2).holds w A := ptF_snd (ptF_snd h)

/-! ### Whole blocks -/

theorem x_bld_all {t : TypeId} {x : Operand} {b m : Nat} {T : TypeId} {cs : List Value} (n : Nat) (hx : ev σ x = some (.pointer (some ⟨b, 0, none⟩))) (hn : nth β n = some (some b, T, cs))
    (hT : ldTy P t = some (true, m)) (hl : cs.length = m) (h : K (.agg cs.toArray) β Γ) : Jop P C (.load t x) ty σ β Γ K :=
  x_bld_agg n hx hn hT (by simp [← hl]) hl h

theorem d_bld_all {t : TypeId} {x : Operand} {b m : Nat} {T : TypeId} {cs : List Value} (n : Nat) (hx : ev σ x = some (.pointer (some ⟨b, 0, none⟩))) (hn : nth β n = some (some b, T, cs))
    (hT : ldTy P t = some (true, m)) (hl : cs.length = m) : JD P (.load t x) ty σ β Γ (fun _ => .agg cs.toArray) (fun _ => []) :=
  d_bld_agg n hx hn hT (by simp [← hl]) hl

theorem x_bst_all {t : TypeId} {x y : Operand} {b m : Nat} {T : TypeId} {cs vs : List Value} (n : Nat) (hx : ev σ x = some (.pointer (some ⟨b, 0, none⟩))) (hy : ev σ y = some (.agg vs.toArray)) (hn : nth β n = some (some b, T, cs))
    (hT : ldTy P t = some (true, m)) (hl : vs.length = m) (hc : cs.length = m) (h1 : ∀ u ∈ vs, u.oneCell' = true) (h : K undef (setB β n vs) Γ) :
    Jop P C (.store t x y) ty σ β Γ K :=
  x_bst n hx hy hn (vs := vs) rfl (by rw [hl]; exact hT) h1 (by omega) (by simp [splice, hl, hc]) h

theorem x_box_agg {T : TypeId} {x : Operand} {cs : List Value} (hx : ev σ x = some (.agg cs.toArray)) (h : ∀ b, K (.pointer (some ⟨b, 0, none⟩)) ((some b, T, cs) :: β) Γ) : Jop P C (.box T x) ty σ β Γ K :=
  x_box hx rfl h

theorem x_box_one {T : TypeId} {x : Operand} {v : Value} (hx : ev σ x = some v) (hc : cellsL v = [v]) (h : ∀ b, K (.pointer (some ⟨b, 0, none⟩)) ((some b, T, [v]) :: β) Γ) : Jop P C (.box T x) ty σ β Γ K :=
  x_box hx hc h

/-! ### Rows of numbers with something behind them -/

theorem x_bld_natA {t : TypeId} {x : Operand} {b o m : Nat} {T : TypeId} {kd : IntKind} {l : List Nat} {rest : List Value} (n : Nat) (hx : ev σ x = some (.pointer (some ⟨b, o, none⟩))) (hn : nth β n = some (some b, T, natCells kd l ++ rest))
    (hT : ldTy P t = some (false, 1)) (hr : ∀ x ∈ l, x < m) (ho : o < l.length) (h : ∀ z, l[o]? = some z → z < m → K (.int kd z) β Γ) : Jop P C (.load t x) ty σ β Γ K := by
  have hz : l[o]? = some l[o] := by simp [ho]
  exact x_bld n hx hn hT (by rw [List.getElem?_append_left (by simpa using ho), natCells_get, hz]; rfl) (h _ hz (hr _ (List.getElem_mem ho)))

theorem x_bst_natA {t : TypeId} {x y : Operand} {b o : Nat} {T : TypeId} {kd : IntKind} {l : List Nat} {rest : List Value} {v : Int} (n z : Nat) (hx : ev σ x = some (.pointer (some ⟨b, o, none⟩))) (hy : ev σ y = some (.int kd v)) (hn : nth β n = some (some b, T, natCells kd l ++ rest))
    (hT : ldTy P t = some (false, 1)) (hv : v = (z : Int)) (ho : o < l.length) (h : K undef (setB β n (natCells kd (l.set o z) ++ rest)) Γ) : Jop P C (.store t x y) ty σ β Γ K := by
  subst hv
  exact x_bst1 n hx hy hn rfl hT rfl (by simp; omega) (by rw [List.set_append_left _ _ (by simpa using ho), natCells_set]; exact h)

/-! ### A part of a row of numbers -/

theorem mid_get {pre u post : List Nat} {i z : Nat} (h : u[i]? = some z) : (pre ++ u ++ post)[pre.length + i]? = some z := by
  have hi : i < u.length := (List.getElem?_eq_some_iff.1 h).1
  rw [List.append_assoc, List.getElem?_append_right (by omega), List.getElem?_append_left (by omega), show pre.length + i - pre.length = i by omega]
  exact h

theorem mid_set {pre u post : List Nat} {i z : Nat} (h : i < u.length) : (pre ++ u ++ post).set (pre.length + i) z = pre ++ u.set i z ++ post := by
  rw [List.append_assoc, List.set_append_right _ _ (by omega), List.set_append_left _ _ (by omega), show pre.length + i - pre.length = i by omega, List.append_assoc]

theorem x_bld_mid {t : TypeId} {x : Operand} {b o m : Nat} {T : TypeId} {kd : IntKind} {pre u post : List Nat} (n i : Nat) (hx : ev σ x = some (.pointer (some ⟨b, o, none⟩))) (hn : nth β n = some (some b, T, natCells kd (pre ++ u ++ post)))
    (hT : ldTy P t = some (false, 1)) (ho : o = pre.length + i) (hr : ∀ x ∈ u, x < m) (hi : i < u.length) (h : ∀ z, u[i]? = some z → z < m → K (.int kd z) β Γ) : Jop P C (.load t x) ty σ β Γ K := by
  have hz : u[i]? = some u[i] := by simp [hi]
  subst ho
  exact x_bld n hx hn hT (by rw [natCells_get, mid_get hz]; rfl) (h _ hz (hr _ (List.getElem_mem hi)))

theorem d_bld_mid {t : TypeId} {x : Operand} {b o z : Nat} {T : TypeId} {kd : IntKind} {pre u post : List Nat} (n i : Nat) (hx : ev σ x = some (.pointer (some ⟨b, o, none⟩))) (hn : nth β n = some (some b, T, natCells kd (pre ++ u ++ post)))
    (hT : ldTy P t = some (false, 1)) (ho : o = pre.length + i) (hz : u[i]? = some z) : JD P (.load t x) ty σ β Γ (fun _ => .int kd z) (fun _ => []) := by
  subst ho
  exact d_bld n hx hn hT (by rw [natCells_get, mid_get hz]; rfl)

theorem x_bst_mid {t : TypeId} {x y : Operand} {b o : Nat} {T : TypeId} {kd : IntKind} {pre u post : List Nat} {v : Int} (n i z : Nat) (hx : ev σ x = some (.pointer (some ⟨b, o, none⟩))) (hy : ev σ y = some (.int kd v)) (hn : nth β n = some (some b, T, natCells kd (pre ++ u ++ post)))
    (hT : ldTy P t = some (false, 1)) (hv : v = (z : Int)) (ho : o = pre.length + i) (hi : i < u.length) (h : K undef (setB β n (natCells kd (pre ++ u.set i z ++ post))) Γ) : Jop P C (.store t x y) ty σ β Γ K := by
  subst hv; subst ho
  exact x_bst1 n hx hy hn rfl hT rfl (by simp; omega) (by rw [natCells_set, mid_set hi]; exact h)

/-- A sum that wraps. -/
theorem x_add_u32 {x y : Operand} {t u : TypeId} {m n : Int} (hx : ev σ x = some (.int .u32 m)) (hy : ev σ y = some (.int .u32 n)) (h : K (.int .u32 ((m + n) % 4294967296)) β Γ) : Jop P C (.binOp .add t x y u) ty σ β Γ K :=
  x_pure (fun w ρ hρ => by
    simp [execOp, bare, hρ _ _ hx, hρ _ _ hy, eqGuard, Go.binOp, Op.intArith, IntKind.wrap, IntKind.bits, IntKind.signed]) h

theorem x_max {x y : Operand} {ts : Array TypeId} {k : IntKind} {m n : Int} (hx : ev σ x = some (.int k m)) (hy : ev σ y = some (.int k n)) (h : K (.int k (if m < n then n else m)) β Γ) :
    Jop P C (.call { callee := .builtin .max, args := #[x, y], argTypes := ts }) ty σ β Γ K :=
  x_pure (fun w ρ hρ => by
    simp [execOp, bare, resolve, invoke, builtin, Builtin.max_, Builtin.max2, hρ _ _ hx, hρ _ _ hy]) h

/-- A test that is decided. -/
theorem x_true {it : List (TypeId × IntKind)} (hit : IntTys P it) {q q' : Prop} [Decidable q] (h : pev it σ op = some (.bool (decide q), q')) (hq' : q') (hq : q) (hK : K (.bool true) β Γ) : Jop P C op ty σ β Γ K :=
  x_pure (fun w => by
    have := pev_sound (P := P) hit (ty := ty) h hq' w
    rwa [decide_eq_true hq] at this) hK

theorem x_false {it : List (TypeId × IntKind)} (hit : IntTys P it) {q q' : Prop} [Decidable q] (h : pev it σ op = some (.bool (decide q), q')) (hq' : q') (hq : ¬ q) (hK : K (.bool false) β Γ) : Jop P C op ty σ β Γ K :=
  x_pure (fun w => by
    have := pev_sound (P := P) hit (ty := ty) h hq' w
    rwa [decide_eq_false hq] at this) hK

theorem allF_flat {kd : IntKind} {by' : Nat} {w : World} {A : Nat → Prop} : ∀ {l : List Nat} {vss : List (List Value)}, AllRd (encNat kd by') vss l w A → vss.flatten = natCells kd l := by
  intro l
  induction l with
  | nil => intro vss h; have : vss = [] := List.eq_nil_of_length_eq_zero h.1; subst this; rfl
  | cons x l ih =>
    intro vss h
    cases vss with
    | nil => have := h.1; simp at this
    | cons vs vss =>
      have h0 : vs = [.int kd x] := (h.2 0 vs x rfl rfl).1
      have h1 := ih (vss := vss) ⟨by have := h.1; simpa using this, fun i us y hu hy => h.2 (i + 1) us y (by simpa using hu) (by simpa using hy)⟩
      subst h0
      simp only [List.flatten_cons, h1, natCells, List.map_cons, List.singleton_append]

theorem j_flat {kd : IntKind} {by' : Nat} {vss : List (List Value)} {l : List Nat} (n : Nat) (hn : nth Γ n = some (allF (encNat kd by') vss l)) (h : vss.flatten = natCells kd l → J F C S σ β Γ R) : J F C S σ β Γ R :=
  j_know (fun _ _ hG => allF_flat (hG _ (fact_mem hn))) h

/-! ### Fractions and pairs as results -/

/-- A row of numbers that is the caller's own. -/
abbrev Ov (e : TypeId) (l : List Nat) : Value → List Fact → List Blk → Prop := fun v Φ β => ∃ bo cap rest, v = .slice (ad bo) l.length cap ∧ GrOk bo l.length cap 1 (natCells .u32 l ++ rest) ∧ Φ = [] ∧ β = [(bo, e, natCells .u32 l ++ rest)]

/-- A slice and an int. -/
abbrev S2 {α : Type} (E : Enc α) (l : List α) (e : Int) : Value → List Fact → List Blk → Prop := fun v Φ β => ∃ pa ca, v = .tuple #[.slice pa l.length ca, .int .i64 e] ∧ Φ = [slF E pa l.length ca l] ∧ β = []

/-- A fraction is given, its parts read so. -/
abbrev RtV (r : Rt) : Value → List Fact → List Blk → Prop := fun v Φ β => ∃ pn cn pd cd, v = .agg #[.bool r.1, .slice pn r.2.1.length cn, .slice pd r.2.2.length cd] ∧ Φ = [slF U32 pn r.2.1.length cn r.2.1, slF U32 pd r.2.2.length cd r.2.2] ∧ β = []

/-- A fraction, and an error. -/
abbrev RtE (r : Rt) (e : Int) : Value → List Fact → List Blk → Prop := fun v Φ β => ∃ pn cn pd cd, v = .tuple #[.agg #[.bool r.1, .slice pn r.2.1.length cn, .slice pd r.2.2.length cd], .int .i64 e] ∧ Φ = [slF U32 pn r.2.1.length cn r.2.1, slF U32 pd r.2.2.length cd r.2.2] ∧ β = []

def valQ (x : Rt) : Gh → Value := fun g => .agg #[.bool x.1, .slice (g 0).1 x.2.1.length (g 0).2.1, .slice (g 1).1 x.2.2.length (g 1).2.1]
def facQ (x : Rt) : Gh → List Fact := fun g => [slF U32 (g 0).1 x.2.1.length (g 0).2.1 x.2.1, slF U32 (g 1).1 x.2.2.length (g 1).2.1 x.2.2]

end

section
variable {P : Program} {F : Fun P} {C : Cx} {S : List It} {σ : Fr} {β : List Blk} {Γ : List Fact} {R : Value → World → Prop}

/-- A fraction's cells, out of the facts on its parts. -/
theorem rd_rt {w : World} {A : Nat → Prop} {b : Bool} {pn pd : Option Addr} {n m cn cd : Nat} {N D : List Nat} (h1 : (slF U32 pn n cn N).holds w A) (h2 : (slF U32 pd m cd D).holds w A) : RatE.rd w A [.bool b, .slice pn n cn, .slice pd m cd] (b, N, D) := by
  obtain ⟨rfl, h1⟩ := h1
  obtain ⟨rfl, h2⟩ := h2
  exact rt_shut (x := (b, N, D)) h1 h2

/-- A literal is given up: from here on it is read alone. -/
theorem j_pub_all {α : Type} {E : Enc α} {e : TypeId} {b n : Nat} {cs : List Value} (vss : List (List Value)) (ls : List α) (k : Nat) (hall : ∀ w A, (∀ g ∈ Γ, g.holds w A) → AllRd E vss ls w A)
    (hn : nth β k = some (some b, e, cs)) (hc : vss.flatten = cs) (hl : n = ls.length) (hcs : cs.length = n * E.size) (hby : n * E.bytes ≤ 140737488355328) (h63 : n ≤ 9223372036854775807)
    (h : J F C S σ (β.eraseIdx k) (slF E (some ⟨b, 0, none⟩) n n ls :: Γ) R) : J F C S σ β Γ R :=
  j_add (allF E vss ls) hall
    (j_pub (bo := some b) (cap := n) k 0 hn rfl (.inr ⟨b, rfl, Nat.le_refl _, h63, hcs⟩) (by rw [hc, ← hcs, List.take_length]) hl hby (j_weak (fun f hf => by
      rcases List.mem_cons.1 hf with rfl | hf
      · exact .head _
      · exact .tail _ (.tail _ hf)) h))

end

section
variable {P : Program} {F : Fun P} {C : Cx} {S : List It} {R : Value → World → Prop} {β : List Blk} {Γ : List Fact} {it : List (TypeId × IntKind)} {L : List Oper} {pos : List Po} {pt : List (List Nat)} {p : List Nat} {σ κ : Fr} {fs : List (Nat × Fact)} {al : List Blk} {i : Nat} {op : Op} {ty : TypeId} {d : Option Tmp}

/-- A fraction, in a region that draws its order. -/
theorem lxk_rq {k : Nat} {z : Rt} (ho : opL F.fn.ntmps L κ i = some (d, op, ty)) (hJ : JD P op ty σ β (sel (preAt pt i) fs ++ Γ) (valQ z) (facQ z))
    (h : ∀ pn cn pd cd, LxK it F C p S L pt β Γ R k (i + 1) pos (delF d κ) (putF d (.agg #[.bool z.1, .slice pn z.2.1.length cn, .slice pd z.2.2.length cd]) σ) ((i, slF U32 pn z.2.1.length cn z.2.1) :: (i, slF U32 pd z.2.2.length cd z.2.2) :: fs) al) :
    LxK it F C p S L pt β Γ R k i (.fa (valQ z) (facQ z) :: pos) κ σ fs al := lxk_fa ho hJ fun x => h (x 0).1 (x 0).2.1 (x 1).1 (x 1).2.1

/-- A literal, in a region that draws its order. -/
theorem dk_all {α : Type} {E : Enc α} {e : TypeId} {b n : Nat} {cs : List Value} (vss : List (List Value)) (ls : List α) (hall : ∀ w A, (∀ g ∈ Γ, g.holds w A) → AllRd E vss ls w A) (hc : vss.flatten = cs) (hl : n = ls.length) (hcs : cs.length = n * E.size) (hby : n * E.bytes ≤ 140737488355328) :
    DK (valS n) (facS E n ls) (.slice (some ⟨b, 0, none⟩) n n) [(some b, e, cs)] Γ := fun C w hO hG => by
  refine ⟨fun _ => (some ⟨b, 0, none⟩, n, 0), rfl, one_mem ⟨hl, ?_⟩⟩
  have hall := hall _ _ hG
  have hb := hO.blk _ (.head _) b rfl
  have hnew := hO.new _ (.head _) b rfl
  have hlt := hO.lt (.head _) rfl
  refine ⟨by show ls.length ≤ n; omega, by rw [← hl]; exact hby, .inr ⟨b, 0, rfl, ⟨by rcases hnew with h | h; exact .inr (.inr h); exact .inr (.inl h), hlt, fun x hx => by cases hx⟩, fun i x hi => ?_⟩⟩
  have hlti : i < ls.length := (List.getElem?_eq_some_iff.1 hi).1
  obtain ⟨vs, hvs⟩ : ∃ vs, vss[i]? = some vs := ⟨vss[i]'(hall.1.symm ▸ hlti), by simp⟩
  have hpart := flatten_part (allF_len hall) i vs hvs
  have hrd := hall.2 i vs x hvs hi
  refine ⟨vs, ⟨cs.toArray, e, (0, 0), hb, ?_, E.len hrd⟩, E.stable (fun _ hk => ⟨⟨hk.1, hk.2.1, fun x hx => by cases hx⟩, rfl⟩) hrd⟩
  rw [← hpart, ← hc, Nat.zero_add]

theorem dk_rq {x : Rt} {pn pd : Option Addr} {cn cd : Nat} (j j' : Nat) (hj : nth Γ j = some (slF U32 pn x.2.1.length cn x.2.1)) (hj' : nth Γ j' = some (slF U32 pd x.2.2.length cd x.2.2)) :
    DK (valQ x) (facQ x) (.agg #[.bool x.1, .slice pn x.2.1.length cn, .slice pd x.2.2.length cd]) β Γ :=
  fun _ _ _ hG => ⟨fun | 0 => (pn, cn, 0) | _ => (pd, cd, 0), rfl, fun g hg => by
    simp only [facQ, List.mem_cons, List.not_mem_nil, or_false] at hg
    rcases hg with rfl | rfl
    · exact drop_own (hG _ (fact_mem hj))
    · exact drop_own (hG _ (fact_mem hj'))⟩

end
end Go.Fw
