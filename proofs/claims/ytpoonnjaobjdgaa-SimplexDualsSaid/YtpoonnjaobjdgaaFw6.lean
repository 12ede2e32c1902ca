/-
The sixth text of the frame: append; slices of slices; own rows that are given up for good.
-/
import Derived.Test.YtpoonnjaobjdgaaFw5
namespace Go.Fw

def ad : Option Nat → Option Addr
  | none => none
  | some b => some ⟨b, 0, none⟩

/-- A slice of the function's own, from its row's head on: nil, or n elements and room for cap. -/
def GrOk (bo : Option Nat) (n cap m : Nat) (cs : List Value) : Prop :=
  (bo = none ∧ n = 0 ∧ cap = 0 ∧ cs = []) ∨ (∃ b, bo = some b ∧ n ≤ cap ∧ cap ≤ 9223372036854775807 ∧ cs.length = cap * m)

theorem GrOk.nil (m : Nat) : GrOk none 0 0 m [] := .inl ⟨rfl, rfl, rfl, rfl⟩

theorem GrOk.le {bo : Option Nat} {n cap m : Nat} {cs : List Value} (h : GrOk bo n cap m cs) : n ≤ cap := by
  rcases h with ⟨_, rfl, rfl, _⟩ | ⟨_, _, h, _⟩
  · exact Nat.le_refl _
  · exact h

theorem GrOk.len {bo : Option Nat} {n cap m : Nat} {cs : List Value} (h : GrOk bo n cap m cs) : n * m ≤ cs.length := by
  rcases h with ⟨_, rfl, rfl, rfl⟩ | ⟨_, _, h1, _, h2⟩
  · simp
  · rw [h2]; exact Nat.mul_le_mul_right _ h1

theorem mem_erase {β : List Blk} : ∀ {n : Nat} {b : Nat} {T : TypeId} {c : List Value}, Distinct β → nth β n = some (some b, T, c) → ∀ x ∈ β.eraseIdx n, x.1 ≠ some b := by
  induction β with
  | nil => intro n b T c _ h; simp [nth] at h
  | cons y l ih =>
    intro n b T c hd h x hx
    cases n with
    | zero =>
      simp only [nth, Option.some.injEq] at h
      subst h
      exact hd.1 x hx b rfl
    | succ n =>
      simp only [nth] at h
      simp only [List.eraseIdx_cons_succ, List.mem_cons] at hx
      rcases hx with rfl | hx
      · intro e
        have hm : (some b, T, c) ∈ l := by rw [nth_eq] at h; exact List.mem_of_getElem? h
        exact hd.1 _ hm b e rfl
      · exact ih hd.2 h x hx

section
variable {P : Program} {F : Fun P} {C : Cx} {S : List It} {σ : Fr} {β : List Blk} {Γ : List Fact} {R : Value → World → Prop} {p : List Nat} {i : Nat} {d : Option Tmp} {op : Op} {ty : TypeId} {K : Value → List Blk → List Fact → Prop}

theorem Own.sub {w : World} {β' : List Blk} (ho : Own C w β) (hs : β'.Sublist β) : Own C w β' :=
  ⟨ho.ext, fun x hx => ho.new x (hs.subset hx), fun x hx => ho.blk x (hs.subset hx), ho.apart.sub hs⟩

theorem facts_sub {w : World} {β' : List Blk} (hs : β'.Sublist β) (hG : ∀ f ∈ Γ, f.holds w (ok C w β)) : ∀ f ∈ Γ, f.holds w (ok C w β') :=
  fun f hf => f.stable (fun _ hk => ⟨⟨hk.1, hk.2.1, fun x hx => hk.2.2 x (hs.subset hx)⟩, rfl⟩) (hG f hf)

/-- A nil slice is taken among the own ones. -/
theorem j_nil (e : TypeId) (h : J F C S σ ((none, e, []) :: β) Γ R) : J F C S σ β Γ R := fun w hO hG =>
  h w ⟨hO.ext, fun x hx b hb => by rcases List.mem_cons.1 hx with rfl | hx; (cases hb); exact hO.new x hx b hb,
      fun x hx b hb => by rcases List.mem_cons.1 hx with rfl | hx; (cases hb); exact hO.blk x hx b hb, ⟨(fun y hy b hb => by cases hb), hO.apart⟩⟩
    fun f hf => f.stable (fun k hk => ⟨⟨hk.1, hk.2.1, fun x hx => by
      rcases List.mem_cons.1 hx with rfl | hx
      · intro e; cases e
      · exact hk.2.2 x hx⟩, rfl⟩) (hG f hf)

theorem Own.drew {w : World} (h : Own C w β) : Own C w.drew β := ⟨⟨h.ext.os, h.ext.tape, h.ext.output, h.ext.size, h.ext.block⟩, h.new, h.blk, h.apart⟩

theorem facts_drew {w : World} (hG : ∀ f ∈ Γ, f.holds w (ok C w β)) : ∀ f ∈ Γ, f.holds w.drew (ok C w.drew β) :=
  fun f hf => f.stable (w := w) (fun _ hk => ⟨⟨hk.1, hk.2.1, hk.2.2⟩, rfl⟩) (hG f hf)

theorem run_append_zero {w : World} {t ty' e : TypeId} {i : TypeInfo} {base px : Option Addr} {n cap cx : Nat} (ht : P.underlying t = some (.slice e)) (hi : P.info? e = some i) (hn : n ≤ cap) :
    (Builtin.append_ #[t, t] ty' #[.slice base n cap, .slice px 0 cx]).run P w = .ok (.slice base n cap) w := by
  cases px <;> cases base <;> simp [Builtin.append_, run_underlying ht, sizeOf, typeInfo, hi, Builtin.lenOf, hn, Builtin.firstCells, loadCells, loadCellsFrom, storeCells]

/-- What an append to an own slice comes to. -/
theorem append_any {w : World} {t ty' e : TypeId} {n m cap size k cx : Nat} {bo : Option Nat} {cs news : List Value} {px : Option Addr} {zs : List Value} (hT : slTy P t = some (e, size)) (hz : zeroOf P e = some zs) (hzl : zs.length = size)
    (hO : Own C w β) (hG : ∀ f ∈ Γ, f.holds w (ok C w β)) (hn : nth β k = some (bo, e, cs)) (hg : GrOk bo n cap size cs)
    (hl : news.length = m * size) (hx : m = 0 ∨ ∃ a, px = some a ∧ ∀ j u, news[j]? = some u → w.cell? (a.add j) = some u) (h1 : ∀ u ∈ news, u.oneCell' = true)
    (hmax : n + m ≤ 9223372036854775807) (hby : (n + m) * P.bytesOf e ≤ 140737488355328) :
    ∃ bo' cap' cs' w', (Builtin.append_ #[t, t] ty' #[.slice (ad bo) n cap, .slice px m cx]).run P w = .ok (.slice (ad bo') (n + m) cap') w' ∧ GrOk bo' (n + m) cap' size cs' ∧ cs'.take ((n + m) * size) = cs.take (n * size) ++ news ∧
      Own C w' ((bo', e, cs') :: β.eraseIdx k) ∧ ∀ f ∈ Γ, f.holds w' (ok C w' ((bo', e, cs') :: β.eraseIdx k)) := by
  obtain ⟨hu, i, hi, hsz⟩ := slTy_some hT
  obtain ⟨i', z, hi', hz', hzc⟩ := zeroOf_some hz
  obtain rfl : i = i' := Option.some.inj (hi.symm.trans hi')
  have hbi : P.bytesOf e = i.bytes := by simp [Program.bytesOf, hi]
  rw [hbi] at hby
  have hzs : z.cells.size = size := by rw [← Array.length_toList, cellsL_eq, hzc, hzl]
  have hsub : (β.eraseIdx k).Sublist β := List.eraseIdx_sublist _ _
  have fresh : ∀ (old : List Value) (C' : Nat), old = cs.take (n * size) → n + m ≤ C' → C' ≤ 9223372036854775807 →
      ∀ w', w' = w.drew.alloc (.cells (old ++ news ++ (Builtin.zeroCells z.cells (C' - (n + m))).toList).toArray e) →
      GrOk (some w.heap.size) (n + m) C' size (old ++ news ++ (Builtin.zeroCells z.cells (C' - (n + m))).toList) ∧ (old ++ news ++ (Builtin.zeroCells z.cells (C' - (n + m))).toList).take ((n + m) * size) = cs.take (n * size) ++ news ∧
      Own C w' ((some w.heap.size, e, old ++ news ++ (Builtin.zeroCells z.cells (C' - (n + m))).toList) :: β.eraseIdx k) ∧ ∀ f ∈ Γ, f.holds w' (ok C w' ((some w.heap.size, e, old ++ news ++ (Builtin.zeroCells z.cells (C' - (n + m))).toList) :: β.eraseIdx k)) := by
    intro old C' hold hC hCm w' hw'
    subst hw'
    have hlo : old.length = n * size := by rw [hold, List.length_take]; have := hg.len; omega
    have hlen : (old ++ news).length = (n + m) * size := by rw [List.length_append, hlo, hl, Nat.add_mul]
    refine ⟨.inr ⟨_, rfl, hC, hCm, ?_⟩, ?_, (hO.drew.sub hsub).push e _, facts_push (w := w.drew) (facts_sub (w := w.drew) hsub (facts_drew hG))⟩
    · rw [List.length_append, hlen, Array.length_toList, size_zeroCells, hzs, ← Nat.add_mul]
      congr 1; omega
    · rw [← hlen, List.take_left, hold]
  by_cases hm : m = 0
  · subst hm
    have hnews : news = [] := List.eq_nil_of_length_eq_zero (by simpa using hl)
    subst hnews
    refine ⟨bo, cap, cs, w, run_append_zero hu hi hg.le, hg, by simp, ?_, ?_⟩
    · have hO' := hO.sub hsub
      refine ⟨hO.ext, ?_, ?_, ?_, hO'.apart⟩
      · intro x hx b hb
        rcases List.mem_cons.1 hx with rfl | hx
        · exact hO.new _ (nth_mem hn) b hb
        · exact hO'.new x hx b hb
      · intro x hx b hb
        rcases List.mem_cons.1 hx with rfl | hx
        · exact hO.blk _ (nth_mem hn) b hb
        · exact hO'.blk x hx b hb
      · intro y hy b hb
        have hb' : bo = some b := hb
        subst hb'
        exact mem_erase hO.apart hn y hy
    · exact fun f hf => f.stable (fun k' hk' => ⟨⟨hk'.1, hk'.2.1, fun x hx => by
        rcases List.mem_cons.1 hx with rfl | hx
        · exact hk'.2.2 _ (nth_mem hn)
        · exact hk'.2.2 x (hsub.subset hx)⟩, rfl⟩) (hG f hf)
  · obtain ⟨a, rfl, hnews⟩ := hx.resolve_left hm
    rcases hg with ⟨rfl, rfl, rfl, rfl⟩ | ⟨b, rfl, hnc, hcm, hcs⟩
    · have hr := run_append_nil (P := P) w t ty' e i z hu hi hz' a m cx news (by rw [hsz]; exact hl) hnews (by omega) (by omega) (by simp only [Nat.zero_add] at hby; omega)
      have hge := grownCap_ge w m 0 e
      have hle := grownCap_le_maxLen w m 0 e (by simp only [maxLen]; omega)
      obtain ⟨f1, f2, f3, f4⟩ := fresh [] (grownCap w m 0 e) (by simp) (by omega) (by simpa [maxLen] using hle) _ rfl
      simp only [Nat.zero_add, List.nil_append] at *
      have e1 : (news ++ (Builtin.zeroCells z.cells (grownCap w m 0 e - m)).toList).toArray = news.toArray ++ Builtin.zeroCells z.cells (grownCap w m 0 e - m) := by
        apply Array.ext'; simp
      refine ⟨_, _, _, _, ?_, f1, f2, f3, f4⟩
      rw [e1]
      exact hr
    · have hblk := hO.blk _ (nth_mem hn) b rfl
      by_cases hroom : n + m ≤ cap
      · have hfit : n * i.size + news.length ≤ cs.toArray.size := by rw [hsz, hl, ← Nat.add_mul, List.size_toArray, hcs]; exact Nat.mul_le_mul_right _ hroom
        have hr := run_append_room (P := P) w t ty' e i hu hi b n cap cs.toArray hblk a m cx news (by rw [hsz]; exact hl) hnews h1 hroom hfit
        rw [hsz] at hr hfit
        have hcs' : (cs.take (n * size) ++ news ++ cs.drop (n * size + news.length)).length = cap * size := by
          simp only [List.length_append, List.length_take, List.length_drop]
          simp at hfit
          omega
        have hrow : (w.setRow b (cs.take (n * size) ++ news ++ cs.drop (n * size + news.length)).toArray).heap[b]? = some (.cells (cs.take (n * size) ++ news ++ cs.drop (n * size + news.length)).toArray e (0, 0)) := setRow_heap w b _ _ e _ hblk
        have hoth : ∀ k', k' ≠ b → (w.setRow b (cs.take (n * size) ++ news ++ cs.drop (n * size + news.length)).toArray).heap[k']? = w.heap[k']? := fun k' hk' => setRow_other w b k' _ (fun e => hk' e)
        have hsize : (w.setRow b (cs.take (n * size) ++ news ++ cs.drop (n * size + news.length)).toArray).heap.size = w.heap.size := by simp [World.setRow]
        have hO' := hO.sub hsub
        have hset := hO.set (cs := cs.take (n * size) ++ news ++ cs.drop (n * size + news.length)) (w' := w.setRow b (cs.take (n * size) ++ news ++ cs.drop (n * size + news.length)).toArray) hn rfl rfl rfl hsize hrow hoth
        have hlen : (cs.take (n * size) ++ news).length = (n + m) * size := by
          rw [List.length_append, List.length_take, hl, Nat.add_mul]
          have : n * size ≤ cs.length := by rw [hcs]; exact Nat.mul_le_mul_right _ hnc
          omega
        refine ⟨some b, cap, cs.take (n * size) ++ news ++ cs.drop (n * size + news.length), _, hr, .inr ⟨b, rfl, hroom, hcm, hcs'⟩, by rw [← hlen, List.take_left], ?_, ?_⟩
        · refine ⟨hset.ext, ?_, ?_, ?_, hO'.apart⟩
          · intro x hx bb hb
            rcases List.mem_cons.1 hx with rfl | hx
            · exact hO.new _ (nth_mem hn) bb hb
            · exact hO'.new x hx bb hb
          · intro x hx bb hb
            rcases List.mem_cons.1 hx with rfl | hx
            · obtain rfl := Option.some.inj hb
              exact hrow
            · rw [hoth bb (fun e => mem_erase hO.apart hn x hx (e ▸ hb))]
              exact hO'.blk x hx bb hb
          · intro y hy bb hb
            obtain rfl := Option.some.inj hb
            exact mem_erase hO.apart hn y hy
        · exact fun f hf => f.stable (fun k' hk' => by
            have hne : k' ≠ b := fun e => hk'.2.2 _ (nth_mem hn) (by rw [e])
            refine ⟨⟨hk'.1, by rw [hsize]; exact hk'.2.1, fun x hx => ?_⟩, hoth k' hne⟩
            rcases List.mem_cons.1 hx with rfl | hx
            · intro e; exact hne (Option.some.inj e).symm
            · exact hk'.2.2 x (hsub.subset hx)) (hG f hf)
      · have holds : ∀ j u, (cs.take (n * size))[j]? = some u → w.cell? ((⟨b, 0, none⟩ : Addr).add j) = some u := by
          intro j u hu'
          rw [Addr.add_mid, Nat.zero_add]
          rw [List.getElem?_take] at hu'
          split at hu'
          · simp [World.cell?, hblk, hu']
          · cases hu'
        have hlt : (cs.take (n * size)).length = n * size := by
          rw [List.length_take, hcs]
          have := Nat.mul_le_mul_right size hnc
          omega
        have hr := run_append_grow (P := P) w t ty' e i z hu hi hz' ⟨b, 0, none⟩ n cap (cs.take (n * size)) (by rw [hlt, hsz]) holds a m cx news (by rw [hsz]; exact hl) hnews (by omega) (by omega) (growslice_fits (by omega) hby)
        have hge := grownCap_ge w (n + m) cap e
        have hle := grownCap_le_maxLen w (n + m) cap e (by simp only [maxLen]; omega)
        obtain ⟨f1, f2, f3, f4⟩ := fresh (cs.take (n * size)) (grownCap w (n + m) cap e) rfl (by omega) (by simpa [maxLen] using hle) _ rfl
        refine ⟨_, _, _, _, ?_, f1, f2, f3, f4⟩
        have e1 : (cs.take (n * size) ++ news ++ (Builtin.zeroCells z.cells (grownCap w (n + m) cap e - (n + m))).toList).toArray = (cs.take (n * size)).toArray ++ news.toArray ++ Builtin.zeroCells z.cells (grownCap w (n + m) cap e - (n + m)) := by
          apply Array.ext'; simp
        rw [e1]
        exact hr


theorem Ex_append {w w' : World} {t : TypeId} {x y : Operand} {vx vy v : Value} (hx : ev σ x = some vx) (hy : ev σ y = some vy) (hr : (Builtin.append_ #[t, t] ty #[vx, vy]).run P w = .ok v w') {post : Value → World → Prop} (h : post v w') :
    Ex P (.call { callee := .builtin .append, args := #[x, y], argTypes := #[t, t] }) ty σ w post := fun ρ hρ => by
  simp only [execOp, bare, resolve, invoke, builtin, Sem.run_bind, Sem.run_pure, Result.andThen_ok, List.map_toArray, List.map_cons, List.map_nil, hρ _ _ hx, hρ _ _ hy, hr]
  exact h

/-- append of an own slice (a literal, most often) to an own slice. -/
theorem x_app {t e : TypeId} {size : Nat} {x y : Operand} {bo : Option Nat} {n cap m c b2 : Nat} {cs cs2 zs news : List Value} {e2 : TypeId} (k j : Nat)
    (hn : nth β k = some (bo, e, cs)) (hj : nth β j = some (some b2, e2, cs2)) (hx : ev σ x = some (.slice (ad bo) n cap)) (hy : ev σ y = some (.slice (some ⟨b2, 0, none⟩) m c))
    (hT : slTy P t = some (e, size)) (hz : zeroOf P e = some zs) (hzl : zs.length = size) (hg : GrOk bo n cap size cs) (hnews : cs2.take (m * size) = news) (hl : news.length = m * size) (h1 : ∀ u ∈ news, u.oneCell' = true)
    (hmax : n + m ≤ 9223372036854775807) (by' : Nat) (hbe : P.bytesOf e = by') (hby : (n + m) * by' ≤ 140737488355328)
    (h : ∀ bo' cap' cs', GrOk bo' (n + m) cap' size cs' → cs'.take ((n + m) * size) = cs.take (n * size) ++ news → K (.slice (ad bo') (n + m) cap') ((bo', e, cs') :: β.eraseIdx k) Γ) :
    Jop P C (.call { callee := .builtin .append, args := #[x, y], argTypes := #[t, t] }) ty σ β Γ K := fun w hO hG => by
  subst hbe
  obtain ⟨bo', cap', cs', w', hr, h2, h3, h4, h5⟩ := append_any (P := P) (ty' := ty) (cx := c) (px := some ⟨b2, 0, none⟩) hT hz hzl hO hG hn hg hl (.inr ⟨_, rfl, fun jj u hu => by
    rw [Addr.add_mid, Nat.zero_add]
    refine own_cell hO hj ?_
    rw [← hnews, List.getElem?_take] at hu
    split at hu
    · exact hu
    · cases hu⟩) h1 hmax hby
  exact Ex_append hx hy hr ⟨_, Γ, h _ _ _ h2 h3, h4, h5⟩

/-- The cells of a row, element by element, read as a list. -/
def AllRd {α : Type} (E : Enc α) (vss : List (List Value)) (l : List α) (w : World) (A : Nat → Prop) : Prop :=
  vss.length = l.length ∧ ∀ (i : Nat) (vs : List Value) (x : α), vss[i]? = some vs → l[i]? = some x → E.rd w A vs x

def allF {α : Type} (E : Enc α) (vss : List (List Value)) (l : List α) : Fact where
  holds := fun w A => AllRd E vss l w A
  stable := fun h hh => ⟨hh.1, fun i vs x hv hx => E.stable h (hh.2 i vs x hv hx)⟩

theorem allF_len {α : Type} {E : Enc α} {vss : List (List Value)} {l : List α} {w : World} {A : Nat → Prop} (h : AllRd E vss l w A) : ∀ vs ∈ vss, vs.length = E.size := by
  intro vs hv
  obtain ⟨i, hi⟩ := List.getElem?_of_mem hv
  have hlt : i < vss.length := (List.getElem?_eq_some_iff.1 hi).1
  obtain ⟨x, hx⟩ : ∃ x, l[i]? = some x := ⟨l[i]'(h.1 ▸ hlt), by simp⟩
  exact E.len (h.2 i vs x hi hx)

theorem allF_one {α : Type} {E : Enc α} {vss : List (List Value)} {l : List α} {w : World} {A : Nat → Prop} (h : AllRd E vss l w A) : ∀ v ∈ vss.flatten, v.oneCell' = true := by
  intro v hv
  obtain ⟨vs, hvs, hv⟩ := List.mem_flatten.1 hv
  obtain ⟨i, hi⟩ := List.getElem?_of_mem hvs
  have hlt : i < vss.length := (List.getElem?_eq_some_iff.1 hi).1
  obtain ⟨x, hx⟩ : ∃ x, l[i]? = some x := ⟨l[i]'(h.1 ▸ hlt), by simp⟩
  exact E.one (h.2 i vs x hi hx) v hv

theorem flatten_len {vss : List (List Value)} {m : Nat} (h : ∀ vs ∈ vss, vs.length = m) : vss.flatten.length = vss.length * m := by
  induction vss with
  | nil => simp
  | cons x l ih =>
    rw [List.flatten_cons, List.length_append, h x (.head _), ih fun y hy => h y (.tail _ hy), List.length_cons, Nat.succ_mul, Nat.add_comm]

theorem flatten_part {vss : List (List Value)} {m : Nat} (h : ∀ vs ∈ vss, vs.length = m) : ∀ (i : Nat) (vs : List Value), vss[i]? = some vs → (vss.flatten.drop (i * m)).take m = vs := by
  induction vss with
  | nil => intro i vs hi; simp at hi
  | cons x l ih =>
    intro i vs hi
    have hx := h x (.head _)
    cases i with
    | zero =>
      simp only [List.getElem?_cons_zero, Option.some.injEq] at hi
      subst hi
      rw [List.flatten_cons, Nat.zero_mul, List.drop_zero, ← hx, List.take_left]
    | succ i =>
      simp only [List.getElem?_cons_succ] at hi
      rw [List.flatten_cons, Nat.succ_mul, Nat.add_comm, ← List.drop_drop, ← hx, List.drop_left, hx]
      exact ih (fun y hy => h y (.tail _ hy)) i vs hi

/-- The elements of what is read, cell by cell. -/
theorem SlRd.all {α : Type} {E : Enc α} {w : World} {A : Nat → Prop} {b o : Nat} {l : List α} (h : ∀ i x, l[i]? = some x → ∃ vs, cellsAt w b (o + i * E.size) E.size vs ∧ E.rd w A vs x) :
    ∃ vss, AllRd E vss l w A ∧ w.rangeAt b o vss.flatten := by
  induction l generalizing o with
  | nil => exact ⟨[], ⟨rfl, fun i vs x hv => by simp at hv⟩, fun j v hv => by simp at hv⟩
  | cons x l ih =>
    obtain ⟨vs, h1, h2⟩ := h 0 x rfl
    obtain ⟨vss, h3, h4⟩ := ih (o := o + E.size) (fun i y hy => by
      have := h (i + 1) y (by simpa using hy)
      rwa [show o + (i + 1) * E.size = o + E.size + i * E.size by rw [Nat.succ_mul]; omega] at this)
    refine ⟨vs :: vss, ⟨by simp [h3.1], fun i us y hu hy => ?_⟩, fun j v hv => ?_⟩
    · cases i with
      | zero => simp at hu hy; subst hu; subst hy; exact h2
      | succ i => exact h3.2 i us y (by simpa using hu) (by simpa using hy)
    · have hlen := E.len h2
      rw [Nat.zero_mul, Nat.add_zero] at h1
      rw [List.flatten_cons, List.getElem?_append] at hv
      split at hv
      · exact h1.rangeAt j v hv
      · have := h4 (j - vs.length) v hv
        rwa [show o + E.size + (j - vs.length) = o + j by omega] at this

/-- append of a slice that is read to an own slice. -/
theorem x_app_sl {α : Type} {E : Enc α} {t e : TypeId} {x y : Operand} {bo : Option Nat} {n cap m c : Nat} {pa : Option Addr} {cs zs : List Value} {l : List α} (k j : Nat)
    (hn : nth β k = some (bo, e, cs)) (hj : nth Γ j = some (slF E pa m c l)) (hx : ev σ x = some (.slice (ad bo) n cap)) (hy : ev σ y = some (.slice pa m c))
    (hT : slTy P t = some (e, E.size)) (hz : zeroOf P e = some zs) (hzl : zs.length = E.size) (hg : GrOk bo n cap E.size cs)
    (hmax : n + m ≤ 9223372036854775807) (by' : Nat) (hbe : P.bytesOf e = by') (hby : (n + m) * by' ≤ 140737488355328)
    (h : ∀ bo' cap' cs' vss, GrOk bo' (n + m) cap' E.size cs' → cs'.take ((n + m) * E.size) = cs.take (n * E.size) ++ vss.flatten → K (.slice (ad bo') (n + m) cap') ((bo', e, cs') :: β.eraseIdx k) (allF E vss l :: Γ)) :
    Jop P C (.call { callee := .builtin .append, args := #[x, y], argTypes := #[t, t] }) ty σ β Γ K := fun w hO hG => by
  subst hbe
  obtain ⟨hml, _, _, hs⟩ := hG _ (fact_mem hj)
  obtain ⟨vss, hall, hcell⟩ : ∃ vss, AllRd E vss l w (ok C w β) ∧ (m = 0 ∨ ∃ a, pa = some a ∧ ∀ jj u, vss.flatten[jj]? = some u → w.cell? (a.add jj) = some u) := by
    rcases hs with rfl | ⟨b, o, rfl, _, hel⟩
    · exact ⟨[], ⟨rfl, fun i vs x hv => by simp at hv⟩, .inl (by simpa using hml)⟩
    · obtain ⟨vss, h1, h2⟩ := SlRd.all (A := ok C w β) hel
      exact ⟨vss, h1, .inr ⟨_, rfl, fun jj u hu => by rw [Addr.add_mid]; exact h2 jj u hu⟩⟩
  have hlen : vss.flatten.length = m * E.size := by rw [flatten_len (allF_len hall), hall.1, hml]
  have hG' : ∀ f ∈ allF E vss l :: Γ, f.holds w (ok C w β) := fun f hf => by
    rcases List.mem_cons.1 hf with rfl | hf
    · exact hall
    · exact hG f hf
  obtain ⟨bo', cap', cs', w', hr, h2, h3, h4, h5⟩ := append_any (P := P) (ty' := ty) (cx := c) (px := pa) hT hz hzl hO hG' hn hg hlen hcell (allF_one hall) hmax hby
  exact Ex_append hx hy hr ⟨_, _, h _ _ _ vss h2 h3, h4, h5⟩

/-! ### Own rows are given up: from here on they are read alone -/

theorem j_pub {α : Type} {E : Enc α} {e : TypeId} {bo : Option Nat} {n cap : Nat} {cs : List Value} {vss : List (List Value)} {l : List α} (k j : Nat)
    (hn : nth β k = some (bo, e, cs)) (hj : nth Γ j = some (allF E vss l)) (hg : GrOk bo n cap E.size cs) (hc : cs.take (n * E.size) = vss.flatten) (hl : n = l.length) (hby : n * E.bytes ≤ 140737488355328)
    (h : J F C S σ (β.eraseIdx k) (slF E (ad bo) n cap l :: Γ) R) : J F C S σ β Γ R := fun w hO hG => by
  have hsub : (β.eraseIdx k).Sublist β := List.eraseIdx_sublist _ _
  have hall : AllRd E vss l w (ok C w β) := hG _ (fact_mem hj)
  refine h w (hO.sub hsub) fun f hf => ?_
  rcases List.mem_cons.1 hf with rfl | hf
  · refine ⟨hl, ?_⟩
    have hs : SlRd E w (ok C w (β.eraseIdx k)) (ad bo) cap l := by
      subst hl
      rcases hg with ⟨rfl, hn0, rfl, rfl⟩ | ⟨b, rfl, hnc, hcm, hcs⟩
      · have : l = [] := List.eq_nil_of_length_eq_zero hn0
        subst this
        exact ⟨Nat.le_refl _, hby, .inl rfl⟩
      · refine ⟨hnc, hby, .inr ⟨b, 0, rfl, ?_, fun i x hi => ?_⟩⟩
        · have hlt := hO.lt (nth_mem hn) rfl
          have hnew := hO.new _ (nth_mem hn) b rfl
          refine ⟨?_, hlt, fun x hx e => mem_erase hO.apart hn x hx e⟩
          rcases hnew with h1 | h1
          · exact .inr (.inr h1)
          · exact .inr (.inl h1)
        · have hlt : i < l.length := (List.getElem?_eq_some_iff.1 hi).1
          obtain ⟨vs, hvs⟩ : ∃ vs, vss[i]? = some vs := ⟨vss[i]'(hall.1.symm ▸ hlt), by simp⟩
          have hpart := flatten_part (allF_len hall) i vs hvs
          have hrd := hall.2 i vs x hvs hi
          refine ⟨vs, ⟨cs.toArray, e, (0, 0), hO.blk _ (nth_mem hn) b rfl, ?_, E.len hrd⟩, E.stable (fun _ hk => ⟨⟨hk.1, hk.2.1, fun x hx => hk.2.2 x (hsub.subset hx)⟩, rfl⟩) hrd⟩
          rw [← hpart, ← hc, Nat.zero_add, List.drop_take, List.take_take]
          congr 1
          have h4 : (i + 1) * E.size ≤ l.length * E.size := Nat.mul_le_mul_right _ hlt
          rw [Nat.succ_mul] at h4
          omega
    exact hs
  · exact facts_sub hsub hG f hf

end
end Go.Fw
