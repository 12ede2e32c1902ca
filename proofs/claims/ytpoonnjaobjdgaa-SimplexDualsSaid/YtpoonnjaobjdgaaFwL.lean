/-
The frame's last text: from a contract of a law to the given statement: arguments are opened, and read the same afterwards.
-/
import Derived.Test.YtpoonnjaobjdgaaFw5
import Derived.SizedLaws
import Derived.OpenShut
import Derived.ChangeOld
import Derived.Carry
import Derived.ChangeArms
import Derived.Deep.Slices
namespace Go.Fw
open Go.ChangeShapes Go.WideShapes Go.RowKit

/-- What is read at a type, is read so. -/
def Opens {α : Type} (P : Program) (t : TypeId) (E : Enc α) : Prop :=
  P.cellsOf t = E.size ∧ P.bytesOf t = E.bytes ∧ ∀ {H : Type} (enc : TypeId × Value → H) (W : World) (fuel : Nat) (cs : List Value) (d : DataW H) (ps : List MemPlace),
    DataW.trod enc P W 0 (fun _ => true) true fuel t cs = some (d, ps) → (∀ n ∈ d.weights P t, n ≤ reachBytes) → ∃ x : α, E.rd W (fun k => k < W.heap.size) cs x

theorem inR_of_wf {k : IntKind} {n : Int} (h : (Lit.int k n).wf = true) : InR k n := by
  cases k <;> simp [Lit.wf, IntKind.min, IntKind.max, IntKind.bits, IntKind.signed] at h <;> simp only [InR] <;> omega

section
variable {P : Program} {t : TypeId}

theorem opens_int {k : IntKind} {by' : Nat} (ht : P.underlying t = some (.int k)) (hc : P.cellsOf t = 1) (hb : P.bytesOf t = by') : Opens P t (encInt k by') :=
  ⟨hc, hb, fun enc W fuel cs d ps h _ => by
    obtain ⟨n, rfl, _, hw⟩ := DataW.trod_int ht h
    exact ⟨n, rfl, inR_of_wf hw⟩⟩

theorem opens_nat {k : IntKind} {by' : Nat} (ht : P.underlying t = some (.int k)) (hc : P.cellsOf t = 1) (hb : P.bytesOf t = by') (hk : ∀ n, InR k n → 0 ≤ n) : Opens P t (encNat k by') :=
  ⟨hc, hb, fun enc W fuel cs d ps h _ => by
    obtain ⟨n, rfl, _, hw⟩ := DataW.trod_int ht h
    have h1 := inR_of_wf hw
    have h0 := hk n h1
    refine ⟨n.toNat, ?_, ?_⟩
    · rw [Int.toNat_of_nonneg h0]
    · rwa [Int.toNat_of_nonneg h0]⟩

theorem opens_bool (ht : P.underlying t = some .bool) (hc : P.cellsOf t = 1) (hb : P.bytesOf t = 1) : Opens P t encBool :=
  ⟨hc, hb, fun enc W fuel cs d ps h _ => by
    obtain ⟨b, rfl, _⟩ := DataW.trod_bool ht h
    exact ⟨b, rfl⟩⟩

theorem cellsAt_of_cells? {W : World} {a : Addr} {n : Nat} {cs : List Value} (h : W.cells? 0 a n = some cs) (hn : 0 < n) : a.spot = none ∧ a.block < W.heap.size ∧ cellsAt W a.block a.off n cs := by
  obtain ⟨_, hl, hc⟩ := World.cells?_some h
  have h0 := hc 0 hn
  rw [List.getElem?_eq_getElem (by omega)] at h0
  have e0 : a.add 0 = a := rfl
  rw [e0] at h0
  unfold World.cell? at h0
  split at h0
  · rename_i c T fr hb
    split at h0
    · cases h0
    · rename_i hs
      have hs' : a.spot = none := by cases ha : a.spot with
        | none => rfl
        | some _ => rw [ha] at hs; simp at hs
      refine ⟨hs', ?_, c, T, fr, hb, ?_, hl⟩
      · rcases Nat.lt_or_ge a.block W.heap.size with h | h
        · exact h
        · rw [Array.getElem?_eq_none h] at hb; cases hb
      · apply List.ext_getElem?
        intro i
        by_cases hi : i < n
        · have := hc i hi
          unfold World.cell? Addr.add at this
          rw [List.getElem?_take, if_pos hi, List.getElem?_drop, ← this]
          by_cases h0 : i = 0
          · subst h0; simp [hb, hs']
          · simp [h0, hb]
        · rw [List.getElem?_take, if_neg hi, List.getElem?_eq_none (by omega)]
  · cases h0

theorem list_of_all {α : Type} : ∀ (n : Nat) (p : Nat → α → Prop), (∀ i, i < n → ∃ x, p i x) → ∃ l : List α, l.length = n ∧ ∀ i x, l[i]? = some x → p i x := by
  intro n p h
  refine ⟨List.ofFn (fun i : Fin n => Classical.choose (h i.1 i.2)), by simp, fun i x hx => ?_⟩
  have hi : i < n := by
    have := (List.getElem?_eq_some_iff.1 hx).1
    simpa using this
  have e : x = Classical.choose (h i hi) := by
    rw [List.getElem?_eq_getElem (by simpa using hi), List.getElem_ofFn] at hx
    exact (Option.some.inj hx).symm
  rw [e]
  exact Classical.choose_spec (h i hi)

theorem weightsAll_of {H : Type} {e : TypeId} : ∀ {l : List (DataW H)} {d : DataW H}, d ∈ l → ∀ n ∈ d.weights P e, n ∈ DataW.weightsAll P e l
  | [], _, hd, _, _ => by cases hd
  | x :: l, d, hd, n, hn => by
    simp only [DataW.weightsAll, List.mem_append]
    rcases List.mem_cons.1 hd with rfl | hd
    · exact .inl hn
    · exact .inr (weightsAll_of hd n hn)

theorem opens_sl {α : Type} {E : Enc α} {e : TypeId} (ht : P.underlying t = some (.slice e)) (hE : Opens P e E) (hc : P.cellsOf t = 1) (hb : P.bytesOf t = 24) (hs : 0 < E.size) : Opens P t (encSl E) :=
  ⟨hc, hb, fun enc W fuel cs d ps h hw => by
    obtain ⟨he, hby, hE⟩ := hE
    rcases Deep.open_slice ht h with ⟨rfl, _⟩ | ⟨a, len, cap, m, n, D, Pl, rfl, _, hl, _, hm, hx, hel⟩
    · exact ⟨[], none, 0, rfl, Nat.zero_le _, by simp, .inl rfl⟩
    · simp only [Prod.mk.injEq] at hx
      obtain ⟨rfl, _⟩ := hx
      simp only [if_true] at hm
      subst hm
      have hsz : len * E.bytes ≤ 140737488355328 := by
        have h1 : ((List.range len).map D).length + ((List.range (m - len)).map fun j => D (len + j)).length = m := by simp; omega
        have h2 := hw (m * P.bytesOf e) (by rw [DataW.weights, ht]; show m * P.bytesOf e ∈ _ :: _; rw [h1]; exact List.mem_cons_self)
        rw [hby] at h2
        exact Nat.le_trans (Nat.mul_le_mul_right _ hl) (Nat.le_trans h2 (by decide))
      have each : ∀ i, i < len → ∃ x : α, (a.spot = none ∧ a.block < W.heap.size) ∧ ∃ vs, cellsAt W a.block (a.off + i * E.size) E.size vs ∧ E.rd W (fun k => k < W.heap.size) vs x := by
        intro i hi
        obtain ⟨cs', h1, h2⟩ := hel i (by omega)
        obtain ⟨x, hxr⟩ := hE enc W n cs' _ _ h2 (fun k hk => hw k (by
          rw [DataW.weights, ht]
          refine List.mem_cons_of_mem _ (List.mem_append_left _ (weightsAll_of (List.mem_map.2 ⟨i, List.mem_range.2 hi, rfl⟩) k hk))))
        rw [he] at h1
        obtain ⟨hsp, hlt, hca⟩ := cellsAt_of_cells? h1 hs
        have hadd : (a.add (i * E.size)).block = a.block ∧ (a.add (i * E.size)).off = a.off + i * E.size := by
          unfold Addr.add
          split
          · rename_i h; rw [h]; exact ⟨rfl, rfl⟩
          · exact ⟨rfl, rfl⟩
        rw [hadd.1] at hlt
        rw [hadd.1, hadd.2] at hca
        have hsp0 : a.spot = none := by
          obtain ⟨cs0, h10, _⟩ := hel 0 (by omega)
          rw [he, Nat.zero_mul] at h10
          exact (cellsAt_of_cells? h10 hs).1
        exact ⟨x, ⟨hsp0, hlt⟩, cs', hca, hxr⟩
      obtain ⟨l, hll, hlx⟩ := list_of_all len _ each
      refine ⟨l, some a, m, by rw [hll], by omega, by rw [hll]; exact hsz, ?_⟩
      cases l with
      | nil => exact .inl rfl
      | cons y l =>
        obtain ⟨⟨h1, h2⟩, _⟩ := hlx 0 y rfl
        refine .inr ⟨a.block, a.off, ?_, h2, fun i x hi => (hlx i x hi).2⟩
        cases a; simp_all⟩

/-- The fields of a struct from one place on. -/
def OpensAll {α : Type} (P : Program) (fs : List Field) (off : Nat) (E : Enc α) : Prop :=
  ∀ {H : Type} (enc : TypeId × Value → H) (W : World) (n : Nat) (cs : List Value) (xs : List (DataW H × List MemPlace)), xs.length = fs.length →
    (∀ (i : Nat) (f : Field), fs[i]? = some f → DataW.trod enc P W 0 (fun _ => true) true n f.type ((cs.drop f.offset).take (P.cellsOf f.type)) = xs[i]?) → cs.length = off + E.size →
    (∀ n ∈ DataW.weightsEach P (fs.map fun f : Field => f.type) (xs.map (·.1)), n ≤ reachBytes) → ∃ x : α, E.rd W (fun k => k < W.heap.size) (cs.drop off) x

theorem opensAll_one {α : Type} {E : Enc α} {f : Field} {off : Nat} (hf : f.offset = off) (hE : Opens P f.type E) : OpensAll P [f] off E := fun enc W n cs xs hl h hc hw => by
  match xs, hl with
  | [x], _ =>
    have h0 := h 0 f rfl
    obtain ⟨d, ps⟩ := x
    rw [hf, hE.1, List.take_of_length_le (by rw [List.length_drop]; omega)] at h0
    exact hE.2.2 enc W n _ d ps h0 (fun k hk => hw k (by simp [DataW.weightsEach, hk]))

theorem opensAll_cons {α β : Type} {E : Enc α} {F : Enc β} {f : Field} {fs : List Field} {off : Nat} (by' : Nat) (hf : f.offset = off) (hE : Opens P f.type E) (hF : OpensAll P fs (off + E.size) F) : OpensAll P (f :: fs) off (encPair E F by') := fun enc W n cs xs hl h hc hw => by
  match xs, hl with
  | x :: xs, hl =>
    have h0 := h 0 f rfl
    obtain ⟨d, ps⟩ := x
    rw [hf, hE.1] at h0
    have hc' : cs.length = off + (E.size + F.size) := hc
    obtain ⟨y, hy⟩ := hE.2.2 enc W n _ d ps h0 (fun k hk => hw k (by simp [DataW.weightsEach, hk]))
    obtain ⟨z, hz⟩ := hF enc W n cs xs (by simpa using hl) (fun i g hg => by simpa using h (i + 1) g (by simpa using hg)) (by omega) (fun k hk => hw k (by
      simp only [List.map_cons, DataW.weightsEach, List.mem_append]; exact .inr hk))
    refine ⟨(y, z), _, _, ?_, hy, hz⟩
    rw [← List.drop_drop, List.take_append_drop]

theorem opens_struct {α : Type} {E : Enc α} {fs : Array Field} (ht : P.underlying t = some (.struct fs)) (hE : OpensAll P fs.toList 0 E) (hc : P.cellsOf t = E.size) (hb : P.bytesOf t = E.bytes) : Opens P t E :=
  ⟨hc, hb, fun enc W fuel cs d ps h hw => by
    obtain ⟨xs, n, _, hx, hl, hlen, hf⟩ := DataW.trod_struct ht h
    simp only [Prod.mk.injEq] at hx
    obtain ⟨rfl, _⟩ := hx
    obtain ⟨x, hx⟩ := hE enc W n cs xs (by simpa using hlen) (fun i f hi => hf i f (by simpa using hi)) (by rw [hl, hc]; omega) (fun k hk => hw k (by rw [DataW.weights, ht]; exact hk))
    exact ⟨x, by simpa using hx⟩⟩

/-! ### Arguments -/

def Arg (P : Program) (W : World) (t : TypeId) (v : Value) : Prop :=
  (∃ b, Value.okWide P W .any b t v) ∧ ∃ (H : Type) (enc : TypeId × Value → H) (d : DataW H) (p : List MemPlace), DataW.Trod enc P W 0 (fun _ => true) true t v d p ∧ ∀ n ∈ d.weights P t, n ≤ reachBytes

def Args (P : Program) (W : World) : List TypeId → List Value → Prop
  | [], [] => True
  | t :: ts, v :: vs => Arg P W t v ∧ Args P W ts vs
  | _, _ => False

variable {W : World} {v : Value}

theorem Arg.slice {α : Type} {E : Enc α} {e : TypeId} (h : Arg P W t v) (ht : P.underlying t = some (.slice e)) (hE : Opens P t (encSl E)) : ∃ pa ca l, v = .slice pa l.length ca ∧ (slF E pa l.length ca l).holds W (fun k => k < W.heap.size) := by
  obtain ⟨⟨b, hv⟩, H, enc, d, p, ⟨fuel, hf⟩, hw⟩ := h
  obtain ⟨a, len, cap, rfl⟩ := okWide_slice ht hv
  obtain ⟨l, pa, ca, e1, hs⟩ := hE.2.2 enc W fuel _ d p hf hw
  have e2 : Value.slice a len cap = .slice pa l.length ca := by simpa [Value.cells] using e1
  exact ⟨pa, ca, l, e2, rfl, hs⟩

theorem Arg.int {k : IntKind} (h : Arg P W t v) (ht : P.underlying t = some (.int k)) : ∃ n, v = .int k n ∧ InR k n := by
  obtain ⟨⟨b, hv⟩, H, enc, d, p, hf, hw⟩ := h
  obtain ⟨n, e, _, _, hn⟩ := open_int ht hv hf
  exact ⟨n, e, inR_of_wf hn⟩

theorem Arg.bool (h : Arg P W t v) (ht : P.underlying t = some .bool) : ∃ b, v = .bool b := by
  obtain ⟨⟨b, hv⟩, H, enc, d, p, hf, hw⟩ := h
  obtain ⟨n, e, _⟩ := open_bool ht hv hf
  exact ⟨n, e⟩

theorem Arg.agg {α : Type} {E : Enc α} {fs : Array Field} (h : Arg P W t v) (ht : P.underlying t = some (.struct fs)) (hE : Opens P t E) : ∃ vs x, v = .agg vs.toArray ∧ (vF E vs x).holds W (fun k => k < W.heap.size) := by
  obtain ⟨⟨b, hv⟩, H, enc, d, p, ⟨fuel, hf⟩, hw⟩ := h
  obtain ⟨cs, rfl, _⟩ := okWide_struct ht hv
  obtain ⟨x, hx⟩ := hE.2.2 enc W fuel _ d p hf hw
  have hx' : E.rd W (fun k => k < W.heap.size) cs.toList x := hx
  exact ⟨cs.toList, x, by simp, hx'⟩

end

theorem trodAll_below {H : Type} {enc : TypeId × Value → H} {P : Program} (hl : laidOutB P = true) {W W' : World} (hb : Below W.heap.size W W') : ∀ {ts : List TypeId} {vs : List Value} {ds : List (DataW H)} {ps : List MemPlace},
    (ts.all fun t => P.readableRec t && decide (t < P.types.size)) = true → DataW.TrodAll enc P W 0 (fun _ => true) true ts vs ds ps → DataW.TrodAll enc P W' 0 (fun b => decide (b < W.heap.size)) true ts vs ds ps
  | [], [], [], _, _, h => h
  | t :: ts, v :: vs, d :: ds, ps, ha, ⟨p, q, h1, h2, e⟩ => by
    simp only [List.all_cons, Bool.and_eq_true, decide_eq_true_eq] at ha
    refine ⟨p, q, Below.trod hl ha.1.1 ha.1.2 h1 hb ?_, trodAll_below hl hb (by simpa using ha.2) h2, e⟩
    obtain ⟨m, hm⟩ := h1
    exact DataW.trod_lt m _ _ _ hm
  | [], _ :: _, _, _, _, h => h.elim
  | [], [], _ :: _, _, _, h => h.elim
  | _ :: _, [], _, _, _, h => h.elim
  | _ :: _, _ :: _, [], _, _, h => h.elim

theorem args_of {H : Type} {enc : TypeId × Value → H} {P : Program} {W : World} {base : Nat} : ∀ (ts : List TypeId) (vs : List Value) (ds : List (DataW H)) (ps : List MemPlace),
    (∀ (j : Nat) t v, ts[j]? = some t → vs[j]? = some v → Value.okWide P W .any base t v) → DataW.TrodAll enc P W 0 (fun _ => true) true ts vs ds ps → (∀ n ∈ DataW.weightsEach P ts ds, n ≤ reachBytes) → Args P W ts vs
  | [], [], [], _, _, _, _ => trivial
  | t :: ts, v :: vs, d :: ds, ps, hv, ⟨p, q, h1, h2, e⟩, hw => by
    refine ⟨⟨⟨base, hv 0 t v rfl rfl⟩, H, enc, d, p, h1, fun n hn => hw n (by simp only [DataW.weightsEach, List.mem_append]; exact .inl hn)⟩, args_of ts vs ds q (fun j t v ht hv' => hv (j + 1) t v (by simpa using ht) (by simpa using hv')) h2 (fun n hn => hw n (by simp only [DataW.weightsEach, List.mem_append]; exact .inr hn))⟩
  | [], _ :: _, _, _, _, h, _ => h.elim
  | [], [], _ :: _, _, _, h, _ => h.elim
  | _ :: _, [], _, _, _, h, _ => h.elim
  | _ :: _, _ :: _, [], _, _, h, _ => h.elim

/-- What a law's call comes to. -/
def LawSays (P : Program) (f : FuncId) (fn : Func) : Prop :=
  ∀ (W : World) (args : List Value), Args P W fn.params.toList args → Calls P f args.toArray W (Ret fun v W' => v = .bool true ∧ Below W.heap.size W W')

theorem law_of_gives {P : Program} {f : FuncId} {args : List Value} {Γ : List Fact} {W : World} {Q : Value → List Fact → List Blk → Prop} (h : Ctr P f args [] Γ Q) (hq : ∀ v Φ β, Q v Φ β → v = .bool true) (hG : ∀ g ∈ Γ, g.holds W (fun k => k < W.heap.size)) :
    Calls P f args.toArray W (Ret fun v W' => v = .bool true ∧ Below W.heap.size W W') := by
  refine (h.2 W (fun k => k < W.heap.size) (fun k hk => hk) (fun x hx => by cases hx) trivial (fun g hg => g.stable (fun k hk => ⟨⟨hk, fun ⟨x, hx, _⟩ => by cases hx⟩, rfl⟩) (hG g hg))).mono ?_
  intro e w' he
  cases e <;> try exact he.elim
  obtain ⟨Φ, β, hQ, hO, _⟩ := he
  exact ⟨hq _ _ _ hQ, hO.ext.os, hO.ext.tape, hO.ext.output, hO.ext.size, fun k hk => hO.ext.block k hk (fun ⟨x, hx, _⟩ => by cases hx)⟩

/-- The law's row, from what its call comes to. -/
theorem law_lift {H : Type} {enc : TypeId × Value → H} {C : Checked} {f : FuncId} {fn : Func} {s : ChangeSpec} {tb : TypeId} {os : Os} {conds : List PathCond}
    (own : ownKnob C.prog.godebug = none) (started : os.Started) (noInit : C.prog.inits.idxOf? f = none) (hfn : C.prog.funcs[f]? = some fn)
    (witness : ∃ (w : World) (tape : Tape) (i : Input), w.os = os ∧ (w.forCall tape i).Shaped C.prog ∧ i.vars = [] ∧ Input.okWide C.prog (w.forCall tape i) .any w.heap.size f i ∧
      s.pre6 enc C.prog fn conds false (w.forCall tape i).memory i.args ∧ (Assume.holds {} C.prog (lone (Frame.enter C.prog f i.args .normal) [] (w.forCall tape i))))
    (laid : laidOutB C.prog = true) (hvars : s.vars = []) (hts : (fn.params.toList.all fun t => C.prog.readableRec t && decide (t < C.prog.types.size)) = true)
    (hres : fn.resultTypes = #[tb]) (htb : C.prog.underlying tb = some .bool)
    (hspec : ∀ ds : List (DataW H), ds.length = fn.params.toList.length → s.fn H ds = { results := [.lit (.bool true)], args := ds })
    (walk : LawSays C.prog f fn) :
    ReturnsInHanded {} C os f .any (s.pre6 enc C.prog fn conds false) (s.post enc C.prog fn false true false false) := by
  refine returnsInHanded_of_change_sized own started noInit hfn witness ?_
  intro W base args ds gs before hval hW _ hsz _
  have hW' := hW
  obtain ⟨p, q, hA, hV, rfl, _, _⟩ := hW
  rw [hvars] at hV
  obtain ⟨rfl, rfl⟩ := trodVars_none hV
  have hlen : ∀ {ts : List TypeId} {vs : List Value} {ds : List (DataW H)} {ps : List MemPlace}, DataW.TrodAll enc C.prog W 0 (fun _ => true) true ts vs ds ps → ds.length = ts.length := by
    intro ts
    induction ts with
    | nil => intro vs ds ps h; cases vs <;> cases ds <;> first | rfl | exact h.elim
    | cons t ts ih =>
      intro vs ds ps h
      cases vs <;> cases ds <;> try exact h.elim
      obtain ⟨p, q, _, h2, _⟩ := h
      simp [ih h2]
  have hw : ∀ n ∈ DataW.weightsEach C.prog fn.params.toList ds, n ≤ reachBytes := fun n hn => by
    have e : s.plain.varTypes C.prog = [] := by
      unfold DataSpec.varTypes ChangeSpec.plain
      rw [hvars]; rfl
    rw [e, List.append_nil, List.append_nil] at hsz
    simpa using List.all_eq_true.1 hsz n hn
  have := walk W args.toList (args_of fn.params.toList args.toList ds p (fun j t v ht hv => hval j t v (by simpa using ht) (by simpa using hv)) hA hw)
  rw [Array.toArray_toList] at this
  refine this.mono fun e W' he => ?_
  cases e <;> try exact he.elim
  obtain ⟨rfl, hb⟩ := he
  refine ⟨_, rfl, ds, [], p ++ [], [], p, [], hW', ?_, ?_, ?_, hb.frame _, fun h => by cases h⟩
  · rw [List.append_nil, hspec ds (hlen hA), hres]
    exact trodAll_mk1 (shut_bool htb _)
  · rw [List.append_nil, hspec ds (hlen hA)]
    exact trodAll_below laid hb hts hA
  · rw [List.append_nil, hspec ds (hlen hA), hvars]
    rfl

end Go.Fw
