/-
The eleventh text of the frame: short words for regions that draw their order, and for rows that are given up.
-/
import Derived.Test.YtpoonnjaobjdgaaFw10
namespace Go.Fw
open Go.RowKit (Below)

def auton (it : List (TypeId × IntKind)) (nt : Nat) (L : List Oper) : Nat → Nat → List Po → Fr → Fr → Prop → Option (List Po × Fr × Fr × Prop)
  | 0, _, pos, κ, σ, q => some (pos, κ, σ, q)
  | n + 1, i, .auto :: pos, κ, σ, q => match nth L i with
    | some o => match outOk o.dst nt, gd L κ o with
      | true, some false => auton it nt L n (i + 1) pos (putF o.dst undef κ) (putF o.dst undef σ) q
      | true, some true => match pev it κ o.op with
        | some (v, q') => auton it nt L n (i + 1) pos (putF o.dst v κ) (putF o.dst v σ) (q' ∧ q)
        | none => none
      | _, _ => none
    | none => none
  | _ + 1, _, _, _, _, _ => none

/-- A function that gives this value back, and of memory says this. -/
abbrev Rv (v0 : Value) (Φ0 : List Fact) : Value → List Fact → List Blk → Prop := fun v Φ β => v = v0 ∧ Φ = Φ0 ∧ β = []

/-- A function that gives a slice back that reads so. -/
abbrev Sv {α : Type} (E : Enc α) (l : List α) : Value → List Fact → List Blk → Prop := fun v Φ β => ∃ pa ca, v = .slice pa l.length ca ∧ Φ = [slF E pa l.length ca l] ∧ β = []

/-- An operation of the region that is carried out. -/
def opL (nt : Nat) (L : List Oper) (κ : Fr) (i : Nat) : Option (Option Tmp × Op × TypeId) :=
  match nth L i with
  | some o => match outOk o.dst nt, gd L κ o with
    | true, some true => some (o.dst, o.op, o.type)
    | _, _ => none
  | none => none

section
variable {P : Program} {F : Fun P} {C : Cx} {S : List It} {R : Value → World → Prop} {β : List Blk} {Γ : List Fact} {it : List (TypeId × IntKind)} {L : List Oper} {pos : List Po} {pt : List (List Nat)} {p : List Nat} {σ κ : Fr} {fs : List (Nat × Fact)} {al : List Blk} {i : Nat} {op : Op} {ty : TypeId} {d : Option Tmp}

theorem auton_owes : ∀ (n i : Nat) (pos : List Po) (κ σ : Fr) (q : Prop) (r : List Po × Fr × Fr × Prop), auton it F.fn.ntmps L n i pos κ σ q = some r → r.2.2.2 → q := by
  intro n
  induction n with
  | zero => intro i pos κ σ q r h hr; simp only [auton, Option.some.injEq] at h; subst h; exact hr
  | succ n ih =>
    intro i pos κ σ q r h hr
    cases pos with
    | nil => simp [auton] at h
    | cons po pos =>
      cases po with
      | eq v => simp [auton] at h
      | fa val f => simp [auton] at h
      | al T cs => simp [auton] at h
      | auto =>
        simp only [auton] at h
        repeat' split at h
        all_goals first | exact (ih _ _ _ _ _ _ h hr).2 | exact ih _ _ _ _ _ _ h hr | simp at h

theorem lx_run_n : ∀ (n i : Nat) (pos : List Po) (κ σ : Fr) (q : Prop) (r : List Po × Fr × Fr × Prop), auton it F.fn.ntmps L n i pos κ σ q = some r → r.2.2.2 → Lx it F C p S L pt β Γ R (i + n) r.1 r.2.1 r.2.2.1 fs al → Lx it F C p S L pt β Γ R i pos κ σ fs al := by
  intro n
  induction n with
  | zero => intro i pos κ σ q r h hr hL; simp only [auton, Option.some.injEq] at h; subst h; exact hL
  | succ n ih =>
    intro i pos κ σ q r h hr hL
    have hL' : Lx it F C p S L pt β Γ R (i + 1 + n) r.1 r.2.1 r.2.2.1 fs al := by rw [Nat.add_assoc, Nat.add_comm 1 n]; exact hL
    cases pos with
    | nil => simp [auton] at h
    | cons po pos =>
      cases po with
      | eq v => simp [auton] at h
      | fa val f => simp [auton] at h
      | al T cs => simp [auton] at h
      | auto =>
        simp only [auton] at h
        cases ho : nth L i with
        | none => rw [ho] at h; simp at h
        | some o =>
          rw [ho] at h
          simp only at h
          cases hout : outOk o.dst F.fn.ntmps with
          | false => rw [hout] at h; simp at h
          | true =>
            rw [hout] at h
            cases hg : gd L κ o with
            | none => rw [hg] at h; simp at h
            | some b =>
              rw [hg] at h
              cases b with
              | false =>
                simp only [Lx, ho, hout, hg]
                exact ih _ _ _ _ _ _ h hr hL'
              | true =>
                simp only at h
                cases hp : pev it κ o.op with
                | none => rw [hp] at h; simp at h
                | some vq =>
                  obtain ⟨v, q'⟩ := vq
                  rw [hp] at h
                  simp only [Lx, ho, hout, hg, hp]
                  exact ⟨(auton_owes _ _ _ _ _ _ _ h hr).1, ih _ _ _ _ _ _ h hr hL'⟩

/-- n operations whose values are reckoned. -/
theorem lx_run (n : Nat) {pos' : List Po} {κ' σ' : Fr} {q : Prop} (h : auton it F.fn.ntmps L n i pos κ σ True = some (pos', κ', σ', q)) (hq : q) (hL : Lx it F C p S L pt β Γ R (i + n) pos' κ' σ' fs al) : Lx it F C p S L pt β Γ R i pos κ σ fs al :=
  lx_run_n n i pos κ σ True _ h hq hL

theorem lx_fa {val : Gh → Value} {f : Gh → List Fact} (ho : opL F.fn.ntmps L κ i = some (d, op, ty)) (hJ : JD P op ty σ β (sel (preAt pt i) fs ++ Γ) val f) (h : ∀ x, Lx it F C p S L pt β Γ R (i + 1) pos (delF d κ) (putF d (val x) σ) ((f x).map (fun g => (i, g)) ++ fs) al) :
    Lx it F C p S L pt β Γ R i (.fa val f :: pos) κ σ fs al := by
  unfold opL at ho
  split at ho
  · rename_i o hn
    split at ho
    · rename_i h1 h2
      obtain ⟨rfl, rfl, rfl⟩ := by simpa using ho
      simp only [Lx, hn, h1, h2]
      exact ⟨hJ, h⟩
    · simp at ho
  · simp at ho

theorem lx_al {T : TypeId} {cs : List Value} (ho : opL F.fn.ntmps L κ i = some (d, op, ty)) (hJ : JA P op ty σ T cs) (h : ∀ b, Lx it F C p S L pt β Γ R (i + 1) pos (delF d κ) (putF d (.pointer (some ⟨b, 0, none⟩)) σ) fs ((some b, T, cs) :: al)) :
    Lx it F C p S L pt β Γ R i (.al T cs :: pos) κ σ fs al := by
  unfold opL at ho
  split at ho
  · rename_i o hn
    split at ho
    · rename_i h1 h2
      obtain ⟨rfl, rfl, rfl⟩ := by simpa using ho
      simp only [Lx, hn, h1, h2]
      exact ⟨hJ, h⟩
    · simp at ho
  · simp at ho

theorem lx_eq {v : Value} (ho : opL F.fn.ntmps L κ i = some (d, op, ty)) (hJ : JD P op ty σ β (sel (preAt pt i) fs ++ Γ) (fun _ => v) (fun _ => [])) (h : Lx it F C p S L pt β Γ R (i + 1) pos (putF d v κ) (putF d v σ) fs al) :
    Lx it F C p S L pt β Γ R i (.eq v :: pos) κ σ fs al := by
  unfold opL at ho
  split at ho
  · rename_i o hn
    split at ho
    · rename_i h1 h2
      obtain ⟨rfl, rfl, rfl⟩ := by simpa using ho
      simp only [Lx, hn, h1, h2]
      exact ⟨hJ, h⟩
    · simp at ho
  · simp at ho

theorem lx_end (h : J F C (.o p i :: S) σ (al ++ β) (fs.map (·.2) ++ Γ) R) : Lx it F C p S L pt β Γ R i [] κ σ fs al := h

/-! ### What an operation comes to there -/

def DK (val : Gh → Value) (f : Gh → List Fact) (v : Value) (β : List Blk) (Γ : List Fact) : Prop :=
  ∀ C w, Own C w β → (∀ g ∈ Γ, g.holds w (ok C w β)) → ∃ x, v = val x ∧ ∀ g ∈ f x, g.holds w (ok C w [])

theorem d_x {val : Gh → Value} {f : Gh → List Fact} (h : ∀ C', Jop P C' op ty σ [] Γ (DK val f)) : JD P op ty σ β Γ val f := by
  intro C w hO hG
  have h1 := h ⟨w, ok C w β, fun _ => False⟩ w ⟨Keep.refl _ _, (fun x hx => by cases hx), (fun x hx => by cases hx), trivial⟩ (fun g hg => g.stable (fun k hk => ⟨⟨.inl hk, hk.2.1, fun x hx => by cases hx⟩, rfl⟩) (hG g hg))
  refine h1.mono ?_
  rintro v w' ⟨β', Γ', hk, hO', hG'⟩
  have hx : Ext w w' := ⟨hO'.ext.os, hO'.ext.tape, hO'.ext.output, hO'.ext.size, fun k hk => hO'.ext.block k hk (fun h => h.elim)⟩
  obtain ⟨x, e, hf⟩ := hk _ _ hO' hG'
  refine ⟨hx, x, e, fun g hg => g.stable (fun k hk => ⟨⟨?_, hk.2.1, fun y hy hb => ?_⟩, rfl⟩) (hf g hg)⟩
  · rcases hk.1 with h | h | h
    · exact h.1
    · exact h.elim
    · exact .inr (.inr (Nat.le_trans hO.ext.size h))
  · rcases hk.1 with h | h | h
    · exact h.2.2 y hy hb
    · exact h.elim
    · have := hO.lt hy hb
      have h' : w.heap.size ≤ k := h
      omega

theorem drop_own {w : World} {g : Fact} (h : g.holds w (ok C w β)) : g.holds w (ok C w []) :=
  g.stable (fun _ hk => ⟨⟨hk.1, hk.2.1, fun x hx => by cases hx⟩, rfl⟩) h

theorem one_mem {w : World} {A : Nat → Prop} {f : Fact} (h : f.holds w A) : ∀ g ∈ [f], g.holds w A := fun g hg => by
  obtain rfl := List.mem_singleton.1 hg; exact h

theorem dk_eq {v : Value} : DK (fun _ => v) (fun _ => []) v β Γ := fun _ _ _ _ => ⟨fun _ => default, rfl, fun g hg => by cases hg⟩

def valS (n : Nat) : Gh → Value := fun g => .slice (g 0).1 n (g 0).2.1
def facS {α : Type} (E : Enc α) (n : Nat) (l : List α) : Gh → List Fact := fun g => [slF E (g 0).1 n (g 0).2.1 l]
def valP : Gh → Value := fun g => .pointer (some ⟨(g 0).2.1, (g 0).2.2, none⟩)
def facP {α : Type} (E : Enc α) (x : α) : Gh → List Fact := fun g => [ptF E (g 0).2.1 (g 0).2.2 x]

theorem dk_sl {α : Type} {E : Enc α} {pa : Option Addr} {n ca : Nat} {l : List α} (j : Nat) (hj : nth Γ j = some (slF E pa n ca l)) : DK (valS n) (facS E n l) (.slice pa n ca) β Γ :=
  fun _ _ _ hG => ⟨fun _ => (pa, ca, 0), rfl, one_mem (drop_own (hG _ (fact_mem hj)))⟩

theorem dk_pt {α : Type} {E : Enc α} {b o : Nat} {x : α} (j : Nat) (hj : nth Γ j = some (ptF E b o x)) : DK valP (facP E x) (.pointer (some ⟨b, o, none⟩)) β Γ :=
  fun _ _ _ hG => ⟨fun _ => (none, b, o), rfl, one_mem (drop_own (hG _ (fact_mem hj)))⟩

/-- The operations from i to k are spoken of. -/
def LxK (it : List (TypeId × IntKind)) (F : Fun P) (C : Cx) (p : List Nat) (S : List It) (L : List Oper) (pt : List (List Nat)) (β : List Blk) (Γ : List Fact) (R : Value → World → Prop) (k i : Nat) (pos : List Po) (κ σ : Fr) (fs : List (Nat × Fact)) (al : List Blk) : Prop :=
  i + pos.length = k ∧ Lx it F C p S L pt β Γ R i pos κ σ fs al

theorem auton_rep : ∀ (n i : Nat) (pos : List Po) (κ σ : Fr) (q : Prop) (κ' σ' : Fr) (q' : Prop), auton it F.fn.ntmps L n i (List.replicate n .auto) κ σ q = some ([], κ', σ', q') → auton it F.fn.ntmps L n i (List.replicate n .auto ++ pos) κ σ q = some (pos, κ', σ', q') := by
  intro n
  induction n with
  | zero => intro i pos κ σ q κ' σ' q' h; simp only [List.replicate, auton, Option.some.injEq, Prod.mk.injEq, List.nil_append, true_and] at h ⊢; exact h
  | succ n ih =>
    intro i pos κ σ q κ' σ' q' h
    simp only [List.replicate_succ, List.cons_append, auton] at h ⊢
    repeat' split at h
    all_goals first | exact ih _ _ _ _ _ _ _ _ h | simp at h

theorem lxk_run {k : Nat} (n : Nat) {κ' σ' : Fr} {q : Prop} (h : auton it F.fn.ntmps L n i (List.replicate n .auto) κ σ True = some ([], κ', σ', q)) (hq : q) (hL : LxK it F C p S L pt β Γ R k (i + n) pos κ' σ' fs al) : LxK it F C p S L pt β Γ R k i (List.replicate n .auto ++ pos) κ σ fs al :=
  ⟨by have := hL.1; simp only [List.length_append, List.length_replicate]; omega, lx_run n (auton_rep n i pos κ σ True κ' σ' q h) hq hL.2⟩

theorem lxk_fa {k : Nat} {val : Gh → Value} {f : Gh → List Fact} (ho : opL F.fn.ntmps L κ i = some (d, op, ty)) (hJ : JD P op ty σ β (sel (preAt pt i) fs ++ Γ) val f) (h : ∀ x, LxK it F C p S L pt β Γ R k (i + 1) pos (delF d κ) (putF d (val x) σ) ((f x).map (fun g => (i, g)) ++ fs) al) :
    LxK it F C p S L pt β Γ R k i (.fa val f :: pos) κ σ fs al :=
  ⟨by have := (h default).1; simp only [List.length_cons]; omega, lx_fa ho hJ fun x => (h x).2⟩

theorem lxk_eq {k : Nat} {v : Value} (ho : opL F.fn.ntmps L κ i = some (d, op, ty)) (hJ : JD P op ty σ β (sel (preAt pt i) fs ++ Γ) (fun _ => v) (fun _ => [])) (h : LxK it F C p S L pt β Γ R k (i + 1) pos (putF d v κ) (putF d v σ) fs al) :
    LxK it F C p S L pt β Γ R k i (.eq v :: pos) κ σ fs al :=
  ⟨by have := h.1; simp only [List.length_cons]; omega, lx_eq ho hJ h.2⟩

/-- A new block of zeros. -/
theorem lxk_alloc {k : Nat} {T : TypeId} {cs : List Value} (ho : opL F.fn.ntmps L κ i = some (d, .alloc T, ty)) (hT : zeroOf P T = some cs)
    (h : ∀ b, LxK it F C p S L pt β Γ R k (i + 1) pos (delF d κ) (putF d (.pointer (some ⟨b, 0, none⟩)) σ) fs ((some b, T, cs) :: al)) :
    LxK it F C p S L pt β Γ R k i (.al T cs :: pos) κ σ fs al :=
  ⟨by have := (h 0).1; simp only [List.length_cons]; omega, lx_al ho (fun w ρ hρ => by
    obtain ⟨ii, z, hi, hz, hc⟩ := zeroOf_some hT
    have e : z.cells = cs.toArray := by rw [← hc, ← cellsL_eq]
    have e2 : (execOp ρ (bare (.alloc T) ty)).run P w = .ok (.value (.pointer (some ⟨w.heap.size, 0, none⟩))) (w.alloc (.cells cs.toArray T)) := by
      simp [execOp, bare, Instr.alloc, run_zeroV hi hz, newVar, newRow, e]
    rw [e2]; exact ⟨rfl, rfl⟩) fun b => (h b).2⟩

/-- A value is boxed. -/
theorem lxk_box {k : Nat} {T : TypeId} {x : Operand} {v : Value} {cs : List Value} (ho : opL F.fn.ntmps L κ i = some (d, .box T x, ty)) (hx : ev σ x = some v) (hc : cellsL v = cs)
    (h : ∀ b, LxK it F C p S L pt β Γ R k (i + 1) pos (delF d κ) (putF d (.pointer (some ⟨b, 0, none⟩)) σ) fs ((some b, T, cs) :: al)) :
    LxK it F C p S L pt β Γ R k i (.al T cs :: pos) κ σ fs al :=
  ⟨by have := (h 0).1; simp only [List.length_cons]; omega, lx_al ho (fun w ρ hρ => by
    have e : v.cells = cs.toArray := by rw [← hc, ← cellsL_eq]
    have e2 : (execOp ρ (bare (.box T x) ty)).run P w = .ok (.value (.pointer (some ⟨w.heap.size, 0, none⟩))) (w.alloc (.cells cs.toArray T)) := by
      simp [execOp, bare, hρ _ _ hx, Instr.box, newVar, newRow, e]
    rw [e2]; exact ⟨rfl, rfl⟩) fun b => (h b).2⟩

/-- A slice. -/
theorem lxk_sl {k n : Nat} {α : Type} {E : Enc α} {l : List α} (ho : opL F.fn.ntmps L κ i = some (d, op, ty)) (hJ : JD P op ty σ β (sel (preAt pt i) fs ++ Γ) (valS n) (facS E n l))
    (h : ∀ pa ca, LxK it F C p S L pt β Γ R k (i + 1) pos (delF d κ) (putF d (.slice pa n ca) σ) ((i, slF E pa n ca l) :: fs) al) :
    LxK it F C p S L pt β Γ R k i (.fa (valS n) (facS E n l) :: pos) κ σ fs al := lxk_fa ho hJ fun x => h (x 0).1 (x 0).2.1

/-- A place. -/
theorem lxk_pt {k : Nat} {α : Type} {E : Enc α} {z : α} (ho : opL F.fn.ntmps L κ i = some (d, op, ty)) (hJ : JD P op ty σ β (sel (preAt pt i) fs ++ Γ) valP (facP E z))
    (h : ∀ b o, LxK it F C p S L pt β Γ R k (i + 1) pos (delF d κ) (putF d (.pointer (some ⟨b, o, none⟩)) σ) ((i, ptF E b o z) :: fs) al) :
    LxK it F C p S L pt β Γ R k i (.fa valP (facP E z) :: pos) κ σ fs al := lxk_fa ho hJ fun x => h (x 0).2.1 (x 0).2.2

def vsR (x : Rt) (g : Gh) : List Value := [.bool x.1, .slice (g 0).1 x.2.1.length (g 0).2.1, .slice (g 1).1 x.2.2.length (g 1).2.1]
def valR (x : Rt) : Gh → Value := fun g => .agg (vsR x g).toArray
def facR (x : Rt) : Gh → List Fact := fun g => [vF RatE (vsR x g) x]

/-- A fraction. -/
theorem lxk_rt {k : Nat} {z : Rt} (ho : opL F.fn.ntmps L κ i = some (d, op, ty)) (hJ : JD P op ty σ β (sel (preAt pt i) fs ++ Γ) (valR z) (facR z))
    (h : ∀ pn cn pd cd, LxK it F C p S L pt β Γ R k (i + 1) pos (delF d κ) (putF d (.agg [.bool z.1, .slice pn z.2.1.length cn, .slice pd z.2.2.length cd].toArray) σ) ((i, vF RatE [.bool z.1, .slice pn z.2.1.length cn, .slice pd z.2.2.length cd] z) :: fs) al) :
    LxK it F C p S L pt β Γ R k i (.fa (valR z) (facR z) :: pos) κ σ fs al := lxk_fa ho hJ fun x => h (x 0).1 (x 0).2.1 (x 1).1 (x 1).2.1

theorem lxk_end {k : Nat} (hk : i = k) (h : J F C (.o p k :: S) σ (al ++ β) (fs.map (·.2) ++ Γ) R) : LxK it F C p S L pt β Γ R k i [] κ σ fs al := ⟨by simpa using hk, by subst hk; exact h⟩

theorem dk_ptD {α : Type} {E : Enc α} {b o k : Nat} {l : List α} {z y : α} (dflt : α) (hz : l[k]? = some z) (j : Nat) (hj : nth Γ j = some (ptF E b o z)) (hy : l.getD k dflt = y := by rfl) : DK valP (facP E y) (.pointer (some ⟨b, o, none⟩)) β Γ := by
  have : y = z := by rw [← hy, List.getD, hz]; rfl
  subst this
  exact dk_pt j hj

theorem dk_rt {x : Rt} {pn pd : Option Addr} {cn cd : Nat} {vs : Array Value} (j : Nat) (hj : nth Γ j = some (vF RatE [.bool x.1, .slice pn x.2.1.length cn, .slice pd x.2.2.length cd] x)) (hvs : vs = [.bool x.1, .slice pn x.2.1.length cn, .slice pd x.2.2.length cd].toArray := by rfl) : DK (valR x) (facR x) (.agg vs) β Γ :=
  fun _ _ _ hG => ⟨fun | 0 => (pn, cn, 0) | _ => (pd, cd, 0), by subst hvs; rfl, one_mem (drop_own (hG _ (fact_mem hj)))⟩

/-- Values that are the same are told apart no more. -/
theorem dk_eq' {v v' : Value} (h : v' = v) : DK (fun _ => v) (fun _ => []) v' β Γ := fun _ _ _ _ => ⟨fun _ => default, h, fun g hg => by cases hg⟩

/-- An own block is read in such a region. -/
theorem d_bld {t : TypeId} {x : Operand} {b o : Nat} {T : TypeId} {cs : List Value} {v : Value} (n : Nat) (hx : ev σ x = some (.pointer (some ⟨b, o, none⟩))) (hn : nth β n = some (some b, T, cs))
    (hT : ldTy P t = some (false, 1)) (hv : cs[o]? = some v) : JD P (.load t x) ty σ β Γ (fun _ => v) (fun _ => []) := fun _ w hO _ =>
  (Pure_load hT hx (own_cell hO hn hv)).ex.mono fun u w' ⟨h1, h2⟩ => by subst h1; subst h2; exact ⟨Below.refl _ _, fun _ => default, rfl, fun g hg => by cases hg⟩

theorem d_bld_agg {t : TypeId} {x : Operand} {b o m : Nat} {T : TypeId} {cs vs : List Value} (n : Nat) (hx : ev σ x = some (.pointer (some ⟨b, o, none⟩))) (hn : nth β n = some (some b, T, cs))
    (hT : ldTy P t = some (true, m)) (hv : (cs.drop o).take m = vs) (hl : vs.length = m) : JD P (.load t x) ty σ β Γ (fun _ => .agg vs.toArray) (fun _ => []) := fun _ w hO _ => by
  have hb := hO.blk _ (nth_mem hn) b rfl
  exact (Pure_load_agg hT hl hx (cellsAt.rangeAt ⟨cs.toArray, T, (0, 0), hb, hv, hl⟩)).ex.mono fun u w' ⟨h1, h2⟩ => by subst h1; subst h2; exact ⟨Below.refl _ _, fun _ => default, rfl, fun g hg => by cases hg⟩

/-- An own row of numbers is read in such a region. -/
theorem d_bld_nat {t : TypeId} {x : Operand} {b o z : Nat} {T : TypeId} {kd : IntKind} {l : List Nat} (n : Nat) (hx : ev σ x = some (.pointer (some ⟨b, o, none⟩))) (hn : nth β n = some (some b, T, natCells kd l))
    (hT : ldTy P t = some (false, 1)) (ho : l[o]? = some z) : JD P (.load t x) ty σ β Γ (fun _ => .int kd z) (fun _ => []) :=
  d_bld n hx hn hT (by rw [natCells_get, ho]; rfl)

/-! ### Literals that are given up -/

theorem allrd_nil {α : Type} {E : Enc α} {w : World} {A : Nat → Prop} : AllRd E [] [] w A := ⟨rfl, fun i vs x h => by simp at h⟩

theorem allrd_cons {α : Type} {E : Enc α} {w : World} {A : Nat → Prop} {vs : List Value} {x : α} {vss : List (List Value)} {l : List α} (h : E.rd w A vs x) (h' : AllRd E vss l w A) : AllRd E (vs :: vss) (x :: l) w A := by
  refine ⟨by simp [h'.1], fun i us y hu hy => ?_⟩
  cases i with
  | zero => simp at hu hy; subst hu; subst hy; exact h
  | succ i => exact h'.2 i us y (by simpa using hu) (by simpa using hy)

theorem rd_of_slF {α : Type} {E : Enc α} {w : World} {A : Nat → Prop} {pa : Option Addr} {n ca : Nat} {l : List α} (h : (slF E pa n ca l).holds w A) : (encSl E).rd w A [.slice pa n ca] l := by
  obtain ⟨rfl, h⟩ := h
  exact ⟨pa, ca, rfl, h⟩

/-- The facts on slices at these places, as the elements of a row. -/
def slRow {α : Type} (E : Enc α) (Γ : List Fact) : List Nat → List (List Value) → List (List α) → Prop
  | [], [], [] => True
  | n :: ns, [.slice pa m ca] :: vss, l :: ls => nth Γ n = some (slF E pa m ca l) ∧ slRow E Γ ns vss ls
  | _, _, _ => False

theorem allrd_row {α : Type} {E : Enc α} {w : World} {A : Nat → Prop} (hG : ∀ g ∈ Γ, g.holds w A) : ∀ (ns : List Nat) (vss : List (List Value)) (ls : List (List α)), slRow E Γ ns vss ls → AllRd (encSl E) vss ls w A := by
  intro ns
  induction ns with
  | nil =>
    intro vss ls h
    match vss, ls, h with
    | [], [], _ => exact allrd_nil
  | cons n ns ih =>
    intro vss ls h
    match vss, ls, h with
    | [.slice pa m ca] :: vss, l :: ls, h => exact allrd_cons (rd_of_slF (hG _ (fact_mem h.1))) (ih vss ls h.2)

/-- A literal of slices is given up: what it holds is read. -/
theorem j_pub_row {α : Type} {E : Enc α} {e : TypeId} {b n : Nat} {cs : List Value} (ns : List Nat) (vss : List (List Value)) (ls : List (List α)) (k : Nat)
    (hn : nth β k = some (some b, e, cs)) (hc : vss.flatten = cs) (hr : slRow E Γ ns vss ls) (hl : n = ls.length) (hcs : cs.length = n) (hby : n * 24 ≤ 140737488355328)
    (h : J F C S σ (β.eraseIdx k) (slF (encSl E) (some ⟨b, 0, none⟩) n n ls :: Γ) R) : J F C S σ β Γ R :=
  j_add (allF (encSl E) vss ls) (fun w A hG => allrd_row hG ns vss ls hr)
    (j_pub (bo := some b) (cap := n) k 0 hn rfl (.inr ⟨b, rfl, Nat.le_refl _, by omega, by rw [hcs]; exact (Nat.mul_one n).symm⟩)
      (by show cs.take (n * 1) = _; rw [Nat.mul_one, hc, ← hcs, List.take_length]) hl hby (j_weak (fun f hf => by
      rcases List.mem_cons.1 hf with rfl | hf
      · exact .head _
      · exact .tail _ (.tail _ hf)) h))

/-- The same in a region that draws its order. -/
theorem dk_row {α : Type} {E : Enc α} {e : TypeId} {b n : Nat} {cs : List Value} (ns : List Nat) (vss : List (List Value)) (ls : List (List α)) (hc : vss.flatten = cs) (hr : slRow E Γ ns vss ls) (hl : n = ls.length) (hcs : cs.length = n) (hby : n * 24 ≤ 140737488355328) :
    DK (valS n) (facS (encSl E) n ls) (.slice (some ⟨b, 0, none⟩) n n) [(some b, e, cs)] Γ := fun C w hO hG => by
  refine ⟨fun _ => (some ⟨b, 0, none⟩, n, 0), rfl, one_mem ⟨hl, ?_⟩⟩
  have hall := allrd_row hG ns vss ls hr
  have hb := hO.blk _ (.head _) b rfl
  have hnew := hO.new _ (.head _) b rfl
  have hlt := hO.lt (.head _) rfl
  refine ⟨by show ls.length ≤ n; omega, by rw [← hl]; exact hby, .inr ⟨b, 0, rfl, ⟨by rcases hnew with h | h; exact .inr (.inr h); exact .inr (.inl h), hlt, fun x hx => by cases hx⟩, fun i x hi => ?_⟩⟩
  have hlti : i < ls.length := (List.getElem?_eq_some_iff.1 hi).1
  obtain ⟨vs, hvs⟩ : ∃ vs, vss[i]? = some vs := ⟨vss[i]'(hall.1.symm ▸ hlti), by simp⟩
  have hpart := flatten_part (allF_len hall) i vs hvs
  have hrd := hall.2 i vs x hvs hi
  refine ⟨vs, ⟨cs.toArray, e, (0, 0), hb, ?_, (encSl E).len hrd⟩, (encSl E).stable (fun _ hk => ⟨⟨hk.1, hk.2.1, fun x hx => by cases hx⟩, rfl⟩) hrd⟩
  rw [← hpart, ← hc, Nat.zero_add]

/-- A literal of numbers there. -/
theorem dk_nums {kd : IntKind} {e : TypeId} {b n : Nat} {cs : List Value} (by' : Nat) (l : List Nat) (hc : natCells kd l = cs) (hl : n = l.length) (hr : ∀ x ∈ l, InR kd x) (hby : n * by' ≤ 140737488355328) :
    DK (valS n) (facS (encNat kd by') n l) (.slice (some ⟨b, 0, none⟩) n n) [(some b, e, cs)] Γ := fun C w hO hG => by
  refine ⟨fun _ => (some ⟨b, 0, none⟩, n, 0), rfl, one_mem ⟨hl, ?_⟩⟩
  have hb := hO.blk _ (.head _) b rfl
  have hnew := hO.new _ (.head _) b rfl
  have hlt := hO.lt (.head _) rfl
  refine ⟨by show l.length ≤ n; omega, by rw [← hl]; exact hby, .inr ⟨b, 0, rfl, ⟨by rcases hnew with h | h; exact .inr (.inr h); exact .inr (.inl h), hlt, fun x hx => by cases hx⟩, fun i x hi => ?_⟩⟩
  have hlti : i < l.length := (List.getElem?_eq_some_iff.1 hi).1
  refine ⟨[.int kd x], ⟨cs.toArray, e, (0, 0), hb, ?_, rfl⟩, rfl, hr x (List.mem_of_getElem? hi)⟩
  subst hc
  show (List.drop (0 + i * 1) (natCells kd l)).take 1 = _
  rw [Nat.zero_add, Nat.mul_one, List.drop_eq_getElem_cons (by simpa using hlti)]
  have : (natCells kd l)[i]'(by simpa using hlti) = .int kd x := by
    have := natCells_get kd l i
    rw [hi] at this
    simpa [hlti] using this
  simp [this]

/-- The end: one's own blocks are let go. -/
theorem j_giv {vs : List Value} {Q : Value → List Fact → List Blk → Prop} {Φ : List Fact} (l : List Nat) (hp : isRet F.B p = true) (hr : resOf σ F.fn.results.toList = some vs) (hl : pick Γ l = some Φ)
    (h : Q (resVal vs) Φ []) : J F C (.c p :: S) σ β Γ (Gives C Q) :=
  j_ret hp hr fun _ hO hG => ⟨Φ, [], h, ⟨hO.ext, fun x hx => (by cases hx), fun x hx => (by cases hx), trivial⟩, fun f hf => drop_own (hG f (pick_mem hl f hf))⟩

/-- An own row of limbs is given up. -/
theorem j_pub32 {e : TypeId} {b n : Nat} {l : List Nat} (k : Nat) (hn : nth β k = some (some b, e, natCells .u32 l)) (hl : l.length = n) (hr : ∀ x ∈ l, x < 4294967296) (hby : n ≤ 35184372088832)
    (h : J F C S σ (β.eraseIdx k) (slF U32 (some ⟨b, 0, none⟩) n n l :: Γ) R) : J F C S σ β Γ R :=
  j_pub_made 4 l k hn hl.symm (fun x hx => by have := hr x hx; simp only [InR]; omega) (by omega) (by omega) h

theorem x_bld_natR {C : Cx} {K : Value → List Blk → List Fact → Prop} {x : Operand} {t : TypeId} {b o m : Nat} {T : TypeId} {kd : IntKind} {l : List Nat} (n : Nat) (hx : ev σ x = some (.pointer (some ⟨b, o, none⟩))) (hn : nth β n = some (some b, T, natCells kd l))
    (hT : ldTy P t = some (false, 1)) (hr : ∀ x ∈ l, x < m) (ho : o < l.length) (h : ∀ z, l[o]? = some z → z < m → K (.int kd z) β Γ) : Jop P C (.load t x) ty σ β Γ K :=
  x_bld_nat n hx hn hT ho fun z hz => h z hz (hr z (List.mem_of_getElem? hz))

theorem mul64_0 {a b : Int} (h1 : 0 ≤ a) (h2 : a ≤ 4294967295) (h3 : 0 ≤ b) (h4 : b ≤ 4294967295) : a * b ≤ 18446744065119617025 := by
  have h := Int.mul_le_mul h2 h4 h3 (by decide)
  exact Int.le_trans h (by decide)

theorem mul64_1 {a b : Int} (h1 : 0 ≤ a) (h2 : a ≤ 4294967295) (h3 : 0 ≤ b) (h4 : b ≤ 4294967295) : a * b ≤ 18446744073709551615 := Int.le_trans (mul64_0 h1 h2 h3 h4) (by decide)

theorem mul64_2 {a b c : Int} (h1 : 0 ≤ a) (h2 : a ≤ 4294967295) (h3 : 0 ≤ b) (h4 : b ≤ 4294967295) (h5 : c ≤ 4294967295) : a * b + c ≤ 18446744073709551615 := by
  have := mul64_0 h1 h2 h3 h4; omega

theorem mul64_3 {a b c d : Int} (h1 : 0 ≤ a) (h2 : a ≤ 4294967295) (h3 : 0 ≤ b) (h4 : b ≤ 4294967295) (h5 : c ≤ 4294967295) (h6 : d ≤ 4294967295) : a * b + c + d ≤ 18446744073709551615 := by
  have := mul64_0 h1 h2 h3 h4; omega

theorem mul64_nn {a b c : Int} (h1 : 0 ≤ a) (h3 : 0 ≤ b) (h5 : 0 ≤ c) : 0 ≤ a * b + c := by
  have := Int.mul_nonneg h1 h3; omega

theorem mul64_nnn {a b c d : Int} (h1 : 0 ≤ a) (h3 : 0 ≤ b) (h5 : 0 ≤ c) (h6 : 0 ≤ d) : 0 ≤ a * b + c + d := by
  have := Int.mul_nonneg h1 h3; omega

theorem set_all {l : List Nat} {k z m : Nat} (h : ∀ x ∈ l, x < m) (hz : z < m) : ∀ x ∈ l.set k z, x < m := fun x hx => by
  rcases List.mem_or_eq_of_mem_set hx with h1 | rfl
  · exact h x h1
  · exact hz

theorem j_drawK (hit : IntTys P it) (hmx : P.follows .mixedOrders = true) (k : Nat) (hd : isDraw F.B p = true) (hc : regOk (opsOf (sub p F.B)) (mkPre (opsOf (sub p F.B)) []) k = true)
    (h : LxK it F C p S (opsOf (sub p F.B)) (mkPre (opsOf (sub p F.B)) []) β Γ R k 0 pos σ σ [] []) : J F C (.c p :: S) σ β Γ R :=
  j_draw hit hmx pos hd (by have := h.1; rw [Nat.zero_add] at this; rw [this]; exact hc) h.2

end
end Go.Fw
