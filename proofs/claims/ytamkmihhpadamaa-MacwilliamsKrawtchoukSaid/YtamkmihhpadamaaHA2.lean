/-
The eleventh text of the frame: short words for regions that draw their order, and for rows that are given up. The twelfth text of the frame: bitwise operations, the lesser of two integers, a sign of a text, an empty literal. The thirteenth text of the frame: loops that keep what they do not touch, results that lie in memory, blocks that are handed to a callee and come back, parts of own slices, fractions as results. The fourteenth text of the frame: own rows that read as lists while they grow and change; structs that are read by a view of their cells. What the table of types of the program says, a closed fact each. The functions of the program, each with its body. Numbers as lists of limbs to the base 2^32: their values, the canonical lists, and how lists are cut. The canonical list of limbs of a number, and how it goes with values. Binary digits; powers by squaring; binomial coefficients. Binomial coefficients. Numbers in limbs, compared and taken from each other. Fractions: what a sign, a numerator and a denominator in limbs say, and the canonical form. Krawtchouk numbers: the coefficients of (1 + a z)^m (1 - z)^x, and their laws. Numbers with a sign, as the program has them; the program's table of Krawtchouk numbers. Integers among the fractions. Contracts of nat.short. Contracts of the document's numbers: Trim, Of, limb, Same, Zero.
-/
import Derived.Test.YtamkmihhpadamaaProg
import Derived.Calls
import Derived.Test.YtamkmihhpadamaaHA1
set_option linter.unusedVariables false
set_option linter.unusedSimpArgs false

namespace Go.Fw
open Go.RowKit (Below)

def auton (it : List (TypeId × IntKind)) (nt : Nat) (L : List Oper) : Nat → Nat → List Po → Fr → Fr → Prop → Option (List Po × Fr × Fr × Prop)
  | 0, _, pos, κ, σ, q => some (pos, κ, σ, q)
  | n + 1, i, .auto :: pos, κ, σ, q => match nth L i with
    | some o => match outOk o.dst nt, gd L κ o with
      | true, some false => auton it nt L n (i + 1) pos (putF o.dst undef κ) (putF o.dst undef σ) q
      | true, some true => match pev it κ o.op with
        | some (v, q') => auton it nt L n (i + 1) pos (putF o.dst v κ) (putF o.dst v σ) (q' ∧ q)
        | none => none
      | _, _ => none
    | none => none
  | _ + 1, _, _, _, _, _ => none

/-- A function that gives this value back, and of memory says this. -/
abbrev Rv (v0 : Value) (Φ0 : List Fact) : Value → List Fact → List Blk → Prop := fun v Φ β => v = v0 ∧ Φ = Φ0 ∧ β = []

/-- A function that gives a slice back that reads so. -/
abbrev Sv {α : Type} (E : Enc α) (l : List α) : Value → List Fact → List Blk → Prop := fun v Φ β => ∃ pa ca, v = .slice pa l.length ca ∧ Φ = [slF E pa l.length ca l] ∧ β = []

/-- An operation of the region that is carried out. -/
def opL (nt : Nat) (L : List Oper) (κ : Fr) (i : Nat) : Option (Option Tmp × Op × TypeId) :=
  match nth L i with
  | some o => match outOk o.dst nt, gd L κ o with
    | true, some true => some (o.dst, o.op, o.type)
    | _, _ => none
  | none => none

section
variable {P : Program} {F : Fun P} {C : Cx} {S : List It} {R : Value → World → Prop} {β : List Blk} {Γ : List Fact} {it : List (TypeId × IntKind)} {L : List Oper} {pos : List Po} {pt : List (List Nat)} {p : List Nat} {σ κ : Fr} {fs : List (Nat × Fact)} {al : List Blk} {i : Nat} {op : Op} {ty : TypeId} {d : Option Tmp}

theorem auton_owes : ∀ (n i : Nat) (pos : List Po) (κ σ : Fr) (q : Prop) (r : List Po × Fr × Fr × Prop), auton it F.fn.ntmps L n i pos κ σ q = some r → r.2.2.2 → q := by
  intro n
  induction n with
  | zero => intro i pos κ σ q r h hr; simp only [auton, Option.some.injEq] at h; subst h; exact hr
  | succ n ih =>
    intro i pos κ σ q r h hr
    cases pos with
    | nil => simp [auton] at h
    | cons po pos =>
      cases po with
      | eq v => simp [auton] at h
      | fa val f => simp [auton] at h
      | al T cs => simp [auton] at h
      | auto =>
        simp only [auton] at h
        repeat' split at h
        all_goals first | exact (ih _ _ _ _ _ _ h hr).2 | exact ih _ _ _ _ _ _ h hr | simp at h

theorem lx_run_n : ∀ (n i : Nat) (pos : List Po) (κ σ : Fr) (q : Prop) (r : List Po × Fr × Fr × Prop), auton it F.fn.ntmps L n i pos κ σ q = some r → r.2.2.2 → Lx it F C p S L pt β Γ R (i + n) r.1 r.2.1 r.2.2.1 fs al → Lx it F C p S L pt β Γ R i pos κ σ fs al := by
  intro n
  induction n with
  | zero => intro i pos κ σ q r h hr hL; simp only [auton, Option.some.injEq] at h; subst h; exact hL
  | succ n ih =>
    intro i pos κ σ q r h hr hL
    have hL' : Lx it F C p S L pt β Γ R (i + 1 + n) r.1 r.2.1 r.2.2.1 fs al := by rw [Nat.add_assoc, Nat.add_comm 1 n]; exact hL
    cases pos with
    | nil => simp [auton] at h
    | cons po pos =>
      cases po with
      | eq v => simp [auton] at h
      | fa val f => simp [auton] at h
      | al T cs => simp [auton] at h
      | auto =>
        simp only [auton] at h
        cases ho : nth L i with
        | none => rw [ho] at h; simp at h
        | some o =>
          rw [ho] at h
          simp only at h
          cases hout : outOk o.dst F.fn.ntmps with
          | false => rw [hout] at h; simp at h
          | true =>
            rw [hout] at h
            cases hg : gd L κ o with
            | none => rw [hg] at h; simp at h
            | some b =>
              rw [hg] at h
              cases b with
              | false =>
                simp only [Lx, ho, hout, hg]
                exact ih _ _ _ _ _ _ h hr hL'
              | true =>
                simp only at h
                cases hp : pev it κ o.op with
                | none => rw [hp] at h; simp at h
                | some vq =>
                  obtain ⟨v, q'⟩ := vq
                  rw [hp] at h
                  simp only [Lx, ho, hout, hg, hp]
                  exact ⟨(auton_owes _ _ _ _ _ _ _ h hr).1, ih _ _ _ _ _ _ h hr hL'⟩

/-- n operations whose values are reckoned. -/
theorem lx_run (n : Nat) {pos' : List Po} {κ' σ' : Fr} {q : Prop} (h : auton it F.fn.ntmps L n i pos κ σ True = some (pos', κ', σ', q)) (hq : q) (hL : Lx it F C p S L pt β Γ R (i + n) pos' κ' σ' fs al) : Lx it F C p S L pt β Γ R i pos κ σ fs al :=
  lx_run_n n i pos κ σ True _ h hq hL

theorem lx_fa {val : Gh → Value} {f : Gh → List Fact} (ho : opL F.fn.ntmps L κ i = some (d, op, ty)) (hJ : JD P op ty σ β (sel (preAt pt i) fs ++ Γ) val f) (h : ∀ x, Lx it F C p S L pt β Γ R (i + 1) pos (delF d κ) (putF d (val x) σ) ((f x).map (fun g => (i, g)) ++ fs) al) :
    Lx it F C p S L pt β Γ R i (.fa val f :: pos) κ σ fs al := by
  unfold opL at ho
  split at ho
  · rename_i o hn
    split at ho
    · rename_i h1 h2
      obtain ⟨rfl, rfl, rfl⟩ := by simpa using ho
      simp only [Lx, hn, h1, h2]
      exact ⟨hJ, h⟩
    · simp at ho
  · simp at ho

theorem lx_al {T : TypeId} {cs : List Value} (ho : opL F.fn.ntmps L κ i = some (d, op, ty)) (hJ : JA P op ty σ T cs) (h : ∀ b, Lx it F C p S L pt β Γ R (i + 1) pos (delF d κ) (putF d (.pointer (some ⟨b, 0, none⟩)) σ) fs ((some b, T, cs) :: al)) :
    Lx it F C p S L pt β Γ R i (.al T cs :: pos) κ σ fs al := by
  unfold opL at ho
  split at ho
  · rename_i o hn
    split at ho
    · rename_i h1 h2
      obtain ⟨rfl, rfl, rfl⟩ := by simpa using ho
      simp only [Lx, hn, h1, h2]
      exact ⟨hJ, h⟩
    · simp at ho
  · simp at ho

theorem lx_eq {v : Value} (ho : opL F.fn.ntmps L κ i = some (d, op, ty)) (hJ : JD P op ty σ β (sel (preAt pt i) fs ++ Γ) (fun _ => v) (fun _ => [])) (h : Lx it F C p S L pt β Γ R (i + 1) pos (putF d v κ) (putF d v σ) fs al) :
    Lx it F C p S L pt β Γ R i (.eq v :: pos) κ σ fs al := by
  unfold opL at ho
  split at ho
  · rename_i o hn
    split at ho
    · rename_i h1 h2
      obtain ⟨rfl, rfl, rfl⟩ := by simpa using ho
      simp only [Lx, hn, h1, h2]
      exact ⟨hJ, h⟩
    · simp at ho
  · simp at ho

theorem lx_end (h : J F C (.o p i :: S) σ (al ++ β) (fs.map (·.2) ++ Γ) R) : Lx it F C p S L pt β Γ R i [] κ σ fs al := h

/-! ### What an operation comes to there -/

def DK (val : Gh → Value) (f : Gh → List Fact) (v : Value) (β : List Blk) (Γ : List Fact) : Prop :=
  ∀ C w, Own C w β → (∀ g ∈ Γ, g.holds w (ok C w β)) → ∃ x, v = val x ∧ ∀ g ∈ f x, g.holds w (ok C w [])

theorem d_x {val : Gh → Value} {f : Gh → List Fact} (h : ∀ C', Jop P C' op ty σ [] Γ (DK val f)) : JD P op ty σ β Γ val f := by
  intro C w hO hG
  have h1 := h ⟨w, ok C w β, fun _ => False⟩ w ⟨Keep.refl _ _, (fun x hx => by cases hx), (fun x hx => by cases hx), trivial⟩ (fun g hg => g.stable (fun k hk => ⟨⟨.inl hk, hk.2.1, fun x hx => by cases hx⟩, rfl⟩) (hG g hg))
  refine h1.mono ?_
  rintro v w' ⟨β', Γ', hk, hO', hG'⟩
  have hx : Ext w w' := ⟨hO'.ext.os, hO'.ext.tape, hO'.ext.output, hO'.ext.size, fun k hk => hO'.ext.block k hk (fun h => h.elim)⟩
  obtain ⟨x, e, hf⟩ := hk _ _ hO' hG'
  refine ⟨hx, x, e, fun g hg => g.stable (fun k hk => ⟨⟨?_, hk.2.1, fun y hy hb => ?_⟩, rfl⟩) (hf g hg)⟩
  · rcases hk.1 with h | h | h
    · exact h.1
    · exact h.elim
    · exact .inr (.inr (Nat.le_trans hO.ext.size h))
  · rcases hk.1 with h | h | h
    · exact h.2.2 y hy hb
    · exact h.elim
    · have := hO.lt hy hb
      have h' : w.heap.size ≤ k := h
      omega

theorem drop_own {w : World} {g : Fact} (h : g.holds w (ok C w β)) : g.holds w (ok C w []) :=
  g.stable (fun _ hk => ⟨⟨hk.1, hk.2.1, fun x hx => by cases hx⟩, rfl⟩) h

theorem one_mem {w : World} {A : Nat → Prop} {f : Fact} (h : f.holds w A) : ∀ g ∈ [f], g.holds w A := fun g hg => by
  obtain rfl := List.mem_singleton.1 hg; exact h

theorem dk_eq {v : Value} : DK (fun _ => v) (fun _ => []) v β Γ := fun _ _ _ _ => ⟨fun _ => default, rfl, fun g hg => by cases hg⟩

def valS (n : Nat) : Gh → Value := fun g => .slice (g 0).1 n (g 0).2.1
def facS {α : Type} (E : Enc α) (n : Nat) (l : List α) : Gh → List Fact := fun g => [slF E (g 0).1 n (g 0).2.1 l]
def valP : Gh → Value := fun g => .pointer (some ⟨(g 0).2.1, (g 0).2.2, none⟩)
def facP {α : Type} (E : Enc α) (x : α) : Gh → List Fact := fun g => [ptF E (g 0).2.1 (g 0).2.2 x]

theorem dk_sl {α : Type} {E : Enc α} {pa : Option Addr} {n ca : Nat} {l : List α} (j : Nat) (hj : nth Γ j = some (slF E pa n ca l)) : DK (valS n) (facS E n l) (.slice pa n ca) β Γ :=
  fun _ _ _ hG => ⟨fun _ => (pa, ca, 0), rfl, one_mem (drop_own (hG _ (fact_mem hj)))⟩

theorem dk_pt {α : Type} {E : Enc α} {b o : Nat} {x : α} (j : Nat) (hj : nth Γ j = some (ptF E b o x)) : DK valP (facP E x) (.pointer (some ⟨b, o, none⟩)) β Γ :=
  fun _ _ _ hG => ⟨fun _ => (none, b, o), rfl, one_mem (drop_own (hG _ (fact_mem hj)))⟩

/-- The operations from i to k are spoken of. -/
def LxK (it : List (TypeId × IntKind)) (F : Fun P) (C : Cx) (p : List Nat) (S : List It) (L : List Oper) (pt : List (List Nat)) (β : List Blk) (Γ : List Fact) (R : Value → World → Prop) (k i : Nat) (pos : List Po) (κ σ : Fr) (fs : List (Nat × Fact)) (al : List Blk) : Prop :=
  i + pos.length = k ∧ Lx it F C p S L pt β Γ R i pos κ σ fs al

theorem auton_rep : ∀ (n i : Nat) (pos : List Po) (κ σ : Fr) (q : Prop) (κ' σ' : Fr) (q' : Prop), auton it F.fn.ntmps L n i (List.replicate n .auto) κ σ q = some ([], κ', σ', q') → auton it F.fn.ntmps L n i (List.replicate n .auto ++ pos) κ σ q = some (pos, κ', σ', q') := by
  intro n
  induction n with
  | zero => intro i pos κ σ q κ' σ' q' h; simp only [List.replicate, auton, Option.some.injEq, Prod.mk.injEq, List.nil_append, true_and] at h ⊢; exact h
  | succ n ih =>
    intro i pos κ σ q κ' σ' q' h
    simp only [List.replicate_succ, List.cons_append, auton] at h ⊢
    repeat' split at h
    all_goals first | exact ih _ _ _ _ _ _ _ _ h | simp at h

theorem lxk_run {k : Nat} (n : Nat) {κ' σ' : Fr} {q : Prop} (h : auton it F.fn.ntmps L n i (List.replicate n .auto) κ σ True = some ([], κ', σ', q)) (hq : q) (hL : LxK it F C p S L pt β Γ R k (i + n) pos κ' σ' fs al) : LxK it F C p S L pt β Γ R k i (List.replicate n .auto ++ pos) κ σ fs al :=
  ⟨by have := hL.1; simp only [List.length_append, List.length_replicate]; omega, lx_run n (auton_rep n i pos κ σ True κ' σ' q h) hq hL.2⟩

theorem lxk_fa {k : Nat} {val : Gh → Value} {f : Gh → List Fact} (ho : opL F.fn.ntmps L κ i = some (d, op, ty)) (hJ : JD P op ty σ β (sel (preAt pt i) fs ++ Γ) val f) (h : ∀ x, LxK it F C p S L pt β Γ R k (i + 1) pos (delF d κ) (putF d (val x) σ) ((f x).map (fun g => (i, g)) ++ fs) al) :
    LxK it F C p S L pt β Γ R k i (.fa val f :: pos) κ σ fs al :=
  ⟨by have := (h default).1; simp only [List.length_cons]; omega, lx_fa ho hJ fun x => (h x).2⟩

theorem lxk_eq {k : Nat} {v : Value} (ho : opL F.fn.ntmps L κ i = some (d, op, ty)) (hJ : JD P op ty σ β (sel (preAt pt i) fs ++ Γ) (fun _ => v) (fun _ => [])) (h : LxK it F C p S L pt β Γ R k (i + 1) pos (putF d v κ) (putF d v σ) fs al) :
    LxK it F C p S L pt β Γ R k i (.eq v :: pos) κ σ fs al :=
  ⟨by have := h.1; simp only [List.length_cons]; omega, lx_eq ho hJ h.2⟩

/-- A new block of zeros. -/
theorem lxk_alloc {k : Nat} {T : TypeId} {cs : List Value} (ho : opL F.fn.ntmps L κ i = some (d, .alloc T, ty)) (hT : zeroOf P T = some cs)
    (h : ∀ b, LxK it F C p S L pt β Γ R k (i + 1) pos (delF d κ) (putF d (.pointer (some ⟨b, 0, none⟩)) σ) fs ((some b, T, cs) :: al)) :
    LxK it F C p S L pt β Γ R k i (.al T cs :: pos) κ σ fs al :=
  ⟨by have := (h 0).1; simp only [List.length_cons]; omega, lx_al ho (fun w ρ hρ => by
    obtain ⟨ii, z, hi, hz, hc⟩ := zeroOf_some hT
    have e : z.cells = cs.toArray := by rw [← hc, ← cellsL_eq]
    have e2 : (execOp ρ (bare (.alloc T) ty)).run P w = .ok (.value (.pointer (some ⟨w.heap.size, 0, none⟩))) (w.alloc (.cells cs.toArray T)) := by
      simp [execOp, bare, Instr.alloc, run_zeroV hi hz, newVar, newRow, e]
    rw [e2]; exact ⟨rfl, rfl⟩) fun b => (h b).2⟩

/-- A value is boxed. -/
theorem lxk_box {k : Nat} {T : TypeId} {x : Operand} {v : Value} {cs : List Value} (ho : opL F.fn.ntmps L κ i = some (d, .box T x, ty)) (hx : ev σ x = some v) (hc : cellsL v = cs)
    (h : ∀ b, LxK it F C p S L pt β Γ R k (i + 1) pos (delF d κ) (putF d (.pointer (some ⟨b, 0, none⟩)) σ) fs ((some b, T, cs) :: al)) :
    LxK it F C p S L pt β Γ R k i (.al T cs :: pos) κ σ fs al :=
  ⟨by have := (h 0).1; simp only [List.length_cons]; omega, lx_al ho (fun w ρ hρ => by
    have e : v.cells = cs.toArray := by rw [← hc, ← cellsL_eq]
    have e2 : (execOp ρ (bare (.box T x) ty)).run P w = .ok (.value (.pointer (some ⟨w.heap.size, 0, none⟩))) (w.alloc (.cells cs.toArray T)) := by
      simp [execOp, bare, hρ _ _ hx, Instr.box, newVar, newRow, e]
    rw [e2]; exact ⟨rfl, rfl⟩) fun b => (h b).2⟩

/-- A slice. -/
theorem lxk_sl {k n : Nat} {α : Type} {E : Enc α} {l : List α} (ho : opL F.fn.ntmps L κ i = some (d, op, ty)) (hJ : JD P op ty σ β (sel (preAt pt i) fs ++ Γ) (valS n) (facS E n l))
    (h : ∀ pa ca, LxK it F C p S L pt β Γ R k (i + 1) pos (delF d κ) (putF d (.slice pa n ca) σ) ((i, slF E pa n ca l) :: fs) al) :
    LxK it F C p S L pt β Γ R k i (.fa (valS n) (facS E n l) :: pos) κ σ fs al := lxk_fa ho hJ fun x => h (x 0).1 (x 0).2.1

/-- A place. -/
theorem lxk_pt {k : Nat} {α : Type} {E : Enc α} {z : α} (ho : opL F.fn.ntmps L κ i = some (d, op, ty)) (hJ : JD P op ty σ β (sel (preAt pt i) fs ++ Γ) valP (facP E z))
    (h : ∀ b o, LxK it F C p S L pt β Γ R k (i + 1) pos (delF d κ) (putF d (.pointer (some ⟨b, o, none⟩)) σ) ((i, ptF E b o z) :: fs) al) :
    LxK it F C p S L pt β Γ R k i (.fa valP (facP E z) :: pos) κ σ fs al := lxk_fa ho hJ fun x => h (x 0).2.1 (x 0).2.2

def vsR (x : Rt) (g : Gh) : List Value := [.bool x.1, .slice (g 0).1 x.2.1.length (g 0).2.1, .slice (g 1).1 x.2.2.length (g 1).2.1]
def valR (x : Rt) : Gh → Value := fun g => .agg (vsR x g).toArray
def facR (x : Rt) : Gh → List Fact := fun g => [vF RatE (vsR x g) x]

/-- A fraction. -/
theorem lxk_rt {k : Nat} {z : Rt} (ho : opL F.fn.ntmps L κ i = some (d, op, ty)) (hJ : JD P op ty σ β (sel (preAt pt i) fs ++ Γ) (valR z) (facR z))
    (h : ∀ pn cn pd cd, LxK it F C p S L pt β Γ R k (i + 1) pos (delF d κ) (putF d (.agg [.bool z.1, .slice pn z.2.1.length cn, .slice pd z.2.2.length cd].toArray) σ) ((i, vF RatE [.bool z.1, .slice pn z.2.1.length cn, .slice pd z.2.2.length cd] z) :: fs) al) :
    LxK it F C p S L pt β Γ R k i (.fa (valR z) (facR z) :: pos) κ σ fs al := lxk_fa ho hJ fun x => h (x 0).1 (x 0).2.1 (x 1).1 (x 1).2.1

theorem lxk_end {k : Nat} (hk : i = k) (h : J F C (.o p k :: S) σ (al ++ β) (fs.map (·.2) ++ Γ) R) : LxK it F C p S L pt β Γ R k i [] κ σ fs al := ⟨by simpa using hk, by subst hk; exact h⟩

theorem dk_ptD {α : Type} {E : Enc α} {b o k : Nat} {l : List α} {z y : α} (dflt : α) (hz : l[k]? = some z) (j : Nat) (hj : nth Γ j = some (ptF E b o z)) (hy : l.getD k dflt = y := by rfl) : DK valP (facP E y) (.pointer (some ⟨b, o, none⟩)) β Γ := by
  have : y = z := by rw [← hy, List.getD, hz]; rfl
  subst this
  exact dk_pt j hj

theorem dk_rt {x : Rt} {pn pd : Option Addr} {cn cd : Nat} {vs : Array Value} (j : Nat) (hj : nth Γ j = some (vF RatE [.bool x.1, .slice pn x.2.1.length cn, .slice pd x.2.2.length cd] x)) (hvs : vs = [.bool x.1, .slice pn x.2.1.length cn, .slice pd x.2.2.length cd].toArray := by rfl) : DK (valR x) (facR x) (.agg vs) β Γ :=
  fun _ _ _ hG => ⟨fun | 0 => (pn, cn, 0) | _ => (pd, cd, 0), by subst hvs; rfl, one_mem (drop_own (hG _ (fact_mem hj)))⟩

/-- Values that are the same are told apart no more. -/
theorem dk_eq' {v v' : Value} (h : v' = v) : DK (fun _ => v) (fun _ => []) v' β Γ := fun _ _ _ _ => ⟨fun _ => default, h, fun g hg => by cases hg⟩

/-- An own block is read in such a region. -/
theorem d_bld {t : TypeId} {x : Operand} {b o : Nat} {T : TypeId} {cs : List Value} {v : Value} (n : Nat) (hx : ev σ x = some (.pointer (some ⟨b, o, none⟩))) (hn : nth β n = some (some b, T, cs))
    (hT : ldTy P t = some (false, 1)) (hv : cs[o]? = some v) : JD P (.load t x) ty σ β Γ (fun _ => v) (fun _ => []) := fun _ w hO _ =>
  (Pure_load hT hx (own_cell hO hn hv)).ex.mono fun u w' ⟨h1, h2⟩ => by subst h1; subst h2; exact ⟨Below.refl _ _, fun _ => default, rfl, fun g hg => by cases hg⟩

theorem d_bld_agg {t : TypeId} {x : Operand} {b o m : Nat} {T : TypeId} {cs vs : List Value} (n : Nat) (hx : ev σ x = some (.pointer (some ⟨b, o, none⟩))) (hn : nth β n = some (some b, T, cs))
    (hT : ldTy P t = some (true, m)) (hv : (cs.drop o).take m = vs) (hl : vs.length = m) : JD P (.load t x) ty σ β Γ (fun _ => .agg vs.toArray) (fun _ => []) := fun _ w hO _ => by
  have hb := hO.blk _ (nth_mem hn) b rfl
  exact (Pure_load_agg hT hl hx (cellsAt.rangeAt ⟨cs.toArray, T, (0, 0), hb, hv, hl⟩)).ex.mono fun u w' ⟨h1, h2⟩ => by subst h1; subst h2; exact ⟨Below.refl _ _, fun _ => default, rfl, fun g hg => by cases hg⟩

/-- An own row of numbers is read in such a region. -/
theorem d_bld_nat {t : TypeId} {x : Operand} {b o z : Nat} {T : TypeId} {kd : IntKind} {l : List Nat} (n : Nat) (hx : ev σ x = some (.pointer (some ⟨b, o, none⟩))) (hn : nth β n = some (some b, T, natCells kd l))
    (hT : ldTy P t = some (false, 1)) (ho : l[o]? = some z) : JD P (.load t x) ty σ β Γ (fun _ => .int kd z) (fun _ => []) :=
  d_bld n hx hn hT (by rw [natCells_get, ho]; rfl)

/-! ### Literals that are given up -/

theorem allrd_nil {α : Type} {E : Enc α} {w : World} {A : Nat → Prop} : AllRd E [] [] w A := ⟨rfl, fun i vs x h => by simp at h⟩

theorem allrd_cons {α : Type} {E : Enc α} {w : World} {A : Nat → Prop} {vs : List Value} {x : α} {vss : List (List Value)} {l : List α} (h : E.rd w A vs x) (h' : AllRd E vss l w A) : AllRd E (vs :: vss) (x :: l) w A := by
  refine ⟨by simp [h'.1], fun i us y hu hy => ?_⟩
  cases i with
  | zero => simp at hu hy; subst hu; subst hy; exact h
  | succ i => exact h'.2 i us y (by simpa using hu) (by simpa using hy)

theorem rd_of_slF {α : Type} {E : Enc α} {w : World} {A : Nat → Prop} {pa : Option Addr} {n ca : Nat} {l : List α} (h : (slF E pa n ca l).holds w A) : (encSl E).rd w A [.slice pa n ca] l := by
  obtain ⟨rfl, h⟩ := h
  exact ⟨pa, ca, rfl, h⟩

/-- The facts on slices at these places, as the elements of a row. -/
def slRow {α : Type} (E : Enc α) (Γ : List Fact) : List Nat → List (List Value) → List (List α) → Prop
  | [], [], [] => True
  | n :: ns, [.slice pa m ca] :: vss, l :: ls => nth Γ n = some (slF E pa m ca l) ∧ slRow E Γ ns vss ls
  | _, _, _ => False

theorem allrd_row {α : Type} {E : Enc α} {w : World} {A : Nat → Prop} (hG : ∀ g ∈ Γ, g.holds w A) : ∀ (ns : List Nat) (vss : List (List Value)) (ls : List (List α)), slRow E Γ ns vss ls → AllRd (encSl E) vss ls w A := by
  intro ns
  induction ns with
  | nil =>
    intro vss ls h
    match vss, ls, h with
    | [], [], _ => exact allrd_nil
  | cons n ns ih =>
    intro vss ls h
    match vss, ls, h with
    | [.slice pa m ca] :: vss, l :: ls, h => exact allrd_cons (rd_of_slF (hG _ (fact_mem h.1))) (ih vss ls h.2)

/-- A literal of slices is given up: what it holds is read. -/
theorem j_pub_row {α : Type} {E : Enc α} {e : TypeId} {b n : Nat} {cs : List Value} (ns : List Nat) (vss : List (List Value)) (ls : List (List α)) (k : Nat)
    (hn : nth β k = some (some b, e, cs)) (hc : vss.flatten = cs) (hr : slRow E Γ ns vss ls) (hl : n = ls.length) (hcs : cs.length = n) (hby : n * 24 ≤ 140737488355328)
    (h : J F C S σ (β.eraseIdx k) (slF (encSl E) (some ⟨b, 0, none⟩) n n ls :: Γ) R) : J F C S σ β Γ R :=
  j_add (allF (encSl E) vss ls) (fun w A hG => allrd_row hG ns vss ls hr)
    (j_pub (bo := some b) (cap := n) k 0 hn rfl (.inr ⟨b, rfl, Nat.le_refl _, by omega, by rw [hcs]; exact (Nat.mul_one n).symm⟩)
      (by show cs.take (n * 1) = _; rw [Nat.mul_one, hc, ← hcs, List.take_length]) hl hby (j_weak (fun f hf => by
      rcases List.mem_cons.1 hf with rfl | hf
      · exact .head _
      · exact .tail _ (.tail _ hf)) h))

/-- The same in a region that draws its order. -/
theorem dk_row {α : Type} {E : Enc α} {e : TypeId} {b n : Nat} {cs : List Value} (ns : List Nat) (vss : List (List Value)) (ls : List (List α)) (hc : vss.flatten = cs) (hr : slRow E Γ ns vss ls) (hl : n = ls.length) (hcs : cs.length = n) (hby : n * 24 ≤ 140737488355328) :
    DK (valS n) (facS (encSl E) n ls) (.slice (some ⟨b, 0, none⟩) n n) [(some b, e, cs)] Γ := fun C w hO hG => by
  refine ⟨fun _ => (some ⟨b, 0, none⟩, n, 0), rfl, one_mem ⟨hl, ?_⟩⟩
  have hall := allrd_row hG ns vss ls hr
  have hb := hO.blk _ (.head _) b rfl
  have hnew := hO.new _ (.head _) b rfl
  have hlt := hO.lt (.head _) rfl
  refine ⟨by show ls.length ≤ n; omega, by rw [← hl]; exact hby, .inr ⟨b, 0, rfl, ⟨by rcases hnew with h | h; exact .inr (.inr h); exact .inr (.inl h), hlt, fun x hx => by cases hx⟩, fun i x hi => ?_⟩⟩
  have hlti : i < ls.length := (List.getElem?_eq_some_iff.1 hi).1
  obtain ⟨vs, hvs⟩ : ∃ vs, vss[i]? = some vs := ⟨vss[i]'(hall.1.symm ▸ hlti), by simp⟩
  have hpart := flatten_part (allF_len hall) i vs hvs
  have hrd := hall.2 i vs x hvs hi
  refine ⟨vs, ⟨cs.toArray, e, (0, 0), hb, ?_, (encSl E).len hrd⟩, (encSl E).stable (fun _ hk => ⟨⟨hk.1, hk.2.1, fun x hx => by cases hx⟩, rfl⟩) hrd⟩
  rw [← hpart, ← hc, Nat.zero_add]

/-- A literal of numbers there. -/
theorem dk_nums {kd : IntKind} {e : TypeId} {b n : Nat} {cs : List Value} (by' : Nat) (l : List Nat) (hc : natCells kd l = cs) (hl : n = l.length) (hr : ∀ x ∈ l, InR kd x) (hby : n * by' ≤ 140737488355328) :
    DK (valS n) (facS (encNat kd by') n l) (.slice (some ⟨b, 0, none⟩) n n) [(some b, e, cs)] Γ := fun C w hO hG => by
  refine ⟨fun _ => (some ⟨b, 0, none⟩, n, 0), rfl, one_mem ⟨hl, ?_⟩⟩
  have hb := hO.blk _ (.head _) b rfl
  have hnew := hO.new _ (.head _) b rfl
  have hlt := hO.lt (.head _) rfl
  refine ⟨by show l.length ≤ n; omega, by rw [← hl]; exact hby, .inr ⟨b, 0, rfl, ⟨by rcases hnew with h | h; exact .inr (.inr h); exact .inr (.inl h), hlt, fun x hx => by cases hx⟩, fun i x hi => ?_⟩⟩
  have hlti : i < l.length := (List.getElem?_eq_some_iff.1 hi).1
  refine ⟨[.int kd x], ⟨cs.toArray, e, (0, 0), hb, ?_, rfl⟩, rfl, hr x (List.mem_of_getElem? hi)⟩
  subst hc
  show (List.drop (0 + i * 1) (natCells kd l)).take 1 = _
  rw [Nat.zero_add, Nat.mul_one, List.drop_eq_getElem_cons (by simpa using hlti)]
  have : (natCells kd l)[i]'(by simpa using hlti) = .int kd x := by
    have := natCells_get kd l i
    rw [hi] at this
    simpa [hlti] using this
  simp [this]

/-- The end: one's own blocks are let go. -/
theorem j_giv {vs : List Value} {Q : Value → List Fact → List Blk → Prop} {Φ : List Fact} (l : List Nat) (hp : isRet F.B p = true) (hr : resOf σ F.fn.results.toList = some vs) (hl : pick Γ l = some Φ)
    (h : Q (resVal vs) Φ []) : J F C (.c p :: S) σ β Γ (Gives C Q) :=
  j_ret hp hr fun _ hO hG => ⟨Φ, [], h, ⟨hO.ext, fun x hx => (by cases hx), fun x hx => (by cases hx), trivial⟩, fun f hf => drop_own (hG f (pick_mem hl f hf))⟩

/-- An own row of limbs is given up. -/
theorem j_pub32 {e : TypeId} {b n : Nat} {l : List Nat} (k : Nat) (hn : nth β k = some (some b, e, natCells .u32 l)) (hl : l.length = n) (hr : ∀ x ∈ l, x < 4294967296) (hby : n ≤ 35184372088832)
    (h : J F C S σ (β.eraseIdx k) (slF U32 (some ⟨b, 0, none⟩) n n l :: Γ) R) : J F C S σ β Γ R :=
  j_pub_made 4 l k hn hl.symm (fun x hx => by have := hr x hx; simp only [InR]; omega) (by omega) (by omega) h

theorem x_bld_natR {C : Cx} {K : Value → List Blk → List Fact → Prop} {x : Operand} {t : TypeId} {b o m : Nat} {T : TypeId} {kd : IntKind} {l : List Nat} (n : Nat) (hx : ev σ x = some (.pointer (some ⟨b, o, none⟩))) (hn : nth β n = some (some b, T, natCells kd l))
    (hT : ldTy P t = some (false, 1)) (hr : ∀ x ∈ l, x < m) (ho : o < l.length) (h : ∀ z, l[o]? = some z → z < m → K (.int kd z) β Γ) : Jop P C (.load t x) ty σ β Γ K :=
  x_bld_nat n hx hn hT ho fun z hz => h z hz (hr z (List.mem_of_getElem? hz))

theorem mul64_0 {a b : Int} (h1 : 0 ≤ a) (h2 : a ≤ 4294967295) (h3 : 0 ≤ b) (h4 : b ≤ 4294967295) : a * b ≤ 18446744065119617025 := by
  have h := Int.mul_le_mul h2 h4 h3 (by decide)
  exact Int.le_trans h (by decide)

theorem mul64_1 {a b : Int} (h1 : 0 ≤ a) (h2 : a ≤ 4294967295) (h3 : 0 ≤ b) (h4 : b ≤ 4294967295) : a * b ≤ 18446744073709551615 := Int.le_trans (mul64_0 h1 h2 h3 h4) (by decide)

theorem mul64_2 {a b c : Int} (h1 : 0 ≤ a) (h2 : a ≤ 4294967295) (h3 : 0 ≤ b) (h4 : b ≤ 4294967295) (h5 : c ≤ 4294967295) : a * b + c ≤ 18446744073709551615 := by
  have := mul64_0 h1 h2 h3 h4; omega

theorem mul64_3 {a b c d : Int} (h1 : 0 ≤ a) (h2 : a ≤ 4294967295) (h3 : 0 ≤ b) (h4 : b ≤ 4294967295) (h5 : c ≤ 4294967295) (h6 : d ≤ 4294967295) : a * b + c + d ≤ 18446744073709551615 := by
  have := mul64_0 h1 h2 h3 h4; omega

theorem mul64_nn {a b c : Int} (h1 : 0 ≤ a) (h3 : 0 ≤ b) (h5 : 0 ≤ c) : 0 ≤ a * b + c := by
  have := Int.mul_nonneg h1 h3; omega

theorem mul64_nnn {a b c d : Int} (h1 : 0 ≤ a) (h3 : 0 ≤ b) (h5 : 0 ≤ c) (h6 : 0 ≤ d) : 0 ≤ a * b + c + d := by
  have := Int.mul_nonneg h1 h3; omega

theorem set_all {l : List Nat} {k z m : Nat} (h : ∀ x ∈ l, x < m) (hz : z < m) : ∀ x ∈ l.set k z, x < m := fun x hx => by
  rcases List.mem_or_eq_of_mem_set hx with h1 | rfl
  · exact h x h1
  · exact hz

theorem j_drawK (hit : IntTys P it) (hmx : P.follows .mixedOrders = true) (k : Nat) (hd : isDraw F.B p = true) (hc : regOk (opsOf (sub p F.B)) (mkPre (opsOf (sub p F.B)) []) k = true)
    (h : LxK it F C p S (opsOf (sub p F.B)) (mkPre (opsOf (sub p F.B)) []) β Γ R k 0 pos σ σ [] []) : J F C (.c p :: S) σ β Γ R :=
  j_draw hit hmx pos hd (by have := h.1; rw [Nat.zero_add] at this; rw [this]; exact hc) h.2

end
end Go.Fw

namespace Go.Fw
open Go.RowKit (Below)

section
variable {P : Program} {F : Fun P} {C : Cx} {S : List It} {R : Value → World → Prop} {σ : Fr} {β : List Blk} {Γ : List Fact} {ty : TypeId} {K : Value → List Blk → List Fact → Prop}

theorem bv_nat {a : Nat} (h : a < 18446744073709551616) : (BitVec.ofInt 64 (a : Int)).toNat = a := by
  rw [BitVec.toNat_ofInt]; omega

theorem wrap_nat {a : Nat} (h : a < 18446744073709551616) : IntKind.wrap .u64 (a : Int) = a := by
  simp [IntKind.wrap, IntKind.bits, IntKind.signed]; omega

theorem x_or_nat {x y : Operand} {t u : TypeId} {m n : Int} (a b : Nat) (hx : ev σ x = some (.int .u64 m)) (hy : ev σ y = some (.int .u64 n)) (hm : m = a) (hn : n = b) (ha : a < 18446744073709551616) (hb : b < 18446744073709551616)
    (h : K (.int .u64 ((a ||| b : Nat) : Int)) β Γ) : Jop P C (.binOp .or t x y u) ty σ β Γ K :=
  x_pure (fun w ρ hρ => by
    subst hm; subst hn
    have h1 : a ||| b < 18446744073709551616 := Nat.or_lt_two_pow (n := 64) ha hb
    have h2 := wrap_nat h1
    simp only [execOp, bare, hρ _ _ hx, hρ _ _ hy, eqGuard, Go.binOp, Op.intBits]
    have e : (BitVec.ofNat 64 a ||| BitVec.ofNat 64 b).toNat = a ||| b := by rw [BitVec.toNat_or, BitVec.toNat_ofNat, BitVec.toNat_ofNat, Nat.mod_eq_of_lt (by omega), Nat.mod_eq_of_lt (by omega)]
    simp [IntKind.bits]
    exact (congrArg (fun z : Nat => IntKind.wrap .u64 (z : Int)) e).trans h2) h

theorem x_and_nat {x y : Operand} {t u : TypeId} {m n : Int} (a b : Nat) (hx : ev σ x = some (.int .u64 m)) (hy : ev σ y = some (.int .u64 n)) (hm : m = a) (hn : n = b) (ha : a < 18446744073709551616) (hb : b < 18446744073709551616)
    (h : K (.int .u64 ((a &&& b : Nat) : Int)) β Γ) : Jop P C (.binOp .and t x y u) ty σ β Γ K :=
  x_pure (fun w ρ hρ => by
    subst hm; subst hn
    have h1 : a &&& b < 18446744073709551616 := Nat.lt_of_le_of_lt Nat.and_le_left ha
    have h2 := wrap_nat h1
    simp only [execOp, bare, hρ _ _ hx, hρ _ _ hy, eqGuard, Go.binOp, Op.intBits]
    have e : (BitVec.ofNat 64 a &&& BitVec.ofNat 64 b).toNat = a &&& b := by rw [BitVec.toNat_and, BitVec.toNat_ofNat, BitVec.toNat_ofNat, Nat.mod_eq_of_lt (by omega), Nat.mod_eq_of_lt (by omega)]
    simp [IntKind.bits]
    exact (congrArg (fun z : Nat => IntKind.wrap .u64 (z : Int)) e).trans h2) h

/-- A limb behind another one. -/
theorem x_or_shl {x y : Operand} {t u : TypeId} {m n : Int} (a b : Nat) (hx : ev σ x = some (.int .u64 m)) (hy : ev σ y = some (.int .u64 n)) (hm : m = a * 4294967296) (hn : n = b) (ha : a < 4294967296) (hb : b < 4294967296)
    (h : K (.int .u64 ((a * 4294967296 + b : Nat) : Int)) β Γ) : Jop P C (.binOp .or t x y u) ty σ β Γ K :=
  x_or_nat (a * 4294967296) b hx hy (by rw [hm]; simp) hn (by omega) (by omega) (by
    have := Nat.two_pow_add_eq_or_of_lt (i := 32) (b := b) (by simpa using hb) a
    rw [show (2 : Nat) ^ 32 = 4294967296 from rfl] at this
    rw [Nat.mul_comm a, ← this, Nat.mul_comm]; exact h)

/-- Odd or even. -/
theorem x_and_one {x y : Operand} {t u : TypeId} {m : Int} (a : Nat) (hx : ev σ x = some (.int .i64 m)) (hy : ev σ y = some (.int .i64 1)) (hm : m = a) (ha : a < 9223372036854775808)
    (h : K (.int .i64 ((a % 2 : Nat) : Int)) β Γ) : Jop P C (.binOp .and t x y u) ty σ β Γ K :=
  x_pure (fun w ρ hρ => by
    subst hm
    have e : (BitVec.ofNat 64 a &&& BitVec.ofInt 64 1).toNat = a % 2 := by
      rw [BitVec.toNat_and, BitVec.toNat_ofNat, Nat.mod_eq_of_lt (by omega), show (BitVec.ofInt 64 1).toNat = 1 from rfl, Nat.and_one_is_mod]
    have h2 : IntKind.wrap .i64 ((a % 2 : Nat) : Int) = ((a % 2 : Nat) : Int) := wrap_in (by simp only [InR]; omega)
    simp only [execOp, bare, hρ _ _ hx, hρ _ _ hy, eqGuard, Go.binOp, Op.intBits]
    simp [IntKind.bits]
    exact (congrArg (fun z : Nat => IntKind.wrap .i64 (z : Int)) e).trans h2) h

/-- Shifts by any number of places. -/
theorem x_shr_nat {x y : Operand} {t u : TypeId} {k k' : IntKind} {m n : Int} (a c : Nat) (hx : ev σ x = some (.int k m)) (hy : ev σ y = some (.int k' n)) (hm : m = a) (hn : n = c) (hc : c ≤ k.bits)
    (h : K (.int k ((a / 2 ^ c : Nat) : Int)) β Γ) : Jop P C (.binOp .shr t x y u) ty σ β Γ K :=
  x_pure (fun w ρ hρ => by
    subst hm; subst hn
    have e : Int.fdiv (a : Int) (2 ^ c) = ((a / 2 ^ c : Nat) : Int) := by
      rw [Int.fdiv_eq_ediv_of_nonneg _ (Int.le_of_lt (Int.pow_pos (by decide)))]
      simp
    have hmin : min c k.bits = c := Nat.min_eq_left hc
    have hneg : ¬ ((c : Int) < 0) := by omega
    simp only [execOp, bare, hρ _ _ hx, hρ _ _ hy, eqGuard, Go.binOp, Op.shift]
    simp [hneg, hmin, e]) h

theorem x_shl_nat {x y : Operand} {t u : TypeId} {k k' : IntKind} {m n : Int} (a c : Nat) (hx : ev σ x = some (.int k m)) (hy : ev σ y = some (.int k' n)) (hm : m = a) (hn : n = c) (hc : c ≤ k.bits) (hr : InR k ((a * 2 ^ c : Nat) : Int))
    (h : K (.int k ((a * 2 ^ c : Nat) : Int)) β Γ) : Jop P C (.binOp .shl t x y u) ty σ β Γ K :=
  x_pure (fun w ρ hρ => by
    subst hm; subst hn
    have hmin : min c k.bits = c := Nat.min_eq_left hc
    have hneg : ¬ ((c : Int) < 0) := by omega
    have e := wrap_in hr
    simp only [execOp, bare, hρ _ _ hx, hρ _ _ hy, eqGuard, Go.binOp, Op.shift]
    simp [hneg, hmin]
    simpa using e) h

theorem x_min {x y : Operand} {ts : Array TypeId} {k : IntKind} {m n : Int} (hx : ev σ x = some (.int k m)) (hy : ev σ y = some (.int k n)) (h : K (.int k (if n < m then n else m)) β Γ) :
    Jop P C (.call { callee := .builtin .min, args := #[x, y], argTypes := ts }) ty σ β Γ K :=
  x_pure (fun w ρ hρ => by
    simp [execOp, bare, resolve, invoke, builtin, Builtin.min_, Builtin.min2, hρ _ _ hx, hρ _ _ hy]) h

/-- A sign of a text. -/
theorem x_char {x y : Operand} {t : TypeId} {k : IntKind} {s : ByteArray} {b : UInt8} {m : Int} (n : Nat) (ht : P.underlying t = some .string) (hx : ev σ x = some (.string s)) (hy : ev σ y = some (.int k m)) (hm : m = n) (hb : s[n]? = some b)
    (h : K (.int .u8 b.toNat) β Γ) : Jop P C (.index t x y) ty σ β Γ K :=
  x_pure (fun w ρ hρ => by
    subst hm
    simp [execOp, bare, Instr.index, hρ _ _ hx, hρ _ _ hy, asIntOf, run_underlying ht, hb]) h

/-- An empty literal. -/
theorem x_lit0 {t e : TypeId} {m : Nat} (hT : slTy P t = some (e, m))
    (h : ∀ b, K (.slice (some ⟨b, 0, none⟩) 0 0) ((some b, e, []) :: β) Γ) : Jop P C (.buildSlice t 0 #[]) ty σ β Γ K :=
  x_new (f := fun b => .slice (some ⟨b, 0, none⟩) 0 0) (fun ρ hρ w => by
    refine ⟨.slice (some ⟨w.heap.size, 0, none⟩) 0 0, ?_, rfl⟩
    obtain ⟨hu, i, hi, hsz⟩ := slTy_some hT
    simp only [execOp, bare, Instr.buildSlice, Sem.run_bind, run_underlying hu, Result.andThen_ok, sizeOf, typeInfo, Sem.run_pure, run_program, hi, hsz]
    have e0 : Array.map (fun _ : Nat => (default : Value)) (Array.range 0) = #[] := by simp
    simp [newRow, Instr.fill, e0]) h

end
end Go.Fw

namespace Go.Fw
open Go.RowKit (Below)

/-- The slots that are kept. -/
def keepF (σ : Fr) : List Nat → Option Fr
  | [] => some []
  | t :: l => match Fr.get t σ, keepF σ l with
    | some v, some r => some ((t, v) :: r)
    | _, _ => none

theorem keepF_sub {σ : Fr} : ∀ {l : List Nat} {r : Fr}, keepF σ l = some r → Fr.sub r σ := by
  intro l
  induction l with
  | nil => intro r h; simp only [keepF, Option.some.injEq] at h; subst h; exact Fr.sub_nil _
  | cons t l ih =>
    intro r h
    simp only [keepF] at h
    cases h1 : Fr.get t σ with
    | none => rw [h1] at h; simp at h
    | some v =>
      cases h2 : keepF σ l with
      | none => rw [h1, h2] at h; simp at h
      | some r' =>
        rw [h1, h2] at h
        obtain rfl := Option.some.inj h
        exact Fr.sub_cons h1 (ih h2)

theorem Fr.sub_append {a b σ : Fr} (ha : Fr.sub a σ) (hb : Fr.sub b σ) : Fr.sub (a ++ b) σ := by
  intro t v h
  have key : ∀ (a : Fr), Fr.get t (a ++ b) = some v → Fr.get t a = some v ∨ Fr.get t b = some v := by
    intro a
    induction a with
    | nil => exact fun h => .inr h
    | cons x l ih =>
      obtain ⟨i, u⟩ := x
      intro h
      simp only [List.cons_append, Fr.get] at h ⊢
      cases hb : Nat.beq i t with
      | true => rw [hb] at h; exact .inl h
      | false => rw [hb] at h; exact ih h
  rcases key a h with h | h
  · exact ha t v h
  · exact hb t v h

section
variable {P : Program} {F : Fun P} {C : Cx} {S : List It} {σ : Fr} {β : List Blk} {Γ : List Fact} {R : Value → World → Prop} {p : List Nat} {i : Nat} {d : Option Tmp} {op : Op} {ty : TypeId} {K : Value → List Blk → List Fact → Prop}

/-- A loop; the slots and the facts that it keeps are named by their places alone. -/
theorem j_loopG {X : Type} {σk : Fr} {Γk : List Fact} (ks kf : List Nat) (st : X → Fr) (bl : X → List Blk) (fa : X → List Fact) (I : X → Prop) (μ : X → Nat) (x : X) (l : List Nat)
    (hp : isLoop F.B p = true) (hk : keepF σ ks = some σk) (hkf : pick Γ kf = some Γk) (hx : I x) (hs : Fr.sub (st x) σ) (hb : β = bl x) (hf : pick Γ l = some (fa x))
    (round : ∀ x, I x → (∀ x', μ x' < μ x → I x' → J F C (.lp (p ++ [0]) :: S) (st x' ++ σk) (bl x') (fa x' ++ Γk) R) → J F C (.c (p ++ [0]) :: .lp (p ++ [0]) :: S) (st x ++ σk) (bl x) (fa x ++ Γk) R) :
    J F C (.c p :: S) σ β Γ R :=
  j_loop hp (fun x => st x ++ σk) bl (fun x => fa x ++ Γk) I μ x hx (Fr.sub_append hs (keepF_sub hk)) hb (fun f hm => by
    rcases List.mem_append.1 hm with hm | hm
    · exact pick_mem hf f hm
    · exact pick_mem hkf f hm) round

/-- A guarded operation whose test was left out itself. -/
theorem j_gskipU {g : Tmp} {want : Bool} (ho : opAtG F p i = some (g, want, d, op, ty)) (hb : Fr.get g σ = some undef) (h : J F C (.o p (i + 1) :: S) (putF d undef σ) β Γ R) : J F C (.o p i :: S) σ β Γ R := by
  intro w hO hG
  obtain ⟨pos, after, j, hn, hj, hd⟩ := opAtG_some ho
  obtain ⟨e1, e2⟩ := item_o (F := F) hn
  intro a ha
  simp only [List.map_cons, e1]
  have hy : yielded (opsOf (sub p F.B)).toArray a.tmps j = none := by
    have ht := ha.get _ _ hb
    rw [nth_eq] at hj
    have hj' : ((opsOf (sub p F.B)).toArray[j]?).bind (·.dst) = some g := by simpa using hj
    simp only [yielded, hj', Option.bind_some, ht]
    rfl
  refine At_skip e2 (by simp [Region.wanted, hy]) ?_
  exact h w hO hG (a.put d undef) (ha.putF hd undef)

theorem distinct_iff {β : List Blk} : Distinct β ↔ β.Pairwise (fun x y => ∀ b, x.1 = some b → y.1 ≠ some b) := by
  induction β with
  | nil => simp [Distinct]
  | cons x l ih => rw [List.pairwise_cons, ← ih]; rfl

/-- The own blocks in another order. -/
theorem j_perm {β' : List Blk} (hp : β'.Perm β) (h : J F C S σ β' Γ R) : J F C S σ β Γ R := fun w hO hG =>
  h w ⟨hO.ext, fun x hx => hO.new x (hp.subset hx), fun x hx => hO.blk x (hp.subset hx), by
    rw [distinct_iff]
    exact (hp.pairwise_iff (fun {x y} hxy b hb e => hxy b e hb)).2 (distinct_iff.1 hO.apart)⟩
    fun f hf => f.stable (fun k hk => ⟨⟨hk.1, hk.2.1, fun x hx => hk.2.2 x (hp.subset hx)⟩, rfl⟩) (hG f hf)

/-- Some of the own blocks, in their order. -/
def maskB : List Bool → List Blk → List Blk
  | true :: m, x :: l => x :: maskB m l
  | false :: m, _ :: l => maskB m l
  | _, _ => []

theorem maskB_sub : ∀ (m : List Bool) (l : List Blk), (maskB m l).Sublist l
  | true :: m, x :: l => (maskB_sub m l).cons_cons x
  | false :: m, x :: l => (maskB_sub m l).cons x
  | [], l => by simp [maskB]
  | true :: _, [] => by simp [maskB]
  | false :: _, [] => by simp [maskB]

theorem j_toM {σ' : Fr} {β' : List Blk} {Γ' : List Fact} (m : List Bool) (l : List Nat) (hs : Fr.sub σ' σ) (hb : maskB m β = β') (hp : pick Γ l = some Γ') (h : J F C S σ' β' Γ' R) : J F C S σ β Γ R := by
  subst hb
  exact j_sub hs (j_weakB (maskB_sub m β) (j_pick l hp h))

/-! ### Results that lie in memory -/

/-- What the results come to, read off the slots and the own blocks; the numbers say which blocks. -/
inductive ResJ (P : Program) (σ : Fr) (β : List Blk) : List ResultVar → List Value → Prop
  | nil : ResJ P σ β [] []
  | tmp {t : Tmp} {v : Value} {l : List ResultVar} {vs : List Value} : Fr.get t σ = some v → ResJ P σ β l vs → ResJ P σ β (.tmp t :: l) (v :: vs)
  | agg {a : Tmp} {t : TypeId} {b m : Nat} {T : TypeId} {cs : List Value} {l : List ResultVar} {vs : List Value} (n : Nat) :
      Fr.get a σ = some (.pointer (some ⟨b, 0, none⟩)) → nth β n = some (some b, T, cs) → ldTy P t = some (true, m) → cs.length = m → ResJ P σ β l vs → ResJ P σ β (.cell a t :: l) (.agg cs.toArray :: vs)
  | one {a : Tmp} {t : TypeId} {b : Nat} {T : TypeId} {v : Value} {l : List ResultVar} {vs : List Value} (n : Nat) :
      Fr.get a σ = some (.pointer (some ⟨b, 0, none⟩)) → nth β n = some (some b, T, [v]) → ldTy P t = some (false, 1) → ResJ P σ β l vs → ResJ P σ β (.cell a t :: l) (v :: vs)

theorem ResJ.all {n : Nat} {a : Act} {w : World} (ha : Fits n σ a) (hO : Own C w β) : ∀ {l : List ResultVar} {vs : List Value}, ResJ P σ β l vs → ResAll P w a.tmps l vs := by
  intro l vs h
  induction h with
  | nil => exact .nil
  | tmp h1 _ ih => exact .cons (by simp [resOne, ha.get _ _ h1]) ih
  | @agg a' t b m T cs l vs k h1 h2 h3 h4 _ ih =>
    refine .cons ?_ ih
    have hb := hO.blk _ (nth_mem h2) b rfl
    have hl : (Instr.loadAt t (.pointer (some ⟨b, 0, none⟩))).run P w = .ok (.agg cs.toArray) w :=
      run_load_agg h3 h4 (cellsAt.rangeAt (n := m) ⟨cs.toArray, T, (0, 0), hb, by simp [← h4], h4⟩)
    simp only [Instr.loadAt, Instr.sureAddr, Sem.run_bind, Sem.run_pure, Result.andThen_ok] at hl
    simp [resOne, ha.get _ _ h1, asAddr, Sem.run_bind, hl]
  | @one a' t b T v l vs k h1 h2 h3 _ ih =>
    refine .cons ?_ ih
    have hl : (Instr.loadAt t (.pointer (some ⟨b, 0, none⟩))).run P w = .ok v w :=
      run_load_one h3 (own_cell hO h2 rfl)
    simp only [Instr.loadAt, Instr.sureAddr, Sem.run_bind, Sem.run_pure, Result.andThen_ok] at hl
    simp [resOne, ha.get _ _ h1, asAddr, Sem.run_bind, hl]

theorem results_fits {fn : Func} {tmps : Array Value} {w : World} {vs : List Value} (h : ResAll P w tmps fn.results.toList vs) : (results fn tmps).run P w = .ok (resVal vs) w := run_results_all h

/-- The end; one's own blocks are let go. -/
theorem j_givC {vs : List Value} {Q : Value → List Fact → List Blk → Prop} {Φ : List Fact} (l : List Nat) (hp : isRet F.B p = true) (hr : ResJ P σ β F.fn.results.toList vs) (hl : pick Γ l = some Φ)
    (h : Q (resVal vs) Φ []) : J F C (.c p :: S) σ β Γ (Gives C Q) :=
  fun _ hO hG => run_ret_at hp (fun _ ha => results_fits (hr.all ha hO)) ⟨Φ, [], h, ⟨hO.ext, fun x hx => (by cases hx), fun x hx => (by cases hx), trivial⟩, fun f hf => drop_own (hG f (pick_mem hl f hf))⟩

/-! ### A block is handed to a callee -/

theorem x_callB {f : FuncId} {xs : List Operand} {ts : Array TypeId} {args : List Value} {Γ' : List Fact} {blk : Blk} {Q : Value → List Fact → List Blk → Prop} (n : Nat) (l : List Nat) (hn : nth β n = some blk)
    (hx : evs σ xs = some args) (hc : Ctr P f args [blk] Γ' Q) (hp : pick Γ l = some Γ')
    (h : ∀ v Φ β', Q v Φ β' → K v (β' ++ β.eraseIdx n) (Φ ++ Γ)) : Jop P C (.call { callee := .value (.func f), args := xs.toArray, argTypes := ts }) ty σ β Γ K := by
  intro w hO hG
  have hsub : (β.eraseIdx n).Sublist β := List.eraseIdx_sublist _ _
  have hOe : Own C w (β.eraseIdx n) := hO.sub hsub
  have hin : ∀ k, inB [blk] k → blk.1 = some k := fun k ⟨x, hx, e⟩ => by
    obtain rfl := List.mem_singleton.1 hx
    exact e
  have hcall := hc.2 w (ok C w β) (fun k hk => hk.2.1) (fun x hx b hb => by obtain rfl := List.mem_singleton.1 hx; exact hO.blk _ (nth_mem hn) b hb)
    ⟨fun y hy => (by cases hy), trivial⟩ (fun g hg => g.stable (fun k hk => ⟨⟨hk, fun hi => hk.2.2 _ (nth_mem hn) (hin k hi)⟩, rfl⟩) (hG g (pick_mem hp g hg)))
  refine (Ex_call hc.1 hx hcall).mono ?_
  rintro v w' ⟨Φ, β', hQ, hO', hΦ⟩
  have hkeep : ∀ k, k < w.heap.size → blk.1 ≠ some k → w'.heap[k]? = w.heap[k]? := fun k hk hne => hO'.ext.block k hk (fun hi => hne (hin k hi))
  have hnb : ∀ x ∈ β.eraseIdx n, ∀ b, x.1 = some b → blk.1 ≠ some b := by
    intro x hx b hb e
    obtain ⟨bb, T, cs⟩ := blk
    have e' : bb = some b := e
    subst e'
    exact mem_erase hO.apart hn x hx hb
  have hnew : ∀ x ∈ β', ∀ b, x.1 = some b → w.heap.size ≤ b ∨ blk.1 = some b := fun x hx b hb => by
    rcases hO'.new x hx b hb with h | h
    · exact .inl h
    · exact .inr (hin b h)
  refine ⟨_, _, h v Φ β' hQ, ⟨⟨hO'.ext.os.trans hO.ext.os, hO'.ext.tape.trans hO.ext.tape, hO'.ext.output.trans hO.ext.output, Nat.le_trans hO.ext.size hO'.ext.size, fun k hk hm => ?_⟩, ?_, ?_, ?_⟩, ?_⟩
  · rw [hkeep k (Nat.lt_of_lt_of_le hk hO.ext.size) (fun e => ?_)]
    · exact hO.ext.block k hk hm
    · rcases hO.new _ (nth_mem hn) k e with h | h
      · omega
      · exact hm h
  · intro x hm b hb
    rcases List.mem_append.1 hm with hm | hm
    · rcases hnew x hm b hb with h | h
      · exact .inl (Nat.le_trans hO.ext.size h)
      · exact hO.new _ (nth_mem hn) b h
    · exact hOe.new x hm b hb
  · intro x hm b hb
    rcases List.mem_append.1 hm with hm | hm
    · exact hO'.blk x hm b hb
    · rw [hkeep b (hOe.lt hm hb) (hnb x hm b hb)]
      exact hOe.blk x hm b hb
  · refine hO'.apart.append hOe.apart fun x hx y hy b hb e => ?_
    rcases hnew x hx b hb with h1 | h1
    · have h2 := hOe.lt hy e
      omega
    · exact hnb y hy b e h1
  · intro g hg
    rcases List.mem_append.1 hg with hg | hg
    · refine g.stable (fun k hk => ⟨⟨?_, hk.2.1, fun x hx => ?_⟩, rfl⟩) (hΦ g hg)
      · rcases hk.1 with h1 | h1 | h1
        · exact h1.1
        · have := hin k h1
          rcases hO.new _ (nth_mem hn) k this with h | h
          · exact .inr (.inr h)
          · exact .inr (.inl h)
        · exact .inr (.inr (Nat.le_trans hO.ext.size h1))
      · rcases List.mem_append.1 hx with hx | hx
        · exact hk.2.2 x hx
        · intro e
          rcases hk.1 with h1 | h1 | h1
          · exact h1.2.2 x (hsub.subset hx) e
          · exact hnb x hx k e (hin k h1)
          · have h2 := hOe.lt hx e
            have h1' : w.heap.size ≤ k := h1
            omega
    · refine g.stable (fun k hk => ⟨⟨hk.1, Nat.lt_of_lt_of_le hk.2.1 hO'.ext.size, fun x hx => ?_⟩, hkeep k hk.2.1 (fun e => hk.2.2 _ (nth_mem hn) e)⟩) (hG g hg)
      rcases List.mem_append.1 hx with hx | hx
      · intro e
        rcases hnew x hx k e with h1 | h1
        · have := hk.2.1
          omega
        · exact hk.2.2 _ (nth_mem hn) h1
      · exact hk.2.2 x (hsub.subset hx)

/-! ### Parts of own slices -/

theorem x_idx_ownO {t e : TypeId} {m' : Nat} {x y : Operand} {b o0 len ca : Nat} {kd : IntKind} {m : Int} (k o : Nat) (hx : ev σ x = some (.slice (some ⟨b, o0, none⟩) len ca)) (hy : ev σ y = some (.int kd m)) (hT : slTy P t = some (e, m'))
    (hm : m = (k : Int)) (hk : k < len) (ho : o0 + k * m' = o) (h : K (.pointer (some ⟨b, o, none⟩)) β Γ) : Jop P C (.indexAddr t x y) ty σ β Γ K :=
  x_pure (fun _ => by
    have := Pure_idx (P := P) (ty := ty) (w := ‹World›) (o := o0) hT hx hy hm hk
    rw [ho] at this
    exact this) h

/-- a[l:h] of an own slice. -/
theorem x_slice_own {t e : TypeId} {m : Nat} {x y z : Operand} {b o len ca : Nat} {ky kz : IntKind} {lo hi : Int} (kl kh o' : Nat) (hx : ev σ x = some (.slice (some ⟨b, o, none⟩) len ca)) (hy : ev σ y = some (.int ky lo)) (hz : ev σ z = some (.int kz hi))
    (hT : slTy P t = some (e, m)) (hkl : lo = (kl : Int)) (hkh : hi = (kh : Int)) (h1 : kl ≤ kh) (h2 : kh ≤ ca) (h3 : kl < ca) (ho : o + kl * m = o')
    (h : K (.slice (some ⟨b, o', none⟩) (kh - kl) (ca - kl)) β Γ) : Jop P C (.slice t x (some y) (some z) none) ty σ β Γ K :=
  x_pure (fun w ρ hρ => by
    obtain ⟨hu, _⟩ := slTy_some hT
    subst hkl; subst hkh; subst ho
    have := run_slice_lh (P := P) w t (some ⟨b, o, none⟩) len ca (by rw [elem_of hu]; exact hu) ky kz kl kh (by omega) (by omega) (by omega)
    have e1 : sliced (some ⟨b, o, none⟩) kl kh ca m = .slice (some ⟨b, o + kl * m, none⟩) (kh - kl) (ca - kl) := by
      have : ¬ ca = kl := by omega
      simp [sliced, this, Addr.add_mid]
    simp [execOp, bare, hρ _ _ hx, hρ _ _ hy, hρ _ _ hz, run_sliceAt hT, this, run_sizeOf' hT, e1]) h

/-- a[:h:m] of an own slice. -/
theorem x_slice_hm_own {t e : TypeId} {size : Nat} {x y z : Operand} {b o len ca : Nat} {ky kz : IntKind} {hi mx : Int} (k m : Nat) (hx : ev σ x = some (.slice (some ⟨b, o, none⟩) len ca)) (hy : ev σ y = some (.int ky hi)) (hz : ev σ z = some (.int kz mx))
    (hT : slTy P t = some (e, size)) (hk : hi = (k : Int)) (hm : mx = (m : Int)) (h1 : k ≤ m) (h3 : m ≤ ca)
    (h : K (.slice (some ⟨b, o, none⟩) k m) β Γ) : Jop P C (.slice t x none (some y) (some z)) ty σ β Γ K :=
  x_pure (fun w ρ hρ => by
    obtain ⟨hu, _⟩ := slTy_some hT
    subst hk; subst hm
    have := run_slice_hm (P := P) w t (some ⟨b, o, none⟩) len ca (by rw [elem_of hu]; exact hu) ky kz k m (by omega) (by omega) (by omega)
    have e1 : sliced (some ⟨b, o, none⟩) 0 k m size = .slice (some ⟨b, o, none⟩) k m := by simp [sliced, Addr.add]
    simp [execOp, bare, hρ _ _ hx, hρ _ _ hy, hρ _ _ hz, run_sliceAt hT, this, run_sizeOf' hT, e1]) h

/-! ### Fields of a fraction that is read -/

theorem x_field_rt {t : TypeId} {j off : Nat} {x : Operand} {b o : Nat} {γ : Type} {G : Enc γ} {y : γ} (hx : ev σ x = some (.pointer (some ⟨b, o, none⟩))) (hT : fldTy P t j = some off) (hf : ∀ w A, (∀ g ∈ Γ, g.holds w A) → (ptF G b (o + off) y).holds w A)
    (h : K (.pointer (some ⟨b, o + off, none⟩)) β (ptF G b (o + off) y :: Γ)) : Jop P C (.fieldAddr t x j) ty σ β Γ K := fun w hO hG =>
  Pure.done (Pure_field hT hx) h hO fun g hg => by
    rcases List.mem_cons.1 hg with rfl | hg
    · exact hf _ _ hG
    · exact hG g hg

theorem rt_f0 {w : World} {A : Nat → Prop} {b o : Nat} {z : Rt} (h : (ptF RatE b o z).holds w A) : (ptF encBool b (o + 0) z.1).holds w A := ptF_fst h
theorem rt_f1 {w : World} {A : Nat → Prop} {b o : Nat} {z : Rt} (h : (ptF RatE b o z).holds w A) : (ptF NatE b (o + 1) z.2.1).holds w A := ptF_fst (ptF_snd h)
theorem rt_f2 {w : World} {A : Nat → Prop} {b o : Nat} {z : Rt} (h : (ptF RatE b o z).holds w A) : (ptF NatE b (o + 2) z.2.2).holds w A := ptF_snd (ptF_snd h)

/-! ### Whole blocks -/

theorem x_bld_all {t : TypeId} {x : Operand} {b m : Nat} {T : TypeId} {cs : List Value} (n : Nat) (hx : ev σ x = some (.pointer (some ⟨b, 0, none⟩))) (hn : nth β n = some (some b, T, cs))
    (hT : ldTy P t = some (true, m)) (hl : cs.length = m) (h : K (.agg cs.toArray) β Γ) : Jop P C (.load t x) ty σ β Γ K :=
  x_bld_agg n hx hn hT (by simp [← hl]) hl h

theorem d_bld_all {t : TypeId} {x : Operand} {b m : Nat} {T : TypeId} {cs : List Value} (n : Nat) (hx : ev σ x = some (.pointer (some ⟨b, 0, none⟩))) (hn : nth β n = some (some b, T, cs))
    (hT : ldTy P t = some (true, m)) (hl : cs.length = m) : JD P (.load t x) ty σ β Γ (fun _ => .agg cs.toArray) (fun _ => []) :=
  d_bld_agg n hx hn hT (by simp [← hl]) hl

theorem x_bst_all {t : TypeId} {x y : Operand} {b m : Nat} {T : TypeId} {cs vs : List Value} (n : Nat) (hx : ev σ x = some (.pointer (some ⟨b, 0, none⟩))) (hy : ev σ y = some (.agg vs.toArray)) (hn : nth β n = some (some b, T, cs))
    (hT : ldTy P t = some (true, m)) (hl : vs.length = m) (hc : cs.length = m) (h1 : ∀ u ∈ vs, u.oneCell' = true) (h : K undef (setB β n vs) Γ) :
    Jop P C (.store t x y) ty σ β Γ K :=
  x_bst n hx hy hn (vs := vs) rfl (by rw [hl]; exact hT) h1 (by omega) (by simp [splice, hl, hc]) h

theorem x_box_agg {T : TypeId} {x : Operand} {cs : List Value} (hx : ev σ x = some (.agg cs.toArray)) (h : ∀ b, K (.pointer (some ⟨b, 0, none⟩)) ((some b, T, cs) :: β) Γ) : Jop P C (.box T x) ty σ β Γ K :=
  x_box hx rfl h

theorem x_box_one {T : TypeId} {x : Operand} {v : Value} (hx : ev σ x = some v) (hc : cellsL v = [v]) (h : ∀ b, K (.pointer (some ⟨b, 0, none⟩)) ((some b, T, [v]) :: β) Γ) : Jop P C (.box T x) ty σ β Γ K :=
  x_box hx hc h

/-! ### Rows of numbers with something behind them -/

theorem x_bld_natA {t : TypeId} {x : Operand} {b o m : Nat} {T : TypeId} {kd : IntKind} {l : List Nat} {rest : List Value} (n : Nat) (hx : ev σ x = some (.pointer (some ⟨b, o, none⟩))) (hn : nth β n = some (some b, T, natCells kd l ++ rest))
    (hT : ldTy P t = some (false, 1)) (hr : ∀ x ∈ l, x < m) (ho : o < l.length) (h : ∀ z, l[o]? = some z → z < m → K (.int kd z) β Γ) : Jop P C (.load t x) ty σ β Γ K := by
  have hz : l[o]? = some l[o] := by simp [ho]
  exact x_bld n hx hn hT (by rw [List.getElem?_append_left (by simpa using ho), natCells_get, hz]; rfl) (h _ hz (hr _ (List.getElem_mem ho)))

theorem x_bst_natA {t : TypeId} {x y : Operand} {b o : Nat} {T : TypeId} {kd : IntKind} {l : List Nat} {rest : List Value} {v : Int} (n z : Nat) (hx : ev σ x = some (.pointer (some ⟨b, o, none⟩))) (hy : ev σ y = some (.int kd v)) (hn : nth β n = some (some b, T, natCells kd l ++ rest))
    (hT : ldTy P t = some (false, 1)) (hv : v = (z : Int)) (ho : o < l.length) (h : K undef (setB β n (natCells kd (l.set o z) ++ rest)) Γ) : Jop P C (.store t x y) ty σ β Γ K := by
  subst hv
  exact x_bst1 n hx hy hn rfl hT rfl (by simp; omega) (by rw [List.set_append_left _ _ (by simpa using ho), natCells_set]; exact h)

/-! ### A part of a row of numbers -/

theorem mid_get {pre u post : List Nat} {i z : Nat} (h : u[i]? = some z) : (pre ++ u ++ post)[pre.length + i]? = some z := by
  have hi : i < u.length := (List.getElem?_eq_some_iff.1 h).1
  rw [List.append_assoc, List.getElem?_append_right (by omega), List.getElem?_append_left (by omega), show pre.length + i - pre.length = i by omega]
  exact h

theorem mid_set {pre u post : List Nat} {i z : Nat} (h : i < u.length) : (pre ++ u ++ post).set (pre.length + i) z = pre ++ u.set i z ++ post := by
  rw [List.append_assoc, List.set_append_right _ _ (by omega), List.set_append_left _ _ (by omega), show pre.length + i - pre.length = i by omega, List.append_assoc]

theorem x_bld_mid {t : TypeId} {x : Operand} {b o m : Nat} {T : TypeId} {kd : IntKind} {pre u post : List Nat} (n i : Nat) (hx : ev σ x = some (.pointer (some ⟨b, o, none⟩))) (hn : nth β n = some (some b, T, natCells kd (pre ++ u ++ post)))
    (hT : ldTy P t = some (false, 1)) (ho : o = pre.length + i) (hr : ∀ x ∈ u, x < m) (hi : i < u.length) (h : ∀ z, u[i]? = some z → z < m → K (.int kd z) β Γ) : Jop P C (.load t x) ty σ β Γ K := by
  have hz : u[i]? = some u[i] := by simp [hi]
  subst ho
  exact x_bld n hx hn hT (by rw [natCells_get, mid_get hz]; rfl) (h _ hz (hr _ (List.getElem_mem hi)))

theorem d_bld_mid {t : TypeId} {x : Operand} {b o z : Nat} {T : TypeId} {kd : IntKind} {pre u post : List Nat} (n i : Nat) (hx : ev σ x = some (.pointer (some ⟨b, o, none⟩))) (hn : nth β n = some (some b, T, natCells kd (pre ++ u ++ post)))
    (hT : ldTy P t = some (false, 1)) (ho : o = pre.length + i) (hz : u[i]? = some z) : JD P (.load t x) ty σ β Γ (fun _ => .int kd z) (fun _ => []) := by
  subst ho
  exact d_bld n hx hn hT (by rw [natCells_get, mid_get hz]; rfl)

theorem x_bst_mid {t : TypeId} {x y : Operand} {b o : Nat} {T : TypeId} {kd : IntKind} {pre u post : List Nat} {v : Int} (n i z : Nat) (hx : ev σ x = some (.pointer (some ⟨b, o, none⟩))) (hy : ev σ y = some (.int kd v)) (hn : nth β n = some (some b, T, natCells kd (pre ++ u ++ post)))
    (hT : ldTy P t = some (false, 1)) (hv : v = (z : Int)) (ho : o = pre.length + i) (hi : i < u.length) (h : K undef (setB β n (natCells kd (pre ++ u.set i z ++ post))) Γ) : Jop P C (.store t x y) ty σ β Γ K := by
  subst hv; subst ho
  exact x_bst1 n hx hy hn rfl hT rfl (by simp; omega) (by rw [natCells_set, mid_set hi]; exact h)

/-- A sum that wraps. -/
theorem x_add_u32 {x y : Operand} {t u : TypeId} {m n : Int} (hx : ev σ x = some (.int .u32 m)) (hy : ev σ y = some (.int .u32 n)) (h : K (.int .u32 ((m + n) % 4294967296)) β Γ) : Jop P C (.binOp .add t x y u) ty σ β Γ K :=
  x_pure (fun w ρ hρ => by
    simp [execOp, bare, hρ _ _ hx, hρ _ _ hy, eqGuard, Go.binOp, Op.intArith, IntKind.wrap, IntKind.bits, IntKind.signed]) h

theorem x_max {x y : Operand} {ts : Array TypeId} {k : IntKind} {m n : Int} (hx : ev σ x = some (.int k m)) (hy : ev σ y = some (.int k n)) (h : K (.int k (if m < n then n else m)) β Γ) :
    Jop P C (.call { callee := .builtin .max, args := #[x, y], argTypes := ts }) ty σ β Γ K :=
  x_pure (fun w ρ hρ => by
    simp [execOp, bare, resolve, invoke, builtin, Builtin.max_, Builtin.max2, hρ _ _ hx, hρ _ _ hy]) h

/-- A test that is decided. -/
theorem x_true {it : List (TypeId × IntKind)} (hit : IntTys P it) {q q' : Prop} [Decidable q] (h : pev it σ op = some (.bool (decide q), q')) (hq' : q') (hq : q) (hK : K (.bool true) β Γ) : Jop P C op ty σ β Γ K :=
  x_pure (fun w => by
    have := pev_sound (P := P) hit (ty := ty) h hq' w
    rwa [decide_eq_true hq] at this) hK

theorem x_false {it : List (TypeId × IntKind)} (hit : IntTys P it) {q q' : Prop} [Decidable q] (h : pev it σ op = some (.bool (decide q), q')) (hq' : q') (hq : ¬ q) (hK : K (.bool false) β Γ) : Jop P C op ty σ β Γ K :=
  x_pure (fun w => by
    have := pev_sound (P := P) hit (ty := ty) h hq' w
    rwa [decide_eq_false hq] at this) hK

theorem allF_flat {kd : IntKind} {by' : Nat} {w : World} {A : Nat → Prop} : ∀ {l : List Nat} {vss : List (List Value)}, AllRd (encNat kd by') vss l w A → vss.flatten = natCells kd l := by
  intro l
  induction l with
  | nil => intro vss h; have : vss = [] := List.eq_nil_of_length_eq_zero h.1; subst this; rfl
  | cons x l ih =>
    intro vss h
    cases vss with
    | nil => have := h.1; simp at this
    | cons vs vss =>
      have h0 : vs = [.int kd x] := (h.2 0 vs x rfl rfl).1
      have h1 := ih (vss := vss) ⟨by have := h.1; simpa using this, fun i us y hu hy => h.2 (i + 1) us y (by simpa using hu) (by simpa using hy)⟩
      subst h0
      simp only [List.flatten_cons, h1, natCells, List.map_cons, List.singleton_append]

theorem j_flat {kd : IntKind} {by' : Nat} {vss : List (List Value)} {l : List Nat} (n : Nat) (hn : nth Γ n = some (allF (encNat kd by') vss l)) (h : vss.flatten = natCells kd l → J F C S σ β Γ R) : J F C S σ β Γ R :=
  j_know (fun _ _ hG => allF_flat (hG _ (fact_mem hn))) h

/-! ### Fractions and pairs as results -/

/-- A row of numbers that is the caller's own. -/
abbrev Ov (e : TypeId) (l : List Nat) : Value → List Fact → List Blk → Prop := fun v Φ β => ∃ bo cap rest, v = .slice (ad bo) l.length cap ∧ GrOk bo l.length cap 1 (natCells .u32 l ++ rest) ∧ Φ = [] ∧ β = [(bo, e, natCells .u32 l ++ rest)]

/-- A slice and an int. -/
abbrev S2 {α : Type} (E : Enc α) (l : List α) (e : Int) : Value → List Fact → List Blk → Prop := fun v Φ β => ∃ pa ca, v = .tuple #[.slice pa l.length ca, .int .i64 e] ∧ Φ = [slF E pa l.length ca l] ∧ β = []

/-- A fraction is given, its parts read so. -/
abbrev RtV (r : Rt) : Value → List Fact → List Blk → Prop := fun v Φ β => ∃ pn cn pd cd, v = .agg #[.bool r.1, .slice pn r.2.1.length cn, .slice pd r.2.2.length cd] ∧ Φ = [slF U32 pn r.2.1.length cn r.2.1, slF U32 pd r.2.2.length cd r.2.2] ∧ β = []

/-- A fraction, and an error. -/
abbrev RtE (r : Rt) (e : Int) : Value → List Fact → List Blk → Prop := fun v Φ β => ∃ pn cn pd cd, v = .tuple #[.agg #[.bool r.1, .slice pn r.2.1.length cn, .slice pd r.2.2.length cd], .int .i64 e] ∧ Φ = [slF U32 pn r.2.1.length cn r.2.1, slF U32 pd r.2.2.length cd r.2.2] ∧ β = []

def valQ (x : Rt) : Gh → Value := fun g => .agg #[.bool x.1, .slice (g 0).1 x.2.1.length (g 0).2.1, .slice (g 1).1 x.2.2.length (g 1).2.1]
def facQ (x : Rt) : Gh → List Fact := fun g => [slF U32 (g 0).1 x.2.1.length (g 0).2.1 x.2.1, slF U32 (g 1).1 x.2.2.length (g 1).2.1 x.2.2]

end

section
variable {P : Program} {F : Fun P} {C : Cx} {S : List It} {σ : Fr} {β : List Blk} {Γ : List Fact} {R : Value → World → Prop}

/-- A fraction's cells, out of the facts on its parts. -/
theorem rd_rt {w : World} {A : Nat → Prop} {b : Bool} {pn pd : Option Addr} {n m cn cd : Nat} {N D : List Nat} (h1 : (slF U32 pn n cn N).holds w A) (h2 : (slF U32 pd m cd D).holds w A) : RatE.rd w A [.bool b, .slice pn n cn, .slice pd m cd] (b, N, D) := by
  obtain ⟨rfl, h1⟩ := h1
  obtain ⟨rfl, h2⟩ := h2
  exact rt_shut (x := (b, N, D)) h1 h2

/-- A literal is given up: from here on it is read alone. -/
theorem j_pub_all {α : Type} {E : Enc α} {e : TypeId} {b n : Nat} {cs : List Value} (vss : List (List Value)) (ls : List α) (k : Nat) (hall : ∀ w A, (∀ g ∈ Γ, g.holds w A) → AllRd E vss ls w A)
    (hn : nth β k = some (some b, e, cs)) (hc : vss.flatten = cs) (hl : n = ls.length) (hcs : cs.length = n * E.size) (hby : n * E.bytes ≤ 140737488355328) (h63 : n ≤ 9223372036854775807)
    (h : J F C S σ (β.eraseIdx k) (slF E (some ⟨b, 0, none⟩) n n ls :: Γ) R) : J F C S σ β Γ R :=
  j_add (allF E vss ls) hall
    (j_pub (bo := some b) (cap := n) k 0 hn rfl (.inr ⟨b, rfl, Nat.le_refl _, h63, hcs⟩) (by rw [hc, ← hcs, List.take_length]) hl hby (j_weak (fun f hf => by
      rcases List.mem_cons.1 hf with rfl | hf
      · exact .head _
      · exact .tail _ (.tail _ hf)) h))

end

section
variable {P : Program} {F : Fun P} {C : Cx} {S : List It} {R : Value → World → Prop} {β : List Blk} {Γ : List Fact} {it : List (TypeId × IntKind)} {L : List Oper} {pos : List Po} {pt : List (List Nat)} {p : List Nat} {σ κ : Fr} {fs : List (Nat × Fact)} {al : List Blk} {i : Nat} {op : Op} {ty : TypeId} {d : Option Tmp}

/-- A fraction, in a region that draws its order. -/
theorem lxk_rq {k : Nat} {z : Rt} (ho : opL F.fn.ntmps L κ i = some (d, op, ty)) (hJ : JD P op ty σ β (sel (preAt pt i) fs ++ Γ) (valQ z) (facQ z))
    (h : ∀ pn cn pd cd, LxK it F C p S L pt β Γ R k (i + 1) pos (delF d κ) (putF d (.agg #[.bool z.1, .slice pn z.2.1.length cn, .slice pd z.2.2.length cd]) σ) ((i, slF U32 pn z.2.1.length cn z.2.1) :: (i, slF U32 pd z.2.2.length cd z.2.2) :: fs) al) :
    LxK it F C p S L pt β Γ R k i (.fa (valQ z) (facQ z) :: pos) κ σ fs al := lxk_fa ho hJ fun x => h (x 0).1 (x 0).2.1 (x 1).1 (x 1).2.1

/-- A literal, in a region that draws its order. -/
theorem dk_all {α : Type} {E : Enc α} {e : TypeId} {b n : Nat} {cs : List Value} (vss : List (List Value)) (ls : List α) (hall : ∀ w A, (∀ g ∈ Γ, g.holds w A) → AllRd E vss ls w A) (hc : vss.flatten = cs) (hl : n = ls.length) (hcs : cs.length = n * E.size) (hby : n * E.bytes ≤ 140737488355328) :
    DK (valS n) (facS E n ls) (.slice (some ⟨b, 0, none⟩) n n) [(some b, e, cs)] Γ := fun C w hO hG => by
  refine ⟨fun _ => (some ⟨b, 0, none⟩, n, 0), rfl, one_mem ⟨hl, ?_⟩⟩
  have hall := hall _ _ hG
  have hb := hO.blk _ (.head _) b rfl
  have hnew := hO.new _ (.head _) b rfl
  have hlt := hO.lt (.head _) rfl
  refine ⟨by show ls.length ≤ n; omega, by rw [← hl]; exact hby, .inr ⟨b, 0, rfl, ⟨by rcases hnew with h | h; exact .inr (.inr h); exact .inr (.inl h), hlt, fun x hx => by cases hx⟩, fun i x hi => ?_⟩⟩
  have hlti : i < ls.length := (List.getElem?_eq_some_iff.1 hi).1
  obtain ⟨vs, hvs⟩ : ∃ vs, vss[i]? = some vs := ⟨vss[i]'(hall.1.symm ▸ hlti), by simp⟩
  have hpart := flatten_part (allF_len hall) i vs hvs
  have hrd := hall.2 i vs x hvs hi
  refine ⟨vs, ⟨cs.toArray, e, (0, 0), hb, ?_, E.len hrd⟩, E.stable (fun _ hk => ⟨⟨hk.1, hk.2.1, fun x hx => by cases hx⟩, rfl⟩) hrd⟩
  rw [← hpart, ← hc, Nat.zero_add]

theorem dk_rq {x : Rt} {pn pd : Option Addr} {cn cd : Nat} (j j' : Nat) (hj : nth Γ j = some (slF U32 pn x.2.1.length cn x.2.1)) (hj' : nth Γ j' = some (slF U32 pd x.2.2.length cd x.2.2)) :
    DK (valQ x) (facQ x) (.agg #[.bool x.1, .slice pn x.2.1.length cn, .slice pd x.2.2.length cd]) β Γ :=
  fun _ _ _ hG => ⟨fun | 0 => (pn, cn, 0) | _ => (pd, cd, 0), rfl, fun g hg => by
    simp only [facQ, List.mem_cons, List.not_mem_nil, or_false] at hg
    rcases hg with rfl | rfl
    · exact drop_own (hG _ (fact_mem hj))
    · exact drop_own (hG _ (fact_mem hj'))⟩

end
end Go.Fw

namespace Go.Fw
open Go.RowKit (Below)
set_option linter.unusedVariables false

/-- A row of one's own: its block, its room, its cells. -/
structure Row where
  bo : Option Nat
  cap : Nat
  cs : List Value

/-- An own row, as it stands: it reads as l. -/
def rowF {α : Type} (E : Enc α) (r : Row) (n : Nat) (l : List α) : Fact where
  holds := fun w A => n = l.length ∧ GrOk r.bo n r.cap E.size r.cs ∧ ∃ vss, AllRd E vss l w A ∧ r.cs.take (n * E.size) = vss.flatten
  stable := fun h ⟨h1, h2, vss, h3, h4⟩ => ⟨h1, h2, vss, (allF E vss _).stable h h3, h4⟩

theorem allrd_add {α : Type} {E : Enc α} {w : World} {A : Nat → Prop} {vss : List (List Value)} {l : List α} {vs : List Value} {x : α} (h : AllRd E vss l w A) (hx : E.rd w A vs x) : AllRd E (vss ++ [vs]) (l ++ [x]) w A := by
  refine ⟨by simp [h.1], fun i us y hu hy => ?_⟩
  by_cases hi : i < l.length
  · rw [List.getElem?_append_left (by rw [h.1]; exact hi)] at hu
    rw [List.getElem?_append_left hi] at hy
    exact h.2 i us y hu hy
  · have hi2 : i < (l ++ [x]).length := (List.getElem?_eq_some_iff.1 hy).1
    have e : i = l.length := by simp at hi2; omega
    subst e
    rw [List.getElem?_append_right (by rw [h.1]; omega), h.1, Nat.sub_self] at hu
    rw [List.getElem?_append_right (by omega), Nat.sub_self] at hy
    simp at hu hy
    subst hu; subst hy
    exact hx

theorem allrd_app {α : Type} {E : Enc α} {w : World} {A : Nat → Prop} {vss vss' : List (List Value)} {l l' : List α} (h : AllRd E vss l w A) (h' : AllRd E vss' l' w A) : AllRd E (vss ++ vss') (l ++ l') w A := by
  refine ⟨by simp [h.1, h'.1], fun i us y hu hy => ?_⟩
  by_cases hi : i < l.length
  · rw [List.getElem?_append_left (by rw [h.1]; exact hi)] at hu
    rw [List.getElem?_append_left hi] at hy
    exact h.2 i us y hu hy
  · rw [List.getElem?_append_right (by rw [h.1]; omega), h.1] at hu
    rw [List.getElem?_append_right (by omega)] at hy
    exact h'.2 _ us y hu hy

theorem allrd_set {α : Type} {E : Enc α} {w : World} {A : Nat → Prop} {vss : List (List Value)} {l : List α} {vs : List Value} {x : α} (h : AllRd E vss l w A) (hx : E.rd w A vs x) (i : Nat) : AllRd E (vss.set i vs) (l.set i x) w A := by
  refine ⟨by simp [h.1], fun j us y hu hy => ?_⟩
  by_cases hj : i = j
  · subst hj
    have h1 : i < l.length := by
      have := (List.getElem?_eq_some_iff.1 hy).1
      simpa using this
    rw [List.getElem?_set_self (by rw [h.1]; exact h1)] at hu
    rw [List.getElem?_set_self h1] at hy
    obtain rfl := Option.some.inj hu
    obtain rfl := Option.some.inj hy
    exact hx
  · rw [List.getElem?_set_ne hj] at hu hy
    exact h.2 j us y hu hy

theorem allrd_rep {α : Type} {E : Enc α} {w : World} {A : Nat → Prop} {vs : List Value} {x : α} (hx : E.rd w A vs x) (n : Nat) : AllRd E (List.replicate n vs) (List.replicate n x) w A := by
  refine ⟨by simp, fun i us y hu hy => ?_⟩
  rw [List.getElem?_replicate] at hu hy
  split at hu
  · obtain rfl := Option.some.inj hu
    rw [if_pos (by assumption)] at hy
    obtain rfl := Option.some.inj hy
    exact hx
  · cases hu

theorem take_set_flat {m : Nat} : ∀ {vss : List (List Value)} {cs : List Value} {n i : Nat} {vs : List Value}, (∀ v ∈ vss, v.length = m) → vss.length = n → cs.take (n * m) = vss.flatten → i < n → vs.length = m → (splice cs (i * m) vs).take (n * m) = (vss.set i vs).flatten := by
  intro vss
  induction vss with
  | nil => intro cs n i vs _ h1 _ h2 _; simp at h1; omega
  | cons v vss ih =>
    intro cs n i vs hm hl ht hi hv
    obtain ⟨n, rfl⟩ : ∃ k, n = k + 1 := ⟨n - 1, by simp at hl; omega⟩
    have hvl : v.length = m := hm v (.head _)
    have hlen : (n + 1) * m ≤ cs.length := by
      have := congrArg List.length ht
      rw [flatten_len hm, List.length_take, hl] at this
      omega
    rw [Nat.succ_mul] at hlen
    have hcs : cs = v ++ cs.drop m := by
      have h1 : (cs.take ((n + 1) * m)).take m = v := by rw [ht, List.flatten_cons, List.take_append_of_le_length (by omega), List.take_of_length_le (by omega)]
      rw [List.take_take, Nat.min_eq_left (by rw [Nat.succ_mul]; omega)] at h1
      conv => lhs; rw [← List.take_append_drop m cs, h1]
    have ht' : (cs.drop m).take (n * m) = vss.flatten := by
      have h1 : (cs.take ((n + 1) * m)).drop m = vss.flatten := by rw [ht, List.flatten_cons, List.drop_append_of_le_length (by omega), List.drop_of_length_le (by omega), List.nil_append]
      rw [List.drop_take] at h1
      have e : (n + 1) * m - m = n * m := by rw [Nat.succ_mul]; omega
      rw [e] at h1; exact h1
    cases i with
    | zero =>
      have hsp : splice cs (0 * m) vs = vs ++ cs.drop m := by simp [splice, hv]
      rw [hsp, List.set_cons_zero, List.flatten_cons, ← ht', Nat.succ_mul, Nat.add_comm (n * m) m, ← hv, List.take_length_add_append]
    | succ i =>
      have hsp : splice cs ((i + 1) * m) vs = v ++ splice (cs.drop m) (i * m) vs := by
        simp only [splice]
        conv => lhs; rw [hcs]
        rw [Nat.succ_mul, Nat.add_comm (i * m) m, ← hvl, List.take_length_add_append]
        rw [List.append_assoc, List.append_assoc, List.append_assoc, Nat.add_assoc v.length, List.drop_length_add_append]
      have := ih (cs := cs.drop m) (n := n) (i := i) (vs := vs) (fun u hu => hm u (.tail _ hu)) (by simpa using hl) ht' (by omega) hv
      rw [hsp, List.set_cons_succ, List.flatten_cons, ← this, Nat.succ_mul, Nat.add_comm (n * m) m, ← hvl, List.take_length_add_append]

theorem splice_len {cs vs : List Value} {o : Nat} (h : o + vs.length ≤ cs.length) : (splice cs o vs).length = cs.length := by
  simp only [splice, List.length_append, List.length_take, List.length_drop]; omega

/-- What the cells of a struct are, and what is known of them. -/
structure Vw {α : Type} (E : Enc α) where
  val : α → Gh → List Value
  fs : α → Gh → List Fact
  ok : ∀ {w : World} {A : Nat → Prop} {vs : List Value} {z : α}, E.rd w A vs z → ∃ g, vs = val z g ∧ ∀ φ ∈ fs z g, φ.holds w A

abbrev vw_RatE : Vw RatE where
  val := fun z g => [.bool z.1, .slice (g 0).1 z.2.1.length (g 0).2.1, .slice (g 1).1 z.2.2.length (g 1).2.1]
  fs := fun z g => [slF U32 (g 0).1 z.2.1.length (g 0).2.1 z.2.1, slF U32 (g 1).1 z.2.2.length (g 1).2.1 z.2.2]
  ok := fun h => by
    obtain ⟨pn, cn, pd, cd, e, h1, h2⟩ := rt_open h
    refine ⟨fun | 0 => (pn, cn, 0) | _ => (pd, cd, 0), e, fun φ hφ => ?_⟩
    simp only [List.mem_cons, List.not_mem_nil, or_false] at hφ
    rcases hφ with rfl | rfl
    · exact ⟨rfl, h1⟩
    · exact ⟨rfl, h2⟩

/-- A number with a sign. -/
abbrev IntE : Enc (Bool × List Nat) := encPair encBool NatE 32
abbrev vw_IntE : Vw IntE where
  val := fun z g => [.bool z.1, .slice (g 0).1 z.2.length (g 0).2.1]
  fs := fun z g => [slF U32 (g 0).1 z.2.length (g 0).2.1 z.2]
  ok := fun h => by
    obtain ⟨v1, v2, rfl, h1, pn, cn, rfl, h2⟩ := h
    have : v1 = [.bool _] := h1
    subst this
    refine ⟨fun _ => (pn, cn, 0), rfl, fun φ hφ => ?_⟩
    obtain rfl := List.mem_singleton.1 hφ
    exact ⟨rfl, h2⟩

/-! ### Own blocks by their places -/
def pickL : List Blk → List Nat → Option (List Blk)
  | _, [] => some []
  | β, n :: l => match nth β n, pickL β l with
    | some x, some xs => some (x :: xs)
    | _, _ => none
def freshB : List Nat → Bool
  | [] => true
  | n :: l => !(memB n l) && freshB l
theorem pickL_mem {β : List Blk} : ∀ {ix : List Nat} {β' : List Blk}, pickL β ix = some β' → ∀ y ∈ β', ∃ n ∈ ix, nth β n = some y := by
  intro ix
  induction ix with
  | nil => intro β' h y hy; simp [pickL] at h; subst h; cases hy
  | cons n l ih =>
    intro β' h y hy
    simp only [pickL] at h
    cases h1 : nth β n with
    | none => rw [h1] at h; simp at h
    | some x =>
      cases h2 : pickL β l with
      | none => rw [h1, h2] at h; simp at h
      | some xs =>
        rw [h1, h2] at h
        obtain rfl : x :: xs = β' := by simpa using h
        rcases List.mem_cons.1 hy with rfl | hy
        · exact ⟨n, .head _, h1⟩
        · obtain ⟨m, hm, h3⟩ := ih h2 y hy
          exact ⟨m, .tail _ hm, h3⟩
theorem distinct_nth {β : List Blk} (h : Distinct β) {i j : Nat} {x y : Blk} (hi : nth β i = some x) (hj : nth β j = some y) (hij : i ≠ j) : ∀ b, x.1 = some b → y.1 ≠ some b := by
  rw [nth_eq] at hi hj
  have hp := List.pairwise_iff_getElem.1 (distinct_iff.1 h)
  obtain ⟨h1, rfl⟩ := List.getElem?_eq_some_iff.1 hi
  obtain ⟨h2, rfl⟩ := List.getElem?_eq_some_iff.1 hj
  rcases Nat.lt_or_gt_of_ne hij with hl | hl
  · exact hp i j h1 h2 hl
  · intro b hb hb2
    exact hp j i h2 h1 hl b hb2 hb
theorem pickL_distinct {β : List Blk} (h : Distinct β) : ∀ {ix : List Nat} {β' : List Blk}, pickL β ix = some β' → freshB ix = true → Distinct β' := by
  intro ix
  induction ix with
  | nil => intro β' hp _; simp [pickL] at hp; subst hp; exact trivial
  | cons n l ih =>
    intro β' hp hf
    simp only [pickL] at hp
    simp only [freshB, Bool.and_eq_true, Bool.not_eq_true'] at hf
    cases h1 : nth β n with
    | none => rw [h1] at hp; simp at hp
    | some x =>
      cases h2 : pickL β l with
      | none => rw [h1, h2] at hp; simp at hp
      | some xs =>
        rw [h1, h2] at hp
        obtain rfl : x :: xs = β' := by simpa using hp
        refine ⟨fun y hy => ?_, ih h2 hf.2⟩
        obtain ⟨m, hm, h3⟩ := pickL_mem h2 y hy
        refine distinct_nth h h1 h3 fun e => ?_
        subst e
        have := memB_iff.2 hm
        rw [hf.1] at this
        cases this

/-! ### Parts of a struct's reading -/
theorem rd_pair {α γ : Type} {E : Enc α} {G : Enc γ} {n : Nat} {w : World} {A : Nat → Prop} {v1 v2 : List Value} {x : α} {y : γ} (h1 : E.rd w A v1 x) (h2 : G.rd w A v2 y) : (encPair E G n).rd w A (v1 ++ v2) (x, y) := ⟨v1, v2, rfl, h1, h2⟩
theorem rd_bool {w : World} {A : Nat → Prop} (b : Bool) : encBool.rd w A [.bool b] b := rfl
theorem rd_int {k : IntKind} {by' : Nat} {w : World} {A : Nat → Prop} {n : Int} (h : InR k n) : (encInt k by').rd w A [.int k n] n := ⟨rfl, h⟩
theorem rd_nat {k : IntKind} {by' : Nat} {w : World} {A : Nat → Prop} {n : Nat} {m : Int} (e : m = n) (h : InR k n) : (encNat k by').rd w A [.int k m] n := ⟨by rw [e], h⟩
theorem rd_nilsl {α : Type} {E : Enc α} {w : World} {A : Nat → Prop} : (encSl E).rd w A [.slice none 0 0] [] := rd_of_slF (slF_nil E w A none 0)

section
variable {P : Program} {F : Fun P} {C : Cx} {S : List It} {σ : Fr} {β : List Blk} {Γ : List Fact} {R : Value → World → Prop} {p : List Nat} {i : Nat} {d : Option Tmp} {op : Op} {ty : TypeId} {K : Value → List Blk → List Fact → Prop}

/-- Some of the own blocks, in whatever order. -/
theorem j_selB {β' : List Blk} (ix : List Nat) (hf : freshB ix = true) (hp : pickL β ix = some β') (h : J F C S σ β' Γ R) : J F C S σ β Γ R := fun w hO hG => by
  have hsub : ∀ y ∈ β', y ∈ β := fun y hy => by
    obtain ⟨n, _, hn⟩ := pickL_mem hp y hy
    exact nth_mem hn
  refine h w ⟨hO.ext, fun x hx => hO.new x (hsub x hx), fun x hx => hO.blk x (hsub x hx), pickL_distinct hO.apart hp hf⟩ fun f hf => ?_
  exact f.stable (fun k hk => ⟨⟨hk.1, hk.2.1, fun x hx => hk.2.2 x (hsub x hx)⟩, rfl⟩) (hG f hf)

theorem j_toX {σ' : Fr} {β' : List Blk} {Γ' : List Fact} (ix l : List Nat) (hs : Fr.sub σ' σ) (hf : freshB ix = true) (hb : pickL β ix = some β') (hp : pick Γ l = some Γ') (h : J F C S σ' β' Γ' R) : J F C S σ β Γ R :=
  j_selB ix hf hb (j_to l hs rfl hp h)

/-- A number in a slot, written otherwise. -/
theorem j_recast {t : Nat} {k : IntKind} {m : Int} (n : Int) (h : Fr.get t σ = some (.int k m)) (e : m = n) (hJ : J F C S ((t, .int k n) :: σ) β Γ R) : J F C S σ β Γ R :=
  j_sub (Fr.sub_consI h e (Fr.sub_refl _)) hJ

/-- A row that is nil still. -/
theorem j_row0 {α : Type} (E : Enc α) (e : TypeId) (h : J F C S σ ((none, e, []) :: β) (rowF E ⟨none, 0, []⟩ 0 [] :: Γ) R) : J F C S σ β Γ R :=
  j_nil e (j_add (rowF E ⟨none, 0, []⟩ 0 []) (fun w A _ => ⟨rfl, GrOk.nil _, [], allrd_nil, by simp⟩) h)

/-- A literal that will grow or change. -/
theorem j_rowlit {α : Type} {E : Enc α} {e : TypeId} {b n : Nat} {cs : List Value} (vss : List (List Value)) (ls : List α) (k : Nat) (hall : ∀ w A, (∀ g ∈ Γ, g.holds w A) → AllRd E vss ls w A)
    (hn : nth β k = some (some b, e, cs)) (hc : vss.flatten = cs) (hl : n = ls.length) (hcs : cs.length = n * E.size) (h63 : n ≤ 9223372036854775807)
    (h : J F C S σ β (rowF E ⟨some b, n, cs⟩ n ls :: Γ) R) : J F C S σ β Γ R :=
  j_add (rowF E ⟨some b, n, cs⟩ n ls) (fun w A hG => ⟨hl, .inr ⟨b, rfl, Nat.le_refl _, h63, hcs⟩, vss, hall w A hG, by show cs.take _ = _; rw [← hcs, List.take_length, hc]⟩) h

theorem j_rowlen {α : Type} {E : Enc α} {r : Row} {n : Nat} {l : List α} (j : Nat) (hj : nth Γ j = some (rowF E r n l)) (h : n = l.length → J F C S σ β Γ R) : J F C S σ β Γ R :=
  j_know (fun w A hG => (hG _ (fact_mem hj)).1) h

/-- A row that is not empty has a block. -/
theorem j_rowB {α : Type} {E : Enc α} {r : Row} {n : Nat} {l : List α} (j : Nat) (hj : nth Γ j = some (rowF E r n l)) (h0 : 0 < n) (h : ∀ b cap cs, r = ⟨some b, cap, cs⟩ → J F C S σ β Γ R) : J F C S σ β Γ R :=
  j_know (q := ∃ b, r.bo = some b) (fun w A hG => by
    obtain ⟨_, hg, _⟩ := hG _ (fact_mem hj)
    rcases hg with ⟨_, h1, _⟩ | ⟨b, hb, _⟩
    · omega
    · exact ⟨b, hb⟩) fun ⟨b, hb⟩ => by
      obtain ⟨bo, cap, cs⟩ := r
      have hb : bo = some b := hb
      subst hb
      exact h b cap cs rfl

/-- A row is given up. -/
theorem j_pubR {α : Type} {E : Enc α} {e : TypeId} {r : Row} {n : Nat} {l : List α} (k j : Nat) (hn : nth β k = some (r.bo, e, r.cs)) (hj : nth Γ j = some (rowF E r n l)) (hby : n * E.bytes ≤ 140737488355328)
    (h : J F C S σ (β.eraseIdx k) (slF E (ad r.bo) n r.cap l :: Γ) R) : J F C S σ β Γ R := fun w hO hG => by
  obtain ⟨hl, hg, vss, hall, ht⟩ := hG _ (fact_mem hj)
  have hG' : ∀ f ∈ allF E vss l :: Γ, f.holds w (ok C w β) := fun f hf => by
    rcases List.mem_cons.1 hf with rfl | hf
    · exact hall
    · exact hG f hf
  exact j_pub (Γ := allF E vss l :: Γ) k 0 hn rfl hg ht hl hby (j_weak (fun f hf => by
    rcases List.mem_cons.1 hf with rfl | hf
    · exact .head _
    · exact .tail _ (.tail _ hf)) h) w hO hG'

/-- One element is appended: a literal of one's own. -/
theorem x_appR {α : Type} {E : Enc α} {t e e2 : TypeId} {x y : Operand} {r : Row} {n c b2 : Nat} {cs2 zs : List Value} {l : List α} {z : α} (k j i : Nat)
    (hn : nth β k = some (r.bo, e, r.cs)) (hi : nth Γ i = some (rowF E r n l)) (hj : nth β j = some (some b2, e2, cs2)) (hx : ev σ x = some (.slice (ad r.bo) n r.cap)) (hy : ev σ y = some (.slice (some ⟨b2, 0, none⟩) 1 c))
    (hT : slTy P t = some (e, E.size)) (hz : zeroOf P e = some zs) (hzl : zs.length = E.size) (hrd : ∀ w A, (∀ g ∈ Γ, g.holds w A) → E.rd w A cs2 z)
    (hmax : n + 1 ≤ 9223372036854775807) (by' : Nat) (hbe : P.bytesOf e = by') (hby : (n + 1) * by' ≤ 140737488355328)
    (h : ∀ r' : Row, K (.slice (ad r'.bo) (n + 1) r'.cap) ((r'.bo, e, r'.cs) :: β.eraseIdx k) (rowF E r' (n + 1) (l ++ [z]) :: Γ)) :
    Jop P C (.call { callee := .builtin .append, args := #[x, y], argTypes := #[t, t] }) ty σ β Γ K := fun w hO hG => by
  obtain ⟨hl, hg, vss, hall, ht⟩ := hG _ (fact_mem hi)
  have hrd' := hrd w _ hG
  have hlen := E.len hrd'
  have hG' : ∀ f ∈ allF E (vss ++ [cs2]) (l ++ [z]) :: Γ, f.holds w (ok C w β) := fun f hf => by
    rcases List.mem_cons.1 hf with rfl | hf
    · exact allrd_add hall hrd'
    · exact hG f hf
  refine (x_app (C := C) (β := β) (Γ := allF E (vss ++ [cs2]) (l ++ [z]) :: Γ) (K := fun v β' Γ' => ∃ r' : Row, v = .slice (ad r'.bo) (n + 1) r'.cap ∧ β' = (r'.bo, e, r'.cs) :: β.eraseIdx k ∧ Γ' = allF E (vss ++ [cs2]) (l ++ [z]) :: Γ ∧ GrOk r'.bo (n + 1) r'.cap E.size r'.cs ∧ r'.cs.take ((n + 1) * E.size) = (vss ++ [cs2]).flatten)
    k j hn hj hx hy hT hz hzl hg (news := cs2) (by rw [Nat.one_mul, ← hlen, List.take_length]) (by rw [Nat.one_mul, hlen]) (E.one hrd') hmax by' hbe hby (fun bo' cap' cs' h1 h2 => ⟨⟨bo', cap', cs'⟩, rfl, rfl, rfl, h1, by show cs'.take _ = _; rw [h2, ht]; simp⟩) w hO hG').mono ?_
  rintro v w' ⟨β', Γ', ⟨r', rfl, rfl, rfl, h1, h2⟩, hO', hG''⟩
  refine ⟨_, _, h r', hO', fun f hf => ?_⟩
  rcases List.mem_cons.1 hf with rfl | hf
  · exact ⟨by simp [hl], h1, _, hG'' _ (.head _), h2⟩
  · exact hG'' f (.tail _ hf)

/-- A slice that is read is appended. -/
theorem x_appS {α : Type} {E : Enc α} {t e : TypeId} {x y : Operand} {r : Row} {n m c : Nat} {pa : Option Addr} {zs : List Value} {l l2 : List α} (k i j : Nat)
    (hn : nth β k = some (r.bo, e, r.cs)) (hi : nth Γ i = some (rowF E r n l)) (hj : nth Γ j = some (slF E pa m c l2)) (hx : ev σ x = some (.slice (ad r.bo) n r.cap)) (hy : ev σ y = some (.slice pa m c))
    (hT : slTy P t = some (e, E.size)) (hz : zeroOf P e = some zs) (hzl : zs.length = E.size)
    (hmax : n + m ≤ 9223372036854775807) (by' : Nat) (hbe : P.bytesOf e = by') (hby : (n + m) * by' ≤ 140737488355328)
    (h : ∀ r' : Row, K (.slice (ad r'.bo) (n + m) r'.cap) ((r'.bo, e, r'.cs) :: β.eraseIdx k) (rowF E r' (n + m) (l ++ l2) :: Γ)) :
    Jop P C (.call { callee := .builtin .append, args := #[x, y], argTypes := #[t, t] }) ty σ β Γ K := fun w hO hG => by
  obtain ⟨hl, hg, vss, hall, ht⟩ := hG _ (fact_mem hi)
  obtain ⟨hl2, _⟩ := hG _ (fact_mem hj)
  have hG' : ∀ f ∈ allF E vss l :: Γ, f.holds w (ok C w β) := fun f hf => by
    rcases List.mem_cons.1 hf with rfl | hf
    · exact hall
    · exact hG f hf
  refine (x_app_sl (C := C) (β := β) (Γ := allF E vss l :: Γ) (K := fun v β' Γ' => ∃ (r' : Row) (vs2 : List (List Value)), v = .slice (ad r'.bo) (n + m) r'.cap ∧ β' = (r'.bo, e, r'.cs) :: β.eraseIdx k ∧ Γ' = allF E vs2 l2 :: allF E vss l :: Γ ∧ GrOk r'.bo (n + m) r'.cap E.size r'.cs ∧ r'.cs.take ((n + m) * E.size) = (vss ++ vs2).flatten)
    k (j + 1) hn hj hx hy hT hz hzl hg hmax by' hbe hby (fun bo' cap' cs' vs2 h1 h2 => ⟨⟨bo', cap', cs'⟩, vs2, rfl, rfl, rfl, h1, by show cs'.take _ = _; rw [h2, ht]; simp⟩) w hO hG').mono ?_
  rintro v w' ⟨β', Γ', ⟨r', vs2, rfl, rfl, rfl, h1, h2⟩, hO', hG''⟩
  refine ⟨_, _, h r', hO', fun f hf => ?_⟩
  rcases List.mem_cons.1 hf with rfl | hf
  · exact ⟨by simp [hl, hl2], h1, _, allrd_app (hG'' _ (.tail _ (.head _))) (hG'' _ (.head _)), h2⟩
  · exact hG'' f (.tail _ (.tail _ hf))

/-- A row is made, all of its elements the same. -/
theorem x_makeR {α : Type} (E : Enc α) (z0 : α) {t e : TypeId} {x y : Operand} {kd kc : IntKind} {nn : Int} {zs : List Value} (k by' : Nat) (hx : ev σ x = some (.int kd nn)) (hy : ev σ y = some (.int kc nn)) (hT : slTy P t = some (e, E.size))
    (hz : zeroOf P e = some zs) (hl : zs.length = E.size) (hp : Nat.beq E.size 0 = false) (hby : P.bytesOf e = by') (hm : nn = (k : Int)) (hk : by' * k ≤ 281474976710656) (h63 : k ≤ 9223372036854775807) (hrd : ∀ w A, E.rd w A zs z0)
    (h : ∀ b cs, K (.slice (some ⟨b, 0, none⟩) k k) ((some b, e, cs) :: β) (rowF E ⟨some b, k, cs⟩ k (List.replicate k z0) :: Γ)) : Jop P C (.makeSlice t x y) ty σ β Γ K := fun w hO hG => by
  refine (x_make (C := C) (β := β) (Γ := Γ) (K := fun v β' Γ' => ∃ b, v = .slice (some ⟨b, 0, none⟩) k k ∧ β' = (some b, e, (List.replicate k zs).flatten) :: β ∧ Γ' = Γ) k by' hx hy hT hz hl hp hby hm hk h63 (fun b => ⟨b, rfl, rfl, rfl⟩) w hO hG).mono ?_
  rintro v w' ⟨β', Γ', ⟨b, rfl, rfl, rfl⟩, hO', hG'⟩
  have hlen : ((List.replicate k zs).flatten).length = k * E.size := by rw [flatten_len (m := E.size) (fun v hv => by rw [(List.mem_replicate.1 hv).2, hl]), List.length_replicate]
  refine ⟨_, _, h b _, hO', fun f hf => ?_⟩
  rcases List.mem_cons.1 hf with rfl | hf
  · exact ⟨by simp, .inr ⟨b, rfl, Nat.le_refl _, h63, hlen⟩, _, allrd_rep (hrd _ _) k, by show List.take _ _ = _; rw [← hlen, List.take_length]⟩
  · exact hG' f hf

/-- An element is put into its place. -/
theorem x_stR {α : Type} {E : Enc α} {t e : TypeId} {x y : Operand} {b o n cap : Nat} {cs vs : List Value} {v : Value} {l : List α} {z : α} {fl : Bool} (k j i : Nat)
    (hx : ev σ x = some (.pointer (some ⟨b, o, none⟩))) (hy : ev σ y = some v) (hn : nth β k = some (some b, e, cs)) (hj : nth Γ j = some (rowF E ⟨some b, cap, cs⟩ n l)) (hv : cellsL v = vs) (hT : ldTy P t = some (fl, E.size))
    (ho : o = i * E.size) (hi : i < n) (hrd : ∀ w A, (∀ g ∈ Γ, g.holds w A) → E.rd w A vs z)
    (h : ∀ cs', K undef (setB β k cs') (rowF E ⟨some b, cap, cs'⟩ n (l.set i z) :: Γ)) : Jop P C (.store t x y) ty σ β Γ K := fun w hO hG => by
  subst ho
  obtain ⟨hl, hg, vss, hall, ht⟩ := hG _ (fact_mem hj)
  have hrd' := hrd w _ hG
  have hlen := E.len hrd'
  have ht : cs.take (n * E.size) = vss.flatten := ht
  have hcl := hg.len
  have hcl : n * E.size ≤ cs.length := hcl
  have h5 : (i + 1) * E.size ≤ n * E.size := Nat.mul_le_mul_right _ hi
  rw [Nat.succ_mul] at h5
  have hsp : i * E.size + vs.length ≤ cs.length := by rw [hlen]; omega
  have hG' : ∀ f ∈ allF E (vss.set i vs) (l.set i z) :: Γ, f.holds w (ok C w β) := fun f hf => by
    rcases List.mem_cons.1 hf with rfl | hf
    · exact allrd_set hall hrd' i
    · exact hG f hf
  refine (x_bst (C := C) (β := β) (Γ := allF E (vss.set i vs) (l.set i z) :: Γ) (K := fun u β' Γ' => u = undef ∧ β' = setB β k (splice cs (i * E.size) vs) ∧ Γ' = allF E (vss.set i vs) (l.set i z) :: Γ) k hx hy hn hv (by rw [hlen]; exact hT) (E.one hrd') hsp rfl ⟨rfl, rfl, rfl⟩ w hO hG').mono ?_
  rintro u w' ⟨β', Γ', ⟨rfl, rfl, rfl⟩, hO', hG''⟩
  refine ⟨_, _, h _, hO', fun f hf => ?_⟩
  rcases List.mem_cons.1 hf with rfl | hf
  · refine ⟨by simp [hl], ?_, _, hG'' _ (.head _), ?_⟩
    · rcases hg with ⟨h1, _⟩ | ⟨b', h1, h2, h3, h4⟩
      · cases h1
      · exact .inr ⟨b', h1, h2, h3, by show (splice cs _ vs).length = _; rw [splice_len hsp]; exact h4⟩
    · show (splice cs _ vs).take _ = _
      exact take_set_flat (allF_len hall) (by rw [hall.1, hl]) ht hi hlen
  · exact hG'' f (.tail _ hf)

/-- The cells of an element of an own row. -/
theorem row_part {α : Type} {E : Enc α} {w : World} {A : Nat → Prop} {r : Row} {n : Nat} {l : List α} {i : Nat} (h : (rowF E r n l).holds w A) (hi : i < n) : ∃ z vs, l[i]? = some z ∧ (r.cs.drop (i * E.size)).take E.size = vs ∧ E.rd w A vs z := by
  obtain ⟨hl, _, vss, hall, ht⟩ := h
  obtain ⟨z, hz⟩ : ∃ z, l[i]? = some z := ⟨l[i]'(hl ▸ hi), by simp⟩
  have hlt : i < vss.length := by rw [hall.1]; omega
  obtain ⟨vs, hvs⟩ : ∃ vs, vss[i]? = some vs := ⟨vss[i], by simp⟩
  have hpart := flatten_part (allF_len hall) i vs hvs
  refine ⟨z, vs, hz, ?_, hall.2 i vs z hvs hz⟩
  rw [← hpart, ← ht, List.drop_take, List.take_take]
  congr 1
  have h4 : (i + 1) * E.size ≤ n * E.size := Nat.mul_le_mul_right _ hi
  rw [Nat.succ_mul] at h4
  omega

/-- A struct in an own row is loaded. -/
theorem x_ldR_vw {α : Type} {E : Enc α} (V : Vw E) {t e : TypeId} {x : Operand} {b o n cap : Nat} {cs : List Value} {l : List α} (k j i : Nat)
    (hx : ev σ x = some (.pointer (some ⟨b, o, none⟩))) (hn : nth β k = some (some b, e, cs)) (hj : nth Γ j = some (rowF E ⟨some b, cap, cs⟩ n l)) (hT : ldTy P t = some (true, E.size)) (ho : o = i * E.size) (hi : i < n)
    (h : ∀ z, l[i]? = some z → ∀ g, K (.agg (V.val z g).toArray) β (V.fs z g ++ Γ)) : Jop P C (.load t x) ty σ β Γ K := fun w hO hG => by
  subst ho
  obtain ⟨z, vs, hz, hp, hrd⟩ := row_part (hG _ (fact_mem hj)) hi
  obtain ⟨g, hvs, hfs⟩ := V.ok hrd
  have hlen := E.len hrd
  subst hvs
  have hG' : ∀ f ∈ V.fs z g ++ Γ, f.holds w (ok C w β) := fun f hf => by
    rcases List.mem_append.1 hf with hf | hf
    · exact hfs f hf
    · exact hG f hf
  exact x_bld_agg (Γ := V.fs z g ++ Γ) k hx hn hT hp hlen (h z hz g) w hO hG'

/-- A slice in an own row is loaded. -/
theorem x_ldR_sl {γ : Type} {E' : Enc γ} {t e : TypeId} {x : Operand} {b o n cap : Nat} {cs : List Value} {l : List (List γ)} (k j i : Nat)
    (hx : ev σ x = some (.pointer (some ⟨b, o, none⟩))) (hn : nth β k = some (some b, e, cs)) (hj : nth Γ j = some (rowF (encSl E') ⟨some b, cap, cs⟩ n l)) (hT : ldTy P t = some (false, 1)) (ho : o = i) (hi : i < n)
    (h : ∀ z, l[i]? = some z → ∀ pa ca, K (.slice pa z.length ca) β (slF E' pa z.length ca z :: Γ)) : Jop P C (.load t x) ty σ β Γ K := fun w hO hG => by
  subst ho
  obtain ⟨z, vs, hz, hp, pa, ca, rfl, hrd⟩ := row_part (hG _ (fact_mem hj)) hi
  have e1 : (encSl E').size = 1 := rfl
  rw [e1, Nat.mul_one] at hp
  have hc : cs[o]? = some (.slice pa z.length ca) := by
    have := congrArg (·[0]?) hp
    simpa [List.getElem?_take, List.getElem?_drop] using this
  have hG' : ∀ f ∈ slF E' pa z.length ca z :: Γ, f.holds w (ok C w β) := fun f hf => by
    rcases List.mem_cons.1 hf with rfl | hf
    · exact ⟨rfl, hrd⟩
    · exact hG f hf
  exact x_bld (Γ := slF E' pa z.length ca z :: Γ) k hx hn hT hc (h z hz pa ca) w hO hG'

/-- A struct that is read is loaded. -/
theorem x_ld_vw {α : Type} {E : Enc α} (V : Vw E) {t : TypeId} {b o : Nat} {z : α} {x : Operand} (n : Nat) (hx : ev σ x = some (.pointer (some ⟨b, o, none⟩)))
    (hn : nth Γ n = some (ptF E b o z)) (hT : ldTy P t = some (true, E.size)) (h : ∀ g, K (.agg (V.val z g).toArray) β (V.fs z g ++ Γ)) : Jop P C (.load t x) ty σ β Γ K := fun w hO hG => by
  obtain ⟨hb, vs, h1, hs⟩ := hG _ (fact_mem hn)
  obtain ⟨g, rfl, hfs⟩ := V.ok hs
  exact Pure.done (Pure_load_agg hT (E.len hs) hx h1.rangeAt) (h g) hO fun f hf => by
    rcases List.mem_append.1 hf with hf | hf
    · exact hfs f hf
    · exact hG f hf

/-- The same in a region that draws its order. -/
theorem dk_vw {α : Type} {E : Enc α} (V : Vw E) {z : α} {g : Gh} : DK (fun g => .agg (V.val z g).toArray) (V.fs z) (.agg (V.val z g).toArray) β (V.fs z g ++ Γ) :=
  fun _ _ _ hG => ⟨g, rfl, fun φ hφ => drop_own (hG φ (List.mem_append_left _ hφ))⟩

theorem d_ldR_vw {α : Type} {E : Enc α} (V : Vw E) {t e : TypeId} {x : Operand} {b o n cap : Nat} {cs : List Value} {l : List α} {z : α} (k j i : Nat)
    (hx : ev σ x = some (.pointer (some ⟨b, o, none⟩))) (hn : nth β k = some (some b, e, cs)) (hj : nth Γ j = some (rowF E ⟨some b, cap, cs⟩ n l)) (hT : ldTy P t = some (true, E.size)) (ho : o = i * E.size) (hz : l[i]? = some z) :
    JD P (.load t x) ty σ β Γ (fun g => .agg (V.val z g).toArray) (V.fs z) := fun C w hO hG => by
  subst ho
  obtain ⟨hl, _⟩ := id (hG _ (fact_mem hj))
  have hi : i < n := by rw [hl]; exact (List.getElem?_eq_some_iff.1 hz).1
  obtain ⟨z', vs, hz', hp, hrd⟩ := row_part (hG _ (fact_mem hj)) hi
  obtain rfl : z = z' := Option.some.inj (hz.symm.trans hz')
  obtain ⟨g, hvs, hfs⟩ := V.ok hrd
  have hlen := E.len hrd
  subst hvs
  have hb := hO.blk _ (nth_mem hn) b rfl
  exact (Pure_load_agg (P := P) (ty := ty) (t := t) hT hlen hx (cellsAt.rangeAt ⟨cs.toArray, e, (0, 0), hb, hp, hlen⟩)).ex.mono fun u w' ⟨h1, h2⟩ => by
    subst h1; subst h2
    exact ⟨Below.refl _ _, g, rfl, hfs⟩

theorem d_ldR_sl {γ : Type} {E' : Enc γ} {t e : TypeId} {x : Operand} {b o n cap : Nat} {cs : List Value} {l : List (List γ)} {z : List γ} (k j i : Nat)
    (hx : ev σ x = some (.pointer (some ⟨b, o, none⟩))) (hn : nth β k = some (some b, e, cs)) (hj : nth Γ j = some (rowF (encSl E') ⟨some b, cap, cs⟩ n l)) (hT : ldTy P t = some (false, 1)) (ho : o = i) (hz : l[i]? = some z) :
    JD P (.load t x) ty σ β Γ (valS z.length) (facS E' z.length z) := fun C w hO hG => by
  subst ho
  obtain ⟨hl, _⟩ := id (hG _ (fact_mem hj))
  have hi : o < n := by rw [hl]; exact (List.getElem?_eq_some_iff.1 hz).1
  obtain ⟨z', vs, hz', hp, pa, ca, rfl, hrd⟩ := row_part (hG _ (fact_mem hj)) hi
  obtain rfl : z = z' := Option.some.inj (hz.symm.trans hz')
  have e1 : (encSl E').size = 1 := rfl
  rw [e1, Nat.mul_one] at hp
  have hc : cs[o]? = some (.slice pa z.length ca) := by
    have := congrArg (·[0]?) hp
    simpa [List.getElem?_take, List.getElem?_drop] using this
  exact (Pure_load (P := P) (ty := ty) (t := t) hT hx (own_cell hO hn hc)).ex.mono fun u w' ⟨h1, h2⟩ => by
    subst h1; subst h2
    exact ⟨Below.refl _ _, fun _ => (pa, ca, 0), rfl, one_mem ⟨rfl, hrd⟩⟩

theorem lxk_vw {it : List (TypeId × IntKind)} {L : List Oper} {pos : List Po} {pt : List (List Nat)} {κ : Fr} {fs : List (Nat × Fact)} {al : List Blk} {k : Nat} {α : Type} {E : Enc α} (V : Vw E) {z : α} (ho : opL F.fn.ntmps L κ i = some (d, op, ty)) (hJ : JD P op ty σ β (sel (preAt pt i) fs ++ Γ) (fun g => .agg (V.val z g).toArray) (V.fs z))
    (h : ∀ g, LxK it F C p S L pt β Γ R k (i + 1) pos (delF d κ) (putF d (.agg (V.val z g).toArray) σ) ((V.fs z g).map (fun f => (i, f)) ++ fs) al) :
    LxK it F C p S L pt β Γ R k i (.fa (fun g => .agg (V.val z g).toArray) (V.fs z) :: pos) κ σ fs al := lxk_fa ho hJ h
end
end Go.Fw

namespace Go.Proofs.Ytamkmihhpadamaa
open Go Go.Fw
set_option maxRecDepth 100000

theorem zo0 : zeroOf Try.prog 0 = some [Value.tuple #[]] := rfl
theorem ld0 : ldTy Try.prog 0 = some (Bool.false, 1) := rfl
theorem zo1 : zeroOf Try.prog 1 = some [Value.nilFunc] := rfl
theorem ld1 : ldTy Try.prog 1 = some (Bool.false, 1) := rfl
theorem zo2 : zeroOf Try.prog 2 = some [Value.int IntKind.i64 0] := rfl
theorem ld2 : ldTy Try.prog 2 = some (Bool.false, 1) := rfl
theorem zo3 : zeroOf Try.prog 3 = some [Value.int IntKind.i64 0] := rfl
theorem ld3 : ldTy Try.prog 3 = some (Bool.false, 1) := rfl
theorem ub4 : Program.underlying Try.prog 4 = some TypeDesc.bool := rfl
theorem zo4 : zeroOf Try.prog 4 = some [Value.bool false] := rfl
theorem ld4 : ldTy Try.prog 4 = some (Bool.false, 1) := rfl
theorem zo5 : zeroOf Try.prog 5 = some [Value.int IntKind.u8 0] := rfl
theorem ld5 : ldTy Try.prog 5 = some (Bool.false, 1) := rfl
theorem zo6 : zeroOf Try.prog 6 = some [Value.int IntKind.u8 0] := rfl
theorem ld6 : ldTy Try.prog 6 = some (Bool.false, 1) := rfl
theorem st7 : structTy Try.prog 7 = some [(0, 1), (1, 1), (2, 1), (3, 1)] := rfl
theorem fd7_0 : fldTy Try.prog 7 0 = some 0 := rfl
theorem fd7_1 : fldTy Try.prog 7 1 = some 1 := rfl
theorem fd7_2 : fldTy Try.prog 7 2 = some 2 := rfl
theorem fd7_3 : fldTy Try.prog 7 3 = some 3 := rfl
theorem zo7 : zeroOf Try.prog 7 = some [Value.int IntKind.i64 0, Value.int IntKind.i64 0, Value.bool false, Value.int IntKind.u8 0] := rfl
theorem ld7 : ldTy Try.prog 7 = some (Bool.true, 4) := rfl
theorem st8 : structTy Try.prog 8 = some [(0, 1), (1, 1), (2, 1), (3, 1)] := rfl
theorem fd8_0 : fldTy Try.prog 8 0 = some 0 := rfl
theorem fd8_1 : fldTy Try.prog 8 1 = some 1 := rfl
theorem fd8_2 : fldTy Try.prog 8 2 = some 2 := rfl
theorem fd8_3 : fldTy Try.prog 8 3 = some 3 := rfl
theorem zo8 : zeroOf Try.prog 8 = some [Value.int IntKind.i64 0, Value.int IntKind.i64 0, Value.bool false, Value.int IntKind.u8 0] := rfl
theorem ld8 : ldTy Try.prog 8 = some (Bool.true, 4) := rfl
theorem zo9 : zeroOf Try.prog 9 = some [Value.string { data := #[] }] := rfl
theorem ld9 : ldTy Try.prog 9 = some (Bool.false, 1) := rfl
theorem zo10 : zeroOf Try.prog 10 = some [Value.string { data := #[] }] := rfl
theorem ld10 : ldTy Try.prog 10 = some (Bool.false, 1) := rfl
theorem zo11 : zeroOf Try.prog 11 = some [Value.string { data := #[] }] := rfl
theorem ld11 : ldTy Try.prog 11 = some (Bool.false, 1) := rfl
theorem zo12 : zeroOf Try.prog 12 = some [Value.int IntKind.u64 0] := rfl
theorem ld12 : ldTy Try.prog 12 = some (Bool.false, 1) := rfl
theorem st13 : structTy Try.prog 13 = some [(0, 1), (1, 1)] := rfl
theorem fd13_0 : fldTy Try.prog 13 0 = some 0 := rfl
theorem fd13_1 : fldTy Try.prog 13 1 = some 1 := rfl
theorem zo13 : zeroOf Try.prog 13 = some [Value.string { data := #[] }, Value.int IntKind.u64 0] := rfl
theorem ld13 : ldTy Try.prog 13 = some (Bool.true, 2) := rfl
theorem st14 : structTy Try.prog 14 = some [(0, 1), (1, 1)] := rfl
theorem fd14_0 : fldTy Try.prog 14 0 = some 0 := rfl
theorem fd14_1 : fldTy Try.prog 14 1 = some 1 := rfl
theorem zo14 : zeroOf Try.prog 14 = some [Value.string { data := #[] }, Value.int IntKind.u64 0] := rfl
theorem ld14 : ldTy Try.prog 14 = some (Bool.true, 2) := rfl
theorem zo15 : zeroOf Try.prog 15 = some [Value.pointer none] := rfl
theorem ld15 : ldTy Try.prog 15 = some (Bool.false, 1) := rfl
theorem zo16 : zeroOf Try.prog 16 = some [Value.pointer none] := rfl
theorem ld16 : ldTy Try.prog 16 = some (Bool.false, 1) := rfl
theorem zo17 : zeroOf Try.prog 17 = some [Value.pointer none] := rfl
theorem ld17 : ldTy Try.prog 17 = some (Bool.false, 1) := rfl
theorem st18 : structTy Try.prog 18 = some [(0, 1)] := rfl
theorem fd18_0 : fldTy Try.prog 18 0 = some 0 := rfl
theorem zo18 : zeroOf Try.prog 18 = some [Value.pointer none] := rfl
theorem ld18 : ldTy Try.prog 18 = some (Bool.true, 1) := rfl
theorem st19 : structTy Try.prog 19 = some [(0, 1)] := rfl
theorem fd19_0 : fldTy Try.prog 19 0 = some 0 := rfl
theorem zo19 : zeroOf Try.prog 19 = some [Value.pointer none] := rfl
theorem ld19 : ldTy Try.prog 19 = some (Bool.true, 1) := rfl
theorem zo20 : zeroOf Try.prog 20 = some [Value.nilIface] := rfl
theorem ld20 : ldTy Try.prog 20 = some (Bool.false, 1) := rfl
theorem zo21 : zeroOf Try.prog 21 = some [Value.int IntKind.i32 0] := rfl
theorem ld21 : ldTy Try.prog 21 = some (Bool.false, 1) := rfl
theorem sl22 : slTy Try.prog 22 = some (65, 1) := rfl
abbrev el22 : TypeId := 65
theorem zo22e : zeroOf Try.prog 65 = some [Value.int IntKind.u32 0] := rfl
theorem by22e : Program.bytesOf Try.prog 65 = 4 := rfl
theorem zo22 : zeroOf Try.prog 22 = some [Value.slice none 0 0] := rfl
theorem ld22 : ldTy Try.prog 22 = some (Bool.false, 1) := rfl
theorem sl23 : slTy Try.prog 23 = some (65, 1) := rfl
abbrev el23 : TypeId := 65
theorem zo23e : zeroOf Try.prog 65 = some [Value.int IntKind.u32 0] := rfl
theorem by23e : Program.bytesOf Try.prog 65 = 4 := rfl
theorem zo23 : zeroOf Try.prog 23 = some [Value.slice none 0 0] := rfl
theorem ld23 : ldTy Try.prog 23 = some (Bool.false, 1) := rfl
theorem st24 : structTy Try.prog 24 = some [(0, 1), (1, 1), (2, 1)] := rfl
theorem fd24_0 : fldTy Try.prog 24 0 = some 0 := rfl
theorem fd24_1 : fldTy Try.prog 24 1 = some 1 := rfl
theorem fd24_2 : fldTy Try.prog 24 2 = some 2 := rfl
theorem zo24 : zeroOf Try.prog 24 = some [Value.bool false, Value.slice none 0 0, Value.slice none 0 0] := rfl
theorem ld24 : ldTy Try.prog 24 = some (Bool.true, 3) := rfl
theorem st25 : structTy Try.prog 25 = some [(0, 1), (1, 1), (2, 1)] := rfl
theorem fd25_0 : fldTy Try.prog 25 0 = some 0 := rfl
theorem fd25_1 : fldTy Try.prog 25 1 = some 1 := rfl
theorem fd25_2 : fldTy Try.prog 25 2 = some 2 := rfl
theorem zo25 : zeroOf Try.prog 25 = some [Value.bool false, Value.slice none 0 0, Value.slice none 0 0] := rfl
theorem ld25 : ldTy Try.prog 25 = some (Bool.true, 3) := rfl
theorem zo26 : zeroOf Try.prog 26 = some [Value.int IntKind.i64 0] := rfl
theorem ld26 : ldTy Try.prog 26 = some (Bool.false, 1) := rfl
theorem zo27 : zeroOf Try.prog 27 = some [Value.tuple #[Value.agg #[Value.bool false, Value.slice none 0 0, Value.slice none 0 0], Value.int IntKind.i64 0]] := rfl
theorem ld27 : ldTy Try.prog 27 = some (Bool.false, 1) := rfl
theorem zo28 : zeroOf Try.prog 28 = some [Value.nilFunc] := rfl
theorem ld28 : ldTy Try.prog 28 = some (Bool.false, 1) := rfl
theorem zo29 : zeroOf Try.prog 29 = some [Value.nilFunc] := rfl
theorem ld29 : ldTy Try.prog 29 = some (Bool.false, 1) := rfl
theorem zo30 : zeroOf Try.prog 30 = some [Value.nilFunc] := rfl
theorem ld30 : ldTy Try.prog 30 = some (Bool.false, 1) := rfl
theorem zo31 : zeroOf Try.prog 31 = some [Value.nilFunc] := rfl
theorem ld31 : ldTy Try.prog 31 = some (Bool.false, 1) := rfl
theorem zo32 : zeroOf Try.prog 32 = some [Value.nilFunc] := rfl
theorem ld32 : ldTy Try.prog 32 = some (Bool.false, 1) := rfl
theorem zo33 : zeroOf Try.prog 33 = some [Value.nilFunc] := rfl
theorem ld33 : ldTy Try.prog 33 = some (Bool.false, 1) := rfl
theorem zo34 : zeroOf Try.prog 34 = some [Value.int IntKind.i8 0] := rfl
theorem ld34 : ldTy Try.prog 34 = some (Bool.false, 1) := rfl
theorem zo35 : zeroOf Try.prog 35 = some [Value.nilFunc] := rfl
theorem ld35 : ldTy Try.prog 35 = some (Bool.false, 1) := rfl
theorem zo36 : zeroOf Try.prog 36 = some [Value.tuple #[Value.agg #[Value.bool false, Value.slice none 0 0, Value.slice none 0 0], Value.bool false]] := rfl
theorem ld36 : ldTy Try.prog 36 = some (Bool.false, 1) := rfl
theorem zo37 : zeroOf Try.prog 37 = some [Value.nilFunc] := rfl
theorem ld37 : ldTy Try.prog 37 = some (Bool.false, 1) := rfl
theorem zo38 : zeroOf Try.prog 38 = some [Value.nilFunc] := rfl
theorem ld38 : ldTy Try.prog 38 = some (Bool.false, 1) := rfl
theorem zo39 : zeroOf Try.prog 39 = some [Value.nilFunc] := rfl
theorem ld39 : ldTy Try.prog 39 = some (Bool.false, 1) := rfl
theorem zo40 : zeroOf Try.prog 40 = some [Value.nilFunc] := rfl
theorem ld40 : ldTy Try.prog 40 = some (Bool.false, 1) := rfl
theorem zo41 : zeroOf Try.prog 41 = some [Value.nilFunc] := rfl
theorem ld41 : ldTy Try.prog 41 = some (Bool.false, 1) := rfl
theorem zo42 : zeroOf Try.prog 42 = some [Value.nilFunc] := rfl
theorem ld42 : ldTy Try.prog 42 = some (Bool.false, 1) := rfl
theorem zo43 : zeroOf Try.prog 43 = some [Value.nilFunc] := rfl
theorem ld43 : ldTy Try.prog 43 = some (Bool.false, 1) := rfl
theorem sl44 : slTy Try.prog 44 = some (25, 3) := rfl
abbrev el44 : TypeId := 25
theorem zo44e : zeroOf Try.prog 25 = some [Value.bool false, Value.slice none 0 0, Value.slice none 0 0] := rfl
theorem by44e : Program.bytesOf Try.prog 25 = 56 := rfl
theorem zo44 : zeroOf Try.prog 44 = some [Value.slice none 0 0] := rfl
theorem ld44 : ldTy Try.prog 44 = some (Bool.false, 1) := rfl
theorem zo45 : zeroOf Try.prog 45 = some [Value.nilFunc] := rfl
theorem ld45 : ldTy Try.prog 45 = some (Bool.false, 1) := rfl
theorem zo46 : zeroOf Try.prog 46 = some [Value.tuple #[Value.slice none 0 0, Value.int IntKind.i64 0]] := rfl
theorem ld46 : ldTy Try.prog 46 = some (Bool.false, 1) := rfl
theorem zo47 : zeroOf Try.prog 47 = some [Value.nilFunc] := rfl
theorem ld47 : ldTy Try.prog 47 = some (Bool.false, 1) := rfl
theorem zo48 : zeroOf Try.prog 48 = some [Value.nilFunc] := rfl
theorem ld48 : ldTy Try.prog 48 = some (Bool.false, 1) := rfl
theorem zo49 : zeroOf Try.prog 49 = some [Value.nilFunc] := rfl
theorem ld49 : ldTy Try.prog 49 = some (Bool.false, 1) := rfl
theorem zo50 : zeroOf Try.prog 50 = some [Value.nilFunc] := rfl
theorem ld50 : ldTy Try.prog 50 = some (Bool.false, 1) := rfl
theorem sl51 : slTy Try.prog 51 = some (23, 1) := rfl
abbrev el51 : TypeId := 23
theorem zo51e : zeroOf Try.prog 23 = some [Value.slice none 0 0] := rfl
theorem by51e : Program.bytesOf Try.prog 23 = 24 := rfl
theorem zo51 : zeroOf Try.prog 51 = some [Value.slice none 0 0] := rfl
theorem ld51 : ldTy Try.prog 51 = some (Bool.false, 1) := rfl
theorem zo52 : zeroOf Try.prog 52 = some [Value.nilFunc] := rfl
theorem ld52 : ldTy Try.prog 52 = some (Bool.false, 1) := rfl
theorem zo53 : zeroOf Try.prog 53 = some [Value.tuple #[Value.int IntKind.i64 0, Value.int IntKind.i64 0]] := rfl
theorem ld53 : ldTy Try.prog 53 = some (Bool.false, 1) := rfl
theorem zo54 : zeroOf Try.prog 54 = some [Value.nilFunc] := rfl
theorem ld54 : ldTy Try.prog 54 = some (Bool.false, 1) := rfl
theorem zo55 : zeroOf Try.prog 55 = some [Value.tuple #[Value.slice none 0 0, Value.int IntKind.i64 0]] := rfl
theorem ld55 : ldTy Try.prog 55 = some (Bool.false, 1) := rfl
theorem zo56 : zeroOf Try.prog 56 = some [Value.nilFunc] := rfl
theorem ld56 : ldTy Try.prog 56 = some (Bool.false, 1) := rfl
theorem zo57 : zeroOf Try.prog 57 = some [Value.nilFunc] := rfl
theorem ld57 : ldTy Try.prog 57 = some (Bool.false, 1) := rfl
theorem zo58 : zeroOf Try.prog 58 = some [Value.nilFunc] := rfl
theorem ld58 : ldTy Try.prog 58 = some (Bool.false, 1) := rfl
theorem zo59 : zeroOf Try.prog 59 = some [Value.nilFunc] := rfl
theorem ld59 : ldTy Try.prog 59 = some (Bool.false, 1) := rfl
theorem st60 : structTy Try.prog 60 = some [(0, 1), (1, 1)] := rfl
theorem fd60_0 : fldTy Try.prog 60 0 = some 0 := rfl
theorem fd60_1 : fldTy Try.prog 60 1 = some 1 := rfl
theorem zo60 : zeroOf Try.prog 60 = some [Value.bool false, Value.slice none 0 0] := rfl
theorem ld60 : ldTy Try.prog 60 = some (Bool.true, 2) := rfl
theorem st61 : structTy Try.prog 61 = some [(0, 1), (1, 1)] := rfl
theorem fd61_0 : fldTy Try.prog 61 0 = some 0 := rfl
theorem fd61_1 : fldTy Try.prog 61 1 = some 1 := rfl
theorem zo61 : zeroOf Try.prog 61 = some [Value.bool false, Value.slice none 0 0] := rfl
theorem ld61 : ldTy Try.prog 61 = some (Bool.true, 2) := rfl
theorem sl62 : slTy Try.prog 62 = some (61, 2) := rfl
abbrev el62 : TypeId := 61
theorem zo62e : zeroOf Try.prog 61 = some [Value.bool false, Value.slice none 0 0] := rfl
theorem by62e : Program.bytesOf Try.prog 61 = 32 := rfl
theorem zo62 : zeroOf Try.prog 62 = some [Value.slice none 0 0] := rfl
theorem ld62 : ldTy Try.prog 62 = some (Bool.false, 1) := rfl
theorem sl63 : slTy Try.prog 63 = some (62, 1) := rfl
abbrev el63 : TypeId := 62
theorem zo63e : zeroOf Try.prog 62 = some [Value.slice none 0 0] := rfl
theorem by63e : Program.bytesOf Try.prog 62 = 24 := rfl
theorem zo63 : zeroOf Try.prog 63 = some [Value.slice none 0 0] := rfl
theorem ld63 : ldTy Try.prog 63 = some (Bool.false, 1) := rfl
theorem zo64 : zeroOf Try.prog 64 = some [Value.nilFunc] := rfl
theorem ld64 : ldTy Try.prog 64 = some (Bool.false, 1) := rfl
theorem zo65 : zeroOf Try.prog 65 = some [Value.int IntKind.u32 0] := rfl
theorem ld65 : ldTy Try.prog 65 = some (Bool.false, 1) := rfl
theorem zo66 : zeroOf Try.prog 66 = some [Value.nilFunc] := rfl
theorem ld66 : ldTy Try.prog 66 = some (Bool.false, 1) := rfl
theorem zo67 : zeroOf Try.prog 67 = some [Value.tuple #[Value.slice none 0 0, Value.int IntKind.i64 0]] := rfl
theorem ld67 : ldTy Try.prog 67 = some (Bool.false, 1) := rfl
theorem zo68 : zeroOf Try.prog 68 = some [Value.nilFunc] := rfl
theorem ld68 : ldTy Try.prog 68 = some (Bool.false, 1) := rfl
theorem zo69 : zeroOf Try.prog 69 = some [Value.nilFunc] := rfl
theorem ld69 : ldTy Try.prog 69 = some (Bool.false, 1) := rfl
theorem zo70 : zeroOf Try.prog 70 = some [Value.int IntKind.u64 0] := rfl
theorem ld70 : ldTy Try.prog 70 = some (Bool.false, 1) := rfl
theorem zo71 : zeroOf Try.prog 71 = some [Value.nilFunc] := rfl
theorem ld71 : ldTy Try.prog 71 = some (Bool.false, 1) := rfl
theorem zo72 : zeroOf Try.prog 72 = some [Value.nilFunc] := rfl
theorem ld72 : ldTy Try.prog 72 = some (Bool.false, 1) := rfl
theorem zo73 : zeroOf Try.prog 73 = some [Value.nilFunc] := rfl
theorem ld73 : ldTy Try.prog 73 = some (Bool.false, 1) := rfl
theorem zo74 : zeroOf Try.prog 74 = some [Value.nilFunc] := rfl
theorem ld74 : ldTy Try.prog 74 = some (Bool.false, 1) := rfl
theorem zo75 : zeroOf Try.prog 75 = some [Value.nilFunc] := rfl
theorem ld75 : ldTy Try.prog 75 = some (Bool.false, 1) := rfl
theorem zo76 : zeroOf Try.prog 76 = some [Value.nilFunc] := rfl
theorem ld76 : ldTy Try.prog 76 = some (Bool.false, 1) := rfl
theorem zo77 : zeroOf Try.prog 77 = some [Value.nilFunc] := rfl
theorem ld77 : ldTy Try.prog 77 = some (Bool.false, 1) := rfl
theorem zo78 : zeroOf Try.prog 78 = some [Value.tuple #[Value.slice none 0 0, Value.slice none 0 0, Value.int IntKind.i64 0]] := rfl
theorem ld78 : ldTy Try.prog 78 = some (Bool.false, 1) := rfl
theorem zo79 : zeroOf Try.prog 79 = some [Value.nilFunc] := rfl
theorem ld79 : ldTy Try.prog 79 = some (Bool.false, 1) := rfl
theorem zo80 : zeroOf Try.prog 80 = some [Value.nilFunc] := rfl
theorem ld80 : ldTy Try.prog 80 = some (Bool.false, 1) := rfl
theorem zo81 : zeroOf Try.prog 81 = some [Value.nilFunc] := rfl
theorem ld81 : ldTy Try.prog 81 = some (Bool.false, 1) := rfl
theorem zo82 : zeroOf Try.prog 82 = some [Value.nilFunc] := rfl
theorem ld82 : ldTy Try.prog 82 = some (Bool.false, 1) := rfl
theorem zo83 : zeroOf Try.prog 83 = some [Value.nilFunc] := rfl
theorem ld83 : ldTy Try.prog 83 = some (Bool.false, 1) := rfl
theorem zo84 : zeroOf Try.prog 84 = some [Value.nilFunc] := rfl
theorem ld84 : ldTy Try.prog 84 = some (Bool.false, 1) := rfl
theorem zo85 : zeroOf Try.prog 85 = some [Value.tuple #[Value.slice none 0 0, Value.bool false]] := rfl
theorem ld85 : ldTy Try.prog 85 = some (Bool.false, 1) := rfl
theorem zo86 : zeroOf Try.prog 86 = some [Value.nilFunc] := rfl
theorem ld86 : ldTy Try.prog 86 = some (Bool.false, 1) := rfl
theorem zo87 : zeroOf Try.prog 87 = some [Value.nilFunc] := rfl
theorem ld87 : ldTy Try.prog 87 = some (Bool.false, 1) := rfl
theorem zo88 : zeroOf Try.prog 88 = some [Value.nilFunc] := rfl
theorem ld88 : ldTy Try.prog 88 = some (Bool.false, 1) := rfl
theorem zo89 : zeroOf Try.prog 89 = some [Value.nilFunc] := rfl
theorem ld89 : ldTy Try.prog 89 = some (Bool.false, 1) := rfl
theorem zo90 : zeroOf Try.prog 90 = some [Value.nilFunc] := rfl
theorem ld90 : ldTy Try.prog 90 = some (Bool.false, 1) := rfl
theorem zo91 : zeroOf Try.prog 91 = some [Value.nilFunc] := rfl
theorem ld91 : ldTy Try.prog 91 = some (Bool.false, 1) := rfl
theorem zo92 : zeroOf Try.prog 92 = some [Value.nilFunc] := rfl
theorem ld92 : ldTy Try.prog 92 = some (Bool.false, 1) := rfl
theorem zo93 : zeroOf Try.prog 93 = some [Value.nilFunc] := rfl
theorem ld93 : ldTy Try.prog 93 = some (Bool.false, 1) := rfl
theorem zo94 : zeroOf Try.prog 94 = some [Value.tuple #[Value.slice none 0 0, Value.slice none 0 0]] := rfl
theorem ld94 : ldTy Try.prog 94 = some (Bool.false, 1) := rfl
theorem zo95 : zeroOf Try.prog 95 = some [Value.nilFunc] := rfl
theorem ld95 : ldTy Try.prog 95 = some (Bool.false, 1) := rfl
theorem zo96 : zeroOf Try.prog 96 = some [Value.nilFunc] := rfl
theorem ld96 : ldTy Try.prog 96 = some (Bool.false, 1) := rfl
theorem zo97 : zeroOf Try.prog 97 = some [Value.tuple #[Value.slice none 0 0, Value.int IntKind.u32 0]] := rfl
theorem ld97 : ldTy Try.prog 97 = some (Bool.false, 1) := rfl
theorem zo98 : zeroOf Try.prog 98 = some [Value.nilFunc] := rfl
theorem ld98 : ldTy Try.prog 98 = some (Bool.false, 1) := rfl
theorem zo99 : zeroOf Try.prog 99 = some [Value.nilFunc] := rfl
theorem ld99 : ldTy Try.prog 99 = some (Bool.false, 1) := rfl
theorem zo100 : zeroOf Try.prog 100 = some [Value.int IntKind.u64 0] := rfl
theorem ld100 : ldTy Try.prog 100 = some (Bool.false, 1) := rfl
theorem zo101 : zeroOf Try.prog 101 = some [Value.nilFunc] := rfl
theorem ld101 : ldTy Try.prog 101 = some (Bool.false, 1) := rfl
theorem zo102 : zeroOf Try.prog 102 = some [Value.nilFunc] := rfl
theorem ld102 : ldTy Try.prog 102 = some (Bool.false, 1) := rfl
theorem zo103 : zeroOf Try.prog 103 = some [Value.nilFunc] := rfl
theorem ld103 : ldTy Try.prog 103 = some (Bool.false, 1) := rfl
theorem zo104 : zeroOf Try.prog 104 = some [Value.nilFunc] := rfl
theorem ld104 : ldTy Try.prog 104 = some (Bool.false, 1) := rfl
theorem zo105 : zeroOf Try.prog 105 = some [Value.nilFunc] := rfl
theorem ld105 : ldTy Try.prog 105 = some (Bool.false, 1) := rfl
theorem st106 : structTy Try.prog 106 = some [(0, 1), (1, 1), (2, 1), (3, 1)] := rfl
theorem fd106_0 : fldTy Try.prog 106 0 = some 0 := rfl
theorem fd106_1 : fldTy Try.prog 106 1 = some 1 := rfl
theorem fd106_2 : fldTy Try.prog 106 2 = some 2 := rfl
theorem fd106_3 : fldTy Try.prog 106 3 = some 3 := rfl
theorem zo106 : zeroOf Try.prog 106 = some [Value.pointer none, Value.pointer none, Value.pointer none, Value.string { data := #[] }] := rfl
theorem ld106 : ldTy Try.prog 106 = some (Bool.true, 4) := rfl
theorem st107 : structTy Try.prog 107 = some [(0, 1), (1, 1), (2, 1), (3, 1)] := rfl
theorem fd107_0 : fldTy Try.prog 107 0 = some 0 := rfl
theorem fd107_1 : fldTy Try.prog 107 1 = some 1 := rfl
theorem fd107_2 : fldTy Try.prog 107 2 = some 2 := rfl
theorem fd107_3 : fldTy Try.prog 107 3 = some 3 := rfl
theorem zo107 : zeroOf Try.prog 107 = some [Value.pointer none, Value.pointer none, Value.pointer none, Value.string { data := #[] }] := rfl
theorem ld107 : ldTy Try.prog 107 = some (Bool.true, 4) := rfl
theorem zo108 : zeroOf Try.prog 108 = some [] := rfl
theorem ld108 : ldTy Try.prog 108 = some (Bool.true, 0) := rfl
theorem st109 : structTy Try.prog 109 = some [(0, 0)] := rfl
theorem zo109 : zeroOf Try.prog 109 = some [] := rfl
theorem ld109 : ldTy Try.prog 109 = some (Bool.true, 0) := rfl
theorem st110 : structTy Try.prog 110 = some [(0, 0)] := rfl
theorem zo110 : zeroOf Try.prog 110 = some [] := rfl
theorem ld110 : ldTy Try.prog 110 = some (Bool.true, 0) := rfl
theorem zo111 : zeroOf Try.prog 111 = some [Value.nilFunc] := rfl
theorem ld111 : ldTy Try.prog 111 = some (Bool.false, 1) := rfl
theorem zo112 : zeroOf Try.prog 112 = some [Value.int IntKind.u8 0] := rfl
theorem ld112 : ldTy Try.prog 112 = some (Bool.false, 1) := rfl
theorem zo113 : zeroOf Try.prog 113 = some [Value.int IntKind.u8 0] := rfl
theorem ld113 : ldTy Try.prog 113 = some (Bool.false, 1) := rfl
theorem zo114 : zeroOf Try.prog 114 = some [Value.nilFunc] := rfl
theorem ld114 : ldTy Try.prog 114 = some (Bool.false, 1) := rfl
theorem zo115 : zeroOf Try.prog 115 = some [Value.pointer none] := rfl
theorem ld115 : ldTy Try.prog 115 = some (Bool.false, 1) := rfl
theorem zo116 : zeroOf Try.prog 116 = some [Value.int IntKind.i32 0] := rfl
theorem ld116 : ldTy Try.prog 116 = some (Bool.false, 1) := rfl
theorem zo117 : zeroOf Try.prog 117 = some [Value.int IntKind.i32 0] := rfl
theorem ld117 : ldTy Try.prog 117 = some (Bool.false, 1) := rfl
theorem st118 : structTy Try.prog 118 = some [(0, 1), (1, 1), (2, 1), (3, 1), (4, 1), (5, 1), (6, 1), (7, 1), (8, 1), (9, 1), (10, 1)] := rfl
theorem fd118_0 : fldTy Try.prog 118 0 = some 0 := rfl
theorem fd118_1 : fldTy Try.prog 118 1 = some 1 := rfl
theorem fd118_2 : fldTy Try.prog 118 2 = some 2 := rfl
theorem fd118_3 : fldTy Try.prog 118 3 = some 3 := rfl
theorem fd118_4 : fldTy Try.prog 118 4 = some 4 := rfl
theorem fd118_5 : fldTy Try.prog 118 5 = some 5 := rfl
theorem fd118_6 : fldTy Try.prog 118 6 = some 6 := rfl
theorem fd118_7 : fldTy Try.prog 118 7 = some 7 := rfl
theorem fd118_8 : fldTy Try.prog 118 8 = some 8 := rfl
theorem fd118_9 : fldTy Try.prog 118 9 = some 9 := rfl
theorem fd118_10 : fldTy Try.prog 118 10 = some 10 := rfl
theorem zo118 : zeroOf Try.prog 118 = some [Value.int IntKind.u64 0, Value.int IntKind.u64 0, Value.int IntKind.u32 0, Value.int IntKind.u8 0, Value.int IntKind.u8 0, Value.int IntKind.u8 0, Value.int IntKind.u8 0, Value.nilFunc, Value.pointer none, Value.int IntKind.i32 0, Value.int IntKind.i32 0] := rfl
theorem ld118 : ldTy Try.prog 118 = some (Bool.true, 11) := rfl
theorem st119 : structTy Try.prog 119 = some [(0, 1), (1, 1), (2, 1), (3, 1), (4, 1), (5, 1), (6, 1), (7, 1), (8, 1), (9, 1), (10, 1)] := rfl
theorem fd119_0 : fldTy Try.prog 119 0 = some 0 := rfl
theorem fd119_1 : fldTy Try.prog 119 1 = some 1 := rfl
theorem fd119_2 : fldTy Try.prog 119 2 = some 2 := rfl
theorem fd119_3 : fldTy Try.prog 119 3 = some 3 := rfl
theorem fd119_4 : fldTy Try.prog 119 4 = some 4 := rfl
theorem fd119_5 : fldTy Try.prog 119 5 = some 5 := rfl
theorem fd119_6 : fldTy Try.prog 119 6 = some 6 := rfl
theorem fd119_7 : fldTy Try.prog 119 7 = some 7 := rfl
theorem fd119_8 : fldTy Try.prog 119 8 = some 8 := rfl
theorem fd119_9 : fldTy Try.prog 119 9 = some 9 := rfl
theorem fd119_10 : fldTy Try.prog 119 10 = some 10 := rfl
theorem zo119 : zeroOf Try.prog 119 = some [Value.int IntKind.u64 0, Value.int IntKind.u64 0, Value.int IntKind.u32 0, Value.int IntKind.u8 0, Value.int IntKind.u8 0, Value.int IntKind.u8 0, Value.int IntKind.u8 0, Value.nilFunc, Value.pointer none, Value.int IntKind.i32 0, Value.int IntKind.i32 0] := rfl
theorem ld119 : ldTy Try.prog 119 = some (Bool.true, 11) := rfl
theorem zo120 : zeroOf Try.prog 120 = some [Value.pointer none] := rfl
theorem ld120 : ldTy Try.prog 120 = some (Bool.false, 1) := rfl
abbrev en2 := (encInt .i64 8)
theorem rz2 (w : World) (A : Nat → Prop) : Enc.rd (encInt .i64 8) w A [.int .i64 0] default := (rd_int (n := 0) (by simp [InR]))
abbrev en3 := (encInt .i64 8)
theorem rz3 (w : World) (A : Nat → Prop) : Enc.rd (encInt .i64 8) w A [.int .i64 0] default := (rd_int (n := 0) (by simp [InR]))
abbrev en4 := encBool
theorem rz4 (w : World) (A : Nat → Prop) : Enc.rd encBool w A [.bool false] default := (rd_bool false)
abbrev en5 := (encNat .u8 1)
theorem rz5 (w : World) (A : Nat → Prop) : Enc.rd (encNat .u8 1) w A [.int .u8 0] default := (rd_nat (n := 0) rfl (by simp [InR]))
abbrev en6 := (encNat .u8 1)
theorem rz6 (w : World) (A : Nat → Prop) : Enc.rd (encNat .u8 1) w A [.int .u8 0] default := (rd_nat (n := 0) rfl (by simp [InR]))
abbrev en7 := (encPair (encInt .i64 8) (encPair (encInt .i64 8) (encPair encBool (encNat .u8 1) 8) 16) 24)
theorem rz7 (w : World) (A : Nat → Prop) : Enc.rd (encPair (encInt .i64 8) (encPair (encInt .i64 8) (encPair encBool (encNat .u8 1) 8) 16) 24) w A [.int .i64 0, .int .i64 0, .bool false, .int .u8 0] default := (rd_pair (v1 := [.int .i64 0]) (rd_int (n := 0) (by simp [InR])) (rd_pair (v1 := [.int .i64 0]) (rd_int (n := 0) (by simp [InR])) (rd_pair (v1 := [.bool false]) (rd_bool false) (rd_nat (n := 0) rfl (by simp [InR])))))
abbrev en8 := (encPair (encInt .i64 8) (encPair (encInt .i64 8) (encPair encBool (encNat .u8 1) 8) 16) 24)
theorem rz8 (w : World) (A : Nat → Prop) : Enc.rd (encPair (encInt .i64 8) (encPair (encInt .i64 8) (encPair encBool (encNat .u8 1) 8) 16) 24) w A [.int .i64 0, .int .i64 0, .bool false, .int .u8 0] default := (rd_pair (v1 := [.int .i64 0]) (rd_int (n := 0) (by simp [InR])) (rd_pair (v1 := [.int .i64 0]) (rd_int (n := 0) (by simp [InR])) (rd_pair (v1 := [.bool false]) (rd_bool false) (rd_nat (n := 0) rfl (by simp [InR])))))
abbrev en12 := (encNat .u64 8)
theorem rz12 (w : World) (A : Nat → Prop) : Enc.rd (encNat .u64 8) w A [.int .u64 0] default := (rd_nat (n := 0) rfl (by simp [InR]))
abbrev en21 := (encInt .i32 4)
theorem rz21 (w : World) (A : Nat → Prop) : Enc.rd (encInt .i32 4) w A [.int .i32 0] default := (rd_int (n := 0) (by simp [InR]))
abbrev en22 := (encSl (encNat .u32 4))
theorem rz22 (w : World) (A : Nat → Prop) : Enc.rd (encSl (encNat .u32 4)) w A [.slice none 0 0] default := rd_nilsl
abbrev en23 := (encSl (encNat .u32 4))
theorem rz23 (w : World) (A : Nat → Prop) : Enc.rd (encSl (encNat .u32 4)) w A [.slice none 0 0] default := rd_nilsl
abbrev en24 := (encPair encBool (encPair (encSl (encNat .u32 4)) (encSl (encNat .u32 4)) 48) 56)
theorem rz24 (w : World) (A : Nat → Prop) : Enc.rd (encPair encBool (encPair (encSl (encNat .u32 4)) (encSl (encNat .u32 4)) 48) 56) w A [.bool false, .slice none 0 0, .slice none 0 0] default := (rd_pair (v1 := [.bool false]) (rd_bool false) (rd_pair (v1 := [.slice none 0 0]) rd_nilsl rd_nilsl))
abbrev en25 := RatE
theorem rz25 (w : World) (A : Nat → Prop) : Enc.rd RatE w A [.bool false, .slice none 0 0, .slice none 0 0] default := (rd_pair (v1 := [.bool false]) (rd_bool false) (rd_pair (v1 := [.slice none 0 0]) rd_nilsl rd_nilsl))
abbrev en26 := (encInt .i64 8)
theorem rz26 (w : World) (A : Nat → Prop) : Enc.rd (encInt .i64 8) w A [.int .i64 0] default := (rd_int (n := 0) (by simp [InR]))
abbrev en34 := (encInt .i8 1)
theorem rz34 (w : World) (A : Nat → Prop) : Enc.rd (encInt .i8 1) w A [.int .i8 0] default := (rd_int (n := 0) (by simp [InR]))
abbrev en44 := (encSl RatE)
theorem rz44 (w : World) (A : Nat → Prop) : Enc.rd (encSl RatE) w A [.slice none 0 0] default := rd_nilsl
abbrev en51 := (encSl (encSl (encNat .u32 4)))
theorem rz51 (w : World) (A : Nat → Prop) : Enc.rd (encSl (encSl (encNat .u32 4))) w A [.slice none 0 0] default := rd_nilsl
abbrev en60 := (encPair encBool (encSl (encNat .u32 4)) 32)
theorem rz60 (w : World) (A : Nat → Prop) : Enc.rd (encPair encBool (encSl (encNat .u32 4)) 32) w A [.bool false, .slice none 0 0] default := (rd_pair (v1 := [.bool false]) (rd_bool false) rd_nilsl)
abbrev en61 := IntE
theorem rz61 (w : World) (A : Nat → Prop) : Enc.rd IntE w A [.bool false, .slice none 0 0] default := (rd_pair (v1 := [.bool false]) (rd_bool false) rd_nilsl)
abbrev en62 := (encSl IntE)
theorem rz62 (w : World) (A : Nat → Prop) : Enc.rd (encSl IntE) w A [.slice none 0 0] default := rd_nilsl
abbrev en63 := (encSl (encSl IntE))
theorem rz63 (w : World) (A : Nat → Prop) : Enc.rd (encSl (encSl IntE)) w A [.slice none 0 0] default := rd_nilsl
abbrev en65 := (encNat .u32 4)
theorem rz65 (w : World) (A : Nat → Prop) : Enc.rd (encNat .u32 4) w A [.int .u32 0] default := (rd_nat (n := 0) rfl (by simp [InR]))
abbrev en70 := (encNat .u64 8)
theorem rz70 (w : World) (A : Nat → Prop) : Enc.rd (encNat .u64 8) w A [.int .u64 0] default := (rd_nat (n := 0) rfl (by simp [InR]))
abbrev en100 := (encNat .u64 8)
theorem rz100 (w : World) (A : Nat → Prop) : Enc.rd (encNat .u64 8) w A [.int .u64 0] default := (rd_nat (n := 0) rfl (by simp [InR]))
abbrev en112 := (encNat .u8 1)
theorem rz112 (w : World) (A : Nat → Prop) : Enc.rd (encNat .u8 1) w A [.int .u8 0] default := (rd_nat (n := 0) rfl (by simp [InR]))
abbrev en113 := (encNat .u8 1)
theorem rz113 (w : World) (A : Nat → Prop) : Enc.rd (encNat .u8 1) w A [.int .u8 0] default := (rd_nat (n := 0) rfl (by simp [InR]))
abbrev en116 := (encInt .i32 4)
theorem rz116 (w : World) (A : Nat → Prop) : Enc.rd (encInt .i32 4) w A [.int .i32 0] default := (rd_int (n := 0) (by simp [InR]))
abbrev en117 := (encInt .i32 4)
theorem rz117 (w : World) (A : Nat → Prop) : Enc.rd (encInt .i32 4) w A [.int .i32 0] default := (rd_int (n := 0) (by simp [InR]))
abbrev itl : List (TypeId × IntKind) := [(2, .i64), (3, .i64), (5, .u8), (6, .u8), (12, .u64), (21, .i32), (26, .i64), (34, .i8), (65, .u32), (70, .u64), (100, .u64), (112, .u8), (113, .u8), (116, .i32), (117, .i32)]
theorem it : IntTys Try.prog itl := IntTys.cons (t := 2) (k := .i64) rfl (IntTys.cons (t := 3) (k := .i64) rfl (IntTys.cons (t := 5) (k := .u8) rfl (IntTys.cons (t := 6) (k := .u8) rfl (IntTys.cons (t := 12) (k := .u64) rfl (IntTys.cons (t := 21) (k := .i32) rfl (IntTys.cons (t := 26) (k := .i64) rfl (IntTys.cons (t := 34) (k := .i8) rfl (IntTys.cons (t := 65) (k := .u32) rfl (IntTys.cons (t := 70) (k := .u64) rfl (IntTys.cons (t := 100) (k := .u64) rfl (IntTys.cons (t := 112) (k := .u8) rfl (IntTys.cons (t := 113) (k := .u8) rfl (IntTys.cons (t := 116) (k := .i32) rfl (IntTys.cons (t := 117) (k := .i32) rfl (IntTys.nil _)))))))))))))))
theorem ub : Program.underlying Try.prog 4 = some TypeDesc.bool := rfl
theorem mx : Try.prog.follows .mixedOrders = true := rfl
end Go.Proofs.Ytamkmihhpadamaa

namespace Go.Proofs.Ytamkmihhpadamaa
open Go Go.Fw
noncomputable def F_codewrightlaw24_MacwilliamsKrawtchouk : Fun Try.prog := ⟨3, Try.f3, _, Try.func3, rfl, rfl⟩
noncomputable def F_codewrightlaw24_MacwilliamsGenerating : Fun Try.prog := ⟨4, Try.f4, _, Try.func4, rfl, rfl⟩
noncomputable def F_codewrightlaw24_MacwilliamsOrthogonal : Fun Try.prog := ⟨5, Try.f5, _, Try.func5, rfl, rfl⟩
noncomputable def F_codewrightlaw24_MacwilliamsReciprocal : Fun Try.prog := ⟨6, Try.f6, _, Try.func6, rfl, rfl⟩
noncomputable def F_codewrightlaw24_MacwilliamsRecurrence : Fun Try.prog := ⟨7, Try.f7, _, Try.func7, rfl, rfl⟩
noncomputable def F_codewrightlaw24_MacwilliamsTransforms : Fun Try.prog := ⟨8, Try.f8, _, Try.func8, rfl, rfl⟩
noncomputable def F_codewrightlaw24_MacwilliamsInverts : Fun Try.prog := ⟨9, Try.f9, _, Try.func9, rfl, rfl⟩
noncomputable def F_codewrightlaw24_MacwilliamsExternals : Fun Try.prog := ⟨10, Try.f10, _, Try.func10, rfl, rfl⟩
noncomputable def F_codewrightlaw24_MacwilliamsStrengths : Fun Try.prog := ⟨11, Try.f11, _, Try.func11, rfl, rfl⟩
noncomputable def F_macwilliams_Krawtchouk : Fun Try.prog := ⟨12, Try.f12, _, Try.func12, rfl, rfl⟩
noncomputable def F_codewrightref24_Order : Fun Try.prog := ⟨13, Try.f13, _, Try.func13, rfl, rfl⟩
noncomputable def F_codewrightref02_Nil : Fun Try.prog := ⟨14, Try.f14, _, Try.func14, rfl, rfl⟩
noncomputable def F_codewrightref02_Same : Fun Try.prog := ⟨15, Try.f15, _, Try.func15, rfl, rfl⟩
noncomputable def F_codewrightref24_Krawtchouk : Fun Try.prog := ⟨16, Try.f16, _, Try.func16, rfl, rfl⟩
noncomputable def F_codewrightref02_Int : Fun Try.prog := ⟨17, Try.f17, _, Try.func17, rfl, rfl⟩
noncomputable def F_codewrightlaw24_k : Fun Try.prog := ⟨18, Try.f18, _, Try.func18, rfl, rfl⟩
noncomputable def F_codewrightref02_Add : Fun Try.prog := ⟨19, Try.f19, _, Try.func19, rfl, rfl⟩
noncomputable def F_codewrightref02_Mul : Fun Try.prog := ⟨20, Try.f20, _, Try.func20, rfl, rfl⟩
noncomputable def F_codewrightref02_Pow : Fun Try.prog := ⟨21, Try.f21, _, Try.func21, rfl, rfl⟩
noncomputable def F_codewrightlaw24_choose : Fun Try.prog := ⟨22, Try.f22, _, Try.func22, rfl, rfl⟩
noncomputable def F_codewrightlaw24_pow : Fun Try.prog := ⟨23, Try.f23, _, Try.func23, rfl, rfl⟩
noncomputable def F_codewrightref02_Sign : Fun Try.prog := ⟨24, Try.f24, _, Try.func24, rfl, rfl⟩
noncomputable def F_codewrightref02_Sub : Fun Try.prog := ⟨25, Try.f25, _, Try.func25, rfl, rfl⟩
noncomputable def F_codewrightlaw24_large : Fun Try.prog := ⟨26, Try.f26, _, Try.func26, rfl, rfl⟩
noncomputable def F_macwilliams_Transform : Fun Try.prog := ⟨27, Try.f27, _, Try.func27, rfl, rfl⟩
noncomputable def F_codewrightref24_Shape : Fun Try.prog := ⟨28, Try.f28, _, Try.func28, rfl, rfl⟩
noncomputable def F_codewrightref02_SameList : Fun Try.prog := ⟨29, Try.f29, _, Try.func29, rfl, rfl⟩
noncomputable def F_codewrightref24_Transform : Fun Try.prog := ⟨30, Try.f30, _, Try.func30, rfl, rfl⟩
noncomputable def F_codewrightlaw24_long : Fun Try.prog := ⟨31, Try.f31, _, Try.func31, rfl, rfl⟩
noncomputable def F_macwilliams_External : Fun Try.prog := ⟨32, Try.f32, _, Try.func32, rfl, rfl⟩
noncomputable def F_codewrightref24_Dual : Fun Try.prog := ⟨33, Try.f33, _, Try.func33, rfl, rfl⟩
noncomputable def F_codewrightref24_External : Fun Try.prog := ⟨34, Try.f34, _, Try.func34, rfl, rfl⟩
noncomputable def F_macwilliams_Strength : Fun Try.prog := ⟨35, Try.f35, _, Try.func35, rfl, rfl⟩
noncomputable def F_codewrightref24_Least : Fun Try.prog := ⟨36, Try.f36, _, Try.func36, rfl, rfl⟩
noncomputable def F_codewrightref24_Strength : Fun Try.prog := ⟨37, Try.f37, _, Try.func37, rfl, rfl⟩
noncomputable def F_macwilliams_ratio : Fun Try.prog := ⟨38, Try.f38, _, Try.func38, rfl, rfl⟩
noncomputable def F_macwilliams_table : Fun Try.prog := ⟨39, Try.f39, _, Try.func39, rfl, rfl⟩
noncomputable def F_codewrightref01_Same : Fun Try.prog := ⟨40, Try.f40, _, Try.func40, rfl, rfl⟩
noncomputable def F_codewrightref01_Pow : Fun Try.prog := ⟨41, Try.f41, _, Try.func41, rfl, rfl⟩
noncomputable def F_codewrightref01_Of : Fun Try.prog := ⟨42, Try.f42, _, Try.func42, rfl, rfl⟩
noncomputable def F_codewrightref02_Nat : Fun Try.prog := ⟨43, Try.f43, _, Try.func43, rfl, rfl⟩
noncomputable def F_codewrightref01_Mul : Fun Try.prog := ⟨44, Try.f44, _, Try.func44, rfl, rfl⟩
noncomputable def F_codewrightref01_Choose : Fun Try.prog := ⟨45, Try.f45, _, Try.func45, rfl, rfl⟩
noncomputable def F_codewrightref02_Neg : Fun Try.prog := ⟨46, Try.f46, _, Try.func46, rfl, rfl⟩
noncomputable def F_codewrightref02_Of : Fun Try.prog := ⟨47, Try.f47, _, Try.func47, rfl, rfl⟩
noncomputable def F_codewrightref02_Is : Fun Try.prog := ⟨48, Try.f48, _, Try.func48, rfl, rfl⟩
noncomputable def F_codewrightref02_Trim : Fun Try.prog := ⟨49, Try.f49, _, Try.func49, rfl, rfl⟩
noncomputable def F_codewrightref02_Make : Fun Try.prog := ⟨50, Try.f50, _, Try.func50, rfl, rfl⟩
noncomputable def F_codewrightref01_Add : Fun Try.prog := ⟨51, Try.f51, _, Try.func51, rfl, rfl⟩
noncomputable def F_codewrightref01_Cmp : Fun Try.prog := ⟨52, Try.f52, _, Try.func52, rfl, rfl⟩
noncomputable def F_codewrightref01_Sub : Fun Try.prog := ⟨53, Try.f53, _, Try.func53, rfl, rfl⟩
noncomputable def F_codewrightref02_Inv : Fun Try.prog := ⟨54, Try.f54, _, Try.func54, rfl, rfl⟩
noncomputable def F_macwilliams_wrong : Fun Try.prog := ⟨55, Try.f55, _, Try.func55, rfl, rfl⟩
noncomputable def F_rational_Trim : Fun Try.prog := ⟨56, Try.f56, _, Try.func56, rfl, rfl⟩
noncomputable def F_nat_DivMod : Fun Try.prog := ⟨57, Try.f57, _, Try.func57, rfl, rfl⟩
noncomputable def F_nat_Gcd : Fun Try.prog := ⟨58, Try.f58, _, Try.func58, rfl, rfl⟩
noncomputable def F_nat_Mul : Fun Try.prog := ⟨59, Try.f59, _, Try.func59, rfl, rfl⟩
noncomputable def F_macwilliams_sums : Fun Try.prog := ⟨60, Try.f60, _, Try.func60, rfl, rfl⟩
noncomputable def F_macwilliams_Dual : Fun Try.prog := ⟨61, Try.f61, _, Try.func61, rfl, rfl⟩
noncomputable def F_macwilliams_some : Fun Try.prog := ⟨62, Try.f62, _, Try.func62, rfl, rfl⟩
noncomputable def F_codewrightref24_Total : Fun Try.prog := ⟨63, Try.f63, _, Try.func63, rfl, rfl⟩
noncomputable def F_codewrightref01_Zero : Fun Try.prog := ⟨64, Try.f64, _, Try.func64, rfl, rfl⟩
noncomputable def F_codewrightref02_Whole : Fun Try.prog := ⟨65, Try.f65, _, Try.func65, rfl, rfl⟩
noncomputable def F_codewrightref24_nonzero : Fun Try.prog := ⟨66, Try.f66, _, Try.func66, rfl, rfl⟩
noncomputable def F_nat_Bits : Fun Try.prog := ⟨67, Try.f67, _, Try.func67, rfl, rfl⟩
noncomputable def F_nat_Binomial : Fun Try.prog := ⟨68, Try.f68, _, Try.func68, rfl, rfl⟩
noncomputable def F_nat_Pow : Fun Try.prog := ⟨69, Try.f69, _, Try.func69, rfl, rfl⟩
noncomputable def F_nat_Of : Fun Try.prog := ⟨70, Try.f70, _, Try.func70, rfl, rfl⟩
noncomputable def F_macwilliams_small : Fun Try.prog := ⟨71, Try.f71, _, Try.func71, rfl, rfl⟩
noncomputable def F_macwilliams_minus : Fun Try.prog := ⟨72, Try.f72, _, Try.func72, rfl, rfl⟩
noncomputable def F_macwilliams_times : Fun Try.prog := ⟨73, Try.f73, _, Try.func73, rfl, rfl⟩
noncomputable def F_codewrightref01_Trim : Fun Try.prog := ⟨74, Try.f74, _, Try.func74, rfl, rfl⟩
noncomputable def F_codewrightref01_Bits : Fun Try.prog := ⟨75, Try.f75, _, Try.func75, rfl, rfl⟩
noncomputable def F_codewrightref01_small : Fun Try.prog := ⟨76, Try.f76, _, Try.func76, rfl, rfl⟩
noncomputable def F_codewrightref02_abs : Fun Try.prog := ⟨77, Try.f77, _, Try.func77, rfl, rfl⟩
noncomputable def F_codewrightref01_Gcd : Fun Try.prog := ⟨78, Try.f78, _, Try.func78, rfl, rfl⟩
noncomputable def F_codewrightref01_DivMod : Fun Try.prog := ⟨79, Try.f79, _, Try.func79, rfl, rfl⟩
noncomputable def F_codewrightref01_limb : Fun Try.prog := ⟨80, Try.f80, _, Try.func80, rfl, rfl⟩
noncomputable def F_macwilliams_shape : Fun Try.prog := ⟨81, Try.f81, _, Try.func81, rfl, rfl⟩
noncomputable def F_rational_canonical : Fun Try.prog := ⟨82, Try.f82, _, Try.func82, rfl, rfl⟩
noncomputable def F_nat_short : Fun Try.prog := ⟨83, Try.f83, _, Try.func83, rfl, rfl⟩
noncomputable def F_nat_Cmp : Fun Try.prog := ⟨84, Try.f84, _, Try.func84, rfl, rfl⟩
noncomputable def F_nat_Trim : Fun Try.prog := ⟨85, Try.f85, _, Try.func85, rfl, rfl⟩
noncomputable def F_nat_digit : Fun Try.prog := ⟨86, Try.f86, _, Try.func86, rfl, rfl⟩
noncomputable def F_nat_long : Fun Try.prog := ⟨87, Try.f87, _, Try.func87, rfl, rfl⟩
noncomputable def F_nat_times : Fun Try.prog := ⟨88, Try.f88, _, Try.func88, rfl, rfl⟩
noncomputable def F_macwilliams_plus : Fun Try.prog := ⟨89, Try.f89, _, Try.func89, rfl, rfl⟩
noncomputable def F_nat_Add : Fun Try.prog := ⟨90, Try.f90, _, Try.func90, rfl, rfl⟩
noncomputable def F_bits_Len32 : Fun Try.prog := ⟨91, Try.f91, _, Try.func91, rfl, rfl⟩
noncomputable def F_codewrightref01_shift : Fun Try.prog := ⟨92, Try.f92, _, Try.func92, rfl, rfl⟩
noncomputable def F_rational_one : Fun Try.prog := ⟨93, Try.f93, _, Try.func93, rfl, rfl⟩
noncomputable def F_bits_LeadingZeros32 : Fun Try.prog := ⟨94, Try.f94, _, Try.func94, rfl, rfl⟩
noncomputable def F_nat_shift : Fun Try.prog := ⟨95, Try.f95, _, Try.func95, rfl, rfl⟩
noncomputable def F_nat_step : Fun Try.prog := ⟨96, Try.f96, _, Try.func96, rfl, rfl⟩
noncomputable def F_nat_Sub : Fun Try.prog := ⟨97, Try.f97, _, Try.func97, rfl, rfl⟩
noncomputable def F_nat_plus : Fun Try.prog := ⟨98, Try.f98, _, Try.func98, rfl, rfl⟩
end Go.Proofs.Ytamkmihhpadamaa

namespace Go.Proofs.Ytamkmihhpadamaa
set_option maxRecDepth 100000
set_option linter.unusedVariables false
--plain
def B32 : Nat := 4294967296

def val : List Nat → Nat
  | [] => 0
  | x :: l => x + 4294967296 * val l

/-- Without the zeros at the end. -/
def trim : List Nat → List Nat
  | [] => []
  | x :: l => match trim l with
    | [] => if x = 0 then [] else [x]
    | y :: l' => x :: y :: l'

theorem val_trim : ∀ l, val (trim l) = val l := by
  intro l
  induction l with
  | nil => rfl
  | cons x l ih =>
    simp only [trim]
    cases h : trim l with
    | nil =>
      rw [h] at ih
      simp only [val] at ih ⊢
      split
      · subst_vars; simp [val, ← ih]
      · simp [val, ← ih]
    | cons y l' => rw [h] at ih; simp only [val] at ih ⊢; omega

theorem trim_length_le : ∀ l, (trim l).length ≤ l.length := by
  intro l
  induction l with
  | nil => exact Nat.le_refl _
  | cons x l ih =>
    simp only [trim]
    cases h : trim l with
    | nil => by_cases hx : x = 0 <;> simp [hx]
    | cons y l' => rw [h] at ih; simp at ih ⊢; omega

theorem trim_eq_take : ∀ l, trim l = l.take (trim l).length := by
  intro l
  induction l with
  | nil => rfl
  | cons x l ih =>
    simp only [trim]
    cases h : trim l with
    | nil => by_cases hx : x = 0 <;> simp [hx]
    | cons y l' => rw [h] at ih; simp at ih ⊢; exact ih

theorem trim_nil_iff : ∀ l, trim l = [] ↔ ∀ x ∈ l, x = 0 := by
  intro l
  induction l with
  | nil => simp [trim]
  | cons x l ih =>
    simp only [trim]
    cases h : trim l with
    | nil =>
      have := ih.1 h
      by_cases hx : x = 0
      · simp only [hx, if_true, true_iff]
        intro z hz
        rcases List.mem_cons.1 hz with rfl | hz
        · rfl
        · exact this z hz
      · simp [hx]
    | cons y l' =>
      simp only [reduceCtorEq, false_iff]
      intro hh
      have := ih.2 fun z hz => hh z (.tail _ hz)
      rw [h] at this; cases this

theorem trim_append_zero (l : List Nat) : trim (l ++ [0]) = trim l := by
  induction l with
  | nil => simp [trim]
  | cons x l ih => simp only [List.cons_append, trim, ih]

theorem trim_append_ne (l : List Nat) (x : Nat) (hx : x ≠ 0) : trim (l ++ [x]) = l ++ [x] := by
  induction l with
  | nil => simp [trim, hx]
  | cons y l ih =>
    simp only [List.cons_append, trim, ih]
    cases l <;> simp

/-- Cut at n: the zero before it goes too. -/
theorem trim_take_zero {l : List Nat} {n : Nat} (hn : l[n]? = some 0) : trim (l.take (n + 1)) = trim (l.take n) := by
  have : l.take (n + 1) = l.take n ++ [0] := by rw [List.take_add_one, hn]; rfl
  rw [this, trim_append_zero]

theorem trim_take_ne {l : List Nat} {n z : Nat} (hn : l[n]? = some z) (hz : z ≠ 0) : trim (l.take (n + 1)) = l.take (n + 1) := by
  have : l.take (n + 1) = l.take n ++ [z] := by rw [List.take_add_one, hn]; rfl
  rw [this, trim_append_ne _ _ hz]

theorem mem_trim {l : List Nat} {x : Nat} (h : x ∈ trim l) : x ∈ l := by
  rw [trim_eq_take] at h; exact List.mem_of_mem_take h

theorem trim_trim (l : List Nat) : trim (trim l) = trim l := by
  induction l with
  | nil => rfl
  | cons x l ih =>
    simp only [trim]
    cases h : trim l with
    | nil => by_cases hx : x = 0 <;> simp [hx, trim]
    | cons y l' => rw [h] at ih; simp only [trim] at ih ⊢; rw [ih]
end Go.Proofs.Ytamkmihhpadamaa

namespace Go.Proofs.Ytamkmihhpadamaa
set_option maxRecDepth 100000
set_option linter.unusedVariables false
--plain
def limbs (n : Nat) : List Nat := if _h : n = 0 then [] else n % 4294967296 :: limbs (n / 4294967296)
termination_by n
decreasing_by omega

theorem limbs_zero : limbs 0 = [] := by rw [limbs]; rfl
theorem limbs_pos {n : Nat} (h : n ≠ 0) : limbs n = n % 4294967296 :: limbs (n / 4294967296) := by rw [limbs, dif_neg h]

theorem val_limbs (n : Nat) : val (limbs n) = n := by
  induction n using Nat.strongRecOn with
  | ind n ih =>
    by_cases h : n = 0
    · subst h; rw [limbs_zero]; rfl
    · rw [limbs_pos h, val, ih _ (by omega)]; omega

theorem limbs_lt (n : Nat) : ∀ x ∈ limbs n, x < 4294967296 := by
  induction n using Nat.strongRecOn with
  | ind n ih =>
    intro x hx
    by_cases h : n = 0
    · subst h; rw [limbs_zero] at hx; cases hx
    · rw [limbs_pos h] at hx
      rcases List.mem_cons.1 hx with rfl | hx
      · omega
      · exact ih _ (by omega) x hx

theorem limbs_inj {a b : Nat} (h : limbs a = limbs b) : a = b := by rw [← val_limbs a, h, val_limbs]

theorem limbs_nil {n : Nat} : limbs n = [] ↔ n = 0 := by
  constructor
  · intro h; have := val_limbs n; rw [h] at this; exact this.symm
  · rintro rfl; exact limbs_zero

theorem trim_eq {l : List Nat} (h : ∀ x ∈ l, x < 4294967296) : trim l = limbs (val l) := by
  induction l with
  | nil => exact limbs_zero.symm
  | cons x l ih =>
    have ih := ih fun y hy => h y (.tail _ hy)
    have hx := h x (.head _)
    simp only [trim, val]
    rw [ih]
    by_cases hv : val l = 0
    · rw [hv, limbs_zero]
      by_cases h0 : x = 0
      · subst h0; simp [limbs_zero]
      · simp only [if_neg h0]
        rw [limbs_pos (by omega), show (x + 4294967296 * 0) / 4294967296 = 0 by omega, limbs_zero, show (x + 4294967296 * 0) % 4294967296 = x by omega]
    · rw [limbs_pos (show x + 4294967296 * val l ≠ 0 by omega), show (x + 4294967296 * val l) / 4294967296 = val l by omega, show (x + 4294967296 * val l) % 4294967296 = x by omega]
      rw [limbs_pos hv]

theorem trim_limbs (n : Nat) : trim (limbs n) = limbs n := by rw [trim_eq (limbs_lt n), val_limbs]

theorem val_append (l m : List Nat) : val (l ++ m) = val l + 4294967296 ^ l.length * val m := by
  induction l with
  | nil => simp [val]
  | cons x l ih =>
    simp only [List.cons_append, val, ih, List.length_cons, Nat.pow_succ]
    rw [Nat.mul_add, Nat.mul_comm (4294967296 ^ l.length) 4294967296, Nat.mul_assoc]; omega

theorem val_lt {l : List Nat} (h : ∀ x ∈ l, x < 4294967296) : val l < 4294967296 ^ l.length := by
  induction l with
  | nil => simp [val]
  | cons x l ih =>
    have ih := ih fun y hy => h y (.tail _ hy)
    have hx := h x (.head _)
    simp only [val, List.length_cons, Nat.pow_succ]
    have : val l + 1 ≤ 4294967296 ^ l.length := ih
    have := Nat.mul_le_mul_right 4294967296 this
    omega

theorem limbs_length_le {n k : Nat} (h : n < 4294967296 ^ k) : (limbs n).length ≤ k := by
  induction k generalizing n with
  | zero => have : n = 0 := by simpa using h
            subst this; rw [limbs_zero]; exact Nat.le_refl _
  | succ k ih =>
    by_cases h0 : n = 0
    · subst h0; rw [limbs_zero]; exact Nat.zero_le _
    · rw [limbs_pos h0, List.length_cons]
      have := ih (n := n / 4294967296) (by rw [Nat.pow_succ] at h; exact Nat.div_lt_of_lt_mul (by rw [Nat.mul_comm]; exact h))
      omega

theorem limbs_le_length {n k : Nat} (h : (limbs n).length ≤ k) : n < 4294967296 ^ k := by
  have := val_lt (limbs_lt n)
  rw [val_limbs] at this
  exact Nat.lt_of_lt_of_le this (Nat.pow_le_pow_right (by omega) h)

theorem val_take_succ {l : List Nat} {i x : Nat} (h : l[i]? = some x) : val (l.take (i + 1)) = val (l.take i) + 4294967296 ^ i * x := by
  have hi : i < l.length := (List.getElem?_eq_some_iff.1 h).1
  rw [List.take_add_one, h, val_append]
  simp [val, List.length_take, Nat.min_eq_left (Nat.le_of_lt hi)]

theorem val_replicate (n : Nat) : val (List.replicate n 0) = 0 := by
  induction n with
  | zero => rfl
  | succ n ih => rw [List.replicate_succ, val, ih]

theorem val_trim' {l : List Nat} {n : Nat} (h : trim l = limbs n) : val l = n := by rw [← val_trim, h, val_limbs]

theorem val_set_take {l : List Nat} {k z : Nat} (h : k < l.length) : val ((l.set k z).take (k + 1)) = val (l.take k) + 4294967296 ^ k * z := by
  rw [val_take_succ (x := z) (by simp [h]), List.take_set_of_le (Nat.le_refl k)]

theorem take_ge {l : List Nat} {k : Nat} (h : l.length ≤ k) : l.take (k + 1) = l.take k := by rw [List.take_of_length_le h, List.take_of_length_le (by omega)]

theorem set_lt {l : List Nat} {k z m : Nat} (h : ∀ x ∈ l, x < m) (hz : z < m) : ∀ x ∈ l.set k z, x < m := fun x hx => by
  rcases List.mem_or_eq_of_mem_set hx with h1 | rfl
  · exact h x h1
  · exact hz

theorem carry_step {V P c A b x y s : Nat} (h : V + P * c = A + b) (hs : s = x + c + y) : V + P * (s % 4294967296) + P * 4294967296 * (s / 4294967296) = A + P * x + (b + P * y) := by
  have h1 : P * (s % 4294967296) + P * 4294967296 * (s / 4294967296) = P * s := by rw [Nat.mul_assoc, ← Nat.mul_add, Nat.mod_add_div]
  rw [Nat.add_assoc, h1, hs, Nat.mul_add, Nat.mul_add]; omega

theorem rep_lt {n m : Nat} (h : 0 < m) : ∀ x ∈ List.replicate n 0, x < m := fun x hx => by rw [(List.mem_replicate.1 hx).2]; exact h

def sumV (ls : List (List Nat)) : Nat := (ls.map val).sum
def prodV : List (List Nat) → Nat
  | [] => 1
  | l :: ls => val l * prodV ls
def lenS (ls : List (List Nat)) : Nat := (ls.map List.length).sum

theorem sumV_take_succ {ls : List (List Nat)} {k : Nat} {z : List Nat} (h : ls[k]? = some z) : sumV (ls.take (k + 1)) = sumV (ls.take k) + val z := by
  rw [List.take_add_one, h]; simp [sumV]

theorem sumV_le {ls : List (List Nat)} {m : Nat} (h : ∀ l ∈ ls, val l ≤ m) : sumV ls ≤ ls.length * m := by
  induction ls with
  | nil => simp [sumV]
  | cons l ls ih =>
    have h1 := ih fun x hx => h x (.tail _ hx)
    have h2 := h l (.head _)
    have e : sumV (l :: ls) = val l + sumV ls := by simp [sumV]
    rw [e, List.length_cons, Nat.succ_mul]; omega

/-- Few numbers that are not long have a sum that is not long. -/
theorem sum_len {ls : List (List Nat)} {L : Nat} (hr : ∀ l ∈ ls, ∀ x ∈ l, x < 4294967296) (hL : ∀ l ∈ ls, l.length ≤ L) (hn : ls.length ≤ 65536) (k : Nat) : (limbs (sumV (ls.take k))).length ≤ L + 1 := by
  refine limbs_length_le ?_
  have h1 : sumV (ls.take k) ≤ (ls.take k).length * 4294967296 ^ L := sumV_le fun l hl => by
    have hl' := List.mem_of_mem_take hl
    exact Nat.le_trans (Nat.le_of_lt (val_lt (hr l hl'))) (Nat.pow_le_pow_right (by omega) (hL l hl'))
  have h2 : (ls.take k).length * 4294967296 ^ L ≤ 65536 * 4294967296 ^ L := Nat.mul_le_mul_right _ (by rw [List.length_take]; omega)
  have h3 : 0 < 4294967296 ^ L := Nat.pow_pos (by omega)
  rw [Nat.pow_succ]; omega

theorem prodV_append (ls : List (List Nat)) (z : List Nat) : prodV (ls ++ [z]) = prodV ls * val z := by
  induction ls with
  | nil => simp [prodV]
  | cons l ls ih => rw [List.cons_append, prodV, ih, prodV, Nat.mul_assoc]

theorem prodV_take_succ {ls : List (List Nat)} {k : Nat} {z : List Nat} (h : ls[k]? = some z) : prodV (ls.take (k + 1)) = prodV (ls.take k) * val z := by
  rw [List.take_add_one, h]; exact prodV_append _ _

theorem lenS_cons (l : List Nat) (ls : List (List Nat)) : lenS (l :: ls) = l.length + lenS ls := by simp [lenS]

theorem prodV_le {ls : List (List Nat)} (hr : ∀ l ∈ ls, ∀ x ∈ l, x < 4294967296) : prodV ls ≤ 4294967296 ^ lenS ls := by
  induction ls with
  | nil => simp [prodV, lenS]
  | cons l ls ih =>
    rw [prodV, lenS_cons, Nat.pow_add]
    exact Nat.mul_le_mul (Nat.le_of_lt (val_lt (hr l (.head _)))) (ih fun x hx => hr x (.tail _ hx))

theorem lenS_take (ls : List (List Nat)) (k : Nat) : lenS (ls.take k) ≤ lenS ls := by
  induction ls generalizing k with
  | nil => simp
  | cons l ls ih =>
    cases k with
    | zero => simp [lenS]
    | succ k => rw [List.take_succ_cons, lenS_cons, lenS_cons]; have := ih k; omega

theorem lenS_mem {ls : List (List Nat)} {l : List Nat} (h : l ∈ ls) : l.length ≤ lenS ls := by
  induction ls with
  | nil => cases h
  | cons y ls ih =>
    rw [lenS_cons]
    rcases List.mem_cons.1 h with rfl | h
    · omega
    · have := ih h; omega

theorem prod_len {ls : List (List Nat)} (hr : ∀ l ∈ ls, ∀ x ∈ l, x < 4294967296) (k : Nat) : (limbs (prodV (ls.take k))).length ≤ lenS ls + 1 := by
  refine limbs_length_le ?_
  have h1 := prodV_le (ls := ls.take k) fun l hl => hr l (List.mem_of_mem_take hl)
  have h2 : 4294967296 ^ lenS (ls.take k) ≤ 4294967296 ^ lenS ls := Nat.pow_le_pow_right (by omega) (lenS_take ls k)
  have h3 : 0 < 4294967296 ^ lenS ls := Nat.pow_pos (by omega)
  rw [Nat.pow_succ]; omega

theorem limbs_one : limbs 1 = [1] := by rw [limbs_pos (by omega)]; simp [limbs_zero]
theorem limbs_small {n : Nat} (h : n ≠ 0) (h' : n < 4294967296) : limbs n = [n] := by
  rw [limbs_pos h, show n / 4294967296 = 0 by omega, limbs_zero, show n % 4294967296 = n by omega]

theorem val_drop {l : List Nat} {k x : Nat} (h : l[k]? = some x) : val (l.drop k) = x + 4294967296 * val (l.drop (k + 1)) := by
  have hk : k < l.length := (List.getElem?_eq_some_iff.1 h).1
  rw [List.drop_eq_getElem_cons hk, val]
  rw [List.getElem?_eq_getElem hk] at h
  rw [Option.some.inj h]

theorem val_set_drop {l : List Nat} {k z : Nat} (h : k < l.length) : val ((l.set k z).drop k) = z + 4294967296 * val (l.drop (k + 1)) := by
  rw [val_drop (x := z) (by simp [h]), List.drop_set_of_lt (by omega)]

theorem div_step {A Q b r x : Nat} (h : A = Q * b + r) (hb : 0 < b) : x + 4294967296 * A = ((r * 4294967296 + x) / b + 4294967296 * Q) * b + (r * 4294967296 + x) % b := by
  have h1 := Nat.div_add_mod (r * 4294967296 + x) b
  rw [Nat.add_mul, Nat.mul_comm _ b]
  rw [h, Nat.mul_add, Nat.mul_assoc]
  omega

theorem div_lt' {r x b : Nat} (hr : r < b) (hx : x < 4294967296) : (r * 4294967296 + x) / b < 4294967296 := by
  refine Nat.div_lt_of_lt_mul ?_
  have := Nat.mul_le_mul_right 4294967296 (show r + 1 ≤ b from hr)
  omega

theorem val_take_getD (l : List Nat) (k : Nat) : val (l.take (k + 1)) = val (l.take k) + 4294967296 ^ k * l.getD k 0 := by
  by_cases h : k < l.length
  · rw [val_take_succ (List.getElem?_eq_getElem h), List.getD, List.getElem?_eq_getElem h]; rfl
  · rw [take_ge (by omega), List.getD, List.getElem?_eq_none (by omega)]; rfl

theorem getD_lt {l : List Nat} {k m : Nat} (h : ∀ x ∈ l, x < m) (hm : 0 < m) : l.getD k 0 < m := by
  by_cases hk : k < l.length
  · rw [List.getD, List.getElem?_eq_getElem hk]; exact h _ (List.getElem_mem hk)
  · rw [List.getD, List.getElem?_eq_none (by omega)]; exact hm

theorem getD_ge {l : List Nat} {k : Nat} (h : l.length ≤ k) : l.getD k 0 = 0 := by rw [List.getD, List.getElem?_eq_none h]; rfl

theorem val_snoc {l : List Nat} {x : Nat} : val (l ++ [x]) = val l + 4294967296 ^ l.length * x := by rw [val_append]; simp [val]

theorem snoc_lt {l : List Nat} {z m : Nat} (h : ∀ x ∈ l, x < m) (hz : z < m) : ∀ x ∈ l ++ [z], x < m := fun x hx => by
  rcases List.mem_append.1 hx with h1 | h1
  · exact h x h1
  · rw [List.mem_singleton.1 h1]; exact hz
end Go.Proofs.Ytamkmihhpadamaa

namespace Go.Proofs.Ytamkmihhpadamaa
set_option maxRecDepth 100000
set_option linter.unusedVariables false
--plain
def blen (n : Nat) : Nat := if _h : n = 0 then 0 else blen (n / 2) + 1
termination_by n
decreasing_by omega

theorem blen_zero : blen 0 = 0 := by rw [blen]; rfl
theorem blen_pos {n : Nat} (h : n ≠ 0) : blen n = blen (n / 2) + 1 := by rw [blen, dif_neg h]

theorem blen_div (k : Nat) : ∀ n, 2 ^ k ≤ n → blen n = blen (n / 2 ^ k) + k := by
  induction k with
  | zero => intro n _; simp
  | succ k ih =>
    intro n h
    have h0 : 0 < 2 ^ k := Nat.pow_pos (by omega)
    rw [Nat.pow_succ] at h
    rw [blen_pos (by omega), ih (n / 2) (by omega), Nat.div_div_eq_div_mul, Nat.pow_succ, Nat.mul_comm 2]; omega

def blenF : Nat → Nat → Nat
  | 0, _ => 0
  | f + 1, n => if n = 0 then 0 else blenF f (n / 2) + 1

theorem blenF_eq (f : Nat) : ∀ n, n < 2 ^ f → blenF f n = blen n := by
  induction f with
  | zero => intro n h; have : n = 0 := by simpa using h
            subst this; rw [blen_zero]; rfl
  | succ f ih =>
    intro n h
    rw [blenF]
    by_cases h0 : n = 0
    · subst h0; rw [if_pos rfl, blen_zero]
    · rw [if_neg h0, blen_pos h0, ih _ (by rw [Nat.pow_succ] at h; omega)]

theorem blen_le {n k : Nat} (h : n < 2 ^ k) : blen n ≤ k := by
  induction k generalizing n with
  | zero => have : n = 0 := by simpa using h
            subst this; rw [blen_zero]; omega
  | succ k ih =>
    by_cases h0 : n = 0
    · subst h0; rw [blen_zero]; omega
    · rw [blen_pos h0]; have := ih (n := n / 2) (by rw [Nat.pow_succ] at h; omega); omega

theorem blen_eq_zero {n : Nat} : blen n = 0 ↔ n = 0 := by
  constructor
  · intro h
    by_cases h0 : n = 0
    · exact h0
    · rw [blen_pos h0] at h; omega
  · rintro rfl; exact blen_zero

theorem blen_eq_one {n : Nat} : blen n = 1 ↔ n = 1 := by
  constructor
  · intro h
    by_cases h0 : n = 0
    · subst h0; rw [blen_zero] at h; omega
    · rw [blen_pos h0] at h
      have := blen_eq_zero.1 (show blen (n / 2) = 0 by omega)
      omega
  · rintro rfl; rw [blen_pos (by omega)]; simp [blen_zero]

/-- The check of a table of bit lengths, and what it gives. -/
def tabOk (s : ByteArray) : Bool := (List.range 256).all fun n => match s[n]? with
  | some b => b.toNat == blenF 8 n
  | none => false

theorem tab_get {s : ByteArray} (h : tabOk s = true) {n : Nat} (hn : n < 256) : s[n]? = some (UInt8.ofNat (blen n)) := by
  unfold tabOk at h
  have := List.all_eq_true.1 h n (List.mem_range.2 hn)
  cases hs : s[n]? with
  | none => rw [hs] at this; simp at this
  | some b =>
    rw [hs] at this
    simp only [beq_iff_eq] at this
    rw [blenF_eq 8 n (by simpa using hn)] at this
    rw [← this]; simp

/-- The digits of a list, counted. -/
def bitsL (l : List Nat) : Nat := match (trim l).getLast? with
  | none => 0
  | some x => 32 * ((trim l).length - 1) + blen x

theorem bitsL_nil {l : List Nat} (h : (trim l).length = 0) : bitsL l = 0 := by
  have : trim l = [] := List.length_eq_zero_iff.1 h
  unfold bitsL; rw [this]; rfl

theorem bitsL_top {l : List Nat} {z : Nat} (h : (trim l)[(trim l).length - 1]? = some z) : bitsL l = 32 * ((trim l).length - 1) + blen z := by
  unfold bitsL
  rw [List.getLast?_eq_getElem?, h]

/-- One limb. -/
theorem bitsL_small {l : List Nat} {n : Nat} (h : trim l = limbs n) (hn : n < 4294967296) : bitsL l = blen n := by
  unfold bitsL
  rw [h]
  by_cases h0 : n = 0
  · subst h0; rw [limbs_zero, blen_zero]; rfl
  · rw [limbs_small h0 hn]; simp

theorem pow_half (s n : Nat) : s ^ n = s ^ (n % 2) * (s * s) ^ (n / 2) := by
  have h : n = n % 2 + 2 * (n / 2) := by omega
  have h2 : (s * s) ^ (n / 2) = s ^ (2 * (n / 2)) := by rw [Nat.pow_mul, Nat.pow_two]
  rw [h2, ← Nat.pow_add, ← h]

theorem pow_odd {o s n W : Nat} (h : o * s ^ n = W) (hn : n % 2 = 1) : o * s * (s * s) ^ (n / 2) = W := by
  rw [← h, pow_half s n, hn, Nat.pow_one, Nat.mul_assoc]

theorem pow_even {o s n W : Nat} (h : o * s ^ n = W) (hn : n % 2 = 0) : o * (s * s) ^ (n / 2) = W := by
  rw [← h, pow_half s n, hn, Nat.pow_zero, Nat.one_mul]

theorem pow_bounds {o s n W : Nat} (h : o * s ^ n = W) (ho : 1 ≤ o) (hs : 1 ≤ s) (hn : 1 ≤ n) : o ≤ W ∧ s ≤ W ∧ o * s ≤ W := by
  have h1 : 1 ≤ s ^ n := Nat.pow_pos hs
  have h2 : s ≤ s ^ n := by
    have := Nat.pow_le_pow_right hs hn
    rwa [Nat.pow_one] at this
  refine ⟨?_, ?_, ?_⟩
  · rw [← h]; exact Nat.le_mul_of_pos_right _ h1
  · rw [← h]; exact Nat.le_trans h2 (Nat.le_mul_of_pos_left _ ho)
  · rw [← h]; exact Nat.mul_le_mul_left _ h2

theorem limbs_mono {x W k : Nat} (h : (limbs W).length ≤ k) (hx : x ≤ W) : (limbs x).length ≤ k :=
  limbs_length_le (Nat.lt_of_le_of_lt hx (limbs_le_length h))
end Go.Proofs.Ytamkmihhpadamaa

namespace Go.Proofs.Ytamkmihhpadamaa
set_option maxRecDepth 100000
set_option linter.unusedVariables false
--plain
def binom : Nat → Nat → Nat
  | _, 0 => 1
  | 0, _ + 1 => 0
  | n + 1, k + 1 => binom n k + binom n (k + 1)

theorem binom_zero (n : Nat) : binom n 0 = 1 := by cases n <;> rfl
theorem binom_succ (n k : Nat) : binom (n + 1) (k + 1) = binom n k + binom n (k + 1) := rfl

theorem binom_gt : ∀ (n k : Nat), n < k → binom n k = 0 := by
  intro n
  induction n with
  | zero => intro k h; cases k with
    | zero => omega
    | succ k => rfl
  | succ n ih => intro k h; cases k with
    | zero => omega
    | succ k => rw [binom_succ, ih k (by omega), ih (k + 1) (by omega)]

theorem binom_self (n : Nat) : binom n n = 1 := by
  induction n with
  | zero => rfl
  | succ n ih => rw [binom_succ, ih, binom_gt n (n + 1) (by omega)]

theorem binom_symm : ∀ (n a b : Nat), a + b = n → binom n a = binom n b := by
  intro n
  induction n with
  | zero => intro a b h; have : a = 0 := by omega
            have : b = 0 := by omega
            subst_vars; rfl
  | succ n ih =>
    intro a b h
    cases a with
    | zero => have : b = n + 1 := by omega
              subst this; rw [binom_self, binom_zero]
    | succ a => cases b with
      | zero => have : a = n := by omega
                subst this; rw [binom_self, binom_zero]
      | succ b => rw [binom_succ, binom_succ, ih a (b + 1) (by omega), ih (a + 1) b (by omega), Nat.add_comm]

theorem binom_le (n : Nat) : ∀ k, binom n k ≤ 2 ^ n := by
  induction n with
  | zero => intro k; cases k <;> simp [binom]
  | succ n ih => intro k; cases k with
    | zero => rw [binom_zero]; exact Nat.pow_pos (by omega)
    | succ k => rw [binom_succ, Nat.pow_succ]; have := ih k; have := ih (k + 1); omega

theorem binom_step : ∀ (n k m : Nat), n = k + m → (k + 1) * binom n (k + 1) = m * binom n k := by
  intro n
  induction n with
  | zero => intro k m h; have : k = 0 := by omega
            have : m = 0 := by omega
            subst_vars; rfl
  | succ n ih =>
    intro k m h
    cases k with
    | zero =>
      have hm : m = n + 1 := by omega
      subst hm
      have := ih 0 n (by omega)
      rw [binom_succ, binom_zero, binom_zero] at *
      simp only [Nat.zero_add, Nat.one_mul, Nat.mul_one] at this ⊢
      omega
    | succ j =>
      cases m with
      | zero => rw [Nat.zero_mul, binom_gt (n + 1) (j + 1 + 1) (by omega), Nat.mul_zero]
      | succ m =>
        have h1 := ih j (m + 1) (by omega)
        have h2 := ih (j + 1) m (by omega)
        rw [binom_succ, binom_succ]
        have h3 : (j + 1 + 1) * (binom n (j + 1) + binom n (j + 1 + 1)) = (j + 1) * binom n (j + 1) + binom n (j + 1) + (j + 1 + 1) * binom n (j + 1 + 1) := by rw [Nat.mul_add, Nat.add_mul (j + 1) 1, Nat.one_mul]
        rw [h3, h2, h1, Nat.mul_add, Nat.add_mul m 1 (binom n (j + 1)), Nat.one_mul]
        omega

/-- From one to the next. -/
theorem binom_next {n k : Nat} (h : k ≤ n) : binom n k * (n - k) / (k + 1) = binom n (k + 1) := by
  have := binom_step n k (n - k) (by omega)
  rw [Nat.mul_comm, ← this]
  exact Nat.mul_div_cancel_left _ (by omega)

theorem binom_min {n k : Nat} (h : k ≤ n) : binom n (if n - k < k then n - k else k) = binom n k := by
  split
  · exact binom_symm n (n - k) k (by omega)
  · rfl

theorem pow_chain {x n m k : Nat} (h : x ≤ 2 ^ n) (hn : n ≤ m) (hm : m < 32 * k) : x < 4294967296 ^ k := by
  have e : (4294967296 : Nat) ^ k = 2 ^ (32 * k) := by rw [Nat.pow_mul]
  rw [e]
  exact Nat.lt_of_le_of_lt h (Nat.pow_lt_pow_right (by decide) (by omega))

theorem binom_len {n : Nat} (h : n ≤ 4096) (k : Nat) : (limbs (binom n k)).length ≤ 129 :=
  limbs_length_le (pow_chain (binom_le n k) h (by decide))
end Go.Proofs.Ytamkmihhpadamaa

namespace Go.Proofs.Ytamkmihhpadamaa
set_option maxRecDepth 100000
set_option linter.unusedVariables false
--plain
/-- The sign of a comparison. -/
def cmpN (a b : Nat) : Int := if a < b then -1 else if b < a then 1 else 0

theorem cmpN_lt {a b : Nat} (h : a < b) : cmpN a b = -1 := by rw [cmpN, if_pos h]
theorem cmpN_gt {a b : Nat} (h : b < a) : cmpN a b = 1 := by rw [cmpN, if_neg (by omega), if_pos h]
theorem cmpN_eq {a b : Nat} (h : a = b) : cmpN a b = 0 := by rw [cmpN, if_neg (by omega), if_neg (by omega)]

theorem val_take_drop (l : List Nat) (k : Nat) (hk : k ≤ l.length) : val l = val (l.take k) + 4294967296 ^ k * val (l.drop k) := by
  have h := val_append (l.take k) (l.drop k)
  rw [List.take_append_drop, List.length_take, Nat.min_eq_left hk] at h
  exact h

theorem take_lt {l : List Nat} (h : ∀ x ∈ l, x < 4294967296) {k : Nat} (hk : k ≤ l.length) : val (l.take k) < 4294967296 ^ k := by
  have := val_lt (l := l.take k) (fun x hx => h x (List.mem_of_mem_take hx))
  rwa [List.length_take, Nat.min_eq_left hk] at this

theorem lt_of_len {x y : Nat} (h : (limbs x).length < (limbs y).length) : x < y := by
  rcases Nat.lt_or_ge x y with h1 | h1
  · exact h1
  · have := limbs_mono (x := y) (W := x) (Nat.le_refl _) h1
    omega

/-- The most significant limb that differs decides. -/
theorem lt_of_top {l m : List Nat} {k x y : Nat} (hl : ∀ z ∈ l, z < 4294967296) (hd : val (l.drop (k + 1)) = val (m.drop (k + 1))) (hx : l[k]? = some x) (hy : m[k]? = some y) (h : x < y) : val l < val m := by
  have hkl : k < l.length := (List.getElem?_eq_some_iff.1 hx).1
  have hkm : k < m.length := (List.getElem?_eq_some_iff.1 hy).1
  rw [val_take_drop l k (by omega), val_take_drop m k (by omega), val_drop hx, val_drop hy, hd]
  have h1 := take_lt hl (Nat.le_of_lt hkl)
  generalize 4294967296 ^ k = P at *
  generalize val (m.drop (k + 1)) = V at *
  have e : P * (x + 4294967296 * V) + P = P * ((x + 1) + 4294967296 * V) := by rw [← Nat.mul_succ]; congr 1; omega
  have h2 : P * ((x + 1) + 4294967296 * V) ≤ P * (y + 4294967296 * V) := Nat.mul_le_mul_left _ (by omega)
  omega

theorem drop_step {l m : List Nat} {k x : Nat} (hd : l.drop (k + 1) = m.drop (k + 1)) (hx : l[k]? = some x) (hy : m[k]? = some x) : l.drop k = m.drop k := by
  obtain ⟨h1, rfl⟩ := List.getElem?_eq_some_iff.1 hx
  obtain ⟨h2, e⟩ := List.getElem?_eq_some_iff.1 hy
  rw [List.drop_eq_getElem_cons h1, List.drop_eq_getElem_cons h2, hd, e]

/-- A limb less another and a borrow, in a word. -/
theorem borrow_word {b x y d : Nat} (hb : b ≤ 1) (hx : x < 4294967296) (hy : y < 4294967296) (hd : d = ((x + 18446744073709551616 - b) % 18446744073709551616 + 18446744073709551616 - y) % 18446744073709551616) :
    d % 4294967296 + y + b = x + 4294967296 * (d / 9223372036854775808) ∧ d / 9223372036854775808 ≤ 1 := by omega

theorem borrow_step {V P b A c x y d : Nat} (h : V + c = A + P * b) (hb : b ≤ 1) (hx : x < 4294967296) (hy : y < 4294967296) (hd : d = ((x + 18446744073709551616 - b) % 18446744073709551616 + 18446744073709551616 - y) % 18446744073709551616) :
    V + P * (d % 4294967296) + (c + P * y) = A + P * x + P * 4294967296 * (d / 9223372036854775808) := by
  have e := (borrow_word hb hx hy hd).1
  have e2 : P * (d % 4294967296) + P * y + P * b = P * x + P * 4294967296 * (d / 9223372036854775808) := by
    rw [Nat.mul_assoc, ← Nat.mul_add, ← Nat.mul_add, ← Nat.mul_add, e]
  omega

theorem get_some {α : Type} {l : List α} {i : Nat} {dflt : α} (h : i < l.length) : l[i]? = some (l.getD i dflt) := by
  rw [List.getD, List.getElem?_eq_getElem h]; rfl

/-- Behind the last limb nothing is borrowed. -/
theorem sub_end {out b : List Nat} {A n c : Nat} (ho : ∀ x ∈ out, x < 4294967296) (hl : out.length = n) (hc : c ≤ 1) (hab : val b ≤ A) (he : val out + val (b.take n) = A + 4294967296 ^ n * c) : c = 0 ∧ val out = A - val b := by
  have h1 := val_lt ho
  rw [hl] at h1
  have hA : val b = val (b.take n) + 4294967296 ^ n * val (b.drop n) := by
    rcases Nat.le_total b.length n with h | h
    · rw [List.take_of_length_le h, List.drop_of_length_le h]; simp [val]
    · exact val_take_drop b _ h
  generalize 4294967296 ^ n = P at *
  have hD : val (b.drop n) = 0 := by
    rcases Nat.eq_zero_or_pos (val (b.drop n)) with h | h
    · exact h
    · have : P * 1 ≤ P * val (b.drop n) := Nat.mul_le_mul_left _ h
      have : P * c ≤ P * 1 := Nat.mul_le_mul_left _ hc
      omega
  rw [hD, Nat.mul_zero, Nat.add_zero] at hA
  have hc0 : c = 0 := by
    rcases Nat.eq_zero_or_pos c with h | h
    · exact h
    · have : P * 1 ≤ P * c := Nat.mul_le_mul_left _ h
      omega
  subst hc0
  exact ⟨rfl, by omega⟩

theorem sub_word {x y c w : Nat} (hx : x < 4294967296) (hy : y < 4294967296) (hc : c ≤ 1) (hw : w = x + 4294967296 - y - c) : w % 4294967296 + y + c = x + 4294967296 * (1 - w / 4294967296) ∧ 1 - w / 4294967296 ≤ 1 := by omega

theorem sub_step {V P b A c x y w : Nat} (h : V + b = A + P * c) (hc : c ≤ 1) (hx : x < 4294967296) (hy : y < 4294967296) (hw : w = x + 4294967296 - y - c) : V + P * (w % 4294967296) + (b + P * y) = A + P * x + P * 4294967296 * (1 - w / 4294967296) := by
  have e := (sub_word hx hy hc hw).1
  have e2 : P * (w % 4294967296) + P * y + P * c = P * x + P * 4294967296 * (1 - w / 4294967296) := by
    rw [Nat.mul_assoc, ← Nat.mul_add, ← Nat.mul_add, ← Nat.mul_add, e]
  omega
end Go.Proofs.Ytamkmihhpadamaa

namespace Go.Proofs.Ytamkmihhpadamaa
set_option maxRecDepth 100000
set_option linter.unusedVariables false
--plain
/-- A sign and a size. -/
def sg (neg : Bool) (n : Nat) : Int := if neg then -(n : Int) else n
/-- A fraction of the program or of the document: its sign, its numerator, its denominator. -/
abbrev Rt3 := Bool × List Nat × List Nat
/-- What it says; 0 if the denominator is. -/
def vq (r : Rt3) : Rat := mkRat (sg r.1 (val r.2.1)) (val r.2.2)
/-- The canonical form. -/
def rt (q : Rat) : Rt3 := (decide (q.num < 0), limbs q.num.natAbs, limbs q.den)

theorem sg_abs (neg : Bool) (n : Nat) : (sg neg n).natAbs = n := by unfold sg; split <;> omega
theorem sg_int (z : Int) : sg (decide (z < 0)) z.natAbs = z := by
  unfold sg
  by_cases h : z < 0
  · rw [decide_eq_true h, if_pos rfl]; omega
  · rw [decide_eq_false h, if_neg (by decide)]; omega
theorem sg_num (q : Rat) : sg (decide (q.num < 0)) q.num.natAbs = q.num := sg_int _
theorem sg_not (neg : Bool) (n : Nat) : sg (!neg) n = -sg neg n := by cases neg <;> simp [sg]
theorem sg_mul (a b : Bool) (m n : Nat) : sg (a != b) (m * n) = sg a m * sg b n := by
  cases a <;> cases b <;> simp [sg, Int.neg_mul, Int.mul_neg]
theorem sg_zero (neg : Bool) : sg neg 0 = 0 := by cases neg <;> rfl
theorem sg_eq_zero {neg : Bool} {n : Nat} : sg neg n = 0 ↔ n = 0 := by unfold sg; split <;> omega
theorem sg_lt {neg : Bool} {n : Nat} (h : n ≠ 0) : decide (sg neg n < 0) = neg := by cases neg <;> simp [sg] <;> omega

theorem vq_rt (q : Rat) : vq (rt q) = q := by
  simp only [vq, rt, val_limbs, sg_num, Rat.mkRat_self]

theorem vq_rt' (q : Rat) : vq ((rt q).1, (rt q).2.1, (rt q).2.2) = q := vq_rt q

theorem rt_inj {a b : Rat} (h : rt a = rt b) : a = b := by rw [← vq_rt a, h, vq_rt]

theorem rt_zero : rt 0 = (false, [], [1]) := by
  show (decide ((0 : Rat).num < 0), limbs (0 : Rat).num.natAbs, limbs (0 : Rat).den) = _
  have e1 : (0 : Rat).num = 0 := rfl
  have e2 : (0 : Rat).den = 1 := rfl
  rw [e1, e2, limbs_one]
  simp [limbs_zero]

theorem rt_one : rt 1 = (false, [1], [1]) := by
  show (decide ((1 : Rat).num < 0), limbs (1 : Rat).num.natAbs, limbs (1 : Rat).den) = _
  have e1 : (1 : Rat).num = 1 := rfl
  have e2 : (1 : Rat).den = 1 := rfl
  rw [e1, e2, limbs_one]
  simp [limbs_one]

/-- Canonical, by dividing by the greatest common divisor. -/
theorem rt_mk {neg : Bool} {n d : Nat} (hn : n ≠ 0) (hd : d ≠ 0) : rt (mkRat (sg neg n) d) = (neg, limbs (n / Nat.gcd n d), limbs (d / Nat.gcd n d)) := by
  have hg : 0 < Nat.gcd n d := Nat.gcd_pos_of_pos_left _ (by omega)
  have e1 : (mkRat (sg neg n) d).num = sg neg (n / Nat.gcd n d) := by
    rw [Rat.num_mkRat, if_neg hd, sg_abs, Nat.gcd_comm]
    have hdv : n / Nat.gcd n d * Nat.gcd n d = n := Nat.div_mul_cancel (Nat.gcd_dvd_left _ _)
    generalize Nat.gcd n d = g at *
    generalize n / g = m at *
    have : sg neg n = sg neg m * (g : Int) := by rw [← hdv]; unfold sg; split <;> simp [Int.neg_mul]
    rw [this, Int.mul_ediv_cancel _ (by omega)]
  have e2 : (mkRat (sg neg n) d).den = d / Nat.gcd n d := by rw [Rat.den_mkRat, if_neg hd, sg_abs, Nat.gcd_comm]
  have hne : n / Nat.gcd n d ≠ 0 := by
    have : Nat.gcd n d ≤ n := Nat.gcd_le_left _ (by omega)
    have := Nat.div_pos this hg
    omega
  simp only [rt, e1, e2, sg_abs, sg_lt hne]

theorem mk_zero {neg : Bool} {n d : Nat} (h : n = 0 ∨ d = 0) : mkRat (sg neg n) d = 0 := by
  rcases h with h | h
  · subst h; rw [sg_zero, Rat.zero_mkRat]
  · subst h; rw [Rat.mkRat_zero]

/-- The parts of a canonical fraction. -/
theorem den_ne (q : Rat) : val (rt q).2.2 ≠ 0 := by show val (limbs q.den) ≠ 0; rw [val_limbs]; exact q.den_nz
theorem vq_sub {q : Rat} : sg (rt q).1 (val (rt q).2.1) = q.num := by show sg _ (val (limbs _)) = _; rw [val_limbs]; exact sg_num q
theorem num_rt (q : Rat) : val (rt q).2.1 = q.num.natAbs := val_limbs _
theorem den_rt (q : Rat) : val (rt q).2.2 = q.den := val_limbs _
theorem neg_rt (q : Rat) : (rt q).1 = decide (q.num < 0) := rfl

theorem vq_eq (r : Rt3) : vq r = mkRat (sg r.1 (val r.2.1)) (val r.2.2) := rfl

/-- The sum of two fractions over the product of the denominators, their signs equal. -/
theorem add_same {p q : Rat} (h : decide (p.num < 0) = decide (q.num < 0)) : mkRat (sg (decide (p.num < 0)) (p.num.natAbs * q.den + q.num.natAbs * p.den)) (p.den * q.den) = p + q := by
  conv => rhs; rw [← Rat.mkRat_self p, ← Rat.mkRat_self q, Rat.mkRat_add_mkRat _ _ p.den_nz q.den_nz]
  congr 1
  generalize p.num = x at h ⊢
  generalize q.num = y at h ⊢
  by_cases hp : x < 0
  · have hq : y < 0 := by simpa [hp] using h
    have e1 : (x.natAbs : Int) = -x := by omega
    have e2 : (y.natAbs : Int) = -y := by omega
    rw [decide_eq_true hp, sg, if_pos rfl, Int.natCast_add, Int.natCast_mul, Int.natCast_mul, e1, e2]
    grind
  · have hq : ¬ y < 0 := by simpa [hp] using h
    have e1 : (x.natAbs : Int) = x := by omega
    have e2 : (y.natAbs : Int) = y := by omega
    rw [decide_eq_false hp, sg, if_neg (by decide), Int.natCast_add, Int.natCast_mul, Int.natCast_mul, e1, e2]

/-- Their signs different. -/
theorem add_diff {p q : Rat} (h : decide (p.num < 0) ≠ decide (q.num < 0)) (hle : q.num.natAbs * p.den ≤ p.num.natAbs * q.den) : mkRat (sg (decide (p.num < 0)) (p.num.natAbs * q.den - q.num.natAbs * p.den)) (p.den * q.den) = p + q := by
  conv => rhs; rw [← Rat.mkRat_self p, ← Rat.mkRat_self q, Rat.mkRat_add_mkRat _ _ p.den_nz q.den_nz]
  congr 1
  have hc : ((p.num.natAbs * q.den - q.num.natAbs * p.den : Nat) : Int) = p.num.natAbs * q.den - q.num.natAbs * p.den := by
    rw [Int.ofNat_sub hle, Int.natCast_mul, Int.natCast_mul]
  generalize p.num.natAbs * q.den - q.num.natAbs * p.den = w at hc ⊢
  generalize p.num = x at h hc ⊢
  generalize q.num = y at h hc ⊢
  by_cases hp : x < 0
  · have hq : ¬ y < 0 := by simpa [hp] using h
    have e1 : (x.natAbs : Int) = -x := by omega
    have e2 : (y.natAbs : Int) = y := by omega
    rw [decide_eq_true hp, sg, if_pos rfl, hc, e1, e2]
    grind
  · have hq : y < 0 := by simpa [hp] using h
    have e1 : (x.natAbs : Int) = x := by omega
    have e2 : (y.natAbs : Int) = -y := by omega
    rw [decide_eq_false hp, sg, if_neg (by decide), hc, e1, e2]
    grind

theorem mul_mk (p q : Rat) : mkRat (sg (decide (p.num < 0) != decide (q.num < 0)) (p.num.natAbs * q.num.natAbs)) (p.den * q.den) = p * q := by
  rw [sg_mul, sg_num, sg_num, ← Rat.mkRat_mul_mkRat, Rat.mkRat_self, Rat.mkRat_self]

theorem neg_mk (n : Bool) (a d : Nat) : mkRat (sg (!n) a) d = -mkRat (sg n a) d := by rw [sg_not, Rat.neg_mkRat]

/-- Both parts of a fraction have at most so many limbs. -/
def bd (k : Nat) (q : Rat) : Prop := q.num.natAbs < 4294967296 ^ k ∧ q.den < 4294967296 ^ k

theorem bd_mk {k : Nat} {n : Bool} {a d : Nat} (hk : 1 ≤ k) (ha : a < 4294967296 ^ k) (hd : d < 4294967296 ^ k) : bd k (mkRat (sg n a) d) := by
  have hp : 1 < 4294967296 ^ k := Nat.one_lt_pow (by omega) (by decide)
  constructor
  · rw [Rat.num_mkRat]
    split
    · simp; omega
    · refine Nat.lt_of_le_of_lt (Int.natAbs_ediv_le_natAbs _ _) ?_
      rw [sg_abs]; exact ha
  · rw [Rat.den_mkRat]
    split
    · exact hp
    · exact Nat.lt_of_le_of_lt (Nat.div_le_self _ _) hd

theorem bd_mono {k m : Nat} {q : Rat} (h : bd k q) (hk : k ≤ m) : bd m q :=
  ⟨Nat.lt_of_lt_of_le h.1 (Nat.pow_le_pow_right (by decide) hk), Nat.lt_of_lt_of_le h.2 (Nat.pow_le_pow_right (by decide) hk)⟩

theorem bd_len {k : Nat} {q : Rat} (h : bd k q) : (rt q).2.1.length ≤ k ∧ (rt q).2.2.length ≤ k := ⟨limbs_length_le h.1, limbs_length_le h.2⟩

theorem bd_neg {k : Nat} {q : Rat} (h : bd k q) : bd k (-q) := by
  refine ⟨?_, by rw [Rat.neg_den]; exact h.2⟩
  rw [Rat.neg_num, Int.natAbs_neg]; exact h.1

theorem mul_pow {a b j k : Nat} (ha : a < 4294967296 ^ j) (hb : b < 4294967296 ^ k) : a * b < 4294967296 ^ (j + k) := by
  rw [Nat.pow_add]
  exact Nat.mul_lt_mul'' ha hb

theorem bd_mul {j k : Nat} {p q : Rat} (hp : bd j p) (hq : bd k q) (h : 1 ≤ j + k) : bd (j + k) (p * q) := by
  rw [← mul_mk]
  exact bd_mk h (mul_pow hp.1 hq.1) (mul_pow hp.2 hq.2)

theorem bd_add {j k : Nat} {p q : Rat} (hp : bd j p) (hq : bd k q) : bd (j + k + 1) (p + q) := by
  conv => rw [← Rat.mkRat_self p, ← Rat.mkRat_self q, Rat.mkRat_add_mkRat _ _ p.den_nz q.den_nz]
  have h1 := mul_pow hp.1 hq.2
  have h2 := mul_pow hq.1 hp.2
  rw [Nat.add_comm k j] at h2
  have h3 := mul_pow hp.2 hq.2
  have e : ∀ z : Int, z = sg (decide (z < 0)) z.natAbs := fun z => (sg_int z).symm
  rw [e (p.num * q.den + q.num * p.den)]
  refine bd_mk (by omega) ?_ (Nat.lt_of_lt_of_le h3 (Nat.pow_le_pow_right (by decide) (by omega)))
  have h4 : (p.num * q.den + q.num * p.den).natAbs ≤ p.num.natAbs * q.den + q.num.natAbs * p.den := by
    refine Nat.le_trans (Int.natAbs_add_le _ _) ?_
    rw [Int.natAbs_mul, Int.natAbs_mul]; simp
  rw [Nat.pow_succ]
  omega

theorem bd_vq {k : Nat} {r : Rt3} (h1 : ∀ x ∈ r.2.1, x < 4294967296) (h2 : ∀ x ∈ r.2.2, x < 4294967296) (l1 : r.2.1.length ≤ k) (l2 : r.2.2.length ≤ k) (hk : 1 ≤ k) : bd k (vq r) :=
  bd_mk hk (Nat.lt_of_lt_of_le (val_lt h1) (Nat.pow_le_pow_right (by decide) l1)) (Nat.lt_of_lt_of_le (val_lt h2) (Nat.pow_le_pow_right (by decide) l2))

theorem mk_sign {neg : Bool} {n d : Nat} (hn : n ≠ 0) (hd : d ≠ 0) : (mkRat (sg neg n) d).num.sign = if neg then -1 else 1 := by
  have h := rt_mk (neg := neg) hn hd
  have h1 : decide ((mkRat (sg neg n) d).num < 0) = neg := congrArg (fun x : Rt3 => x.1) h
  have h2 : limbs (mkRat (sg neg n) d).num.natAbs = limbs (n / Nat.gcd n d) := congrArg (fun x : Rt3 => x.2.1) h
  have h3 := limbs_inj h2
  have hne : n / Nat.gcd n d ≠ 0 := by
    have hg : 0 < Nat.gcd n d := Nat.gcd_pos_of_pos_left _ (by omega)
    have : Nat.gcd n d ≤ n := Nat.gcd_le_left _ (by omega)
    have := Nat.div_pos this hg
    omega
  generalize (mkRat (sg neg n) d).num = z at *
  cases neg with
  | true =>
    have : z < 0 := by simpa using h1
    rw [Int.sign_eq_neg_one_of_neg this]; rfl
  | false =>
    have : ¬ z < 0 := by simpa using h1
    rw [Int.sign_eq_one_of_pos (by omega)]; rfl

/-- The product of a list. -/
def prodQ : List Rt3 → Rat
  | [] => 1
  | r :: ls => vq r * prodQ ls
theorem prodQ_snoc (ls : List Rt3) (r : Rt3) : prodQ (ls ++ [r]) = prodQ ls * vq r := by
  induction ls with
  | nil => simp [prodQ]
  | cons x l ih => rw [List.cons_append, prodQ, prodQ, ih, Rat.mul_assoc]
theorem prodQ_take {ls : List Rt3} {k : Nat} {z : Rt3} (h : ls[k]? = some z) : prodQ (ls.take (k + 1)) = prodQ (ls.take k) * vq z := by
  rw [List.take_add_one, h]; exact prodQ_snoc _ _

/-- The sum of a list. -/
def sumQ : List Rt3 → Rat
  | [] => 0
  | r :: ls => vq r + sumQ ls
theorem sumQ_snoc (ls : List Rt3) (r : Rt3) : sumQ (ls ++ [r]) = sumQ ls + vq r := by
  induction ls with
  | nil => simp [sumQ, Rat.add_zero, Rat.zero_add]
  | cons x l ih => rw [List.cons_append, sumQ, sumQ, ih, Rat.add_assoc]
theorem sumQ_take {ls : List Rt3} {k : Nat} {z : Rt3} (h : ls[k]? = some z) : sumQ (ls.take (k + 1)) = sumQ (ls.take k) + vq z := by
  rw [List.take_add_one, h]; exact sumQ_snoc _ _
theorem prodQ_two (a b : Rt3) : prodQ [a, b] = vq a * vq b := by simp [prodQ]
theorem sumQ_two (a b : Rt3) : sumQ [a, b] = vq a + vq b := by simp [sumQ, Rat.add_zero]

theorem bd_one {k : Nat} (h : 1 ≤ k) : bd k 1 := by
  have hp : 1 < 4294967296 ^ k := Nat.one_lt_pow (by omega) (by decide)
  exact ⟨by show (1 : Rat).num.natAbs < _; exact hp, by show (1 : Rat).den < _; exact hp⟩
theorem bd_zero {k : Nat} (h : 1 ≤ k) : bd k 0 := by
  have hp : 1 < 4294967296 ^ k := Nat.one_lt_pow (by omega) (by decide)
  exact ⟨by show (0 : Rat).num.natAbs < _; exact Nat.lt_trans (by decide) hp, by show (0 : Rat).den < _; exact hp⟩

/-- The numbers of a list are in order, and of so many limbs. -/
def okR (k : Nat) (r : Rt3) : Prop := (∀ x ∈ r.2.1, x < 4294967296) ∧ (∀ x ∈ r.2.2, x < 4294967296) ∧ r.2.1.length ≤ k ∧ r.2.2.length ≤ k
theorem okR_bd {k : Nat} {r : Rt3} (h : okR k r) (hk : 1 ≤ k) : bd k (vq r) := bd_vq h.1 h.2.1 h.2.2.1 h.2.2.2 hk

theorem prodQ_bd {k : Nat} {ls : List Rt3} (hk : 1 ≤ k) (h : ∀ r ∈ ls, okR k r) : bd (k * ls.length + 1) (prodQ ls) := by
  induction ls with
  | nil => exact bd_one (by simp)
  | cons x l ih =>
    have h1 := bd_mul (okR_bd (h x (.head _)) hk) (ih fun r hr => h r (.tail _ hr)) (by omega)
    exact bd_mono h1 (by rw [List.length_cons, Nat.mul_succ]; omega)

theorem sumQ_bd {k : Nat} {ls : List Rt3} (hk : 1 ≤ k) (h : ∀ r ∈ ls, okR k r) : bd ((k + 1) * ls.length + 1) (sumQ ls) := by
  induction ls with
  | nil => exact bd_zero (by simp)
  | cons x l ih =>
    have h1 := bd_add (okR_bd (h x (.head _)) hk) (ih fun r hr => h r (.tail _ hr))
    exact bd_mono h1 (by rw [List.length_cons, Nat.mul_succ]; omega)
end Go.Proofs.Ytamkmihhpadamaa

namespace Go.Proofs.Ytamkmihhpadamaa
set_option maxRecDepth 100000
set_option linter.unusedVariables false
--plain
/-- A series times 1 + a z. -/
def lin (a : Int) (f : Nat → Int) : Nat → Int
  | 0 => f 0
  | k + 1 => f (k + 1) + a * f k
/-- The series 1. -/
def dl : Nat → Int
  | 0 => 1
  | _ + 1 => 0
def iter (a : Int) : Nat → (Nat → Int) → (Nat → Int)
  | 0, f => f
  | n + 1, f => lin a (iter a n f)
/-- (1 + a z)^m (1 - z)^x. -/
def pw (a : Int) (m x : Nat) : Nat → Int := iter a m (iter (-1) x dl)
/-- The value at x of the Krawtchouk polynomial of degree k, for a = q - 1. -/
def kr (a : Int) (n k x : Nat) : Int := pw a (n - x) x k

theorem lin_comm (a b : Int) (f : Nat → Int) : lin a (lin b f) = lin b (lin a f) := by
  funext k
  match k with
  | 0 => rfl
  | 1 => simp only [lin]; grind
  | k + 2 => simp only [lin]; grind

theorem iter_lin (a b : Int) (n : Nat) (f : Nat → Int) : iter a n (lin b f) = lin b (iter a n f) := by
  induction n with
  | zero => rfl
  | succ n ih => rw [iter, ih, lin_comm]; rfl

theorem pw_m (a : Int) (m x : Nat) : pw a (m + 1) x = lin a (pw a m x) := rfl
theorem pw_x (a : Int) (m x : Nat) : pw a m (x + 1) = lin (-1) (pw a m x) := iter_lin a (-1) m _

theorem pw_zero (a : Int) (m x : Nat) : pw a m x 0 = 1 := by
  induction m with
  | zero =>
    induction x with
    | zero => rfl
    | succ x ih => rw [pw_x]; exact ih
  | succ m ih => exact ih

/-- The step from one row of the table to the next. -/
theorem kr_next (a : Int) {n x : Nat} (hx : x < n) (k : Nat) : kr a n (k + 1) (x + 1) = kr a n (k + 1) x - kr a n k x - a * kr a n k (x + 1) := by
  obtain ⟨m, rfl⟩ : ∃ m, n = m + x + 1 := ⟨n - x - 1, by omega⟩
  have e1 : m + x + 1 - x = m + 1 := by omega
  have e2 : m + x + 1 - (x + 1) = m := by omega
  simp only [kr, e1, e2]
  have h1 : lin a (pw a m (x + 1)) = lin (-1) (pw a (m + 1) x) := by rw [pw_x, lin_comm, ← pw_m]
  have h2 := congrFun h1 (k + 1)
  simp only [lin] at h2
  omega
theorem kr_zero (a : Int) (n x : Nat) : kr a n 0 x = 1 := pw_zero a _ _

/-! ### Finite sums -/
def sm : Nat → (Nat → Int) → Int
  | 0, _ => 0
  | n + 1, f => sm n f + f n
theorem sm_congr {n : Nat} {f g : Nat → Int} (h : ∀ i, i < n → f i = g i) : sm n f = sm n g := by
  induction n with
  | zero => rfl
  | succ n ih => rw [sm, sm, ih fun i hi => h i (by omega), h n (by omega)]
theorem sm_add (n : Nat) (f g : Nat → Int) : sm n (fun i => f i + g i) = sm n f + sm n g := by
  induction n with
  | zero => rfl
  | succ n ih => simp only [sm, ih]; omega
theorem sm_sub (n : Nat) (f g : Nat → Int) : sm n (fun i => f i - g i) = sm n f - sm n g := by
  induction n with
  | zero => rfl
  | succ n ih => simp only [sm, ih]; omega
theorem sm_mul (n : Nat) (c : Int) (f : Nat → Int) : sm n (fun i => c * f i) = c * sm n f := by
  induction n with
  | zero => simp [sm]
  | succ n ih => simp only [sm, ih, Int.mul_add]
theorem sm_zero (n : Nat) : sm n (fun _ => 0) = 0 := by
  induction n with
  | zero => rfl
  | succ n ih => simp only [sm, ih]; rfl
theorem sm_head (n : Nat) (f : Nat → Int) : sm (n + 1) f = f 0 + sm n (fun i => f (i + 1)) := by
  induction n with
  | zero => simp [sm]
  | succ n ih => rw [sm, ih]; simp only [sm]; omega
theorem sm_swap (n m : Nat) (f : Nat → Nat → Int) : sm n (fun i => sm m (fun j => f i j)) = sm m (fun j => sm n (fun i => f i j)) := by
  induction n with
  | zero => simp only [sm]; exact (sm_zero m).symm
  | succ n ih => simp only [sm, ih, sm_add]

/-! ### The first row, and the document's sum -/
theorem iter_dl (a : Int) : ∀ (n k : Nat), iter a n dl k = (binom n k : Int) * a ^ k := by
  intro n
  induction n with
  | zero =>
    intro k
    cases k with
    | zero => simp [iter, dl, binom]
    | succ k => simp [iter, dl, binom]
  | succ n ih =>
    intro k
    cases k with
    | zero => show iter a n dl 0 = _; rw [ih, binom_zero, binom_zero]
    | succ k =>
      show iter a n dl (k + 1) + a * iter a n dl k = _
      rw [ih, ih, binom_succ, Int.natCast_add, Int.pow_succ]
      grind
theorem kr_first (a : Int) (n k : Nat) : kr a n k 0 = (binom n k : Int) * a ^ k := iter_dl a n k

def conv (f g : Nat → Int) (k : Nat) : Int := sm (k + 1) (fun j => f j * g (k - j))
theorem conv_lin (a : Int) (f g : Nat → Int) : conv f (lin a g) = lin a (conv f g) := by
  funext k
  cases k with
  | zero => simp [conv, sm, lin]
  | succ k =>
    have h1 : conv f (lin a g) (k + 1) = sm (k + 1) (fun j => f j * g (k + 1 - j) + a * (f j * g (k - j))) + f (k + 1) * g 0 := by
      rw [conv, sm]
      congr 1
      · refine sm_congr fun i hi => ?_
        have e : k + 1 - i = (k - i) + 1 := by omega
        rw [e]
        simp only [lin]
        grind
      · rw [Nat.sub_self]; rfl
    rw [h1, sm_add, sm_mul]
    show _ = conv f g (k + 1) + a * conv f g k
    simp only [conv]
    rw [sm.eq_2 _ (k + 1), Nat.sub_self]
    omega
theorem conv_dl (f : Nat → Int) : conv f dl = f := by
  funext k
  rw [conv, sm, Nat.sub_self]
  have : sm k (fun j => f j * dl (k - j)) = 0 := by
    rw [← sm_zero k]
    refine sm_congr fun i hi => ?_
    obtain ⟨d, hd⟩ : ∃ d, k - i = d + 1 := ⟨k - i - 1, by omega⟩
    rw [hd]; simp [dl]
  rw [this]; simp [dl]
theorem iter_conv (a : Int) (n : Nat) (f : Nat → Int) : iter a n f = conv f (iter a n dl) := by
  induction n with
  | zero => exact (conv_dl f).symm
  | succ n ih => rw [iter, ih]; exact (conv_lin a f _).symm
/-- The document's sum. -/
theorem kr_sum (a : Int) (n k x : Nat) : kr a n k x = sm (k + 1) (fun j => (binom x j : Int) * (-1) ^ j * ((binom (n - x) (k - j) : Int) * a ^ (k - j))) := by
  rw [kr, pw, iter_conv, conv]
  refine sm_congr fun i _ => ?_
  rw [iter_dl, iter_dl]

/-! ### Values of the series -/
theorem pw_deg (a : Int) (m x k : Nat) (h : m + x < k) : pw a m x k = 0 := by
  induction m generalizing k with
  | zero =>
    induction x generalizing k with
    | zero => cases k with
      | zero => omega
      | succ k => rfl
    | succ x ih =>
      rw [pw_x]
      cases k with
      | zero => omega
      | succ k =>
        show pw a 0 x (k + 1) + -1 * pw a 0 x k = 0
        rw [ih _ (by omega), ih _ (by omega)]; rfl
  | succ m ih =>
    cases k with
    | zero => omega
    | succ k =>
      show pw a m x (k + 1) + a * pw a m x k = 0
      rw [ih _ (by omega), ih _ (by omega), Int.mul_zero]; rfl

theorem val_lin (a z : Int) (f : Nat → Int) (n : Nat) (h : f n = 0) : sm (n + 1) (fun j => lin a f j * z ^ j) = (1 + a * z) * sm n (fun j => f j * z ^ j) := by
  have key : ∀ n, sm (n + 1) (fun j => lin a f j * z ^ j) = sm (n + 1) (fun j => f j * z ^ j) + a * z * sm n (fun j => f j * z ^ j) := by
    intro n
    induction n with
    | zero => simp [sm, lin]
    | succ n ih =>
      rw [sm, ih, sm.eq_2 _ (n + 1), sm.eq_2 _ n]
      simp only [lin, Int.pow_succ]
      generalize sm n (fun j => f j * z ^ j) = s
      grind
  rw [key, sm, h]
  grind

/-- The generating series, at z. -/
theorem pw_val (a z : Int) (m x : Nat) : sm (m + x + 1) (fun j => pw a m x j * z ^ j) = (1 + a * z) ^ m * (1 - z) ^ x := by
  induction m with
  | zero =>
    induction x with
    | zero => simp [sm, pw, iter, dl]
    | succ x ih =>
      have e : 0 + (x + 1) + 1 = (0 + x + 1) + 1 := by omega
      rw [e, pw_x, val_lin _ _ _ _ (pw_deg a 0 x _ (by omega)), ih]
      simp only [Int.pow_succ, Int.pow_zero]
      grind
  | succ m ih =>
    have e : m + 1 + x + 1 = (m + x + 1) + 1 := by omega
    rw [e, pw_m, val_lin _ _ _ _ (pw_deg a m x _ (by omega)), ih, Int.pow_succ]
    grind
theorem kr_val (a z : Int) {n x : Nat} (h : x ≤ n) : sm (n + 1) (fun j => kr a n j x * z ^ j) = (1 + a * z) ^ (n - x) * (1 - z) ^ x := by
  have := pw_val a z (n - x) x
  rw [Nat.sub_add_cancel h] at this
  exact this

/-! ### Orthogonality -/
/-- The entry before: 0 for the first one. -/
def bf (f : Nat → Int) : Nat → Int
  | 0 => 0
  | k + 1 => f k
theorem bf_succ (f : Nat → Int) (k : Nat) : bf f (k + 1) = f k := rfl
theorem lin_eq (a : Int) (f : Nat → Int) (k : Nat) : lin a f k = f k + a * bf f k := by
  cases k with
  | zero => simp [lin, bf]
  | succ k => rfl
theorem lin_neg (f : Nat → Int) (k : Nat) : lin (-1) f k = f k - bf f k := by
  rw [lin_eq, Int.neg_mul, Int.one_mul, ← Int.sub_eq_add_neg]
/-- Of n + 1 positions, at i of n. -/
theorem kr_in (a : Int) {n i : Nat} (h : i ≤ n) (k : Nat) : kr a (n + 1) k i = kr a n k i + a * bf (fun j => kr a n j i) k := by
  have e : n + 1 - i = (n - i) + 1 := by omega
  rw [kr, e, pw_m, lin_eq]; rfl
theorem kr_out (a : Int) {n i : Nat} (k : Nat) : kr a (n + 1) k (i + 1) = kr a n k i - bf (fun j => kr a n j i) k := by
  have e : n + 1 - (i + 1) = n - i := by omega
  rw [kr, e, pw_x, lin_neg]; rfl

def orth (a : Int) (n r s : Nat) : Int := sm (n + 1) (fun i => (binom n i : Int) * a ^ i * (kr a n r i * kr a n s i))
/-- A sum with binomial coefficients, split. -/
theorem sm_binom (a : Int) (n : Nat) (f : Nat → Int) : sm (n + 2) (fun i => (binom (n + 1) i : Int) * a ^ i * f i) = sm (n + 1) (fun i => (binom n i : Int) * a ^ i * f i) + sm (n + 1) (fun i => (binom n i : Int) * a ^ i * (a * f (i + 1))) := by
  rw [sm_head (n + 1)]
  have h1 : sm (n + 1) (fun i => (binom (n + 1) (i + 1) : Int) * a ^ (i + 1) * f (i + 1)) = sm (n + 1) (fun i => (binom n i : Int) * a ^ i * (a * f (i + 1))) + sm (n + 1) (fun i => (binom n (i + 1) : Int) * a ^ (i + 1) * f (i + 1)) := by
    rw [← sm_add]
    refine sm_congr fun i _ => ?_
    rw [binom_succ, Int.natCast_add, Int.pow_succ]
    grind
  rw [h1]
  have h2 : sm (n + 1) (fun i => (binom n (i + 1) : Int) * a ^ (i + 1) * f (i + 1)) = sm n (fun i => (binom n (i + 1) : Int) * a ^ (i + 1) * f (i + 1)) := by
    rw [sm, binom_gt n (n + 1) (by omega)]; simp
  rw [h2, sm_head n (fun i => (binom n i : Int) * a ^ i * f i), binom_zero, binom_zero]
  omega
theorem orth_step (a : Int) (n r s : Nat) : orth a (n + 1) r s = (a + 1) * orth a n r s + a * (a + 1) * sm (n + 1) (fun i => (binom n i : Int) * a ^ i * (bf (fun j => kr a n j i) r * bf (fun j => kr a n j i) s)) := by
  rw [orth, sm_binom a n (fun i => kr a (n + 1) r i * kr a (n + 1) s i), orth, ← sm_mul, ← sm_mul, ← sm_add, ← sm_add]
  refine sm_congr fun i hi => ?_
  rw [kr_in a (by omega), kr_in a (by omega), kr_out, kr_out]
  grind
theorem ring1 (a x y c d : Int) : (a + 1) * (x * (y * a * d)) + a * (a + 1) * (x * (y * c)) = x * (a + 1) * (y * a * (c + d)) := by grind
theorem ring2 (a x y c : Int) : (a + 1) * (x * (y * c)) + a * (a + 1) * 0 = x * (a + 1) * (y * c) := by grind
theorem orth_eq (a : Int) : ∀ (n r s : Nat), orth a n r s = if r = s then (a + 1) ^ n * (a ^ r * (binom n r : Int)) else 0 := by
  intro n
  induction n with
  | zero =>
    intro r s
    have e : ∀ k, kr a 0 k 0 = dl k := fun k => rfl
    simp only [orth, sm, e, Int.pow_zero]
    cases r <;> cases s <;> simp [dl, binom]
  | succ n ih =>
    intro r s
    rw [orth_step, ih]
    cases r with
    | zero =>
      have : sm (n + 1) (fun i => (binom n i : Int) * a ^ i * (bf (fun j => kr a n j i) 0 * bf (fun j => kr a n j i) s)) = 0 := by
        rw [← sm_zero (n + 1)]; exact sm_congr fun i _ => by simp [bf]
      rw [this]
      cases s with
      | zero => rw [if_pos rfl, if_pos rfl, binom_zero, binom_zero, Int.pow_succ]; exact ring2 _ _ _ _
      | succ s => simp
    | succ r =>
      cases s with
      | zero =>
        have : sm (n + 1) (fun i => (binom n i : Int) * a ^ i * (bf (fun j => kr a n j i) (r + 1) * bf (fun j => kr a n j i) 0)) = 0 := by
          rw [← sm_zero (n + 1)]; exact sm_congr fun i _ => by simp [bf]
        rw [this]; simp
      | succ s =>
        have : sm (n + 1) (fun i => (binom n i : Int) * a ^ i * (bf (fun j => kr a n j i) (r + 1) * bf (fun j => kr a n j i) (s + 1))) = orth a n r s := rfl
        rw [this, ih]
        by_cases h : r = s
        · subst h
          rw [if_pos rfl, if_pos rfl, if_pos rfl, binom_succ, Int.natCast_add, Int.pow_succ, Int.pow_succ]
          exact ring1 _ _ _ _ _
        · have h' : ¬ r + 1 = s + 1 := by omega
          rw [if_neg h', if_neg h, if_neg h']; simp

/-! ### Degree and argument -/
theorem ring3 (b p k c a : Int) : b * (p * (k + a * c)) = b * (p * k) + a * (b * (p * c)) := by grind
theorem ring4 (b c p a k m k2 m2 : Int) : b * (p * a * (k - m)) + (c * (p * a * k2) + a * (c * (p * a * m2))) = c * (p * a * k2) + a * (c * (p * a * m2)) + a * (b * (p * k)) - a * (b * (p * m)) := by grind
theorem ring5 {c p k c' p' k' : Int} (h : c * (p * k) = c' * (p' * k')) : k * (p * c) = k' * (p' * c') := by
  have e1 : k * (p * c) = c * (p * k) := by clear h; grind
  have e2 : k' * (p' * c') = c' * (p' * k') := by clear h; grind
  rw [e1, e2, h]
theorem recip (a : Int) : ∀ (n i s : Nat), i ≤ n → s ≤ n → kr a n s i * (a ^ i * (binom n i : Int)) = kr a n i s * (a ^ s * (binom n s : Int)) := by
  -- the numbers without their bounds
  have key : ∀ (n i s : Nat), (binom n i : Int) * (a ^ i * kr a n s i) = (binom n s : Int) * (a ^ s * kr a n i s) := by
    have step : ∀ (n i s : Nat), (binom (n + 1) i : Int) * (a ^ i * kr a (n + 1) s i) =
        (binom n i : Int) * (a ^ i * kr a n s i) + a * bf (fun t => (binom n i : Int) * (a ^ i * kr a n t i)) s + a * bf (fun j => (binom n j : Int) * (a ^ j * kr a n s j)) i - a * bf (fun j => bf (fun t => (binom n j : Int) * (a ^ j * kr a n t j)) s) i := by
      intro n i s
      have hbf : ∀ (c : Int) (f : Nat → Int) (s : Nat), bf (fun t => c * f t) s = c * bf f s := by
        intro c f s; cases s <;> simp [bf]
      have h1 : (binom n i : Int) * (a ^ i * kr a (n + 1) s i) = (binom n i : Int) * (a ^ i * kr a n s i) + a * bf (fun t => (binom n i : Int) * (a ^ i * kr a n t i)) s := by
        rw [hbf, hbf]
        by_cases h : i ≤ n
        · rw [kr_in a h]; exact ring3 _ _ _ _ _
        · rw [binom_gt n i (by omega)]; simp
      cases i with
      | zero => rw [binom_zero] at *; rw [binom_zero, h1]; simp [bf]
      | succ i =>
        rw [binom_succ, Int.natCast_add, Int.add_mul, h1, kr_out]
        simp only [bf_succ, hbf, Int.pow_succ]
        exact ring4 _ _ _ _ _ _ _ _
    intro n
    induction n with
    | zero =>
      intro i s
      have e : ∀ k x, kr a 0 k x = iter (-1) x dl k := fun k x => by rw [kr, Nat.zero_sub]; rfl
      cases i <;> cases s <;> simp [binom, e, iter, dl]
    | succ n ih =>
      intro i s
      rw [step, step, ih i s]
      have hb : ∀ i s, bf (fun t => (binom n i : Int) * (a ^ i * kr a n t i)) s = bf (fun j => (binom n j : Int) * (a ^ j * kr a n i j)) s := by
        intro i s
        cases s with
        | zero => rfl
        | succ s => exact ih i s
      rw [hb i s, hb s i]
      have hc : bf (fun j => bf (fun t => (binom n j : Int) * (a ^ j * kr a n t j)) s) i = bf (fun j => bf (fun t => (binom n j : Int) * (a ^ j * kr a n t j)) i) s := by
        cases i with
        | zero => cases s <;> rfl
        | succ i =>
          cases s with
          | zero => rfl
          | succ s => exact ih i s
      rw [hc]
      omega
  intro n i s _ _
  exact ring5 (key n i s)

/-! ### Three degrees -/
theorem ring6 {A J M X p2 p1 p0 pb : Int} (h1 : (J + 1 + 1) * p2 + (A - 1) * (J + 1) * p1 - A * (J + 1 - 1) * p0 = (M * A - X) * p1 - (M * A + X * A) * p0) (h2 : (J + 1) * p1 + (A - 1) * J * p0 - A * (J - 1) * pb = (M * A - X) * p0 - (M * A + X * A) * pb) :
    (J + 1 + 1) * (p2 + A * p1) + (A - 1) * (J + 1) * (p1 + A * p0) - A * (J + 1 - 1) * (p0 + A * pb) = ((M + 1) * A - X) * (p1 + A * p0) - ((M + 1) * A + X * A) * (p0 + A * pb) := by grind
theorem ring7 {A J X p2 p1 p0 pb : Int} (h1 : (J + 1 + 1) * p2 + (A - 1) * (J + 1) * p1 - A * (J + 1 - 1) * p0 = (0 * A - X) * p1 - (0 * A + X * A) * p0) (h2 : (J + 1) * p1 + (A - 1) * J * p0 - A * (J - 1) * pb = (0 * A - X) * p0 - (0 * A + X * A) * pb) :
    (J + 1 + 1) * (p2 + -1 * p1) + (A - 1) * (J + 1) * (p1 + -1 * p0) - A * (J + 1 - 1) * (p0 + -1 * pb) = (0 * A - (X + 1)) * (p1 + -1 * p0) - (0 * A + (X + 1) * A) * (p0 + -1 * pb) := by grind
theorem three (a : Int) : ∀ (m x j : Nat), (j + 1 : Int) * pw a m x (j + 1) + (a - 1) * j * pw a m x j - a * (j - 1) * bf (pw a m x) j = (m * a - x) * pw a m x j - (m * a + x * a) * bf (pw a m x) j := by
  intro m
  induction m with
  | zero =>
    intro x
    induction x with
    | zero =>
      intro j
      cases j with
      | zero => simp [pw, iter, dl, bf]
      | succ j => cases j <;> simp [pw, iter, dl, bf]
    | succ x ih =>
      intro j
      rw [pw_x]
      have h1 := ih j
      cases j with
      | zero => simp only [lin, bf] at *; grind
      | succ j =>
        have h2 := ih j
        have e : bf (lin (-1) (pw a 0 x)) (j + 1) = pw a 0 x j + -1 * bf (pw a 0 x) j := lin_eq _ _ _
        rw [e]
        simp only [lin] at *
        rw [bf_succ] at h1
        simp only [Int.natCast_add, Int.natCast_one, Int.natCast_zero] at h1 h2 ⊢
        exact ring7 h1 h2
  | succ m ih =>
    intro x j
    rw [pw_m]
    have h1 := ih x j
    cases j with
    | zero => simp only [lin, bf] at *; grind
    | succ j =>
      have h2 := ih x j
      have e : bf (lin a (pw a m x)) (j + 1) = pw a m x j + a * bf (pw a m x) j := lin_eq _ _ _
      rw [e]
      simp only [lin] at *
      rw [bf_succ] at h1
      simp only [Int.natCast_add, Int.natCast_one] at h1 h2 ⊢
      exact ring6 h1 h2
theorem kr_three (a : Int) {n j x : Nat} (hx : x ≤ n) (hj : 1 ≤ j) : (j + 1 : Int) * kr a n (j + 1) x = ((n - j) * a + j - (a + 1) * x) * kr a n j x - a * (n - j + 1) * kr a n (j - 1) x := by
  obtain ⟨i, rfl⟩ : ∃ i, j = i + 1 := ⟨j - 1, by omega⟩
  have h := three a (n - x) x (i + 1)
  have e : bf (pw a (n - x) x) (i + 1) = pw a (n - x) x i := rfl
  have hc : ((n - x : Nat) : Int) = n - x := by omega
  rw [e, hc] at h
  show _ * pw a (n - x) x (i + 1 + 1) = _ * pw a (n - x) x (i + 1) - _ * pw a (n - x) x (i + 1 - 1)
  rw [Nat.add_sub_cancel]
  grind

/-! ### The transform of the transform -/
def inv2 (a : Int) (n k i : Nat) : Int := sm (n + 1) (fun j => kr a n j i * kr a n k j)
/-- A sum along a series, against the entries before. -/
theorem sm_bf (n : Nat) (f g : Nat → Int) (h : f n = 0) : sm (n + 1) (fun j => bf f j * g j) = sm n (fun j => f j * g (j + 1)) := by
  rw [sm_head]; simp [bf]
theorem kr_deg (a : Int) {n k i : Nat} (hi : i ≤ n) (h : n < k) : kr a n k i = 0 := pw_deg a _ _ _ (by omega)
theorem inv2_eq (a : Int) : ∀ (n k i : Nat), i ≤ n → inv2 a n k i = if k = i then (a + 1) ^ n else 0 := by
  intro n
  induction n with
  | zero =>
    intro k i hi
    obtain rfl : i = 0 := by omega
    have e : ∀ k, kr a 0 k 0 = dl k := fun k => rfl
    simp only [inv2, sm, e]
    cases k <;> simp [dl]
  | succ n ih =>
    -- sums over n + 2 places of a series of n positions
    have cut : ∀ (f g : Nat → Int), f (n + 1) = 0 → sm (n + 2) (fun j => f j * g j) = sm (n + 1) (fun j => f j * g j) := fun f g h => by rw [sm, h]; simp
    have cutb : ∀ (f g : Nat → Int), sm (n + 2) (fun j => bf f j * g j) = sm (n + 1) (fun j => f j * g (j + 1)) := fun f g => by rw [sm_head]; simp [bf]
    intro k i hi
    by_cases h : i ≤ n
    · have h1 : inv2 a (n + 1) k i = sm (n + 1) (fun j => kr a n j i * kr a (n + 1) k j) + a * sm (n + 1) (fun j => kr a n j i * kr a (n + 1) k (j + 1)) := by
        rw [inv2, ← cut (fun j => kr a n j i) (fun j => kr a (n + 1) k j) (kr_deg a h (by omega)), ← cutb (fun j => kr a n j i) (fun j => kr a (n + 1) k j), ← sm_mul, ← sm_add]
        refine sm_congr fun j _ => ?_
        rw [kr_in a h]; grind
      have h2 : inv2 a (n + 1) k i = (a + 1) * inv2 a n k i := by
        rw [h1, inv2, ← sm_mul, ← sm_mul, ← sm_add]
        refine sm_congr fun j hj => ?_
        rw [kr_in a (by omega), kr_out]; grind
      rw [h2, ih k i h]
      split
      · rw [Int.pow_succ]; grind
      · simp
    · obtain rfl : i = n + 1 := by omega
      have h1 : inv2 a (n + 1) k (n + 1) = sm (n + 1) (fun j => kr a n j n * kr a (n + 1) k j) - sm (n + 1) (fun j => kr a n j n * kr a (n + 1) k (j + 1)) := by
        rw [inv2, ← cut (fun j => kr a n j n) (fun j => kr a (n + 1) k j) (kr_deg a (Nat.le_refl _) (by omega)), ← cutb (fun j => kr a n j n) (fun j => kr a (n + 1) k j), ← sm_sub]
        refine sm_congr fun j _ => ?_
        rw [kr_out]; grind
      have h2 : inv2 a (n + 1) k (n + 1) = (a + 1) * bf (fun t => inv2 a n t n) k := by
        rw [h1, ← sm_sub]
        cases k with
        | zero =>
          simp only [bf]
          rw [Int.mul_zero, ← sm_zero (n + 1)]
          refine sm_congr fun j hj => ?_
          rw [kr_zero, kr_zero]; omega
        | succ k =>
          simp only [bf, inv2]
          rw [← sm_mul]
          refine sm_congr fun j hj => ?_
          rw [kr_in a (by omega), kr_out]; simp only [bf]; grind
      rw [h2]
      cases k with
      | zero => simp [bf]
      | succ k =>
        simp only [bf]
        rw [ih k n (Nat.le_refl _)]
        by_cases hk : k = n
        · rw [if_pos hk, if_pos (by omega), Int.pow_succ]; grind
        · rw [if_neg hk, if_neg (by omega)]; simp

/-! ### Sizes -/
theorem lin_abs {a : Int} {A M : Nat} (ha : a.natAbs ≤ A) {f : Nat → Int} (h : ∀ k, (f k).natAbs ≤ M) : ∀ k, (lin a f k).natAbs ≤ (A + 1) * M := by
  intro k
  rw [lin_eq]
  have h1 : (bf f k).natAbs ≤ M := by
    cases k with
    | zero => simp [bf]
    | succ k => exact h k
  have h2 := Int.natAbs_add_le (f k) (a * bf f k)
  rw [Int.natAbs_mul] at h2
  have h3 := Nat.mul_le_mul ha h1
  have h4 := h k
  rw [Nat.succ_mul]
  omega
theorem pw_abs {a : Int} {A : Nat} (ha : a.natAbs ≤ A) (hA : 1 ≤ A) (m x k : Nat) : (pw a m x k).natAbs ≤ (A + 1) ^ (m + x) := by
  induction m generalizing k with
  | zero =>
    induction x generalizing k with
    | zero => cases k <;> simp [pw, iter, dl]
    | succ x ih =>
      rw [pw_x]
      refine Nat.le_trans (lin_abs (A := A) (a := -1) (by simpa using hA) ih k) ?_
      rw [← Nat.add_assoc, Nat.pow_succ, Nat.mul_comm]
      exact Nat.le_refl _
  | succ m ih =>
    rw [pw_m]
    refine Nat.le_trans (lin_abs ha ih k) ?_
    rw [Nat.add_right_comm, Nat.pow_succ, Nat.mul_comm]
    exact Nat.le_refl _
theorem kr_abs {a : Int} {A : Nat} (ha : a.natAbs ≤ A) (hA : 1 ≤ A) {n x : Nat} (hx : x ≤ n) (k : Nat) : (kr a n k x).natAbs ≤ (A + 1) ^ n := by
  have := pw_abs ha hA (n - x) x k
  rw [Nat.sub_add_cancel hx] at this
  exact this
end Go.Proofs.Ytamkmihhpadamaa

namespace Go.Proofs.Ytamkmihhpadamaa
set_option maxRecDepth 100000
set_option linter.unusedVariables false
--plain
abbrev Zs := Bool × Nat
def plusZ (a b : Zs) : Zs := if a.1 = b.1 then (a.1, a.2 + b.2) else if a.2 < b.2 then (b.1, b.2 - a.2) else (a.1, a.2 - b.2)
def minusZ (a b : Zs) : Zs := plusZ a (!b.1, b.2)
def timesZ (a b : Zs) : Zs := (a.1 != b.1, a.2 * b.2)
/-- What it says. -/
def iv (a : Zs) : Int := sg a.1 a.2
theorem iv_plus (a b : Zs) : iv (plusZ a b) = iv a + iv b := by
  obtain ⟨g, m⟩ := a
  obtain ⟨h, n⟩ := b
  simp only [plusZ, iv]
  cases g <;> cases h <;> simp only [sg] <;> (repeat' split) <;> simp_all <;> omega
theorem iv_neg (g : Bool) (n : Nat) : iv (!g, n) = -iv (g, n) := sg_not g n
theorem iv_minus (a b : Zs) : iv (minusZ a b) = iv a - iv b := by
  rw [minusZ, iv_plus, iv_neg]; rfl
theorem iv_times (a b : Zs) : iv (timesZ a b) = iv a * iv b := sg_mul _ _ _ _
theorem iv_abs (a : Zs) : (iv a).natAbs = a.2 := sg_abs _ _
theorem plusZ_le (a b : Zs) : (plusZ a b).2 ≤ a.2 + b.2 := by
  unfold plusZ; split
  · exact Nat.le_refl _
  · split <;> dsimp only <;> omega
theorem minusZ_le (a b : Zs) : (minusZ a b).2 ≤ a.2 + b.2 := plusZ_le _ _

/-- As the program has it. -/
def enz (a : Zs) : Bool × List Nat := (a.1, limbs a.2)
theorem zs_eta (a : Zs) : (a.1, a.2) = a := rfl
theorem val_enz (a : Zs) : ((enz a).1, val (enz a).2) = a := by simp [enz, val_limbs]

/-- The next row of the table. -/
def nextRow (q : Nat) (f : Nat → Zs) : Nat → Zs
  | 0 => f 0
  | k + 1 => minusZ (minusZ (f (k + 1)) (f k)) (timesZ (false, q - 1) (nextRow q f k))
/-- The table. -/
def tz (q n : Nat) : Nat → Nat → Zs
  | 0 => fun k => (false, binom n k * (q - 1) ^ k)
  | x + 1 => nextRow q (tz q n x)
theorem tz_iv {q n : Nat} (hq : 1 ≤ q) : ∀ x, x ≤ n → ∀ k, iv (tz q n x k) = kr ((q : Int) - 1) n k x := by
  intro x
  induction x with
  | zero =>
    intro _ k
    rw [kr_first]
    show ((binom n k * (q - 1) ^ k : Nat) : Int) = _
    rw [Int.natCast_mul, Int.natCast_pow, Int.ofNat_sub hq]; rfl
  | succ x ih =>
    intro hx k
    induction k with
    | zero =>
      show iv (tz q n x 0) = _
      rw [ih (by omega), kr_zero, kr_zero]
    | succ k ihk =>
      show iv (minusZ (minusZ (tz q n x (k + 1)) (tz q n x k)) (timesZ (false, q - 1) (tz q n (x + 1) k))) = _
      rw [iv_minus, iv_minus, iv_times, ih (by omega), ih (by omega), ihk, kr_next _ (by omega)]
      have : iv (false, q - 1) = (q : Int) - 1 := by show ((q - 1 : Nat) : Int) = _; omega
      rw [this]
theorem tz_le {q n x : Nat} (hq : 2 ≤ q) (hx : x ≤ n) (k : Nat) : (tz q n x k).2 ≤ q ^ n := by
  have h := kr_abs (a := (q : Int) - 1) (A := q - 1) (by omega) (by omega) hx k
  rw [← tz_iv (by omega) x hx k, iv_abs] at h
  have e : q - 1 + 1 = q := by omega
  rwa [e] at h

/-- The program's least limits, q and n. -/
theorem qn_lt {q n : Nat} (hq : q ≤ 256) (hn : n ≤ 64) {k : Nat} (hk : 17 ≤ k) : q ^ n < 4294967296 ^ k := by
  have h1 : q ^ n ≤ 256 ^ n := Nat.pow_le_pow_left hq n
  have h2 : (256 : Nat) ^ n ≤ 256 ^ (4 * 16) := Nat.pow_le_pow_right (by decide) (by omega)
  rw [Nat.pow_mul] at h2
  have e : (256 : Nat) ^ 4 = 4294967296 := by decide
  rw [e] at h2
  have h3 : (4294967296 : Nat) ^ 16 < 4294967296 ^ k := Nat.pow_lt_pow_right (by decide) (by omega)
  omega
theorem tz_lt {q n x : Nat} (hq : 2 ≤ q) (hq2 : q ≤ 256) (hn : n ≤ 64) (hx : x ≤ n) (k : Nat) {m : Nat} (hm : 17 ≤ m) : (tz q n x k).2 < 4294967296 ^ m := Nat.lt_of_le_of_lt (tz_le hq hx k) (qn_lt hq2 hn hm)
theorem tz_len {q n x : Nat} (hq : 2 ≤ q) (hq2 : q ≤ 256) (hn : n ≤ 64) (hx : x ≤ n) (k : Nat) : (enz (tz q n x k)).2.length ≤ 17 := limbs_length_le (tz_lt hq hq2 hn hx k (Nat.le_refl _))

/-! ### Rows that are filled -/
def mapTo {α : Type} (f : Nat → α) (d : α) (N k : Nat) : List α := (List.range N).map fun i => if i < k then f i else d
theorem mapTo_zero {α : Type} (f : Nat → α) (d : α) (N : Nat) : mapTo f d N 0 = List.replicate N d := by
  rw [mapTo]
  refine List.ext_getElem (by simp) fun i h1 h2 => by simp
theorem mapTo_len {α : Type} (f : Nat → α) (d : α) (N k : Nat) : (mapTo f d N k).length = N := by simp [mapTo]
theorem mapTo_set {α : Type} (f : Nat → α) (d : α) (N k : Nat) : (mapTo f d N k).set k (f k) = mapTo f d N (k + 1) := by
  refine List.ext_getElem (by simp [mapTo]) fun i h1 h2 => ?_
  rw [List.getElem_set]
  by_cases h : k = i
  · subst h; simp [mapTo]
  · rw [if_neg h]
    simp only [mapTo, List.getElem_map, List.getElem_range]
    by_cases h3 : i < k
    · rw [if_pos h3, if_pos (by omega)]
    · rw [if_neg h3, if_neg (by omega)]
theorem mapTo_all {α : Type} (f : Nat → α) (d : α) (N : Nat) : mapTo f d N N = (List.range N).map f := by
  refine List.ext_getElem (by simp [mapTo]) fun i h1 h2 => ?_
  simp only [mapTo, List.getElem_map, List.getElem_range]
  rw [if_pos]
  simpa [mapTo] using h1
theorem range_snoc {α : Type} (f : Nat → α) (k : Nat) : (List.range (k + 1)).map f = (List.range k).map f ++ [f k] := by
  rw [List.range_succ, List.map_append]; rfl
theorem range_get {α : Type} (f : Nat → α) {N k : Nat} (h : k < N) : ((List.range N).map f)[k]? = some (f k) := by simp [h]
theorem range_getD {α : Type} (f : Nat → α) (d : α) {N k : Nat} (h : k < N) : ((List.range N).map f).getD k d = f k := by simp [List.getD, h]
end Go.Proofs.Ytamkmihhpadamaa

namespace Go.Proofs.Ytamkmihhpadamaa
set_option maxRecDepth 100000
set_option linter.unusedVariables false
--plain
theorem rt_int (z : Int) : rt (z : Rat) = (decide (z < 0), limbs z.natAbs, [1]) := by
  show (decide ((z : Rat).num < 0), limbs (z : Rat).num.natAbs, limbs (z : Rat).den) = _
  rw [Rat.num_intCast, Rat.den_intCast, limbs_one]
theorem vq_one (g : Bool) (N : List Nat) : vq (g, N, [1]) = ((sg g (val N) : Int) : Rat) := by
  rw [vq_eq]
  have : val [1] = 1 := rfl
  simp only [this]
  rw [Rat.mkRat_one]
theorem vq_nat (n : Nat) : vq (false, limbs n, [1]) = ((n : Int) : Rat) := by
  rw [vq_one, val_limbs]; rfl
theorem rt_int_len {z : Int} {m : Nat} (h : z.natAbs < 4294967296 ^ m) : (rt (z : Rat)).2.1.length ≤ m ∧ (rt (z : Rat)).2.2.length ≤ 1 := by
  rw [rt_int]
  exact ⟨limbs_length_le h, Nat.le_refl _⟩
theorem sm_abs {n M : Nat} {f : Nat → Int} (h : ∀ i, i < n → (f i).natAbs ≤ M) : (sm n f).natAbs ≤ n * M := by
  induction n with
  | zero => simp [sm]
  | succ n ih =>
    have h1 := ih fun i hi => h i (by omega)
    have h2 := h n (by omega)
    rw [sm, Nat.succ_mul]
    omega

/-- A term of the document's sum. -/
def krTerm (q n k x j : Nat) : Int := (binom x j : Int) * (-1) ^ j * ((binom (n - x) (k - j) : Int) * ((q : Int) - 1) ^ (k - j))
theorem krTerm_sum {q n k x : Nat} : kr ((q : Int) - 1) n k x = sm (k + 1) (krTerm q n k x) := kr_sum _ _ _ _
/-- Its size. -/
def krSize (q n k x j : Nat) : Nat := (q - 1) ^ (k - j) * (binom x j * binom (n - x) (k - j))
theorem neg_one_pow (j : Nat) : (-1 : Int) ^ j = if j % 2 = 1 then -1 else 1 := by
  induction j with
  | zero => rfl
  | succ j ih =>
    rw [Int.pow_succ, ih]
    by_cases h : j % 2 = 1
    · rw [if_pos h, if_neg (by omega)]; rfl
    · rw [if_neg h, if_pos (by omega)]; rfl
theorem krTerm_odd {q n k x j : Nat} (hq : 1 ≤ q) (h : j % 2 = 1) : krTerm q n k x j = -(krSize q n k x j : Int) := by
  rw [krTerm, neg_one_pow, if_pos h, krSize, Int.natCast_mul, Int.natCast_pow, Int.natCast_mul, Int.ofNat_sub hq]
  exact ring8 _ _ _
where ring8 (a b c : Int) : a * -1 * (b * c) = -(c * (a * b)) := by grind
theorem krTerm_even {q n k x j : Nat} (hq : 1 ≤ q) (h : ¬ j % 2 = 1) : krTerm q n k x j = (krSize q n k x j : Int) := by
  rw [krTerm, neg_one_pow, if_neg h, krSize, Int.natCast_mul, Int.natCast_pow, Int.natCast_mul, Int.ofNat_sub hq]
  exact ring9 _ _ _
where ring9 (a b c : Int) : a * 1 * (b * c) = c * (a * b) := by grind
theorem krTerm_abs {q n k x j : Nat} (hq : 1 ≤ q) : (krTerm q n k x j).natAbs = krSize q n k x j := by
  by_cases h : j % 2 = 1
  · rw [krTerm_odd hq h]; omega
  · rw [krTerm_even hq h]; omega
theorem pow2_32 (m : Nat) : (2 : Nat) ^ (32 * m) = 4294967296 ^ m := by
  rw [Nat.pow_mul]
theorem binom_lt {n : Nat} (h : n ≤ 64) (k : Nat) : binom n k < 4294967296 ^ 3 := by
  have h1 := binom_le n k
  have h2 : (2 : Nat) ^ n < 2 ^ (32 * 3) := Nat.pow_lt_pow_right (by decide) (by omega)
  rw [pow2_32] at h2
  omega
theorem krSize_lt {q n k x j : Nat} (hq2 : q ≤ 256) (hn : n ≤ 64) (hk : k ≤ n) (hx : x ≤ n) : krSize q n k x j < 4294967296 ^ 23 := by
  have h1 : (q - 1) ^ (k - j) < 4294967296 ^ 17 := qn_lt (by omega) (by omega) (Nat.le_refl _)
  have h2 := mul_pow (binom_lt (n := x) (by omega) j) (binom_lt (n := n - x) (by omega) (k - j))
  exact mul_pow h1 h2
theorem krPart_lt {q n k x j : Nat} (hq : 1 ≤ q) (hq2 : q ≤ 256) (hn : n ≤ 64) (hk : k ≤ n) (hx : x ≤ n) (hj : j ≤ 65) : (sm j (krTerm q n k x)).natAbs < 4294967296 ^ 24 := by
  have h := sm_abs (n := j) (M := 4294967296 ^ 23) (f := krTerm q n k x) fun i _ => by rw [krTerm_abs hq]; exact Nat.le_of_lt (krSize_lt hq2 hn hk hx)
  have e : (4294967296 : Nat) ^ 24 = 4294967296 ^ 23 * 4294967296 := Nat.pow_succ ..
  rw [e]
  have hp : 0 < (4294967296 : Nat) ^ 23 := Nat.pow_pos (by decide)
  generalize (4294967296 : Nat) ^ 23 = P at *
  have := Nat.mul_le_mul_right P hj
  omega
theorem kr_lt {q n k x : Nat} (hq : 2 ≤ q) (hq2 : q ≤ 256) (hn : n ≤ 64) (hx : x ≤ n) : (kr ((q : Int) - 1) n k x).natAbs < 4294967296 ^ 17 := by
  have h := kr_abs (a := (q : Int) - 1) (A := q - 1) (by omega) (by omega) hx k
  have e : q - 1 + 1 = q := by omega
  rw [e] at h
  exact Nat.lt_of_le_of_lt h (qn_lt hq2 hn (Nat.le_refl _))
/-- The program's number, as a fraction. -/
theorem rt_tz {q n x : Nat} (hq : 1 ≤ q) (hx : x ≤ n) (k : Nat) : rt (vq ((enz (tz q n x k)).1, (enz (tz q n x k)).2, [1])) = rt ((kr ((q : Int) - 1) n k x : Int) : Rat) := by
  rw [vq_one]
  have : sg (enz (tz q n x k)).1 (val (enz (tz q n x k)).2) = iv (tz q n x k) := by rw [enz, val_limbs]; rfl
  rw [this, tz_iv hq x hx]
end Go.Proofs.Ytamkmihhpadamaa

namespace Go.Proofs.Ytamkmihhpadamaa
open Go Go.Fw
set_option maxRecDepth 100000
set_option linter.unusedVariables false
theorem S_nat_short {pa : Option Addr} {n ca : Nat} {l : List Nat} : Ctr Try.prog 83 [.slice pa n ca] [] [slF U32 pa n ca l]
    (fun v Φ β => v = .slice pa (trim l).length (trim l).length ∧ Φ = [slF U32 pa (trim l).length (trim l).length (trim l)] ∧ β = []) := by
  refine Ctr_of_j' (F := F_nat_short) rfl fun C => ?_
  refine j_len 0 rfl fun hn hb hc => ?_
  subst hn
  have hb' : l.length * 4 ≤ 140737488355328 := hb
  refine j_nf [.o [0] 0, .c [1]] rfl ?_
  refine j_run it 1 rfl (by simp) ?_
  refine j_nf [.o [1, 0] 0, .c [1, 1]] rfl ?_
  refine j_run it 1 rfl (by simp) ?_
  refine j_step rfl (x_len sl23 rfl ?_)
  refine j_run it 1 rfl (by simp) ?_
  refine j_nf [.c [1, 1, 0, 0], .blk 0, .c [1, 1, 1]] rfl ?_
  refine j_loopN (X := Nat) (fun k => [(0, .slice pa l.length ca), (3, .int .i64 k)]) (fun _ => []) (fun _ => [slF U32 pa l.length ca l]) (fun k => k ≤ l.length ∧ trim (l.take k) = trim l) (fun k => k) l.length [0] rfl ⟨Nat.le_refl _, by rw [List.take_length]⟩ (by repeat (first | exact Fr.sub_nil _ | refine Fr.sub_cons rfl ?_)) rfl rfl ?_
  intro k ⟨hk, ht⟩ ih
  -- the end, once
  have done : trim (l.take k) = l.take k → J F_nat_short C [.c [1, 1, 1]] [(0, .slice pa l.length ca), (3, .int .i64 k)] [] [slF U32 pa l.length ca l]
      (Gives C fun v Φ β => v = .slice pa (trim l).length (trim l).length ∧ Φ = [slF U32 pa (trim l).length (trim l).length (trim l)] ∧ β = []) := by
    intro he
    have e : trim l = l.take k := by rw [← ht, he]
    have e2 : (trim l).length = k := by rw [e, List.length_take]; omega
    refine j_nf [.o [1, 1, 1, 0] 0, .c [1, 1, 1, 1]] rfl ?_
    refine j_run it 3 rfl (by simp) ?_
    refine j_step rfl (x_slice_hm 0 (k) (k) rfl rfl rfl rfl sl23 (by omega) (by omega) (by omega) (by omega) (by omega) ?_)
    refine j_run it 1 rfl (by simp) ?_
    refine j_nf [.c [1, 1, 1, 1]] rfl ?_
    refine j_gives [0] rfl rfl rfl ⟨?_, ?_, rfl⟩
    · rw [e2]; rfl
    · rw [e2, e]
  refine j_nf [.o [1, 1, 0, 0, 0, 0, 0] 0, .c [1, 1, 0, 0, 0, 0, 1], .c [1, 1, 0, 0, 0, 1], .lp [1, 1, 0, 0, 0], .blk 0, .c [1, 1, 1]] rfl ?_
  refine j_run it 3 rfl (by simp) ?_
  refine j_split_dec (t := 8) rfl (fun h1 => ?_) (fun h1 => ?_)
  · refine j_run it 3 rfl (by repeat' first | exact trivial | apply And.intro | omega) ?_
    refine j_gstep rfl rfl (x_idx 0 ((k) - 1) rfl rfl rfl sl23 (by omega) (by omega) fun z1 hz1 b1 o1 => ?_)
    refine j_gstep rfl rfl (x_ld_nat 0 rfl rfl ld65 fun ⟨r1, r2⟩ => ?_)
    refine j_run it 2 rfl (by simp) ?_
    refine j_nf [.c [1, 1, 0, 0, 0, 0, 1], .c [1, 1, 0, 0, 0, 1], .lp [1, 1, 0, 0, 0], .blk 0, .c [1, 1, 1]] rfl ?_
    refine j_if rfl rfl (fun h2 => ?_) (fun h2 => ?_)
    · have hz : z1 = 0 := by omega
      subst hz
      refine j_nf [.o [1, 1, 0, 0, 0, 1, 0] 0, .blk 1, .lp [1, 1, 0, 0, 0], .blk 0, .c [1, 1, 1]] rfl ?_
      refine j_run it 3 rfl (by repeat' first | exact trivial | apply And.intro | omega) ?_
      refine j_nfn 2 [.lp [1, 1, 0, 0, 0], .blk 0, .c [1, 1, 1]] rfl ?_
      refine j_to [1] (by repeat (first | exact Fr.sub_nil _ | refine Fr.sub_cons rfl ?_ | refine Fr.sub_consI rfl (by first | omega | (dsimp only; omega)) ?_ | refine Fr.sub_consS rfl (by first | omega | (dsimp only; omega)) (by first | omega | (dsimp only; omega)) ?_)) rfl rfl (ih (k - 1) (by omega) ⟨by omega, by rw [← trim_take_zero hz1]; rw [show k - 1 + 1 = k by omega]; exact ht⟩)
    · refine j_nfn 1 [.c [1, 1, 1]] rfl ?_
      refine j_to [1] (by repeat (first | exact Fr.sub_nil _ | refine Fr.sub_cons rfl ?_ | refine Fr.sub_consI rfl (by first | omega | (dsimp only; omega)) ?_ | refine Fr.sub_consS rfl (by first | omega | (dsimp only; omega)) (by first | omega | (dsimp only; omega)) ?_)) rfl rfl (done (by have := trim_take_ne hz1 (by omega); rwa [show k - 1 + 1 = k by omega] at this))
  · refine j_run it 7 rfl (by simp) ?_
    refine j_nf [.c [1, 1, 0, 0, 0, 0, 1], .c [1, 1, 0, 0, 0, 1], .lp [1, 1, 0, 0, 0], .blk 0, .c [1, 1, 1]] rfl ?_
    refine j_false rfl rfl ?_
    refine j_nfn 1 [.c [1, 1, 1]] rfl ?_
    refine j_to [0] (by repeat (first | exact Fr.sub_nil _ | refine Fr.sub_cons rfl ?_ | refine Fr.sub_consI rfl (by first | omega | (dsimp only; omega)) ?_ | refine Fr.sub_consS rfl (by first | omega | (dsimp only; omega)) (by first | omega | (dsimp only; omega)) ?_)) rfl rfl (done (by rw [show k = 0 by omega]; rfl))
end Go.Proofs.Ytamkmihhpadamaa

namespace Go.Proofs.Ytamkmihhpadamaa
open Go Go.Fw
set_option maxRecDepth 100000
set_option linter.unusedVariables false
set_option maxHeartbeats 1000000
theorem S_codewrightref01_Trim {pa : Option Addr} {n ca : Nat} {l : List Nat} : Ctr Try.prog 74 [.slice pa n ca] [] [slF U32 pa n ca l] (Sv U32 (trim l)) := by
  refine Ctr_of_j' (F := F_codewrightref01_Trim) rfl fun C => ?_
  refine j_len 0 rfl fun hn hb hc => ?_
  subst hn
  have hb' : l.length * 4 ≤ 140737488355328 := hb
  have done : ∀ k, k ≤ l.length → trim l = l.take k → J F_codewrightref01_Trim C [.c [1, 1, 1]] [(0, .slice pa l.length ca), (3, .int .i64 k)] [] [slF U32 pa l.length ca l] (Gives C (Sv U32 (trim l))) := by
    intro k hk he
    have hlk : (l.take k).length = k := by rw [List.length_take]; omega
    refine j_nf [.o [1, 1, 1, 0] 0, .c [1, 1, 1, 1]] rfl ?_
    refine j_step rfl (x_lit0 sl23 fun b1 => ?_)
    refine j_run it 2 rfl (by simp) ?_
    refine j_step rfl (x_slice_h 0 (k) rfl rfl rfl sl23 (by omega) (by omega) ?_)
    refine j_step rfl (x_app_sl 0 0 rfl rfl rfl rfl sl23 zo23e rfl (by first | exact GrOk.nil _ | assumption | exact .inr ⟨_, rfl, Nat.le_refl _, by omega, rfl⟩) (by omega) _ by23e (by omega) fun bo1 cap1 cs1 vss1 hg1 ht1 => ?_)
    refine j_run it 1 rfl (by simp) ?_
    refine j_nf [.c [1, 1, 1, 1]] rfl ?_
    simp only [Nat.zero_add] at hg1 ht1 ⊢
    refine j_pub 0 0 rfl rfl hg1 (by simpa using ht1) hlk.symm (by show _ * 4 ≤ _; omega) ?_
    refine j_giv [0] rfl rfl rfl ⟨_, _, by rw [he, hlk]; rfl, by rw [he, hlk], rfl⟩
  refine j_nf [.o [0] 0, .c [1]] rfl ?_
  refine j_run it 1 rfl (by simp) ?_
  refine j_nf [.o [1, 0] 0, .c [1, 1]] rfl ?_
  refine j_run it 1 rfl (by simp) ?_
  refine j_step rfl (x_len sl23 rfl ?_)
  refine j_run it 1 rfl (by simp) ?_
  refine j_nf [.c [1, 1, 0, 0], .blk 0, .c [1, 1, 1]] rfl ?_
  refine j_loopN (X := Nat) (fun k => [(0, .slice pa l.length ca), (3, .int .i64 k)]) (fun _ => []) (fun _ => [slF U32 pa l.length ca l]) (fun k => k ≤ l.length ∧ trim (l.take k) = trim l) (fun k => k) l.length [0] rfl ⟨Nat.le_refl _, by rw [List.take_length]⟩ (by repeat (first | exact Fr.sub_nil _ | refine Fr.sub_cons rfl ?_)) rfl rfl ?_
  intro k ⟨hk, ht⟩ ih
  by_cases hk0 : 0 < k
  · obtain ⟨z, hz⟩ : ∃ z, l[k - 1]? = some z := ⟨_, List.getElem?_eq_getElem (show k - 1 < l.length by omega)⟩
    have side : ∀ y, l[k - 1]? = some y → y = z := fun y hy => by rw [hz] at hy; exact (Option.some.inj hy).symm
    refine j_nf [.o [1, 1, 0, 0, 0, 0, 0] 0, .c [1, 1, 0, 0, 0, 0, 1], .c [1, 1, 0, 0, 0, 1], .lp [1, 1, 0, 0, 0], .blk 0, .c [1, 1, 1]] rfl ?_
    refine j_run it 3 rfl (by simp) ?_
    refine j_split_dec (t := 8) rfl (fun h1 => ?_) (fun h1 => by exfalso; omega)
    refine j_run it 3 rfl (by repeat' first | exact trivial | apply And.intro | omega) ?_
    refine j_gstep rfl rfl (x_idx 0 ((k) - 1) rfl rfl rfl sl23 (by omega) (by omega) fun z1 hz1 b1 o1 => ?_)
    refine j_gstep rfl rfl (x_ld_nat 0 rfl rfl ld65 fun ⟨r1, r2⟩ => ?_)
    refine j_run it 2 rfl (by simp) ?_
    refine j_nf [.c [1, 1, 0, 0, 0, 0, 1], .c [1, 1, 0, 0, 0, 1], .lp [1, 1, 0, 0, 0], .blk 0, .c [1, 1, 1]] rfl ?_
    refine j_if rfl rfl (fun h2 => ?_) (fun h2 => ?_)
    · have e := side z1 hz1
      have hz0 : z1 = 0 := by omega
      subst hz0
      refine j_nf [.o [1, 1, 0, 0, 0, 1, 0] 0, .blk 1, .lp [1, 1, 0, 0, 0], .blk 0, .c [1, 1, 1]] rfl ?_
      refine j_run it 3 rfl (by repeat' first | exact trivial | apply And.intro | omega) ?_
      refine j_nfn 2 [.lp [1, 1, 0, 0, 0], .blk 0, .c [1, 1, 1]] rfl ?_
      refine j_to [1] (by repeat (first | exact Fr.sub_nil _ | refine Fr.sub_cons rfl ?_ | refine Fr.sub_consI rfl (by first | omega | (dsimp only; omega)) ?_ | refine Fr.sub_consS rfl (by first | omega | (dsimp only; omega)) (by first | omega | (dsimp only; omega)) ?_)) rfl rfl (ih (k - 1) (by omega) ⟨by omega, by rw [← trim_take_zero hz1]; rw [show k - 1 + 1 = k by omega]; exact ht⟩)
    · refine j_nfn 1 [.c [1, 1, 1]] rfl ?_
      refine j_to [1] (by repeat (first | exact Fr.sub_nil _ | refine Fr.sub_cons rfl ?_ | refine Fr.sub_consI rfl (by first | omega | (dsimp only; omega)) ?_ | refine Fr.sub_consS rfl (by first | omega | (dsimp only; omega)) (by first | omega | (dsimp only; omega)) ?_)) rfl rfl (done k hk (by rw [← ht]; have := trim_take_ne hz1 (by omega); rwa [show k - 1 + 1 = k by omega] at this))
  · refine j_nf [.o [1, 1, 0, 0, 0, 0, 0] 0, .c [1, 1, 0, 0, 0, 0, 1], .c [1, 1, 0, 0, 0, 1], .lp [1, 1, 0, 0, 0], .blk 0, .c [1, 1, 1]] rfl ?_
    refine j_run it 3 rfl (by simp) ?_
    refine j_split_dec (t := 8) rfl (fun h1 => by exfalso; omega) (fun h1 => ?_)
    refine j_run it 7 rfl (by simp) ?_
    refine j_nf [.c [1, 1, 0, 0, 0, 0, 1], .c [1, 1, 0, 0, 0, 1], .lp [1, 1, 0, 0, 0], .blk 0, .c [1, 1, 1]] rfl ?_
    refine j_false rfl rfl ?_
    refine j_nfn 1 [.c [1, 1, 1]] rfl ?_
    refine j_to [0] (by repeat (first | exact Fr.sub_nil _ | refine Fr.sub_cons rfl ?_ | refine Fr.sub_consI rfl (by first | omega | (dsimp only; omega)) ?_ | refine Fr.sub_consS rfl (by first | omega | (dsimp only; omega)) (by first | omega | (dsimp only; omega)) ?_)) rfl rfl (done k hk (by rw [← ht, show k = 0 by omega]; rfl))

theorem val_two' (n : Nat) : val [n % 4294967296, n / 4294967296] = n := by simp only [val]; omega

theorem S_codewrightref01_Of {n : Nat} (hn : n < 18446744073709551616) : Ctr Try.prog 42 [.int .u64 n] [] [] (Sv U32 (limbs n)) := by
  refine Ctr_of_j' (F := F_codewrightref01_Of) rfl fun C => ?_
  refine j_nf [.o [0] 0, .c [1]] rfl ?_
  refine j_run it 1 rfl (by simp) ?_
  refine j_nf [.o [1, 0] 0, .c [1, 1]] rfl ?_
  refine j_run it 6 rfl (by repeat' first | exact trivial | apply And.intro | omega) ?_
  refine j_step rfl (x_lit sl23 zo23e rfl rfl rfl rfl (by decide) (by decide) rfl fun b1 => ?_)
  refine j_pub_made (n := 2) (kd := IntKind.u32) 4 [((n) % 4294967296), ((n) / 4294967296)] 0 rfl rfl (by first | (simp [InR]; done) | (simp only [InR, List.mem_cons, List.not_mem_nil, or_false, forall_eq_or_imp, forall_eq]; omega)) (by decide) (by decide) ?_
  refine j_step rfl (x_call [0] rfl (S_codewrightref01_Trim) rfl ?_)
  rintro _ _ _ ⟨pa1, ca1, rfl, rfl, rfl⟩
  simp only [List.cons_append, List.nil_append]
  refine j_run it 1 rfl (by simp) ?_
  refine j_nf [.c [1, 1]] rfl ?_
  rw [trim_eq (l := [n % 4294967296, n / 4294967296]) (by simp; omega), val_two']
  refine j_giv [0] rfl rfl rfl ⟨_, _, rfl, rfl, rfl⟩

theorem S_codewrightref01_limb {pa : Option Addr} {n ca i : Nat} {l : List Nat} : Ctr Try.prog 80 [.slice pa n ca, .int .i64 i] [] [slF U32 pa n ca l] (Rv (.int .u64 (l.getD i 0 : Nat)) []) := by
  refine Ctr_of_j' (F := F_codewrightref01_limb) rfl fun C => ?_
  refine j_len 0 rfl fun hn hb hc => ?_
  subst hn
  by_cases hi : i < l.length
  · refine j_nf [.o [0] 0, .c [1]] rfl ?_
    refine j_run it 1 rfl (by simp) ?_
    refine j_nf [.o [1, 0, 0] 0, .c [1, 0, 1], .c [1, 1]] rfl ?_
    refine j_run it 2 rfl (by simp) ?_
    refine j_step rfl (x_len sl23 rfl ?_)
    refine j_run it 1 rfl (by simp) ?_
    refine j_nf [.c [1, 0, 1], .c [1, 1]] rfl ?_
    refine j_if rfl rfl (fun h1 => ?_) (fun h1 => by exfalso; omega)
    refine j_nf [.o [1, 0, 1, 0, 0] 0, .c [1, 0, 1, 0, 1], .c [1, 1]] rfl ?_
    refine j_run it 2 rfl (by simp) ?_
    refine j_step rfl (x_idx 0 (i) rfl rfl rfl sl23 rfl (by omega) fun z1 hz1 b1 o1 => ?_)
    refine j_step rfl (x_ld_nat 0 rfl rfl ld65 fun ⟨r1, r2⟩ => ?_)
    refine j_run it 2 rfl (by repeat' first | exact trivial | apply And.intro | omega) ?_
    refine j_nf [.c [1, 0, 1, 0, 1], .c [1, 1]] rfl ?_
    have e : l.getD i 0 = z1 := by rw [List.getD, hz1]; rfl
    refine j_giv [] rfl rfl rfl ⟨by rw [e]; rfl, rfl, rfl⟩
  · refine j_nf [.o [0] 0, .c [1]] rfl ?_
    refine j_run it 1 rfl (by simp) ?_
    refine j_nf [.o [1, 0, 0] 0, .c [1, 0, 1], .c [1, 1]] rfl ?_
    refine j_run it 2 rfl (by simp) ?_
    refine j_step rfl (x_len sl23 rfl ?_)
    refine j_run it 1 rfl (by simp) ?_
    refine j_nf [.c [1, 0, 1], .c [1, 1]] rfl ?_
    refine j_if rfl rfl (fun h1 => by exfalso; omega) (fun h1 => ?_)
    refine j_nf [.o [1, 1, 0] 0, .c [1, 1, 1]] rfl ?_
    refine j_run it 1 rfl (by simp) ?_
    refine j_nf [.c [1, 1, 1]] rfl ?_
    have e : l.getD i 0 = 0 := by rw [List.getD, List.getElem?_eq_none (by omega)]; rfl
    refine j_giv [] rfl rfl rfl ⟨by rw [e]; rfl, rfl, rfl⟩

theorem S_codewrightref01_Zero {pa : Option Addr} {n ca : Nat} {l : List Nat} : Ctr Try.prog 64 [.slice pa n ca] [] [slF U32 pa n ca l] (Rv (.bool (decide (((trim l).length : Int) = 0))) []) := by
  refine Ctr_of_j' (F := F_codewrightref01_Zero) rfl fun C => ?_
  refine j_nf [.o [0] 0, .c [1]] rfl ?_
  refine j_run it 1 rfl (by simp) ?_
  refine j_nf [.o [1, 0] 0, .c [1, 1]] rfl ?_
  refine j_run it 1 rfl (by simp) ?_
  refine j_step rfl (x_call [0] rfl (S_codewrightref01_Trim) rfl ?_)
  rintro _ _ _ ⟨pa1, ca1, rfl, rfl, rfl⟩
  simp only [List.cons_append, List.nil_append]
  refine j_step rfl (x_len sl23 rfl ?_)
  refine j_run it 2 rfl (by simp) ?_
  refine j_nf [.c [1, 1]] rfl ?_
  refine j_giv [] rfl rfl rfl ⟨rfl, rfl, rfl⟩

theorem take_eq_step {a b : List Nat} {k : Nat} (h : a.take k = b.take k) (ha : k < a.length) (hb : k < b.length) (e : a.getD k default = b.getD k default) : a.take (k + 1) = b.take (k + 1) := by
  rw [List.take_add_one, List.take_add_one, h, List.getElem?_eq_getElem ha, List.getElem?_eq_getElem hb]
  rw [List.getD, List.getD, List.getElem?_eq_getElem ha, List.getElem?_eq_getElem hb] at e
  simp only [Option.getD_some] at e
  rw [e]

theorem S_codewrightref01_Same {pa pb : Option Addr} {n m ca cb : Nat} {a b : List Nat} : Ctr Try.prog 40 [.slice pa n ca, .slice pb m cb] [] [slF U32 pa n ca a, slF U32 pb m cb b] (Rv (.bool (decide (a = b))) []) := by
  refine Ctr_of_j' (F := F_codewrightref01_Same) rfl fun C => ?_
  refine j_len 0 rfl fun hn hba _ => ?_
  refine j_len 1 rfl fun hm _ _ => ?_
  subst hn; subst hm
  have hba' : a.length * 4 ≤ 140737488355328 := hba
  by_cases hl : a.length = b.length
  · refine j_nf [.o [0] 0, .c [1]] rfl ?_
    refine j_run it 1 rfl (by simp) ?_
    refine j_nf [.o [1, 0, 0] 0, .c [1, 0, 1], .c [1, 1]] rfl ?_
    refine j_run it 1 rfl (by simp) ?_
    refine j_step rfl (x_len sl23 rfl ?_)
    refine j_run it 1 rfl (by simp) ?_
    refine j_step rfl (x_len sl23 rfl ?_)
    refine j_run it 1 rfl (by simp) ?_
    refine j_nf [.c [1, 0, 1], .c [1, 1]] rfl ?_
    refine j_ifn rfl rfl (fun h1 => by exfalso; omega) (fun h1 => ?_)
    refine j_nf [.o [1, 1, 0, 0] 0, .c [1, 1, 0, 1], .c [1, 1, 1]] rfl ?_
    refine j_run it 1 rfl (by simp) ?_
    refine j_nf [.c [1, 1, 0, 1, 0], .blk 0, .c [1, 1, 1]] rfl ?_
    refine j_loopN (X := Nat) (fun k => [(0, .slice pa a.length ca), (1, .slice pb b.length cb), (5, .int .i64 k)]) (fun _ => []) (fun _ => [slF U32 pa a.length ca a, slF U32 pb b.length cb b]) (fun k => k ≤ a.length ∧ a.take k = b.take k) (fun k => a.length - k) 0 [0, 1] rfl ⟨Nat.zero_le _, by simp⟩ (by repeat (first | exact Fr.sub_nil _ | refine Fr.sub_cons rfl ?_)) rfl rfl ?_
    intro k ⟨hk, ht⟩ ih
    by_cases hkl : k < a.length
    · refine j_nf [.o [1, 1, 0, 1, 0, 0, 0, 0] 0, .c [1, 1, 0, 1, 0, 0, 0, 1], .c [1, 1, 0, 1, 0, 0, 1], .lp [1, 1, 0, 1, 0, 0], .blk 0, .c [1, 1, 1]] rfl ?_
      refine j_run it 2 rfl (by simp) ?_
      refine j_step rfl (x_len sl23 rfl ?_)
      refine j_run it 1 rfl (by simp) ?_
      refine j_nf [.c [1, 1, 0, 1, 0, 0, 0, 1], .c [1, 1, 0, 1, 0, 0, 1], .lp [1, 1, 0, 1, 0, 0], .blk 0, .c [1, 1, 1]] rfl ?_
      refine j_if rfl rfl (fun h2 => ?_) (fun h2 => by exfalso; omega)
      refine j_nf [.c [1, 1, 0, 1, 0, 0, 1, 0, 0, 0], .c [1, 1, 0, 1, 0, 0, 1, 0, 0, 1], .blk 1, .c [1, 1, 0, 1, 0, 0, 1, 1], .lp [1, 1, 0, 1, 0, 0], .blk 0, .c [1, 1, 1]] rfl ?_
      (apply j_drawK it mx 9; (· rfl); (· rfl))
      (apply lxk_run 2; (· rfl); (· simp))
      (apply lxk_pt; (· rfl); (· exact d_x fun _ => x_idx 0 (k) rfl rfl rfl sl23 rfl (by omega) fun z1 hz1 b1 o1 => (dk_ptD default hz1 0 rfl)); intro b1 o1)
      (apply lxk_eq; (· rfl); (· exact d_x fun _ => x_ld_nat 0 rfl rfl ld65 fun ⟨r1, r2⟩ => dk_eq))
      (apply lxk_run 2; (· rfl); (· simp))
      (apply lxk_pt; (· rfl); (· exact d_x fun _ => x_idx 1 (k) rfl rfl rfl sl23 rfl (by omega) fun z1 hz1 b2 o2 => (dk_ptD default hz1 0 rfl)); intro b2 o2)
      (apply lxk_eq; (· rfl); (· exact d_x fun _ => x_ld_nat 0 rfl rfl ld65 fun ⟨r1, r2⟩ => dk_eq))
      (apply lxk_run 1; (· rfl); (· simp))
      refine lxk_end rfl ?_
      simp only [List.map_cons, List.map_nil, List.cons_append, List.nil_append]
      refine j_nf [.c [1, 1, 0, 1, 0, 0, 1, 0, 0, 1], .blk 1, .c [1, 1, 0, 1, 0, 0, 1, 1], .lp [1, 1, 0, 1, 0, 0], .blk 0, .c [1, 1, 1]] rfl ?_
      refine j_ifn rfl rfl (fun h3 => ?_) (fun h3 => ?_)
      · refine j_nf [.o [1, 1, 0, 1, 0, 0, 1, 0, 0, 1, 0, 0] 0, .c [1, 1, 0, 1, 0, 0, 1, 0, 0, 1, 0, 1], .blk 1, .c [1, 1, 0, 1, 0, 0, 1, 1], .lp [1, 1, 0, 1, 0, 0], .blk 0, .c [1, 1, 1]] rfl ?_
        refine j_run it 1 rfl (by simp) ?_
        refine j_nf [.c [1, 1, 0, 1, 0, 0, 1, 0, 0, 1, 0, 1], .blk 1, .c [1, 1, 0, 1, 0, 0, 1, 1], .lp [1, 1, 0, 1, 0, 0], .blk 0, .c [1, 1, 1]] rfl ?_
        refine j_giv [] rfl rfl rfl ⟨by
          rw [decide_eq_false (fun e => by subst e; omega)]; rfl, rfl, rfl⟩
      · refine j_nf [.o [1, 1, 0, 1, 0, 0, 1, 1] 0, .lp [1, 1, 0, 1, 0, 0], .blk 0, .c [1, 1, 1]] rfl ?_
        refine j_run it 3 rfl (by repeat' first | exact trivial | apply And.intro | omega) ?_
        refine j_nfn 1 [.lp [1, 1, 0, 1, 0, 0], .blk 0, .c [1, 1, 1]] rfl ?_
        refine j_to [2, 3] (by repeat (first | exact Fr.sub_nil _ | refine Fr.sub_cons rfl ?_ | refine Fr.sub_consI rfl (by first | omega | (dsimp only; omega)) ?_ | refine Fr.sub_consS rfl (by first | omega | (dsimp only; omega)) (by first | omega | (dsimp only; omega)) ?_)) rfl rfl (ih (k + 1) (by omega) ⟨by omega, take_eq_step ht hkl (by omega) (by omega)⟩)
    · refine j_nf [.o [1, 1, 0, 1, 0, 0, 0, 0] 0, .c [1, 1, 0, 1, 0, 0, 0, 1], .c [1, 1, 0, 1, 0, 0, 1], .lp [1, 1, 0, 1, 0, 0], .blk 0, .c [1, 1, 1]] rfl ?_
      refine j_run it 2 rfl (by simp) ?_
      refine j_step rfl (x_len sl23 rfl ?_)
      refine j_run it 1 rfl (by simp) ?_
      refine j_nf [.c [1, 1, 0, 1, 0, 0, 0, 1], .c [1, 1, 0, 1, 0, 0, 1], .lp [1, 1, 0, 1, 0, 0], .blk 0, .c [1, 1, 1]] rfl ?_
      refine j_if rfl rfl (fun h2 => by exfalso; omega) (fun h2 => ?_)
      refine j_nf [.o [1, 1, 1, 0] 0, .c [1, 1, 1, 1]] rfl ?_
      refine j_run it 1 rfl (by simp) ?_
      refine j_nf [.c [1, 1, 1, 1]] rfl ?_
      have e : a = b := by
        have e1 : k = a.length := by omega
        rw [e1, List.take_length, hl, List.take_length] at ht
        exact ht
      refine j_giv [] rfl rfl rfl ⟨by rw [decide_eq_true e]; rfl, rfl, rfl⟩
  · refine j_nf [.o [0] 0, .c [1]] rfl ?_
    refine j_run it 1 rfl (by simp) ?_
    refine j_nf [.o [1, 0, 0] 0, .c [1, 0, 1], .c [1, 1]] rfl ?_
    refine j_run it 1 rfl (by simp) ?_
    refine j_step rfl (x_len sl23 rfl ?_)
    refine j_run it 1 rfl (by simp) ?_
    refine j_step rfl (x_len sl23 rfl ?_)
    refine j_run it 1 rfl (by simp) ?_
    refine j_nf [.c [1, 0, 1], .c [1, 1]] rfl ?_
    refine j_ifn rfl rfl (fun h1 => ?_) (fun h1 => by exfalso; omega)
    refine j_nf [.o [1, 0, 1, 0, 0] 0, .c [1, 0, 1, 0, 1], .c [1, 1]] rfl ?_
    refine j_run it 1 rfl (by simp) ?_
    refine j_nf [.c [1, 0, 1, 0, 1], .c [1, 1]] rfl ?_
    refine j_giv [] rfl rfl rfl ⟨by rw [decide_eq_false (fun e => hl (by rw [e]))]; rfl, rfl, rfl⟩
end Go.Proofs.Ytamkmihhpadamaa
