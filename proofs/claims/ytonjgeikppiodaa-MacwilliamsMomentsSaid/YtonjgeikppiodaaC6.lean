/-
Where macwilliams.Power and Moment give an error.
-/
import Derived.Test.YtonjgeikppiodaaFuns
import Derived.Test.YtonjgeikppiodaaNatMath
import Derived.Test.YtonjgeikppiodaaNatMath2
import Derived.Test.YtonjgeikppiodaaNatMath3
import Derived.Test.YtonjgeikppiodaaNatMath4
import Derived.Test.YtonjgeikppiodaaA1
import Derived.Test.YtonjgeikppiodaaA2
import Derived.Test.YtonjgeikppiodaaA3
import Derived.Test.YtonjgeikppiodaaA4
import Derived.Test.YtonjgeikppiodaaA5
import Derived.Test.YtonjgeikppiodaaA6
import Derived.Test.YtonjgeikppiodaaA7
import Derived.Test.YtonjgeikppiodaaA8
import Derived.Test.YtonjgeikppiodaaC1
import Derived.Test.YtonjgeikppiodaaC2
import Derived.Test.YtonjgeikppiodaaC3
namespace Go.Proofs.Ytonjgeikppiodaa
open Go Go.Fw
set_option maxRecDepth 100000
set_option linter.unusedVariables false
set_option maxHeartbeats 400000
theorem S_macwilliams_Power_shape {pa : Option Addr} {n ca : Nat} {ls : List (List Nat)} {r : Int} (hr : InR .i64 r) (hs : shapeOf ls.length = 3) :
    Ctr Try.prog 5 [.slice pa n ca, .int .i64 r] [] [slF NatE pa n ca ls] (S2 U32 [] 3) := by
  refine Ctr_of_j' (F := F_macwilliams_Power) rfl fun C => ?_
  refine j_len 0 rfl fun hl _ _ => ?_
  subst hl
  refine j_nf [.o [0] 0, .c [1]] rfl ?_
  refine j_run it 2 rfl (by simp) ?_
  refine j_nf [.o [1, 0, 0] 0, .c [1, 0, 1], .c [1, 1]] rfl ?_
  refine j_run it 1 rfl (by simp) ?_
  refine j_step rfl (x_len sl22 rfl ?_)
  refine j_step rfl (x_call [] rfl (S_macwilliams_shape) rfl ?_)
  rintro _ _ _ ⟨rfl, rfl, rfl⟩
  simp only [List.cons_append, List.nil_append]
  refine j_run it 1 rfl (by simp) ?_
  refine j_nf [.o [1, 0, 1, 0] 0, .c [1, 0, 1, 1], .c [1, 1]] rfl ?_
  refine j_run it 2 rfl (by simp) ?_
  refine j_nf [.c [1, 0, 1, 1], .c [1, 1]] rfl ?_
  refine j_ifn rfl rfl (fun h1 => ?_) (fun h1 => by exfalso; omega)
  refine j_nf [.o [1, 0, 1, 1, 0, 0] 0, .c [1, 0, 1, 1, 0, 1], .c [1, 1]] rfl ?_
  refine j_run it 3 rfl (by simp) ?_
  refine j_nf [.c [1, 0, 1, 1, 0, 1], .c [1, 1]] rfl ?_
  refine j_add (slF U32 none 0 0 []) (fun w A _ => slF_nil _ _ _ _ _) ?_
  refine j_giv [0] rfl rfl rfl ⟨_, _, by rw [hs]; rfl, rfl, rfl⟩

theorem S_macwilliams_Moment_shape {pa : Option Addr} {n ca : Nat} {ls : List (List Nat)} {r : Int} (hr : InR .i64 r) (hs : shapeOf ls.length = 3) :
    Ctr Try.prog 6 [.slice pa n ca, .int .i64 r] [] [slF NatE pa n ca ls] (S2 U32 [] 3) := by
  refine Ctr_of_j' (F := F_macwilliams_Moment) rfl fun C => ?_
  refine j_len 0 rfl fun hl _ _ => ?_
  subst hl
  refine j_nf [.o [0] 0, .c [1]] rfl ?_
  refine j_run it 2 rfl (by simp) ?_
  refine j_nf [.o [1, 0, 0] 0, .c [1, 0, 1], .c [1, 1]] rfl ?_
  refine j_run it 1 rfl (by simp) ?_
  refine j_step rfl (x_len sl22 rfl ?_)
  refine j_step rfl (x_call [] rfl (S_macwilliams_shape) rfl ?_)
  rintro _ _ _ ⟨rfl, rfl, rfl⟩
  simp only [List.cons_append, List.nil_append]
  refine j_run it 1 rfl (by simp) ?_
  refine j_nf [.o [1, 0, 1, 0] 0, .c [1, 0, 1, 1], .c [1, 1]] rfl ?_
  refine j_run it 2 rfl (by simp) ?_
  refine j_nf [.c [1, 0, 1, 1], .c [1, 1]] rfl ?_
  refine j_ifn rfl rfl (fun h1 => ?_) (fun h1 => by exfalso; omega)
  refine j_nf [.o [1, 0, 1, 1, 0, 0] 0, .c [1, 0, 1, 1, 0, 1], .c [1, 1]] rfl ?_
  refine j_run it 3 rfl (by simp) ?_
  refine j_nf [.c [1, 0, 1, 1, 0, 1], .c [1, 1]] rfl ?_
  refine j_add (slF U32 none 0 0 []) (fun w A _ => slF_nil _ _ _ _ _) ?_
  refine j_giv [0] rfl rfl rfl ⟨_, _, by rw [hs]; rfl, rfl, rfl⟩

theorem S_macwilliams_Power_range {pa : Option Addr} {n ca : Nat} {ls : List (List Nat)} {r : Int} (hr : r < 0 ∨ 64 < r) (hs : shapeOf ls.length = 0) :
    Ctr Try.prog 5 [.slice pa n ca, .int .i64 r] [] [slF NatE pa n ca ls] (S2 U32 [] 6) := by
  refine Ctr_of_j' (F := F_macwilliams_Power) rfl fun C => ?_
  refine j_len 0 rfl fun hl _ _ => ?_
  subst hl
  by_cases h : r < 0
  · refine j_nf [.o [0] 0, .c [1]] rfl ?_
    refine j_run it 2 rfl (by simp) ?_
    refine j_nf [.o [1, 0, 0] 0, .c [1, 0, 1], .c [1, 1]] rfl ?_
    refine j_run it 1 rfl (by simp) ?_
    refine j_step rfl (x_len sl22 rfl ?_)
    refine j_step rfl (x_call [] rfl (S_macwilliams_shape) rfl ?_)
    rintro _ _ _ ⟨rfl, rfl, rfl⟩
    simp only [List.cons_append, List.nil_append]
    refine j_run it 1 rfl (by simp) ?_
    refine j_nf [.o [1, 0, 1, 0] 0, .c [1, 0, 1, 1], .c [1, 1]] rfl ?_
    refine j_run it 2 rfl (by simp) ?_
    refine j_nf [.c [1, 0, 1, 1], .c [1, 1]] rfl ?_
    refine j_ifn rfl rfl (fun h1 => by exfalso; omega) (fun h1 => ?_)
    refine j_nf [.o [1, 1, 0, 0] 0, .c [1, 1, 0, 1], .c [1, 1, 1]] rfl ?_
    refine j_run it 3 rfl (by simp) ?_
    refine j_split_dec (t := 20) rfl (fun h2 => ?_) (fun h2 => by exfalso; omega)
    refine j_run it 3 rfl (by simp) ?_
    refine j_nf [.c [1, 1, 0, 1], .c [1, 1, 1]] rfl ?_
    refine j_true rfl rfl ?_
    refine j_nf [.o [1, 1, 0, 1, 0, 0] 0, .c [1, 1, 0, 1, 0, 1], .c [1, 1, 1]] rfl ?_
    refine j_run it 2 rfl (by simp) ?_
    refine j_nf [.c [1, 1, 0, 1, 0, 1], .c [1, 1, 1]] rfl ?_
    refine j_add (slF U32 none 0 0 []) (fun w A _ => slF_nil _ _ _ _ _) ?_
    refine j_giv [0] rfl rfl rfl ⟨_, _, rfl, rfl, rfl⟩
  · refine j_nf [.o [0] 0, .c [1]] rfl ?_
    refine j_run it 2 rfl (by simp) ?_
    refine j_nf [.o [1, 0, 0] 0, .c [1, 0, 1], .c [1, 1]] rfl ?_
    refine j_run it 1 rfl (by simp) ?_
    refine j_step rfl (x_len sl22 rfl ?_)
    refine j_step rfl (x_call [] rfl (S_macwilliams_shape) rfl ?_)
    rintro _ _ _ ⟨rfl, rfl, rfl⟩
    simp only [List.cons_append, List.nil_append]
    refine j_run it 1 rfl (by simp) ?_
    refine j_nf [.o [1, 0, 1, 0] 0, .c [1, 0, 1, 1], .c [1, 1]] rfl ?_
    refine j_run it 2 rfl (by simp) ?_
    refine j_nf [.c [1, 0, 1, 1], .c [1, 1]] rfl ?_
    refine j_ifn rfl rfl (fun h1 => by exfalso; omega) (fun h1 => ?_)
    refine j_nf [.o [1, 1, 0, 0] 0, .c [1, 1, 0, 1], .c [1, 1, 1]] rfl ?_
    refine j_run it 3 rfl (by simp) ?_
    refine j_split_dec (t := 20) rfl (fun h2 => by exfalso; omega) (fun h2 => ?_)
    refine j_run it 3 rfl (by simp) ?_
    refine j_nf [.c [1, 1, 0, 1], .c [1, 1, 1]] rfl ?_
    refine j_if rfl rfl (fun h3 => ?_) (fun h3 => by exfalso; omega)
    refine j_nf [.o [1, 1, 0, 1, 0, 0] 0, .c [1, 1, 0, 1, 0, 1], .c [1, 1, 1]] rfl ?_
    refine j_run it 2 rfl (by simp) ?_
    refine j_nf [.c [1, 1, 0, 1, 0, 1], .c [1, 1, 1]] rfl ?_
    refine j_add (slF U32 none 0 0 []) (fun w A _ => slF_nil _ _ _ _ _) ?_
    refine j_giv [0] rfl rfl rfl ⟨_, _, rfl, rfl, rfl⟩

theorem S_macwilliams_Moment_range {pa : Option Addr} {n ca : Nat} {ls : List (List Nat)} {r : Int} (hn : 1 ≤ ls.length) (hr : r < 0 ∨ (ls.length : Int) - 1 < r) (hs : shapeOf ls.length = 0) :
    Ctr Try.prog 6 [.slice pa n ca, .int .i64 r] [] [slF NatE pa n ca ls] (S2 U32 [] 6) := by
  refine Ctr_of_j' (F := F_macwilliams_Moment) rfl fun C => ?_
  refine j_len 0 rfl fun hl hb _ => ?_
  subst hl
  have hb' : ls.length * 24 ≤ 140737488355328 := hb
  by_cases h : r < 0
  · refine j_nf [.o [0] 0, .c [1]] rfl ?_
    refine j_run it 2 rfl (by simp) ?_
    refine j_nf [.o [1, 0, 0] 0, .c [1, 0, 1], .c [1, 1]] rfl ?_
    refine j_run it 1 rfl (by simp) ?_
    refine j_step rfl (x_len sl22 rfl ?_)
    refine j_step rfl (x_call [] rfl (S_macwilliams_shape) rfl ?_)
    rintro _ _ _ ⟨rfl, rfl, rfl⟩
    simp only [List.cons_append, List.nil_append]
    refine j_run it 1 rfl (by simp) ?_
    refine j_nf [.o [1, 0, 1, 0] 0, .c [1, 0, 1, 1], .c [1, 1]] rfl ?_
    refine j_run it 2 rfl (by simp) ?_
    refine j_nf [.c [1, 0, 1, 1], .c [1, 1]] rfl ?_
    refine j_ifn rfl rfl (fun h1 => by exfalso; omega) (fun h1 => ?_)
    refine j_nf [.o [1, 1, 0] 0, .c [1, 1, 1]] rfl ?_
    refine j_run it 1 rfl (by simp) ?_
    refine j_step rfl (x_len sl22 rfl ?_)
    refine j_run it 2 rfl (by repeat' first | exact trivial | apply And.intro | omega) ?_
    refine j_nf [.o [1, 1, 1, 0, 0] 0, .c [1, 1, 1, 0, 1], .c [1, 1, 1, 1]] rfl ?_
    refine j_run it 3 rfl (by simp) ?_
    refine j_split_dec (t := 24) rfl (fun h2 => ?_) (fun h2 => by exfalso; omega)
    refine j_run it 4 rfl (by simp) ?_
    refine j_nf [.c [1, 1, 1, 0, 1], .c [1, 1, 1, 1]] rfl ?_
    refine j_true rfl rfl ?_
    refine j_nf [.o [1, 1, 1, 0, 1, 0, 0] 0, .c [1, 1, 1, 0, 1, 0, 1], .c [1, 1, 1, 1]] rfl ?_
    refine j_run it 2 rfl (by simp) ?_
    refine j_nf [.c [1, 1, 1, 0, 1, 0, 1], .c [1, 1, 1, 1]] rfl ?_
    refine j_add (slF U32 none 0 0 []) (fun w A _ => slF_nil _ _ _ _ _) ?_
    refine j_giv [0] rfl rfl rfl ⟨_, _, rfl, rfl, rfl⟩
  · refine j_nf [.o [0] 0, .c [1]] rfl ?_
    refine j_run it 2 rfl (by simp) ?_
    refine j_nf [.o [1, 0, 0] 0, .c [1, 0, 1], .c [1, 1]] rfl ?_
    refine j_run it 1 rfl (by simp) ?_
    refine j_step rfl (x_len sl22 rfl ?_)
    refine j_step rfl (x_call [] rfl (S_macwilliams_shape) rfl ?_)
    rintro _ _ _ ⟨rfl, rfl, rfl⟩
    simp only [List.cons_append, List.nil_append]
    refine j_run it 1 rfl (by simp) ?_
    refine j_nf [.o [1, 0, 1, 0] 0, .c [1, 0, 1, 1], .c [1, 1]] rfl ?_
    refine j_run it 2 rfl (by simp) ?_
    refine j_nf [.c [1, 0, 1, 1], .c [1, 1]] rfl ?_
    refine j_ifn rfl rfl (fun h1 => by exfalso; omega) (fun h1 => ?_)
    refine j_nf [.o [1, 1, 0] 0, .c [1, 1, 1]] rfl ?_
    refine j_run it 1 rfl (by simp) ?_
    refine j_step rfl (x_len sl22 rfl ?_)
    refine j_run it 2 rfl (by repeat' first | exact trivial | apply And.intro | omega) ?_
    refine j_nf [.o [1, 1, 1, 0, 0] 0, .c [1, 1, 1, 0, 1], .c [1, 1, 1, 1]] rfl ?_
    refine j_run it 3 rfl (by simp) ?_
    refine j_split_dec (t := 24) rfl (fun h2 => by exfalso; omega) (fun h2 => ?_)
    refine j_run it 4 rfl (by simp) ?_
    refine j_nf [.c [1, 1, 1, 0, 1], .c [1, 1, 1, 1]] rfl ?_
    refine j_if rfl rfl (fun h3 => ?_) (fun h3 => by exfalso; omega)
    refine j_nf [.o [1, 1, 1, 0, 1, 0, 0] 0, .c [1, 1, 1, 0, 1, 0, 1], .c [1, 1, 1, 1]] rfl ?_
    refine j_run it 2 rfl (by simp) ?_
    refine j_nf [.c [1, 1, 1, 0, 1, 0, 1], .c [1, 1, 1, 1]] rfl ?_
    refine j_add (slF U32 none 0 0 []) (fun w A _ => slF_nil _ _ _ _ _) ?_
    refine j_giv [0] rfl rfl rfl ⟨_, _, rfl, rfl, rfl⟩
end Go.Proofs.Ytonjgeikppiodaa
