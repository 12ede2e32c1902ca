/-
MacwilliamsMoments returns true: Power and Moment of the program give the specified sums, or the specified errors.
-/
import Derived.Test.YtonjgeikppiodaaFuns
import Derived.Test.YtonjgeikppiodaaFwL
import Derived.Test.YtonjgeikppiodaaRows
import Derived.ProofKit
import Derived.JoinedOf
import Derived.Test.YtonjgeikppiodaaNatMath
import Derived.Test.YtonjgeikppiodaaNatMath2
import Derived.Test.YtonjgeikppiodaaNatMath3
import Derived.Test.YtonjgeikppiodaaNatMath4
import Derived.Test.YtonjgeikppiodaaA1
import Derived.Test.YtonjgeikppiodaaA2
import Derived.Test.YtonjgeikppiodaaA3
import Derived.Test.YtonjgeikppiodaaA4
import Derived.Test.YtonjgeikppiodaaA5
import Derived.Test.YtonjgeikppiodaaA6
import Derived.Test.YtonjgeikppiodaaA7
import Derived.Test.YtonjgeikppiodaaA8
import Derived.Test.YtonjgeikppiodaaB1
import Derived.Test.YtonjgeikppiodaaB2
import Derived.Test.YtonjgeikppiodaaB3
import Derived.Test.YtonjgeikppiodaaB4
import Derived.Test.YtonjgeikppiodaaB5
import Derived.Test.YtonjgeikppiodaaB6
import Derived.Test.YtonjgeikppiodaaB7
import Derived.Test.YtonjgeikppiodaaC1
import Derived.Test.YtonjgeikppiodaaC2
import Derived.Test.YtonjgeikppiodaaC3
import Derived.Test.YtonjgeikppiodaaC4
import Derived.Test.YtonjgeikppiodaaC5
import Derived.Test.YtonjgeikppiodaaC6
namespace Go.Proofs.Ytonjgeikppiodaa
open Go Go.Fw
set_option maxRecDepth 100000
set_option linter.unusedVariables false
set_option maxHeartbeats 400000
theorem S_MacwilliamsMoments {pa : Option Addr} {n ca : Nat} {ls : List (List Nat)} {r : Int} (hr : InR .i64 r) :
    Ctr Try.prog 3 [.slice pa n ca, .int .i64 r] [] [slF NatE pa n ca ls] (Rv (.bool true) []) := by
  refine Ctr_of_j' (F := F_codewrightlaw24_MacwilliamsMoments) rfl fun C => ?_
  refine j_len 0 rfl fun hl hb _ => ?_
  subst hl
  have hb' : ls.length * 24 ≤ 140737488355328 := hb
  by_cases hlong : longL 20 ls = true
  · refine j_nf [.o [0] 0, .c [1]] rfl ?_
    refine j_run it 1 rfl (by simp) ?_
    refine j_nf [.o [1, 0, 0] 0, .c [1, 0, 1], .c [1, 1]] rfl ?_
    refine j_run it 1 rfl (by simp) ?_
    refine j_step rfl (x_call [0] rfl (S_codewrightlaw24_long) rfl ?_)
    rintro _ _ _ ⟨rfl, rfl, rfl⟩
    simp only [List.cons_append, List.nil_append]
    rw [hlong]
    refine j_nf [.c [1, 0, 1], .c [1, 1]] rfl ?_
    refine j_true rfl rfl ?_
    refine j_nf [.o [1, 0, 1, 0, 0] 0, .c [1, 0, 1, 0, 1], .c [1, 1]] rfl ?_
    refine j_run it 1 rfl (by simp) ?_
    refine j_nf [.c [1, 0, 1, 0, 1], .c [1, 1]] rfl ?_
    refine j_giv [] rfl rfl rfl ⟨rfl, rfl, rfl⟩
  have hlf : longL 20 ls = false := by simpa using hlong
  have h20 : ∀ l ∈ ls, l.length ≤ 20 := fun l hl => by
    have := List.any_eq_false.1 hlf l hl
    simpa using this
  by_cases hs0 : ls.length < 1 ∨ 65 < ls.length
  · have hs : shapeOf ls.length = 3 := by rw [shapeOf, if_pos hs0]
    refine j_nf [.o [0] 0, .c [1]] rfl ?_
    refine j_run it 1 rfl (by simp) ?_
    refine j_nf [.o [1, 0, 0] 0, .c [1, 0, 1], .c [1, 1]] rfl ?_
    refine j_run it 1 rfl (by simp) ?_
    refine j_step rfl (x_call [0] rfl (S_codewrightlaw24_long) rfl ?_)
    rintro _ _ _ ⟨rfl, rfl, rfl⟩
    simp only [List.cons_append, List.nil_append]
    rw [hlf]
    refine j_nf [.c [1, 0, 1], .c [1, 1]] rfl ?_
    refine j_false rfl rfl ?_
    refine j_nf [.o [1, 1, 0] 0, .c [1, 1, 1]] rfl ?_
    refine j_run it 2 rfl (by simp) ?_ --ok
    refine j_step rfl (x_call [0] rfl (S_macwilliams_Power_shape hr hs) rfl ?_)
    rintro _ _ _ ⟨pa1, ca1, rfl, rfl, rfl⟩
    simp only [List.cons_append, List.nil_append, List.length_nil]
    refine j_run it 5 rfl (by simp) ?_
    refine j_nf [.o [1, 1, 1, 0] 0, .c [1, 1, 1, 1]] rfl ?_
    refine j_run it 2 rfl (by simp) ?_ --ok
    refine j_step rfl (x_call [1] rfl (S_macwilliams_Moment_shape hr hs) rfl ?_)
    rintro _ _ _ ⟨pa2, ca2, rfl, rfl, rfl⟩
    simp only [List.cons_append, List.nil_append, List.length_nil]
    refine j_run it 5 rfl (by simp) ?_
    refine j_nf [.o [1, 1, 1, 1, 0, 0] 0, .c [1, 1, 1, 1, 0, 1], .c [1, 1, 1, 1, 1]] rfl ?_
    refine j_run it 1 rfl (by simp) ?_
    refine j_step rfl (x_len sl22 rfl ?_)
    refine j_step rfl (x_call [] rfl (S_codewrightref24_Shape) rfl ?_)
    rintro _ _ _ ⟨rfl, rfl, rfl⟩
    simp only [List.cons_append, List.nil_append]
    refine j_run it 1 rfl (by simp) ?_
    refine j_nf [.c [1, 1, 1, 1, 0, 1], .c [1, 1, 1, 1, 1]] rfl ?_
    refine j_ifn rfl rfl (fun h1 => ?_) (fun h1 => by exfalso; omega)
    refine j_nf [.o [1, 1, 1, 1, 0, 1, 0, 0] 0, .c [1, 1, 1, 1, 0, 1, 0, 1], .c [1, 1, 1, 1, 1]] rfl ?_
    refine j_run it 8 rfl (by simp) ?_
    refine j_split_dec (t := 33) rfl (fun h2 => ?_) (fun h2 => by exfalso; omega)
    refine j_gstep rfl rfl (x_len sl25 rfl ?_)
    refine j_run it 4 rfl (by simp) ?_
    refine j_split_dec (t := 38) rfl (fun h3 => ?_) (fun h3 => by exfalso; omega)
    refine j_gstep rfl rfl (x_len sl25 rfl ?_)
    refine j_run it 3 rfl (by simp) ?_
    refine j_nf [.c [1, 1, 1, 1, 0, 1, 0, 1], .c [1, 1, 1, 1, 1]] rfl ?_
    refine j_giv [] rfl rfl rfl ⟨rfl, rfl, rfl⟩
  have hs : shapeOf ls.length = 0 := by rw [shapeOf, if_neg hs0]
  by_cases hr6 : r < 0 ∨ 64 < r
  · by_cases hneg : r < 0
    · refine j_nf [.o [0] 0, .c [1]] rfl ?_
      refine j_run it 1 rfl (by simp) ?_
      refine j_nf [.o [1, 0, 0] 0, .c [1, 0, 1], .c [1, 1]] rfl ?_
      refine j_run it 1 rfl (by simp) ?_
      refine j_step rfl (x_call [0] rfl (S_codewrightlaw24_long) rfl ?_)
      rintro _ _ _ ⟨rfl, rfl, rfl⟩
      simp only [List.cons_append, List.nil_append]
      rw [hlf]
      refine j_nf [.c [1, 0, 1], .c [1, 1]] rfl ?_
      refine j_false rfl rfl ?_
      refine j_nf [.o [1, 1, 0] 0, .c [1, 1, 1]] rfl ?_
      refine j_run it 2 rfl (by simp) ?_ --ok
      refine j_step rfl (x_call [0] rfl (S_macwilliams_Power_range hr6 hs) rfl ?_)
      rintro _ _ _ ⟨pa1, ca1, rfl, rfl, rfl⟩
      simp only [List.cons_append, List.nil_append, List.length_nil]
      refine j_run it 5 rfl (by simp) ?_
      refine j_nf [.o [1, 1, 1, 0] 0, .c [1, 1, 1, 1]] rfl ?_
      refine j_run it 2 rfl (by simp) ?_ --ok
      refine j_step rfl (x_call [1] rfl (S_macwilliams_Moment_range (by omega) (by omega) hs) rfl ?_)
      rintro _ _ _ ⟨pa2, ca2, rfl, rfl, rfl⟩
      simp only [List.cons_append, List.nil_append, List.length_nil]
      refine j_run it 5 rfl (by simp) ?_
      refine j_nf [.o [1, 1, 1, 1, 0, 0] 0, .c [1, 1, 1, 1, 0, 1], .c [1, 1, 1, 1, 1]] rfl ?_
      refine j_run it 1 rfl (by simp) ?_
      refine j_step rfl (x_len sl22 rfl ?_)
      refine j_step rfl (x_call [] rfl (S_codewrightref24_Shape) rfl ?_)
      rintro _ _ _ ⟨rfl, rfl, rfl⟩
      simp only [List.cons_append, List.nil_append]
      refine j_run it 1 rfl (by simp) ?_
      refine j_nf [.c [1, 1, 1, 1, 0, 1], .c [1, 1, 1, 1, 1]] rfl ?_
      refine j_ifn rfl rfl (fun h1 => by exfalso; omega) (fun h1 => ?_)
      refine j_nf [.o [1, 1, 1, 1, 1, 0, 0] 0, .c [1, 1, 1, 1, 1, 0, 1], .c [1, 1, 1, 1, 1, 1]] rfl ?_
      refine j_run it 3 rfl (by simp) ?_
      refine j_split_dec (t := 45) rfl (fun h2 => ?_) (fun h2 => by exfalso; omega)
      refine j_run it 3 rfl (by simp) ?_
      refine j_nf [.c [1, 1, 1, 1, 1, 0, 1], .c [1, 1, 1, 1, 1, 1]] rfl ?_
      refine j_true rfl rfl ?_
      refine j_nf [.o [1, 1, 1, 1, 1, 0, 1, 0, 0] 0, .c [1, 1, 1, 1, 1, 0, 1, 0, 1], .c [1, 1, 1, 1, 1, 1]] rfl ?_
      refine j_run it 8 rfl (by simp) ?_
      refine j_split_dec (t := 55) rfl (fun h3 => ?_) (fun h3 => by exfalso; omega)
      refine j_gstep rfl rfl (x_len sl25 rfl ?_)
      refine j_run it 4 rfl (by simp) ?_
      refine j_split_dec (t := 60) rfl (fun h4 => ?_) (fun h4 => by exfalso; omega)
      refine j_gstep rfl rfl (x_len sl25 rfl ?_)
      refine j_run it 3 rfl (by simp) ?_
      refine j_nf [.c [1, 1, 1, 1, 1, 0, 1, 0, 1], .c [1, 1, 1, 1, 1, 1]] rfl ?_
      refine j_giv [] rfl rfl rfl ⟨rfl, rfl, rfl⟩
    · refine j_nf [.o [0] 0, .c [1]] rfl ?_
      refine j_run it 1 rfl (by simp) ?_
      refine j_nf [.o [1, 0, 0] 0, .c [1, 0, 1], .c [1, 1]] rfl ?_
      refine j_run it 1 rfl (by simp) ?_
      refine j_step rfl (x_call [0] rfl (S_codewrightlaw24_long) rfl ?_)
      rintro _ _ _ ⟨rfl, rfl, rfl⟩
      simp only [List.cons_append, List.nil_append]
      rw [hlf]
      refine j_nf [.c [1, 0, 1], .c [1, 1]] rfl ?_
      refine j_false rfl rfl ?_
      refine j_nf [.o [1, 1, 0] 0, .c [1, 1, 1]] rfl ?_
      refine j_run it 2 rfl (by simp) ?_ --ok
      refine j_step rfl (x_call [0] rfl (S_macwilliams_Power_range hr6 hs) rfl ?_)
      rintro _ _ _ ⟨pa1, ca1, rfl, rfl, rfl⟩
      simp only [List.cons_append, List.nil_append, List.length_nil]
      refine j_run it 5 rfl (by simp) ?_
      refine j_nf [.o [1, 1, 1, 0] 0, .c [1, 1, 1, 1]] rfl ?_
      refine j_run it 2 rfl (by simp) ?_ --ok
      refine j_step rfl (x_call [1] rfl (S_macwilliams_Moment_range (by omega) (by omega) hs) rfl ?_)
      rintro _ _ _ ⟨pa2, ca2, rfl, rfl, rfl⟩
      simp only [List.cons_append, List.nil_append, List.length_nil]
      refine j_run it 5 rfl (by simp) ?_
      refine j_nf [.o [1, 1, 1, 1, 0, 0] 0, .c [1, 1, 1, 1, 0, 1], .c [1, 1, 1, 1, 1]] rfl ?_
      refine j_run it 1 rfl (by simp) ?_
      refine j_step rfl (x_len sl22 rfl ?_)
      refine j_step rfl (x_call [] rfl (S_codewrightref24_Shape) rfl ?_)
      rintro _ _ _ ⟨rfl, rfl, rfl⟩
      simp only [List.cons_append, List.nil_append]
      refine j_run it 1 rfl (by simp) ?_
      refine j_nf [.c [1, 1, 1, 1, 0, 1], .c [1, 1, 1, 1, 1]] rfl ?_
      refine j_ifn rfl rfl (fun h1 => by exfalso; omega) (fun h1 => ?_)
      refine j_nf [.o [1, 1, 1, 1, 1, 0, 0] 0, .c [1, 1, 1, 1, 1, 0, 1], .c [1, 1, 1, 1, 1, 1]] rfl ?_
      refine j_run it 3 rfl (by simp) ?_
      refine j_split_dec (t := 45) rfl (fun h2 => by exfalso; omega) (fun h2 => ?_)
      refine j_run it 3 rfl (by simp) ?_
      refine j_nf [.c [1, 1, 1, 1, 1, 0, 1], .c [1, 1, 1, 1, 1, 1]] rfl ?_
      refine j_if rfl rfl (fun h3 => ?_) (fun h3 => by exfalso; omega)
      refine j_nf [.o [1, 1, 1, 1, 1, 0, 1, 0, 0] 0, .c [1, 1, 1, 1, 1, 0, 1, 0, 1], .c [1, 1, 1, 1, 1, 1]] rfl ?_
      refine j_run it 8 rfl (by simp) ?_
      refine j_split_dec (t := 55) rfl (fun h4 => ?_) (fun h4 => by exfalso; omega)
      refine j_gstep rfl rfl (x_len sl25 rfl ?_)
      refine j_run it 4 rfl (by simp) ?_
      refine j_split_dec (t := 60) rfl (fun h5 => ?_) (fun h5 => by exfalso; omega)
      refine j_gstep rfl rfl (x_len sl25 rfl ?_)
      refine j_run it 3 rfl (by simp) ?_
      refine j_nf [.c [1, 1, 1, 1, 1, 0, 1, 0, 1], .c [1, 1, 1, 1, 1, 1]] rfl ?_
      refine j_giv [] rfl rfl rfl ⟨rfl, rfl, rfl⟩
  obtain ⟨v, rfl⟩ : ∃ v : Nat, r = v := ⟨r.toNat, by omega⟩
  by_cases hv : v < ls.length
  · refine j_nf [.o [0] 0, .c [1]] rfl ?_
    refine j_run it 1 rfl (by simp) ?_
    refine j_nf [.o [1, 0, 0] 0, .c [1, 0, 1], .c [1, 1]] rfl ?_
    refine j_run it 1 rfl (by simp) ?_
    refine j_step rfl (x_call [0] rfl (S_codewrightlaw24_long) rfl ?_)
    rintro _ _ _ ⟨rfl, rfl, rfl⟩
    simp only [List.cons_append, List.nil_append]
    rw [hlf]
    refine j_nf [.c [1, 0, 1], .c [1, 1]] rfl ?_
    refine j_false rfl rfl ?_
    refine j_nf [.o [1, 1, 0] 0, .c [1, 1, 1]] rfl ?_
    refine j_run it 2 rfl (by simp) ?_
    refine j_step rfl (x_call [0] rfl (S_macwilliams_Power (by first | omega | exact side _ (by assumption) | assumption | (simp; done) | (simp; omega)) (by first | omega | exact side _ (by assumption) | assumption | (simp; done) | (simp; omega)) (by first | omega | exact side _ (by assumption) | assumption | (simp; done) | (simp; omega)) (by first | omega | exact side _ (by assumption) | assumption | (simp; done) | (simp; omega))) rfl ?_)
    rintro _ _ _ ⟨pa1, ca1, rfl, rfl, rfl⟩
    simp only [List.cons_append, List.nil_append]
    refine j_run it 5 rfl (by simp) ?_
    refine j_nf [.o [1, 1, 1, 0] 0, .c [1, 1, 1, 1]] rfl ?_
    refine j_run it 2 rfl (by simp) ?_
    refine j_step rfl (x_call [1] rfl (S_macwilliams_Moment (by first | omega | exact side _ (by assumption) | assumption | (simp; done) | (simp; omega)) (by first | omega | exact side _ (by assumption) | assumption | (simp; done) | (simp; omega)) (by first | omega | exact side _ (by assumption) | assumption | (simp; done) | (simp; omega)) (by first | omega | exact side _ (by assumption) | assumption | (simp; done) | (simp; omega))) rfl ?_)
    rintro _ _ _ ⟨pa2, ca2, rfl, rfl, rfl⟩
    simp only [List.cons_append, List.nil_append]
    refine j_run it 5 rfl (by simp) ?_
    refine j_nf [.o [1, 1, 1, 1, 0, 0] 0, .c [1, 1, 1, 1, 0, 1], .c [1, 1, 1, 1, 1]] rfl ?_
    refine j_run it 1 rfl (by simp) ?_
    refine j_step rfl (x_len sl22 rfl ?_)
    refine j_step rfl (x_call [] rfl (S_codewrightref24_Shape) rfl ?_)
    rintro _ _ _ ⟨rfl, rfl, rfl⟩
    simp only [List.cons_append, List.nil_append]
    refine j_run it 1 rfl (by simp) ?_
    refine j_nf [.c [1, 1, 1, 1, 0, 1], .c [1, 1, 1, 1, 1]] rfl ?_
    refine j_ifn rfl rfl (fun h1 => by exfalso; omega) (fun h1 => ?_)
    refine j_nf [.o [1, 1, 1, 1, 1, 0, 0] 0, .c [1, 1, 1, 1, 1, 0, 1], .c [1, 1, 1, 1, 1, 1]] rfl ?_
    refine j_run it 6 rfl (by simp) ?_
    refine j_nf [.c [1, 1, 1, 1, 1, 0, 1], .c [1, 1, 1, 1, 1, 1]] rfl ?_
    refine j_if rfl rfl (fun h2 => by exfalso; omega) (fun h2 => ?_)
    refine j_nf [.o [1, 1, 1, 1, 1, 1, 0, 0] 0, .c [1, 1, 1, 1, 1, 1, 0, 1], .c [1, 1, 1, 1, 1, 1, 1]] rfl ?_
    refine j_run it 6 rfl (by simp) ?_
    refine j_split_ndec (t := 67) rfl (fun h3 => by exfalso; omega) (fun h3 => ?_)
    refine j_gstep rfl rfl (x_call [2] rfl (S_codewrightref24_Power (by first | omega | exact side _ (by assumption) | assumption | (simp; done) | (simp; omega)) (by first | omega | exact side _ (by assumption) | assumption | (simp; done) | (simp; omega)) (by first | omega | exact side _ (by assumption) | assumption | (simp; done) | (simp; omega))) rfl ?_)
    rintro _ _ _ ⟨pa3, ca3, rfl, rfl, rfl⟩
    simp only [List.cons_append, List.nil_append]
    simp only [decide_true]
    refine j_gstep rfl rfl (x_call [2, 0] rfl (S_codewrightref01_Same) rfl ?_)
    rintro _ _ _ ⟨rfl, rfl, rfl⟩
    simp only [List.cons_append, List.nil_append]
    simp only [decide_true]
    refine j_run it 2 rfl (by simp) ?_
    refine j_nf [.c [1, 1, 1, 1, 1, 1, 0, 1], .c [1, 1, 1, 1, 1, 1, 1]] rfl ?_
    refine j_false rfl rfl ?_
    refine j_nf [.o [1, 1, 1, 1, 1, 1, 1, 0, 0] 0, .c [1, 1, 1, 1, 1, 1, 1, 0, 1], .c [1, 1, 1, 1, 1, 1, 1, 1]] rfl ?_
    refine j_run it 2 rfl (by simp) ?_
    refine j_step rfl (x_len sl22 rfl ?_)
    refine j_run it 1 rfl (by simp) ?_
    refine j_nf [.c [1, 1, 1, 1, 1, 1, 1, 0, 1], .c [1, 1, 1, 1, 1, 1, 1, 1]] rfl ?_
    refine j_if rfl rfl (fun h4 => by exfalso; omega) (fun h4 => ?_)
    refine j_nf [.o [1, 1, 1, 1, 1, 1, 1, 1, 0] 0, .c [1, 1, 1, 1, 1, 1, 1, 1, 1]] rfl ?_
    refine j_run it 6 rfl (by simp) ?_
    refine j_split_dec (t := 88) rfl (fun h5 => ?_) (fun h5 => by exfalso; omega)
    refine j_gstep rfl rfl (x_call [3] rfl (S_codewrightref24_Moment (by first | omega | exact side _ (by assumption) | assumption | (simp; done) | (simp; omega)) (by first | omega | exact side _ (by assumption) | assumption | (simp; done) | (simp; omega))) rfl ?_)
    rintro _ _ _ ⟨pa4, ca4, rfl, rfl, rfl⟩
    simp only [List.cons_append, List.nil_append]
    simp only [decide_true]
    refine j_gstep rfl rfl (x_call [2, 0] rfl (S_codewrightref01_Same) rfl ?_)
    rintro _ _ _ ⟨rfl, rfl, rfl⟩
    simp only [List.cons_append, List.nil_append]
    simp only [decide_true]
    refine j_run it 2 rfl (by simp) ?_
    refine j_nf [.c [1, 1, 1, 1, 1, 1, 1, 1, 1]] rfl ?_
    refine j_giv [] rfl rfl rfl ⟨by simp [resVal], rfl, rfl⟩
  · refine j_nf [.o [0] 0, .c [1]] rfl ?_
    refine j_run it 1 rfl (by simp) ?_
    refine j_nf [.o [1, 0, 0] 0, .c [1, 0, 1], .c [1, 1]] rfl ?_
    refine j_run it 1 rfl (by simp) ?_
    refine j_step rfl (x_call [0] rfl (S_codewrightlaw24_long) rfl ?_)
    rintro _ _ _ ⟨rfl, rfl, rfl⟩
    simp only [List.cons_append, List.nil_append]
    rw [hlf]
    refine j_nf [.c [1, 0, 1], .c [1, 1]] rfl ?_
    refine j_false rfl rfl ?_
    refine j_nf [.o [1, 1, 0] 0, .c [1, 1, 1]] rfl ?_
    refine j_run it 2 rfl (by simp) ?_
    refine j_step rfl (x_call [0] rfl (S_macwilliams_Power (by first | omega | exact side _ (by assumption) | assumption | (simp; done) | (simp; omega)) (by first | omega | exact side _ (by assumption) | assumption | (simp; done) | (simp; omega)) (by first | omega | exact side _ (by assumption) | assumption | (simp; done) | (simp; omega)) (by first | omega | exact side _ (by assumption) | assumption | (simp; done) | (simp; omega))) rfl ?_)
    rintro _ _ _ ⟨pa1, ca1, rfl, rfl, rfl⟩
    simp only [List.cons_append, List.nil_append]
    refine j_run it 5 rfl (by simp) ?_
    refine j_nf [.o [1, 1, 1, 0] 0, .c [1, 1, 1, 1]] rfl ?_
    refine j_run it 2 rfl (by simp) ?_ --ok
    refine j_step rfl (x_call [1] rfl (S_macwilliams_Moment_range (r := (v : Int)) (by omega) (by omega) hs) rfl ?_)
    rintro _ _ _ ⟨pa2, ca2, rfl, rfl, rfl⟩
    simp only [List.cons_append, List.nil_append, List.length_nil]
    refine j_run it 5 rfl (by simp) ?_
    refine j_nf [.o [1, 1, 1, 1, 0, 0] 0, .c [1, 1, 1, 1, 0, 1], .c [1, 1, 1, 1, 1]] rfl ?_
    refine j_run it 1 rfl (by simp) ?_
    refine j_step rfl (x_len sl22 rfl ?_)
    refine j_step rfl (x_call [] rfl (S_codewrightref24_Shape) rfl ?_)
    rintro _ _ _ ⟨rfl, rfl, rfl⟩
    simp only [List.cons_append, List.nil_append]
    refine j_run it 1 rfl (by simp) ?_
    refine j_nf [.c [1, 1, 1, 1, 0, 1], .c [1, 1, 1, 1, 1]] rfl ?_
    refine j_ifn rfl rfl (fun h1 => by exfalso; omega) (fun h1 => ?_)
    refine j_nf [.o [1, 1, 1, 1, 1, 0, 0] 0, .c [1, 1, 1, 1, 1, 0, 1], .c [1, 1, 1, 1, 1, 1]] rfl ?_
    refine j_run it 6 rfl (by simp) ?_
    refine j_nf [.c [1, 1, 1, 1, 1, 0, 1], .c [1, 1, 1, 1, 1, 1]] rfl ?_
    refine j_if rfl rfl (fun h2 => by exfalso; omega) (fun h2 => ?_)
    refine j_nf [.o [1, 1, 1, 1, 1, 1, 0, 0] 0, .c [1, 1, 1, 1, 1, 1, 0, 1], .c [1, 1, 1, 1, 1, 1, 1]] rfl ?_
    refine j_run it 6 rfl (by simp) ?_
    refine j_split_ndec (t := 67) rfl (fun h3 => by exfalso; omega) (fun h3 => ?_)
    refine j_gstep rfl rfl (x_call [2] rfl (S_codewrightref24_Power (by first | omega | exact side _ (by assumption) | assumption | (simp; done) | (simp; omega)) (by first | omega | exact side _ (by assumption) | assumption | (simp; done) | (simp; omega)) (by first | omega | exact side _ (by assumption) | assumption | (simp; done) | (simp; omega))) rfl ?_)
    rintro _ _ _ ⟨pa3, ca3, rfl, rfl, rfl⟩
    simp only [List.cons_append, List.nil_append]
    simp only [decide_true]
    refine j_gstep rfl rfl (x_call [2, 0] rfl (S_codewrightref01_Same) rfl ?_)
    rintro _ _ _ ⟨rfl, rfl, rfl⟩
    simp only [List.cons_append, List.nil_append]
    simp only [decide_true]
    refine j_run it 2 rfl (by simp) ?_
    refine j_nf [.c [1, 1, 1, 1, 1, 1, 0, 1], .c [1, 1, 1, 1, 1, 1, 1]] rfl ?_
    refine j_false rfl rfl ?_
    refine j_nf [.o [1, 1, 1, 1, 1, 1, 1, 0, 0] 0, .c [1, 1, 1, 1, 1, 1, 1, 0, 1], .c [1, 1, 1, 1, 1, 1, 1, 1]] rfl ?_
    refine j_run it 2 rfl (by simp) ?_
    refine j_step rfl (x_len sl22 rfl ?_)
    refine j_run it 1 rfl (by simp) ?_
    refine j_nf [.c [1, 1, 1, 1, 1, 1, 1, 0, 1], .c [1, 1, 1, 1, 1, 1, 1, 1]] rfl ?_
    refine j_if rfl rfl (fun h4 => ?_) (fun h4 => by exfalso; omega)
    refine j_nf [.o [1, 1, 1, 1, 1, 1, 1, 0, 1, 0, 0] 0, .c [1, 1, 1, 1, 1, 1, 1, 0, 1, 0, 1], .c [1, 1, 1, 1, 1, 1, 1, 1]] rfl ?_
    refine j_run it 4 rfl (by simp) ?_
    refine j_split_dec (t := 81) rfl (fun h5 => ?_) (fun h5 => by exfalso; omega)
    refine j_gstep rfl rfl (x_len sl25 rfl ?_)
    refine j_run it 3 rfl (by simp) ?_
    refine j_nf [.c [1, 1, 1, 1, 1, 1, 1, 0, 1, 0, 1], .c [1, 1, 1, 1, 1, 1, 1, 1]] rfl ?_
    refine j_giv [] rfl rfl rfl ⟨by simp [resVal], rfl, rfl⟩

theorem op38 : Opens Try.prog 38 (encNat .u32 4) := opens_nat rfl rfl rfl (fun n h => h.1)
theorem op25 : Opens Try.prog 25 (encSl (encNat .u32 4)) := opens_sl rfl op38 rfl rfl (by decide)
theorem op22 : Opens Try.prog 22 (encSl (encSl (encNat .u32 4))) := opens_sl rfl op25 rfl rfl (by decide)
theorem op3 : Opens Try.prog 3 (encInt .i64 8) := opens_int rfl rfl rfl

theorem macwilliamsMoments_says : LawSays Try.prog 3 Try.f3 := by
  intro W args h
  have h : Args Try.prog W [22, 3] args := h
  match args, h with
  | [v0, v1], ⟨h0, h1, _⟩ =>
    obtain ⟨pa, ca, l, rfl, hl⟩ := h0.slice Try.underlying22 op22
    obtain ⟨r, rfl, hr⟩ := h1.int Try.underlying3
    refine law_of_gives (S_MacwilliamsMoments (ls := l) hr) (fun v Φ β h => h.1) ?_
    intro g hg
    simp only [List.mem_cons, List.not_mem_nil, or_false] at hg
    subst hg
    exact hl


/-! ### The row -/

theorem macwilliamsMoments_lifted (os : Os) (started : os.Started) (H : Type) (enc : TypeId × Value → H) :
    ReturnsInHanded {} Try.checked os 3 .any (Rows.macwilliamsMomentsSpec.pre6 enc Try.prog Try.f3 Rows.macwilliamsMomentsRow.domain false) (Rows.macwilliamsMomentsSpec.post enc Try.prog Try.f3 false true false false) :=
  law_lift (C := Try.checked) (by kernel_rfl) started (by kernel_rfl) Try.func3
    (ChangeSpec.witness6 (enc := enc) (C := Try.checked) false ⟨#[], #[.slice none 0 0, .int .i64 0], []⟩ 8 (by kernel_rfl) (by kernel_rfl) (by kernel_rfl) (by kernel_rfl))
    (by kernel_rfl) rfl (by kernel_rfl) rfl Try.underlying4 (fun ds h => match ds, h with | [d0, d1], _ => rfl) macwilliamsMoments_says

theorem macwilliamsMoments_holds : Rows.MacwilliamsMomentsSaid :=
  OpenClaim.holds_of_wide 3 Try.f3 rfl rfl rfl rfl rfl rfl rfl ⟨rfl, rfl, rfl, rfl, rfl⟩ rfl rfl rfl rfl rfl (by kernel_rfl) Try.func3 (by kernel_rfl)
    (of_decide_eq_true (by kernel_rfl)) (by unfold Func.isWrapper; first | (rw [if_pos (by decide +kernel)]; kernel_rfl) | (rw [if_neg (by decide +kernel)]; exact ⟨rfl, rfl⟩))
    (fun os started H enc _ => macwilliamsMoments_lifted os started H enc)
#print axioms macwilliamsMoments_holds
end Go.Proofs.Ytonjgeikppiodaa
