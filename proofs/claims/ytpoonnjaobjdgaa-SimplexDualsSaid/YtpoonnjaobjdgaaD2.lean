/-
The contracts of rational.plus, Add, Sub, Cmp, Mul.
-/
import Derived.Test.YtpoonnjaobjdgaaFuns
import Derived.Test.YtpoonnjaobjdgaaNatMath
import Derived.Test.YtpoonnjaobjdgaaNatMath2
import Derived.Test.YtpoonnjaobjdgaaNatMath3
import Derived.Test.YtpoonnjaobjdgaaNatMath5
import Derived.Test.YtpoonnjaobjdgaaRatMath
import Derived.Test.YtpoonnjaobjdgaaA1
import Derived.Test.YtpoonnjaobjdgaaA2
import Derived.Test.YtpoonnjaobjdgaaA3
import Derived.Test.YtpoonnjaobjdgaaA4
import Derived.Test.YtpoonnjaobjdgaaA9
import Derived.Test.YtpoonnjaobjdgaaA2b
import Derived.Test.YtpoonnjaobjdgaaA13
import Derived.Test.YtpoonnjaobjdgaaD1
namespace Go.Proofs.Ytpoonnjaobjdgaa
open Go Go.Fw
set_option maxRecDepth 100000
set_option linter.unusedVariables false
set_option maxHeartbeats 2000000
theorem prod2 (a b : List Nat) : prodV [a, b] = val a * val b := by simp [prodV]
theorem sum2 (a b : List Nat) : sumV [a, b] = val a + val b := by simp [sumV]
theorem len2 {a b : List Nat} {k : Nat} (ha : a.length ≤ k) (hb : b.length ≤ k) : lenS [a, b] ≤ k + k := by simp [lenS]; omega
theorem prod_lim {a b j : Nat} (ha : (limbs a).length ≤ j) (hb : (limbs b).length ≤ j) : (limbs (a * b)).length ≤ j + j :=
  limbs_length_le (by rw [Nat.pow_add]; exact Nat.mul_lt_mul'' (limbs_le_length ha) (limbs_le_length hb))
theorem sum_lim {a b j : Nat} (ha : (limbs a).length ≤ j) (hb : (limbs b).length ≤ j) : (limbs (a + b)).length ≤ j + 1 :=
  limbs_length_le (by have := limbs_le_length ha; have := limbs_le_length hb; rw [Nat.pow_succ]; omega)
theorem all2 {a b : List Nat} {k : Nat} (ha : a.length ≤ k) (hb : b.length ≤ k) : ∀ l ∈ [a, b], l.length ≤ k := fun l hl => by
  rcases List.mem_cons.1 hl with rfl | hl
  · exact ha
  · rw [List.mem_singleton.1 hl]; exact hb
end Go.Proofs.Ytpoonnjaobjdgaa
