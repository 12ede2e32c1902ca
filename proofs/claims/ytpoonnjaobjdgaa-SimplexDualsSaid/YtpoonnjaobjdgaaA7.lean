/-
Contracts of nat.Pow, for small bases and exponents.
-/
import Derived.Test.YtpoonnjaobjdgaaFuns
import Derived.Test.YtpoonnjaobjdgaaNatMath
import Derived.Test.YtpoonnjaobjdgaaNatMath2
import Derived.Test.YtpoonnjaobjdgaaNatMath3
import Derived.Test.YtpoonnjaobjdgaaA1
import Derived.Test.YtpoonnjaobjdgaaA2
import Derived.Test.YtpoonnjaobjdgaaA3
import Derived.Test.YtpoonnjaobjdgaaA4
import Derived.Test.YtpoonnjaobjdgaaA5
import Derived.Test.YtpoonnjaobjdgaaA6
namespace Go.Proofs.Ytpoonnjaobjdgaa
open Go Go.Fw
set_option maxRecDepth 100000
set_option linter.unusedVariables false
set_option maxHeartbeats 1000000

theorem pow_len {a n k : Nat} (h : a < 4294967296) (hn : n ≤ k) : (limbs (a ^ n)).length ≤ k + 1 := by
  refine limbs_length_le ?_
  have h1 : a ^ n ≤ 4294967296 ^ n := Nat.pow_le_pow_left (by omega) n
  have h2 : 4294967296 ^ n ≤ 4294967296 ^ k := Nat.pow_le_pow_right (by omega) hn
  have h3 : 0 < 4294967296 ^ k := Nat.pow_pos (by omega)
  rw [Nat.pow_succ]; omega
end Go.Proofs.Ytpoonnjaobjdgaa
