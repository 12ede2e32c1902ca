/-
Contracts of nat.times and nat.Mul.
-/
import Derived.Test.YtpoonnjaobjdgaaFuns
import Derived.Test.YtpoonnjaobjdgaaNatMath
import Derived.Test.YtpoonnjaobjdgaaNatMath2
import Derived.Test.YtpoonnjaobjdgaaA1
import Derived.Test.YtpoonnjaobjdgaaA2
import Derived.Test.YtpoonnjaobjdgaaA3
namespace Go.Proofs.Ytpoonnjaobjdgaa
open Go Go.Fw
set_option maxRecDepth 100000
set_option linter.unusedVariables false
set_option maxHeartbeats 1000000
theorem drop_set_ge {l : List Nat} {k z m : Nat} (h : k < m) : (l.set k z).drop m = l.drop m := by rw [List.drop_set_of_lt h]
theorem get_of_drop {l l' : List Nat} {k z : Nat} (h : l.drop k = l'.drop k) (hz : l[k]? = some z) : l'[k]? = some z := by
  have := congrArg (fun x => x[0]?) h
  simpa [List.getElem?_drop, hz] using this.symm
theorem drop_more {l l' : List Nat} {k : Nat} (h : l.drop k = l'.drop k) : l.drop (k + 1) = l'.drop (k + 1) := by
  have := congrArg (List.drop 1) h
  simpa [List.drop_drop, Nat.add_comm] using this

theorem mul_step {i j c x y z : Nat} {out v0 b : List Nat} (h : val (out.take (i + j)) + 4294967296 ^ (i + j) * c = val (v0.take (i + j)) + 4294967296 ^ i * (x * val (b.take j)))
    (hz : v0[i + j]? = some z) (hy : b[j]? = some y) (ho : i + j < out.length) :
    val ((out.set (i + j) ((x * y + z + c) % 4294967296)).take (i + (j + 1))) + 4294967296 ^ (i + (j + 1)) * ((x * y + z + c) / 4294967296) = val (v0.take (i + (j + 1))) + 4294967296 ^ i * (x * val (b.take (j + 1))) := by
  rw [show i + (j + 1) = (i + j) + 1 by omega, val_set_take ho, Nat.pow_succ, val_take_succ hz, val_take_succ hy, carry_step (x := z) (y := x * y) h (by omega), Nat.mul_add, Nat.mul_add, Nat.pow_add]
  simp only [Nat.mul_assoc, Nat.mul_left_comm]

theorem mul_row {i x : Nat} {a : List Nat} {c : Nat} {out : List Nat} {vb lb : Nat} (h : val (out.take (i + lb)) + 4294967296 ^ (i + lb) * c = val (a.take i) * vb + 4294967296 ^ i * (x * vb)) (hx : a[i]? = some x) (ho : i + lb < out.length) :
    val ((out.set (i + lb) c).take (i + 1 + lb)) = val (a.take (i + 1)) * vb := by
  rw [show i + 1 + lb = i + lb + 1 by omega, val_set_take ho, h, val_take_succ hx, Nat.add_mul, Nat.mul_assoc]
end Go.Proofs.Ytpoonnjaobjdgaa
