/-
  Contracts: the law's own 'own'; wire.Put and the reference's Put.
-/
import Derived.Test.YtjfmahodbdianaaDoorWire1
namespace Go.Proofs.YtjfmahodbdianaaDoor.Wire
open Go.RowKit Mem
set_option linter.unusedVariables false

/-- The lowest 'size' bytes of n, the highest first: the first k of them. -/
def bytesOf (n : Int) (size k : Nat) : List Int := (List.range k).map fun j => n / 2 ^ (8 * (size - 1 - j)) % 256
theorem bytesOf_succ (n : Int) (size k : Nat) : bytesOf n size (k + 1) = bytesOf n size k ++ [n / 2 ^ (8 * (size - 1 - k)) % 256] := by simp [bytesOf, List.range_succ]
theorem bytesOf_length (n : Int) (size k : Nat) : (bytesOf n size k).length = k := by simp [bytesOf]

/-- What Put answers: the bytes of b, and those of the number behind, if the size is from 1 to 8. -/
def putted (xs : List Int) (n size : Int) : List Int := if 1 ≤ size ∧ size ≤ 8 then xs ++ bytesOf n size.toNat size.toNat else xs

end Go.Proofs.YtjfmahodbdianaaDoor.Wire
