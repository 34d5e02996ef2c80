/-
  Contracts: wire.Pad, wire.Padded, and the reference's.
-/
import Derived.Test.YtjfmahodbdianaaDoorWire2
import Derived.Test.YtjfmahodbdianaaDoorTpls
namespace Go.Proofs.YtjfmahodbdianaaDoor.Wire
open Go.RowKit Mem
set_option linter.unusedVariables false

/-- How many bytes make a multiple of 4. -/
def padN (n : Int) : Int := if n < 0 then 0 else (-n) % 4
theorem reti {k : IntKind} {a b : Int} (h : a = b) : Ending.returned (.int k a) = .returned (.int k b) := by rw [h]

theorem and3' (n : Int) : bits .and .i64 n 3 = n % 4 := by
  have h127 : (BitVec.ofInt 64 3).toNat = 2 ^ 2 - 1 := by decide
  have key : (BitVec.ofInt 64 n &&& BitVec.ofInt 64 3).toNat = (n % ((2 ^ 64 : Nat) : Int)).toNat % 2 ^ 2 := by
    rw [BitVec.toNat_and, BitVec.toNat_ofInt, h127, Nat.and_two_pow_sub_one_eq_mod]
  show IntKind.i64.wrap ((BitVec.ofInt 64 n &&& BitVec.ofInt 64 3).toNat : Nat) = n % 4
  rw [key, IntKind.wrap_i64]
  omega
theorem and3 (n : Int) : bits .and .i64 (-n) 3 = (-n) % 4 := and3' (-n)
theorem pad (n : Int) (w : World) (h : -9223372036854775808 ≤ n ∧ n ≤ 9223372036854775807) :
    Calls Tryd.prog 49 #[.int .i64 n] w fun e w' => e = .returned (.int .i64 (padN n)) ∧ w = w' := by
  by_cases h0 : n < 0
  · have hp : padN n = 0 := by unfold padN; rw [if_pos h0]
    rw [hp]
    go_enter Tryd.func49, Tryd.ntmps49
    go_wp2
    go_ret
    exact ⟨rfl, rfl⟩
  · have hp : padN n = (-n) % 4 := by unfold padN; rw [if_neg h0]
    have ha := and3 n
    rw [hp]
    go_enter Tryd.func49, Tryd.ntmps49
    go_wp2
    go_ret
    exact ⟨rfl, rfl⟩
theorem refPad (n : Int) (w : World) (h : -9223372036854775808 ≤ n ∧ n ≤ 9223372036854775807) :
    Calls Tryd.prog 36 #[.int .i64 n] w fun e w' => e = .returned (.int .i64 (padN n)) ∧ w = w' := by
  by_cases h0 : n < 0
  · have hp : padN n = 0 := by unfold padN; rw [if_pos h0]
    rw [hp]
    go_enter Tryd.func36, Tryd.ntmps36
    go_wp2
    go_ret
    exact ⟨rfl, rfl⟩
  · have hp : padN n = (-n) % 4 := by unfold padN; rw [if_neg h0]
    rw [hp]
    go_enter Tryd.func36, Tryd.ntmps36
    go_wp2
    all_goals go_ret
    all_goals refine ⟨reti ?_, rfl⟩
    all_goals simp_all
    all_goals omega

end Go.Proofs.YtjfmahodbdianaaDoor.Wire
