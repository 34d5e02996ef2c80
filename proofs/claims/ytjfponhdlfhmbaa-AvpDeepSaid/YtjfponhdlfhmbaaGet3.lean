/-
  The reference's Num; numbers of what stands behind a place.
-/
import Derived.Test.YtjfponhdlfhmbaaGet2
import Derived.Test.YtjfponhdlfhmbaaMonoT
namespace Go.Proofs.Ytjfponhdlfhmbaa.Avp
open Go.RowKit Mem Cells Avps Wire
set_option linter.unusedVariables false
set_option linter.unusedSimpArgs false

theorem refNum (v : Value) (xs : List Int) (at_ size : Int) (w : World) (hr : Reads .u8 w v xs) (hwf : ∀ x ∈ xs, 0 ≤ x ∧ x ≤ 255) (hb : xs.length ≤ 140737488355300) (ha : -9223372036854775808 ≤ at_ ∧ at_ ≤ 9223372036854775807) (hn : -9223372036854775808 ≤ size ∧ size ≤ 9223372036854775807)
    (hM : 0 ≤ getN xs at_ size ∧ getN xs at_ size ≤ 9223372036854775807) :
    Calls Try.prog 15 #[v, .int .i64 at_, .int .i64 size] w fun e w' => e = .returned (.int .i64 (getN xs at_ size)) ∧ Below w.heap.size w w' := by
  have PG := Lib.hid (refGet v xs at_ size w hr hwf hb ha hn)
  generalize getN xs at_ size = N at *
  clear hr hwf
  go_enter Try.func15, Try.ntmps15
  go_wp2_with fail
  refine PG.out.mono ?_
  rintro e w1 ⟨rfl, hb1⟩
  go_wp2
  go_ret
  exact ⟨rfl, hb1⟩

theorem partE_drop (xs : List Int) (at_ : Nat) (k n : Int) (hk : 0 ≤ k) (hat : at_ ≤ xs.length) : partE ((xs.drop at_).length : Int) k n = partE xs.length (at_ + k) n := by
  unfold partE
  rw [List.length_drop]
  by_cases h1 : k < 0 ∨ n < 0
  · rw [if_pos h1, if_pos (by omega)]
  · rw [if_neg h1, if_neg (show ¬ ((at_ : Int) + k < 0 ∨ n < 0) by omega)]
    by_cases h2 : ((xs.length - at_ : Nat) : Int) < k ∨ ((xs.length - at_ : Nat) : Int) - k < n
    · rw [if_pos h2, if_pos (show (xs.length : Int) < at_ + k ∨ (xs.length : Int) - (at_ + k) < n by omega)]
    · rw [if_neg h2, if_neg (show ¬ ((xs.length : Int) < at_ + k ∨ (xs.length : Int) - (at_ + k) < n) by omega)]
theorem getN_drop (xs : List Int) (at_ : Nat) (k size : Int) (hk : 0 ≤ k) (hat : at_ ≤ xs.length) : getN xs (at_ + k) size = getN (xs.drop at_) k size := by
  unfold getN partL
  rw [partE_drop xs at_ k size hk hat, List.drop_drop, show ((at_ : Int) + k).toNat = at_ + k.toNat from by omega]
end Go.Proofs.Ytjfponhdlfhmbaa.Avp
