/-
  Contracts: wire.Part, wire.Get.
-/
import Derived.Test.YtjfponhdlfhmbaaWire2
namespace Go.Proofs.Ytjfponhdlfhmbaa.Wire
open Go.RowKit Mem
set_option linter.unusedVariables false

/-- Why there is no such part: 0 if there is. -/
def partE (len at_ n : Int) : Int := if at_ < 0 ∨ n < 0 then 1 else if len < at_ ∨ len - at_ < n then 3 else 0
/-- The part. -/
def partL (xs : List Int) (at_ n : Int) : List Int := if partE xs.length at_ n = 0 then (xs.drop at_.toNat).take n.toNat else []

theorem part (v : Value) (xs : List Int) (at_ n : Int) (w : World) (hr : Reads .u8 w v xs) (hb : xs.length ≤ 140737488355300) (ha : -9223372036854775808 ≤ at_ ∧ at_ ≤ 9223372036854775807) (hn : -9223372036854775808 ≤ n ∧ n ≤ 9223372036854775807) :
    Calls Try.prog 33 #[v, .int .i64 at_, .int .i64 n] w fun e w' => ∃ v', e = .returned (.tuple #[v', .int .i64 (partE xs.length at_ n)]) ∧ Row .u8 5 w.heap.size w' v' (partL xs at_ n) ∧ Below w.heap.size w w' := by
  by_cases h1 : at_ < 0 ∨ n < 0
  · have e1 : partE xs.length at_ n = 1 := by unfold partE; rw [if_pos h1]
    have e2 : partL xs at_ n = [] := by unfold partL; rw [e1]; rfl
    rw [e1, e2]
    by_cases h2 : at_ < 0
    all_goals
      go_enter Try.func33, Try.ntmps33
      go_wp2
      go_ret2
      exact ⟨_, rfl, World.ownsRow_nil _ _ _ _, Below.refl _ _⟩
  · by_cases h2 : (xs.length : Int) < at_ ∨ (xs.length : Int) - at_ < n
    · have e1 : partE xs.length at_ n = 3 := by unfold partE; rw [if_neg h1, if_pos h2]
      have e2 : partL xs at_ n = [] := by unfold partL; rw [e1]; rfl
      rw [e1, e2]
      obtain ⟨p, c, rfl, k1, k2, _, _⟩ := hr
      have k3 : 0 ≤ at_ := by omega
      have k4 : 0 ≤ n := by omega
      by_cases h3 : (xs.length : Int) < at_
      all_goals
        go_enter Try.func33, Try.ntmps33
        go_wp2
        go_ret2
        exact ⟨_, rfl, World.ownsRow_nil _ _ _ _, Below.refl _ _⟩
    · have e1 : partE xs.length at_ n = 0 := by unfold partE; rw [if_neg h1, if_neg h2]
      have e2 : partL xs at_ n = (xs.drop at_.toNat).take n.toNat := by unfold partL; rw [e1]; rfl
      rw [e1, e2]
      clear e1 e2
      obtain ⟨i, rfl⟩ := Int.eq_ofNat_of_zero_le (show 0 ≤ at_ by omega)
      obtain ⟨j, rfl⟩ := Int.eq_ofNat_of_zero_le (show 0 ≤ n by omega)
      have hr' := hr
      obtain ⟨p, c, rfl, k1, k2, _, _⟩ := hr
      have k3 : i + j ≤ xs.length := by omega
      have k4 : i + j ≤ c := by omega
      clear h1 h2
      go_enter Try.func33, Try.ntmps33
      go_wp2_with fail
      · obtain rfl : j = 0 := by omega
        refine (clone _ [] _ Reads.sub0 (by simp)).mono ?_
        rintro e w1 ⟨v1, rfl, hown, hb1⟩
        go_wp2
        go_ret2
        exact ⟨_, rfl, by simpa using hown, hb1⟩
      · refine (clone _ _ _ (hr'.sub i j k3) (by simp; omega)).mono ?_
        rintro e w1 ⟨v1, rfl, hown, hb1⟩
        go_wp2
        go_ret2
        exact ⟨_, rfl, hown, hb1⟩
end Go.Proofs.Ytjfponhdlfhmbaa.Wire
