/-
  The contracts of serial.Wide and of its reference.
-/
import Derived.Test.YtfigbampkofnjaaPure
namespace Go.Proofs.Ytfigbampkofnjaa.Ser
open Go.RowKit
set_option linter.unusedVariables false

/-- How far two numbers are apart. -/
def far (x n : Int) : Int := if x ≤ n then n - x else x - n
theorem far_bounds (x n : Int) (hx : 0 ≤ x ∧ x ≤ 18446744073709551615) (hn : 0 ≤ n ∧ n ≤ 18446744073709551615) : 0 ≤ far x n ∧ far x n ≤ 18446744073709551615 := by
  unfold far; split <;> omega

theorem reti {k : IntKind} {a b : Int} (h : a = b) : Ending.returned (.int k a) = .returned (.int k b) := by rw [h]

theorem off (x n : Int) (b : Nat) (w : World) (hx : 0 ≤ x ∧ x ≤ 18446744073709551615) (hn : 0 ≤ n ∧ n ≤ 18446744073709551615) (hc : w.cell? ⟨b, 0, none⟩ = some (.int .u64 n)) :
    Calls Try.prog 20 #[.int .u64 x, .pointer (some ⟨b, 0, none⟩)] w fun e w' => e = .returned (.int .u64 (far x n)) ∧ w = w' := by
  go_enter Try.func20, Try.ntmps20
  go_wp2
  all_goals go_ret
  all_goals refine ⟨reti ?_, rfl⟩
  all_goals (simp only [far]; split <;> omega)
theorem refFar (a b : Int) (w : World) (ha : 0 ≤ a ∧ a ≤ 18446744073709551615) (hb : 0 ≤ b ∧ b ≤ 18446744073709551615) :
    Calls Try.prog 21 #[.int .u64 a, .int .u64 b] w fun e w' => e = .returned (.int .u64 (far a b)) ∧ w = w' := by
  go_enter Try.func21, Try.ntmps21
  go_wp2
  all_goals go_ret
  all_goals refine ⟨reti ?_, rfl⟩
  all_goals (simp only [far]; split <;> omega)

/-- The nearest number to n whose lowest 32 bits are l. -/
def wide (n l : Int) : Int :=
  let best := n - n % 4294967296 + l
  let b1 := if best + 4294967296 ≤ 18446744073709551615 ∧ far (best + 4294967296) n ≤ far best n then best + 4294967296 else best
  if 4294967296 ≤ b1 ∧ far (b1 - 4294967296) n < far b1 n then b1 - 4294967296 else b1

theorem u64w (x : Int) (h : 18446744073709551616 ≤ x ∧ x < 36893488147419103232) : IntKind.u64.wrap x = x - 18446744073709551616 := by
  simp only [IntKind.wrap, IntKind.signed, IntKind.bits]
  simp
  omega

theorem u64w0 (x : Int) (h : 0 ≤ x ∧ x < 18446744073709551616) : IntKind.u64.wrap x = x := by
  simp only [IntKind.wrap, IntKind.signed, IntKind.bits]
  simp
  omega

theorem wide_at {n l B : Int} (hB : n - n % 4294967296 + l = B) : wide n l =
    (let b1 := if B + 4294967296 ≤ 18446744073709551615 ∧ far (B + 4294967296) n ≤ far B n then B + 4294967296 else B
     if 4294967296 ≤ b1 ∧ far (b1 - 4294967296) n < far b1 n then b1 - 4294967296 else b1) := by
  unfold wide; rw [hB]

set_option maxHeartbeats 1600000 in
theorem wideOf (n l : Int) (w : World) (hn : 0 ≤ n ∧ n ≤ 18446744073709551615) (hl : 0 ≤ l ∧ l ≤ 4294967295) :
    Calls Try.prog 16 #[.int .u64 n, .int .u32 l] w fun e w' => e = .returned (.int .u64 (wide n l)) ∧ Below w.heap.size w w' := by
  have hc : (w.alloc (.cells #[.int .u64 n] 32)).cell? ⟨w.heap.size, 0, none⟩ = some (.int .u64 n) := by simp
  obtain ⟨B, hB, h0, h1⟩ : ∃ B, n - n % 4294967296 + l = B ∧ 0 ≤ B ∧ B ≤ 18446744073709551615 := ⟨_, rfl, by omega, by omega⟩
  have hx : Hid (wide n l = _) := wide_at hB
  by_cases hU : B + 4294967296 ≤ 18446744073709551615
  · go_enter Try.func16, Try.ntmps16
    go_wp2_with (go_at_call 20; refine (off _ n _ _ (by omega) hn hc).mono ?_; rintro e w' ⟨rfl, rfl⟩)
    all_goals go_ret
    all_goals refine ⟨reti ?_, (Below.refl _ _).alloc (Nat.le_refl _) _⟩
    all_goals (rw [hx.out]; (repeat' split) <;> first | omega | (simp only [Int.add_sub_cancel] at *; omega) | (rw [u64w0 _ (by omega)]))
  · have hw : IntKind.u64.wrap (B + 4294967296) = B - 18446744069414584320 := by rw [u64w _ (by omega)]; omega
    go_enter Try.func16, Try.ntmps16
    go_wp2_with (go_at_call 20; refine (off _ n _ _ (by omega) hn hc).mono ?_; rintro e w' ⟨rfl, rfl⟩)
    all_goals go_ret
    all_goals refine ⟨reti ?_, (Below.refl _ _).alloc (Nat.le_refl _) _⟩
    all_goals (rw [hx.out]; (repeat' split) <;> first | omega | (simp only [Int.add_sub_cancel] at *; omega) | (rw [u64w0 _ (by omega)]))

theorem or_low (h l : Int) (h0 : 0 ≤ h) (h1 : h < 4294967296) (l0 : 0 ≤ l) (l1 : l < 4294967296) : bits .or .u64 (h * 4294967296) l = h * 4294967296 + l := by
  obtain ⟨a, rfl⟩ := Int.eq_ofNat_of_zero_le h0
  obtain ⟨b, rfl⟩ := Int.eq_ofNat_of_zero_le l0
  have e : ((a : Int) * 4294967296) = ((a * 4294967296 : Nat) : Int) := by omega
  rw [e, u64_or_nat _ _ (by omega) (by omega)]
  have := Nat.two_pow_add_eq_or_of_lt (i := 32) (b := b) (by omega) a
  rw [Nat.mul_comm a 4294967296, show (4294967296 : Nat) = 2 ^ 32 from rfl, ← this]
  omega

theorem far_up (B n : Int) (h : far (B + 4294967296) n ≤ far B n) : far B n ≤ far (B - 4294967296) n := by
  unfold far at *
  (repeat' split at h) <;> (repeat' split) <;> omega

set_option maxHeartbeats 1600000 in
theorem refWide (n l : Int) (w : World) (hn : 0 ≤ n ∧ n ≤ 18446744073709551615) (hl : 0 ≤ l ∧ l ≤ 4294967295) :
    Calls Try.prog 17 #[.int .u64 n, .int .u32 l] w fun e w' => e = .returned (.int .u64 (wide n l)) ∧ w = w' := by
  obtain ⟨h, hh, h0, h1, hd⟩ : ∃ h, n / 4294967296 = h ∧ 0 ≤ h ∧ h < 4294967296 ∧ n - n % 4294967296 + l = h * 4294967296 + l := ⟨_, rfl, by omega, by omega, by omega⟩
  obtain ⟨B, hB⟩ : ∃ B, B = h * 4294967296 + l := ⟨_, rfl⟩
  have e1 : bits .or .u64 (h * 4294967296) l = B := by rw [or_low h l h0 h1 hl.1 (by omega), hB]
  have e2 : h < 4294967295 → bits .or .u64 ((h + 1) * 4294967296) l = B + 4294967296 := fun q => by rw [or_low (h + 1) l (by omega) (by omega) hl.1 (by omega), hB]; omega
  have e3 : 0 < h → bits .or .u64 ((h - 1) * 4294967296) l = B - 4294967296 := fun q => by rw [or_low (h - 1) l (by omega) (by omega) hl.1 (by omega), hB]; omega
  have hx : Hid (wide n l = _) := wide_at (hd.trans hB.symm)
  have k0 : 0 ≤ B := by omega
  have k1 : B ≤ 18446744073709551615 := by omega
  have k2 : h < 4294967295 → B + 4294967296 ≤ 18446744073709551615 := by omega
  have k3 : ¬ h < 4294967295 → ¬ B + 4294967296 ≤ 18446744073709551615 := by omega
  have k4 : 0 < h → 0 ≤ B - 4294967296 := by omega
  have k5 : ¬ 0 < h → B < 4294967296 := by omega
  clear hB hd
  by_cases hU : h < 4294967295 <;> by_cases hD : 0 < h
  all_goals simp only [hU, hD, true_implies, false_implies, not_true_eq_false, not_false_eq_true] at e2 e3 k2 k3 k4 k5
  all_goals
    go_enter Try.func17, Try.ntmps17
    go_wp2_with (go_at_call 21; refine (refFar _ _ _ (by omega) (by omega)).mono ?_; rintro e w' ⟨rfl, rfl⟩)
    all_goals go_ret
    all_goals refine ⟨reti ?_, rfl⟩
    all_goals
      have kf := far_up B n
      rw [hx.out]
      (repeat' split) <;> first | omega | (simp only [Int.add_sub_cancel] at *; omega)
end Go.Proofs.Ytfigbampkofnjaa.Ser
