/-
  The walks of the laws SerialWide and SerialNear: each returns true and writes nothing that was there.
-/
import Derived.Test.YtfigbampkofnjaaWide
namespace Go.Proofs.Ytfigbampkofnjaa.Laws
open Go.RowKit Ser
set_option linter.unusedVariables false

theorem wides (n l : Int) (w : World) (hn : 0 ≤ n ∧ n ≤ 18446744073709551615) (hl : 0 ≤ l ∧ l ≤ 4294967295) :
    Calls Try.prog 7 #[.int .u64 n, .int .u32 l] w fun e w' => e = .returned (.bool true) ∧ Below w.heap.size w w' := by
  go_enter Try.func7, Try.ntmps7
  go_wp2_with (first
    | (go_at_call 13; refine (answers _).mono ?_; rintro e w' ⟨rfl, rfl⟩)
    | (go_at_call 16; refine (wideOf _ _ _ hn hl).mono ?_; rintro e w1 ⟨rfl, hb⟩)
    | (go_at_call 17; refine (refWide _ _ _ hn hl).mono ?_; rintro e w' ⟨rfl, rfl⟩))
  all_goals go_ret
  all_goals exact ⟨rfl, hb⟩

/-- A number less than half round from n is told by its lowest bits. -/
theorem near (n x : Int) (hn : 0 ≤ n ∧ n ≤ 18446744073709551615) (hx : 0 ≤ x ∧ x ≤ 18446744073709551615) (h : -2147483648 < x - n ∧ x - n < 2147483648) :
    wide n (x % 4294967296) = x := by
  obtain ⟨B, hB⟩ : ∃ B, n - n % 4294967296 + x % 4294967296 = B := ⟨_, rfl⟩
  have hw : Hid (wide n (x % 4294967296) = _) := wide_at hB
  rw [hw.out]
  clear hw
  (repeat' split) <;> (simp only [far] at *) <;> (repeat' split at *) <;> omega

theorem nears (n d : Int) (up : Bool) (w : World) (hn : 0 ≤ n ∧ n ≤ 18446744073709551615) (hd : 0 ≤ d ∧ d ≤ 4294967295) :
    Calls Try.prog 8 #[.int .u64 n, .int .u32 d, .bool up] w fun e w' => e = .returned (.bool true) ∧ Below w.heap.size w w' := by
  obtain ⟨o, ho, h0, h1⟩ : ∃ o, d % 2147483648 = o ∧ 0 ≤ o ∧ o < 2147483648 := ⟨_, rfl, by omega, by omega⟩
  cases up
  · by_cases hU : n < o
    · go_enter Try.func8, Try.ntmps8
      go_wp2_with (first
        | (go_at_call 13; refine (answers _).mono ?_; rintro e w' ⟨rfl, rfl⟩))
      all_goals go_ret
      all_goals exact ⟨rfl, Below.refl _ _⟩
    · have hx := near n (n - o) hn (by omega) (by omega)
      go_enter Try.func8, Try.ntmps8
      go_wp2_with (first
        | (go_at_call 13; refine (answers _).mono ?_; rintro e w' ⟨rfl, rfl⟩)
        | (go_at_call 16; refine (wideOf _ _ _ hn (by omega)).mono ?_; rintro e w1 ⟨rfl, hb⟩))
      all_goals go_ret
      all_goals exact ⟨rfl, hb⟩
  · by_cases hU : n + o ≤ 18446744073709551615
    · have hx := near n (n + o) hn (by omega) (by omega)
      go_enter Try.func8, Try.ntmps8
      go_wp2_with (first
        | (go_at_call 13; refine (answers _).mono ?_; rintro e w' ⟨rfl, rfl⟩)
        | (go_at_call 16; refine (wideOf _ _ _ hn (by omega)).mono ?_; rintro e w1 ⟨rfl, hb⟩))
      all_goals go_ret
      all_goals exact ⟨rfl, hb⟩
    · go_enter Try.func8, Try.ntmps8
      go_wp2_with (first
        | (go_at_call 13; refine (answers _).mono ?_; rintro e w' ⟨rfl, rfl⟩))
      all_goals go_ret
      all_goals exact ⟨rfl, Below.refl _ _⟩
end Go.Proofs.Ytfigbampkofnjaa.Laws
