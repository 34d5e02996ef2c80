/-
  The walk of the law SerialStretch: it returns true and writes nothing.
-/
import Derived.Test.YtfigbampkofnjaaFrame
import Derived.Test.YtfigbampkofnjaaPure
namespace Go.Proofs.Ytfigbampkofnjaa.Laws
open Go.RowKit Ser
set_option linter.unusedVariables false

theorem behind (a b : Int) (ha : 0 ≤ a ∧ a ≤ 4294967295) (hb : 0 ≤ b ∧ b ≤ 4294967295) :
    (!decide ((b + 1 - a) % 4294967296 ≤ (b - a) % 4294967296) == ((b + 1) % 4294967296 == a)) = false := by
  by_cases h : (b + 1) % 4294967296 = a
  · have h1 : (b + 1 - a) % 4294967296 ≤ (b - a) % 4294967296 := by omega
    simp [h, h1]
  · have h1 : ¬ (b + 1 - a) % 4294967296 ≤ (b - a) % 4294967296 := by omega
    simp [h, h1]
theorem within_gtr (x y : Int) : (decide (x ≤ y) == decide (y < x)) = false := by
  by_cases h : x ≤ y
  · have h1 : ¬ y < x := by omega
    simp [h, h1]
  · have h1 : y < x := by omega
    simp [h, h1]

theorem stretch (a b : Int) (p : Option Addr) (l c : Nat) (z : List Int) (w : World) (ha : 0 ≤ a ∧ a ≤ 4294967295) (hb : 0 ≤ b ∧ b ≤ 4294967295) (r : Frame.IsRow .u32 w p l c z) :
    Calls Try.prog 6 #[.int .u32 a, .int .u32 b, .slice p l c] w fun e w' => e = .returned (.bool true) ∧ w = w' := by
  have hz : 0 ≤ (b - a) % 4294967296 := by omega
  have hb1 := behind a b ha hb
  have hlm : l ≤ 9223372036854775807 := by
    rcases r with ⟨_, rfl, _⟩ | ⟨_, _, _, _, h1, h2, _⟩
    · omega
    · unfold maxLen at h2; omega
  rcases Nat.eq_zero_or_pos l with h0 | h0
  · subst h0
    clear r
    go_enter Try.func6, Try.ntmps6
    go_wp2_with (first
      | (go_at_call 14; refine (within _ _ _ _).mono ?_; rintro e w' ⟨rfl, rfl⟩)
      | (go_at_call 13; refine (answers _).mono ?_; rintro e w' ⟨rfl, rfl⟩))
    go_loop [7] (fun i => i = .int .i64 0) (fun _ => 0)
    case atStart => rfl
    case round =>
      subst hrel
      go_wp2
      go_ret
      exact ⟨rfl, rfl⟩
  · obtain ⟨B, off, rfl, hcell⟩ : ∃ B off, p = some ⟨B, off, none⟩ ∧ ∀ k, k < l → w.cell? ⟨B, off + k, none⟩ = some (.int .u32 (z.getD k 0)) := by
      rcases r with ⟨_, rfl, _⟩ | ⟨B, off, s, rfl, h1, h2, h3, h4, h5, h6⟩
      · omega
      · obtain ⟨rfl, _⟩ := h4 (by omega)
        exact ⟨B, off, rfl, fun k hk => h5 k (by omega)⟩
    clear r
    go_enter Try.func6, Try.ntmps6
    go_wp2_with (first
      | (go_at_call 14; refine (within _ _ _ _).mono ?_; rintro e w' ⟨rfl, rfl⟩)
      | (go_at_call 13; refine (answers _).mono ?_; rintro e w' ⟨rfl, rfl⟩))
    clear hz hb1
    go_loop [7] (fun i => ∃ k : Nat, k ≤ l ∧ i = .int .i64 k) (fun i => l - (intOf i).toNat)
    case atStart => exact ⟨0, by omega, rfl⟩
    case round =>
      obtain ⟨k, hk, rfl⟩ := hrel
      have hc : k < l → w.cell? ⟨B, off + k, none⟩ = some (.int .u32 (z.getD k 0)) := hcell k
      clear hcell
      go_wp2_with (first
        | (go_at_call 14; refine (within _ _ _ _).mono ?_; rintro e w' ⟨rfl, rfl⟩))
      all_goals first
        | (refine ⟨⟨k + 1, by omega, by go_num⟩, by simp [intOf]; omega⟩)
        | (exfalso; have h1 := within_gtr ((z[k]?.getD 0 - a) % 4294967296) ((b - a) % 4294967296); have h2 : (decide ((z[k]?.getD 0 - a) % 4294967296 ≤ (b - a) % 4294967296) == decide ((b - a) % 4294967296 < (z[k]?.getD 0 - a) % 4294967296)) = true := by assumption
           rw [h1] at h2; cases h2)
        | (go_ret; exact ⟨rfl, rfl⟩)
end Go.Proofs.Ytfigbampkofnjaa.Laws
