/-
  The walks of the laws SerialOrders, SerialWithin, SerialTurns: each returns true and writes nothing.
-/
import Derived.Test.YtfigbampkofnjaaPure
namespace Go.Proofs.Ytfigbampkofnjaa.Laws
open Go.RowKit Ser

theorem orders (a b c d : Int) (ha : 0 ≤ a ∧ a ≤ 65535) (hb : 0 ≤ b ∧ b ≤ 65535) (hc : 0 ≤ c ∧ c ≤ 4294967295) (hd : 0 ≤ d ∧ d ≤ 4294967295) (w : World) :
    Calls Try.prog 3 #[.int .u16 a, .int .u16 b, .int .u32 c, .int .u32 d] w fun e w' => e = .returned (.bool true) ∧ w = w' := by
  go_enter Try.func3, Try.ntmps3
  go_wp2_with (first
    | (go_at_call 9; refine (order16 _ _ _).mono ?_; rintro e w' ⟨rfl, rfl⟩)
    | (go_at_call 10; refine (refOrder16 _ _ ha hb _).mono ?_; rintro e w' ⟨rfl, rfl⟩)
    | (go_at_call 11; refine (order32 _ _ _).mono ?_; rintro e w' ⟨rfl, rfl⟩)
    | (go_at_call 12; refine (refOrder32 _ _ hc hd _).mono ?_; rintro e w' ⟨rfl, rfl⟩)
    | (go_at_call 13; refine (answers _).mono ?_; rintro e w' ⟨rfl, rfl⟩))

  all_goals go_ret
  all_goals exact ⟨rfl, rfl⟩
theorem withins (a b c : Int) (w : World) :
    Calls Try.prog 4 #[.int .u32 a, .int .u32 b, .int .u32 c] w fun e w' => e = .returned (.bool true) ∧ w = w' := by
  go_enter Try.func4, Try.ntmps4
  go_wp2_with (first
    | (go_at_call 14; refine (within _ _ _ _).mono ?_; rintro e w' ⟨rfl, rfl⟩)
    | (go_at_call 15; refine (refWithin _ _ _ _).mono ?_; rintro e w' ⟨rfl, rfl⟩)
    | (go_at_call 13; refine (answers _).mono ?_; rintro e w' ⟨rfl, rfl⟩))

  all_goals go_ret
  all_goals exact ⟨rfl, rfl⟩
end Go.Proofs.Ytfigbampkofnjaa.Laws
