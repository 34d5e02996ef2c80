/-
  Contract: avp.Least.
-/
import Derived.Test.YtjfponhdlfhmbaaDoorTpls
namespace Go.Proofs.YtjfponhdlfhmbaaDoor.Dict
open Go.RowKit
set_option linter.unusedVariables false
set_option linter.unusedSimpArgs false
/-- How many bytes a type has at least. -/
def leastN (t : Int) : Int := if t = 2 ∨ t = 4 ∨ t = 6 then 4 else if t = 3 ∨ t = 5 ∨ t = 7 then 8 else if t = 10 then 1 else if t = 11 then 6 else 0
set_option maxRecDepth 100000 in
theorem least (t : Int) (w : World) : Calls Tryd.prog 7 #[.int .i64 t] w fun e w' => e = .returned (.int .i64 (leastN t)) ∧ w' = w := by
  have key : ∀ x, leastN t = x → (Calls Tryd.prog 7 #[.int .i64 t] w fun e w' => e = .returned (.int .i64 x) ∧ w' = w) → Calls Tryd.prog 7 #[.int .i64 t] w fun e w' => e = .returned (.int .i64 (leastN t)) ∧ w' = w := by
    intro x hx h; rw [hx]; exact h
  by_cases h2 : t = 2
  · subst h2; refine key 4 rfl ?_; clear key; go_enter Tryd.func7, Tryd.ntmps7; go_wp2; go_ret; exact ⟨rfl, rfl⟩
  by_cases h4 : t = 4
  · subst h4; refine key 4 rfl ?_; clear key; go_enter Tryd.func7, Tryd.ntmps7; go_wp2; go_ret; exact ⟨rfl, rfl⟩
  by_cases h6 : t = 6
  · subst h6; refine key 4 rfl ?_; clear key; go_enter Tryd.func7, Tryd.ntmps7; go_wp2; go_ret; exact ⟨rfl, rfl⟩
  by_cases h3 : t = 3
  · subst h3; refine key 8 rfl ?_; clear key; go_enter Tryd.func7, Tryd.ntmps7; go_wp2; go_ret; exact ⟨rfl, rfl⟩
  by_cases h5 : t = 5
  · subst h5; refine key 8 rfl ?_; clear key; go_enter Tryd.func7, Tryd.ntmps7; go_wp2; go_ret; exact ⟨rfl, rfl⟩
  by_cases h7 : t = 7
  · subst h7; refine key 8 rfl ?_; clear key; go_enter Tryd.func7, Tryd.ntmps7; go_wp2; go_ret; exact ⟨rfl, rfl⟩
  by_cases h10 : t = 10
  · subst h10; refine key 1 rfl ?_; clear key; go_enter Tryd.func7, Tryd.ntmps7; go_wp2; go_ret; exact ⟨rfl, rfl⟩
  by_cases h11 : t = 11
  · subst h11; refine key 6 rfl ?_; clear key; go_enter Tryd.func7, Tryd.ntmps7; go_wp2; go_ret; exact ⟨rfl, rfl⟩
  refine key 0 (by unfold leastN; simp [h2, h4, h6, h3, h5, h7, h10, h11]) ?_
  clear key
  have b2 : (t == 2) = false := by simpa using h2
  have b3 : (t == 3) = false := by simpa using h3
  have b4 : (t == 4) = false := by simpa using h4
  have b5 : (t == 5) = false := by simpa using h5
  have b6 : (t == 6) = false := by simpa using h6
  have b7 : (t == 7) = false := by simpa using h7
  have b10 : (t == 10) = false := by simpa using h10
  have b11 : (t == 11) = false := by simpa using h11
  clear h2 h3 h4 h5 h6 h7 h10 h11
  go_enter Tryd.func7, Tryd.ntmps7
  go_wp2
  go_ret
  exact ⟨rfl, rfl⟩
end Go.Proofs.YtjfponhdlfhmbaaDoor.Dict
