/-
  utf8.Valid, of no bytes too.
-/
import Derived.Test.YtjfponhdlfhmbaaDoorValid
namespace Go.Proofs.YtjfponhdlfhmbaaDoor.Utf
open Go.RowKit Mem Cells Ops
set_option linter.unusedVariables false
set_option maxRecDepth 100000 in
theorem valid0 (v : Value) (w : World) (hr : Reads .u8 w v []) : Calls Tryd.prog 12 #[v] w fun e w' => e = .returned (.bool (v8 [])) ∧ Below w.heap.size w w' := by
  obtain ⟨p, c, rfl, h1, h2, h3, h4⟩ := hr
  have hcm : c ≤ 9223372036854775807 := by unfold maxLen at h2; omega
  clear h4 h1 h2
  rw [v8_nil]
  show Calls Tryd.prog 12 #[.slice p 0 c] w _
  go_enter Tryd.func12, Tryd.ntmps12
  go_wp2_with fail
  go_loopw [0] (fun u wr => (∃ p c, u = .slice p 0 c) ∧ Below w.heap.size w wr) (fun u _ => 0)
  case atStart => exact ⟨⟨_, _, rfl⟩, Below.refl _ _⟩
  case round =>
    obtain ⟨⟨p', c', rfl⟩, hbl⟩ := hrel
    go_wp2_with fail
    go_ret
    exact ⟨rfl, hbl⟩
theorem valid_ (v : Value) (xs : List Int) (w : World) (hr : Reads .u8 w v xs) (hx : bytesOk xs) (ht : Lib.Utf8Tabs 0 1 w) : Calls Tryd.prog 12 #[v] w fun e w' => e = .returned (.bool (v8 xs)) ∧ Below w.heap.size w w' := by
  rcases Nat.eq_zero_or_pos xs.length with h | h
  · have : xs = [] := List.eq_nil_of_length_eq_zero h
    subst this
    exact valid0 v w hr
  · exact valid v xs w hr hx ht h
end Go.Proofs.YtjfponhdlfhmbaaDoor.Utf
