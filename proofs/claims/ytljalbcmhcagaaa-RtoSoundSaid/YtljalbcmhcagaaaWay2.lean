/-
  The contract of rto.Sound: whether a path is sound.
-/
import Derived.Test.YtljalbcmhcagaaaWay1
namespace Go.Proofs.Ytljalbcmhcagaaa.Way
open Go.RowKit Mem
set_option linter.unusedVariables false

set_option maxRecDepth 100000 in
set_option maxHeartbeats 3200000 in
theorem sound (x : Wy) (w : World) : Calls Try.prog 12 #[.agg (cells x)] w fun e w' => e = .returned (.bool (okB x)) ∧ Below w.heap.size w w' := by
  have hb : Below w.heap.size w (w.alloc (.cells (cells x) 23)) := (Below.refl _ _).alloc (Nat.le_refl _) _
  go_enter Try.func12, Try.ntmps12
  go_wp2_with (go_at_call 25; refine (inn _ _ _ _).mono ?_; rintro e w1 ⟨rfl, rfl⟩)
  all_goals
    go_ret
    refine ⟨congrArg (fun b => Ending.returned (Value.bool b)) (show _ = okB x from ?_), hb⟩
    unfold okB
    simp [*]
end Go.Proofs.Ytljalbcmhcagaaa.Way
