/-
  The contract of the reference's WayOK: whether a path is sound.
-/
import Derived.Test.YtljalbcmhcagaaaWay1
namespace Go.Proofs.Ytljalbcmhcagaaa.Way
open Go.RowKit Mem
set_option linter.unusedVariables false

set_option maxRecDepth 100000 in
set_option maxHeartbeats 3200000 in
theorem wayOK (x : Wy) (w : World) : Calls Try.prog 13 #[.agg (cells x)] w fun e w' => e = .returned (.bool (okB x)) ∧ Below w.heap.size w w' := by
  have hb : Below w.heap.size w (w.alloc (.cells (cells x) 23)) := (Below.refl _ _).alloc (Nat.le_refl _) _
  go_enter Try.func13, Try.ntmps13
  go_wp2
  all_goals
    go_ret
    refine ⟨congrArg (fun b => Ending.returned (Value.bool b)) (show _ = okB x from ?_), hb⟩
    rw [Bool.eq_iff_iff, okB_iff]
    simp only [decide_eq_true_eq, Bool.false_eq_true, false_iff]
    omega
end Go.Proofs.Ytljalbcmhcagaaa.Way
