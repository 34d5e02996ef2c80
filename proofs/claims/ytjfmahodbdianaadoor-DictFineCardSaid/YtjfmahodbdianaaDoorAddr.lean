/-
  Contract: avp.address.
-/
import Derived.Test.YtjfmahodbdianaaDoorWire5
import Derived.Deep.DeepMust
import Derived.Lib.Hide
namespace Go.Proofs.YtjfmahodbdianaaDoor.Nm
open Go.RowKit Mem Wire
set_option linter.unusedVariables false
set_option linter.unusedSimpArgs false

/-- Is it an address? -/
def addrB (xs : List Int) : Bool := (getE xs.length 0 2 == 0) && ((getN xs 0 2 == 1 && decide (xs.length = 6)) || (getN xs 0 2 == 2 && decide (xs.length = 18)))
set_option maxRecDepth 100000 in
set_option maxHeartbeats 1600000 in
theorem address (v : Value) (xs : List Int) (w : World) (hr : Reads .u8 w v xs) (hx : ∀ x ∈ xs, 0 ≤ x ∧ x ≤ 255) (hb : xs.length ≤ 140737488355300) :
    Calls Tryd.prog 33 #[v] w fun e w' => e = .returned (.bool (addrB xs)) ∧ Below w.heap.size w w' := by
  have PG := Lib.hid (get v xs 0 2 w hr hx hb ⟨by omega, by omega⟩ ⟨by omega, by omega⟩)
  obtain ⟨p, c, rfl, q1, q2, _, _⟩ := hr
  obtain ⟨n, hn⟩ : ∃ n, xs.length = n := ⟨_, rfl⟩
  obtain ⟨E, hE⟩ : ∃ E, getE xs.length 0 2 = E := ⟨_, rfl⟩
  obtain ⟨F, hF⟩ : ∃ F, getN xs 0 2 = F := ⟨_, rfl⟩
  have e : addrB xs = ((E == 0) && ((F == 1 && decide (n = 6)) || (F == 2 && decide (n = 18)))) := by unfold addrB; rw [hE, hF, hn]
  rw [hE, hF, hn] at PG
  rw [e, hn]
  rw [hn] at hb
  clear q1 q2 hx e hE hF hn
  go_enter Tryd.func33, Tryd.ntmps33
  go_wp2_with (go_at_call 43; go_must (refine PG.out.mono ?_; rintro e u ⟨rfl, hbl⟩))
  all_goals go_ret
  all_goals refine ⟨?_, hbl⟩
  all_goals congr 2
  all_goals (by_cases g0 : E = 0 <;> by_cases g1 : F = 1 <;> by_cases g2 : F = 2 <;> by_cases g3 : n = 6 <;> by_cases g4 : n = 18 <;> simp_all <;> omega)
end Go.Proofs.YtjfmahodbdianaaDoor.Nm
