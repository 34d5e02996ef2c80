/-
  Contracts: slices.Clone at []byte, and the law's own 'own': what they return is the call's own, and holds the same bytes.
-/
import Derived.Test.YtjfponhdlfhmbaaMem
namespace Go.Proofs.Ytjfponhdlfhmbaa.Wire
open Go.RowKit Mem
set_option linter.unusedVariables false

theorem info5 : (Try.prog.info? 5).map (fun i => (i.zero, i.size, i.bytes)) = some (some (.int .u8 0), 1, 1) := by kernel_rfl

theorem clone (v : Value) (xs : List Int) (w : World) (hr : Reads .u8 w v xs) (hb : xs.length ≤ 140737488355328) :
    Calls Try.prog 31 #[v] w fun e w' => ∃ v', e = .returned v' ∧ Row .u8 5 w.heap.size w' v' xs ∧ Below w.heap.size w w' := by
  obtain ⟨i0, hi, hz0, hz1, hz2⟩ := info_parts info5
  have hr' := hr
  obtain ⟨p, c, rfl, h1, h2, h3, h4⟩ := hr
  cases p with
  | none =>
    obtain rfl := h3 rfl
    have hy : xs = [] := List.eq_nil_of_length_eq_zero (by omega)
    subst hy
    have heq := fun w => Lib.run_eql_slice_nil (P := Try.prog) w 23 5 none 0 0 0 0 Try.underlying23
    clear hr' h1 h2 h3 h4 hb
    go_enter Try.func31, Try.ntmps31
    go_wp2
    go_ret
    exact ⟨_, rfl, World.ownsRow_nil _ _ _ _, Below.refl _ _⟩
  | some ad =>
    clear h4 h3
    have heq := fun w => Lib.run_eql_slice_nil (P := Try.prog) w 23 5 (some ad) xs.length c 0 0 Try.underlying23
    have hown : Row .u8 5 w.heap.size (w.alloc (.cells #[] 5)) (.slice (some ⟨w.heap.size, 0, none⟩) 0 0) [] := World.ownsRow_made _ _ _ (Nat.le_refl _) (by simp [maxLen]) rfl
    have hr2 := hr'.below ((Below.refl _ _).alloc (Nat.le_refl _) (.cells #[] 5))
    clear hr'
    go_enter Try.func31, Try.ntmps31
    go_wp2_with (at_builtin; refine wpl_append rfl _ _ 23 rfl .u8 w.heap.size 5 1 i0 (.int .u8 0) Try.underlying23 hi hz0 hz1 hz2 rfl _ _ [] xs rfl rfl hown hr2 ?_ ?_ ?_ ?_)
    · unfold maxLen; simp; omega
    · simp; omega
    · simp
    · intro v' w' hv hg
      go_wp2
      go_ret
      exact ⟨_, rfl, by simpa using hv, ((Below.refl _ _).alloc (Nat.le_refl _) (.cells #[] 5)).grown hg (by simp) (by simp [Value.ownBlock])⟩
end Go.Proofs.Ytjfponhdlfhmbaa.Wire
