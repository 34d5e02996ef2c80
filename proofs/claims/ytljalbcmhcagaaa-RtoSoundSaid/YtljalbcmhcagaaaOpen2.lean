/-
  A path that came in by value.
-/
import Derived.Test.YtljalbcmhcagaaaOpen
import Derived.Test.YtljalbcmhcagaaaWay1
namespace Go.Proofs.Ytljalbcmhcagaaa.Way
open Go.WideShapes Go.RowKit
theorem open_way {W : World} {base : Nat} {v : Value} (h : Value.okWide Try.prog W .any base 23 v) : ∃ x : Wy, v = .agg (cells x) := by
  obtain ⟨cs, rfl, hs, hc⟩ := Open.agg_cells (ts := [3, 3, 3, 3, 3, 3, 3]) Try.underlying23 (by kernel_rfl) h
  have hs : cs.size = 7 := hs.trans (by kernel_rfl)
  have key : ∀ i, i < 7 → ∃ n, cs[i]? = some (.int .i64 n) := by
    intro i hi
    obtain ⟨u, hu, ho⟩ := hc i cs[i] (by simp [hs, hi])
    have hu3 : u = 3 := by
      have h1 : i = 0 ∨ i = 1 ∨ i = 2 ∨ i = 3 ∨ i = 4 ∨ i = 5 ∨ i = 6 := by omega
      rcases h1 with rfl | rfl | rfl | rfl | rfl | rfl | rfl <;> simpa using hu.symm
    subst hu3
    obtain ⟨n, hn, _⟩ := Open.cell_int Try.underlying3 ho
    exact ⟨n, by rw [← hn]; simp [hs, hi]⟩
  obtain ⟨a0, h0⟩ := key 0 (by omega)
  obtain ⟨a1, h1⟩ := key 1 (by omega)
  obtain ⟨a2, h2⟩ := key 2 (by omega)
  obtain ⟨a3, h3⟩ := key 3 (by omega)
  obtain ⟨a4, h4⟩ := key 4 (by omega)
  obtain ⟨a5, h5⟩ := key 5 (by omega)
  obtain ⟨a6, h6⟩ := key 6 (by omega)
  refine ⟨⟨a0, a1, a2, a3, a4, a5, a6⟩, congrArg Value.agg (Array.ext_getElem? fun i => ?_)⟩
  by_cases hi : i < 7
  · have h' : i = 0 ∨ i = 1 ∨ i = 2 ∨ i = 3 ∨ i = 4 ∨ i = 5 ∨ i = 6 := by omega
    rcases h' with rfl | rfl | rfl | rfl | rfl | rfl | rfl <;> simp [*]
  · rw [Array.getElem?_eq_none (by omega), Array.getElem?_eq_none (by simp; omega)]
end Go.Proofs.Ytljalbcmhcagaaa.Way
