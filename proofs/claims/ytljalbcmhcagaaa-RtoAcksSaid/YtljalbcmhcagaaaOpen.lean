/-
  OPENING STRUCTS THAT CAME IN BY VALUE: their cells, each of its own kind. No program is looked into here.
-/
import Derived.Test.YtljalbcmhcagaaaFrame
namespace Go.Proofs.Ytljalbcmhcagaaa.Open
open Go.WideShapes Go.RowKit
section
variable {P : Program} {W : World} {r : Reach} {base : Nat} {t : TypeId} {v : Value}

theorem agg_cells {fs : Array Field} {ts : List TypeId} (ht : P.underlying t = some (.struct fs)) (hts : P.cellTypes P.depth t = some ts) (h : Value.okWide P W r base t v) :
    ∃ cs, v = .agg cs ∧ cs.size = P.cellsOf t ∧ ∀ i c, cs[i]? = some c → ∃ u, ts[i % ts.length]? = some u ∧ Cell.okWide P W r base u c := by
  simp only [Value.okWide, ht] at h
  obtain ⟨cs, h1, h2, ts', h3, _, h5⟩ := h
  rw [hts] at h3
  cases h3
  exact ⟨cs, h1, h2, h5⟩
theorem cell_int {u : TypeId} {k : IntKind} {c : Value} (hu : P.underlying u = some (.int k)) (h : Cell.okWide P W r base u c) : ∃ n, c = .int k n ∧ k.min ≤ n ∧ n ≤ k.max := by
  simp only [Cell.okWide, hu] at h
  cases c <;> simp_all [Cell.ok, IntKind.has]
theorem cell_bool {u : TypeId} {c : Value} (hu : P.underlying u = some .bool) (h : Cell.okWide P W r base u c) : ∃ b, c = .bool b := by
  simp only [Cell.okWide, hu] at h
  cases c <;> simp_all [Cell.ok]
theorem cell_slice {u e : TypeId} {c : Value} (hu : P.underlying u = some (.slice e)) (h : Cell.okWide P W r base u c) : ∃ a l k, c = .slice a l k := by
  simp only [Cell.okWide, hu] at h
  cases c <;> simp_all [Cell.ok]
end
end Go.Proofs.Ytljalbcmhcagaaa.Open
