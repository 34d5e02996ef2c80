/-
  OPENING WHAT CAME IN: structs by value, their cells, each of its own kind; slices of whatever elements. No program is looked into here.
-/
import Derived.Test.YtamemmbcdkhdhaaFrame
import Derived.Deep.Strs
namespace Go.Proofs.Ytamemmbcdkhdhaa.Open
open Go.WideShapes Go.RowKit
section
variable {P : Program} {W : World} {r : Reach} {base : Nat} {t : TypeId} {v : Value}

theorem agg_cells {fs : Array Field} {ts : List TypeId} (ht : P.underlying t = some (.struct fs)) (hts : P.cellTypes P.depth t = some ts) (h : Value.okWide P W r base t v) :
    ∃ cs, v = .agg cs ∧ cs.size = P.cellsOf t ∧ ∀ i c, cs[i]? = some c → ∃ u, ts[i % ts.length]? = some u ∧ Cell.okWide P W r base u c := by
  simp only [Value.okWide, ht] at h
  obtain ⟨cs, h1, h2, ts', h3, _, h5⟩ := h
  rw [hts] at h3
  cases h3
  exact ⟨cs, h1, h2, h5⟩
theorem cell_int {u : TypeId} {k : IntKind} {c : Value} (hu : P.underlying u = some (.int k)) (h : Cell.okWide P W r base u c) : ∃ n, c = .int k n ∧ k.min ≤ n ∧ n ≤ k.max := by
  simp only [Cell.okWide, hu] at h
  cases c <;> simp_all [Cell.ok, IntKind.has]
theorem cell_bool {u : TypeId} {c : Value} (hu : P.underlying u = some .bool) (h : Cell.okWide P W r base u c) : ∃ b, c = .bool b := by
  simp only [Cell.okWide, hu] at h
  cases c <;> simp_all [Cell.ok]
theorem cell_slice {u e : TypeId} {c : Value} (hu : P.underlying u = some (.slice e)) (h : Cell.okWide P W r base u c) : ∃ a l k, c = .slice a l k := by
  simp only [Cell.okWide, hu] at h
  cases c <;> simp_all [Cell.ok]
end

section
variable {H : Type} {enc : TypeId × Value → H} {P : Program} {W : World} {fuel : Nat} {t e : TypeId} {cs : List Value} {x : DataW H × List MemPlace} {k : Nat}
/-- A SLICE THAT CAME IN, WHATEVER ITS ELEMENTS: each element's cells, and that they read as data. -/
theorem slice (ht : P.underlying t = some (.slice e)) (hk : P.cellsOf e = k) (hk0 : 0 < k) (h : DataW.trod enc P W 0 (fun _ => true) true fuel t cs = some x) :
    ∃ (a : Option Addr) (len cap : Nat), cs = [.slice a len cap] ∧ len ≤ cap ∧ cap ≤ maxLen ∧ (a = none → cap = 0) ∧ (0 < len → ∃ b off, a = some ⟨b, off, none⟩ ∧ b < W.heap.size) ∧
      ∀ b off, a = some ⟨b, off, none⟩ → ∀ i, i < len → ∃ cs' n x', cs'.length = k ∧ (∀ j, j < k → W.cell? ⟨b, off + i * k + j, none⟩ = cs'[j]?) ∧ DataW.trod enc P W 0 (fun _ => true) true n e cs' = some x' := by
  rcases Deep.open_slice ht h with ⟨rfl, rfl⟩ | ⟨a, len, cap, m, n, D, Pl, rfl, _, hl, hm, hmm, rfl, hx⟩
  · exact ⟨none, 0, 0, rfl, Nat.le_refl _, Nat.zero_le _, fun _ => rfl, fun h => absurd h (Nat.lt_irrefl _), fun _ _ h => by cases h⟩
  · simp only [if_true] at hmm
    subst hmm
    have key : ∀ i, i < len → ∃ cs', cs'.length = k ∧ (∀ j, j < k → W.cell? ((a.add (i * k)).add j) = cs'[j]?) ∧ ∃ n x', DataW.trod enc P W 0 (fun _ => true) true n e cs' = some x' := by
      intro i hi
      obtain ⟨cs', h1, h2⟩ := hx i (by omega)
      rw [hk] at h1
      obtain ⟨_, h3, h4⟩ := World.cells?_some h1
      exact ⟨cs', h3, h4, _, _, h2⟩
    have add_none : ∀ (b o j : Nat), (⟨b, o, none⟩ : Addr).add j = ⟨b, o + j, none⟩ := by intro b o j; unfold Addr.add; split <;> simp_all
    refine ⟨some a, len, m, rfl, hl, hm, (fun h => by cases h), fun h0 => ?_, fun b off hab i hi => ?_⟩
    · obtain ⟨cs', h1, h2, _⟩ := key 0 h0
      have h3 := h2 0 hk0
      rw [List.getElem?_eq_getElem (by omega)] at h3
      obtain ⟨b, off, s⟩ := a
      have hs : s = none := by
        have := World.cell?_spot h3
        unfold Addr.add at this
        cases s with
        | none => rfl
        | some s => simp at this
      subst hs
      refine ⟨b, off, rfl, ?_⟩
      rw [add_none, add_none] at h3
      by_cases hb : b < W.heap.size
      · exact hb
      · exfalso
        have : W.heap[b]? = none := by simp; omega
        simp [World.cell?, this] at h3
    · cases hab
      obtain ⟨cs', h1, h2, n, x', h3⟩ := key i hi
      refine ⟨cs', n, x', h1, fun j hj => ?_, h3⟩
      have := h2 j hj
      rwa [add_none, add_none] at this
end
end Go.Proofs.Ytamemmbcdkhdhaa.Open
