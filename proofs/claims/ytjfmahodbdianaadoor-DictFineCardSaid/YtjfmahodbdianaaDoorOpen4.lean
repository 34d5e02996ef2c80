/-
  A list of rules that came in: what it reads as.
-/
import Derived.Test.YtjfmahodbdianaaDoorOpen3
import Derived.Test.YtjfmahodbdianaaDoorSound0
namespace Go.Proofs.YtjfmahodbdianaaDoor.Open
open Go.ChangeShapes Go.WideShapes Go.RowKit Mem Rule
set_option linter.unusedVariables false
section
variable {H : Type} {enc : TypeId × Value → H} {W : World}
theorem rule {fuel : Nat} {cs : List Value} {x : DataW H × List MemPlace} (h : DataW.trod enc Tryd.prog W 0 (fun _ => true) true fuel 37 cs = some x) :
    ∃ r : R, cs = (rowR r).toList ∧ r.ok := by
  obtain ⟨hl, hf⟩ := field Tryd.underlying37 h
  rw [show Tryd.prog.cellsOf 37 = 6 from by kernel_rfl] at hl
  match cs, hl with
  | [c0, c1, c2, c3, c4, c5], _ =>
    obtain ⟨n0, y0, h0, _⟩ := hf 0 _ rfl
    obtain ⟨n1, y1, h1, _⟩ := hf 1 _ rfl
    obtain ⟨n2, y2, h2, _⟩ := hf 2 _ rfl
    obtain ⟨n3, y3, h3, _⟩ := hf 3 _ rfl
    obtain ⟨n4, y4, h4, _⟩ := hf 4 _ rfl
    obtain ⟨n5, y5, h5, _⟩ := hf 5 _ rfl
    obtain ⟨a0, e0, _, w0⟩ := DataW.trod_int Tryd.underlying33 h0
    obtain ⟨a1, e1, _, w1⟩ := DataW.trod_int Tryd.underlying33 h1
    obtain ⟨a2, e2, _, w2⟩ := DataW.trod_int Tryd.underlying3 h2
    obtain ⟨a3, e3, _⟩ := DataW.trod_bool Tryd.underlying4 h3
    obtain ⟨a4, e4, _, w4⟩ := DataW.trod_int Tryd.underlying3 h4
    obtain ⟨a5, e5, _, w5⟩ := DataW.trod_int Tryd.underlying3 h5
    have k39 : Tryd.prog.cellsOf 33 = 1 := by kernel_rfl
    have k4 : Tryd.prog.cellsOf 4 = 1 := by kernel_rfl
    have k3 : Tryd.prog.cellsOf 3 = 1 := by kernel_rfl
    simp [k39, k4, k3] at e0 e1 e2 e3 e4 e5
    subst e0; subst e1; subst e2; subst e3; subst e4; subst e5
    have b0 := bounds_u32 w0
    have b1 := bounds_u32 w1
    have b2 := bounds_i64 w2
    have b4 := bounds_i64 w4
    have b5 := bounds_i64 w5
    exact ⟨⟨a0, a1, a2, a3, a4, a5⟩, rfl, ⟨by show 0 ≤ a0; omega, by show a0 ≤ _; omega⟩, ⟨by show 0 ≤ a1; omega, by show a1 ≤ _; omega⟩, ⟨by show _ ≤ a2; omega, by show a2 ≤ _; omega⟩, ⟨by show _ ≤ a4; omega, by show a4 ≤ _; omega⟩, ⟨by show _ ≤ a5; omega, by show a5 ≤ _; omega⟩⟩
theorem rules {v : Value} {d : DataW H} {p : List MemPlace} {base : Nat} (hv : Value.okWide Tryd.prog W .any base 22 v) (h : DataW.Trod enc Tryd.prog W 0 (fun _ => true) true 22 v d p) :
    ∃ rs, ReadsR W v rs ∧ ∀ r ∈ rs, r.ok := by
  obtain ⟨a, len, cap, rfl⟩ := okWide_slice Tryd.underlying22 hv
  obtain ⟨fuel, hf⟩ := h
  obtain ⟨a', len', cap', e, h1, h2, h3, h4, h5, h6⟩ := elems (k := 6) Tryd.underlying22 (by kernel_rfl) (by decide) hf
  simp [Value.cells] at e
  obtain ⟨rfl, rfl, rfl⟩ := e
  rcases Nat.eq_zero_or_pos len with h0 | h0
  · subst h0
    exact ⟨[], ⟨a, cap, rfl, h1, h2, h3, fun h => absurd h (Nat.lt_irrefl _)⟩, fun x hx => by cases hx⟩
  · obtain ⟨b, off, rfl, hb⟩ := h4 h0
    have key : ∀ i : Fin len, ∃ r : R, (∀ j, j < 6 → W.cell? ⟨b, off + i.1 * 6 + j, none⟩ = (rowR r).toList[j]?) ∧ r.ok := by
      intro i
      obtain ⟨cs', n, y, k1, k2, k3, k4⟩ := h6 b off rfl i.1 i.2
      obtain ⟨r, rfl, o1⟩ := rule k3
      exact ⟨r, k2, o1⟩
    obtain ⟨f, hf⟩ := Classical.axiomOfChoice key
    have hlen : (List.ofFn f).length = len := by simp
    have hmem : ∀ z ∈ List.ofFn f, ∃ i : Fin len, f i = z := fun z hz => by simpa using hz
    refine ⟨List.ofFn f, ⟨some ⟨b, off, none⟩, cap, by rw [hlen], by rw [hlen]; exact h1, h2, (fun h => by cases h), fun _ => ⟨b, off, rfl, hb, fun i r hi => ?_⟩⟩, fun r hr => ?_⟩
    · have hil : i < len := by have := (List.getElem?_eq_some_iff.1 hi).1; simpa using this
      have hz : (List.ofFn f)[i]? = some (f ⟨i, hil⟩) := by simp [hil]
      rw [hz] at hi
      cases hi
      intro j u hj
      have hj6 : j < 6 := by
        have := (List.getElem?_eq_some_iff.1 hj).1
        simpa [rowR] using this
      rw [← hj, ← (hf ⟨i, hil⟩).1 j hj6]
    · obtain ⟨i, rfl⟩ := hmem r hr
      exact (hf i).2
end
end Go.Proofs.YtjfmahodbdianaaDoor.Open
