/-
  A list of calls that came in: what it reads as.
-/
import Derived.Test.YtmdhpjbahenbhaaAlike
import Derived.Test.YtmdhpjbahenbhaaOpen2
namespace Go.Proofs.Ytmdhpjbahenbhaa.Open
open Go.ChangeShapes Go.WideShapes Go.RowKit Mem Net
set_option linter.unusedVariables false
/-- Calls in a row. -/
structure ReadsA (W : World) (p : Option Addr) (n c : Nat) (zs : List (A × Value)) : Prop where
  len : zs.length = n
  le : n ≤ c ∧ c ≤ maxLen
  at_ : ∀ (i : Nat) z, zs[i]? = some z → ∃ b off, p = some ⟨b, off, none⟩ ∧ b < W.heap.size ∧ W.rangeAt b (off + i * 10) (rowA z.1 z.2).toList ∧ z.1.ok ∧ z.2.oneCell' = true ∧ Reads .u8 W z.2 z.1.bytes
section
variable {H : Type} {enc : TypeId × Value → H} {W : World}
theorem addr {fuel : Nat} {cs : List Value} {x : DataW H × List MemPlace} (h : DataW.trod enc Try.prog W 0 (fun _ => true) true fuel 30 cs = some x) : ∃ a b, cs = [.int .i64 a, .int .i64 b] ∧ i64 a ∧ i64 b := by
  obtain ⟨hl, hf⟩ := field Try.underlying30 h
  rw [show Try.prog.cellsOf 30 = 2 from by kernel_rfl] at hl
  match cs, hl with
  | [c0, c1], _ =>
    obtain ⟨n0, y0, h0, _⟩ := hf 0 _ rfl
    obtain ⟨n1, y1, h1, _⟩ := hf 1 _ rfl
    obtain ⟨a0, e0, _, w0⟩ := DataW.trod_int Try.underlying3 h0
    obtain ⟨a1, e1, _, w1⟩ := DataW.trod_int Try.underlying3 h1
    have k3 : Try.prog.cellsOf 3 = 1 := by kernel_rfl
    simp [k3] at e0 e1
    subst e0; subst e1
    exact ⟨a0, a1, rfl, bounds_i64 w0, bounds_i64 w1⟩
theorem act {fuel : Nat} {cs : List Value} {x : DataW H × List MemPlace} (h : DataW.trod enc Try.prog W 0 (fun _ => true) true fuel 52 cs = some x) :
    ∃ (a : A) (p : Option Addr) (c : Nat), cs = (rowA a (.slice p a.bytes.length c)).toList ∧ (Sz Try.prog 52 x.1 → a.ok) ∧ Reads .u8 W (.slice p a.bytes.length c) a.bytes := by
  obtain ⟨hl, hf⟩ := field Try.underlying52 h
  rw [show Try.prog.cellsOf 52 = 10 from by kernel_rfl] at hl
  match cs, hl with
  | [c0, c1, c2, c3, c4, c5, c6, c7, c8, c9], _ =>
    obtain ⟨n0, y0, h0, _⟩ := hf 0 _ rfl
    obtain ⟨n1, y1, h1, _⟩ := hf 1 _ rfl
    obtain ⟨n2, y2, h2, _⟩ := hf 2 _ rfl
    obtain ⟨n3, y3, h3, _⟩ := hf 3 _ rfl
    obtain ⟨n4, y4, h4, _⟩ := hf 4 _ rfl
    obtain ⟨n5, y5, h5, s5⟩ := hf 5 _ rfl
    obtain ⟨n6, y6, h6, _⟩ := hf 6 _ rfl
    obtain ⟨n7, y7, h7, _⟩ := hf 7 _ rfl
    obtain ⟨a0, e0, _, w0⟩ := DataW.trod_int Try.underlying3 h0
    obtain ⟨a1, e1, _, w1⟩ := DataW.trod_int Try.underlying3 h1
    obtain ⟨a2, e2, _, w2⟩ := DataW.trod_int Try.underlying3 h2
    obtain ⟨f1, f2, e3, w3, w4⟩ := addr h3
    obtain ⟨t1, t2, e4, w5, w6⟩ := addr h4
    obtain ⟨p, c, xs, e5, hr, hw, hs⟩ := ints Try.underlying31 Try.underlying5 (by kernel_rfl) h5
    rw [show Try.prog.bytesOf 5 = 1 from by kernel_rfl] at hs
    obtain ⟨a6, e6, _, w7⟩ := DataW.trod_int Try.underlying5 h6
    obtain ⟨a7, e7, _⟩ := DataW.trod_bool Try.underlying4 h7
    have k3 : Try.prog.cellsOf 3 = 1 := by kernel_rfl
    have k4 : Try.prog.cellsOf 4 = 1 := by kernel_rfl
    have k5 : Try.prog.cellsOf 5 = 1 := by kernel_rfl
    have k30 : Try.prog.cellsOf 30 = 2 := by kernel_rfl
    have k31 : Try.prog.cellsOf 31 = 1 := by kernel_rfl
    simp [k3, k4, k5, k30, k31] at e0 e1 e2 e3 e4 e5 e6 e7
    subst e0; subst e1; subst e2; subst e5; subst e6; subst e7
    obtain ⟨rfl, rfl⟩ := e3
    obtain ⟨rfl, rfl⟩ := e4
    refine ⟨⟨a0, a1, a2, f1, f2, t1, t2, xs, a6, a7⟩, p, c, rfl, fun h => ⟨bounds_i64 w0, bounds_i64 w2, bounds_u8 w7, fun z hz => bounds_u8 (hw z hz), ?_⟩, hr⟩
    have := hs (s5 h)
    simp only [reachBytes] at this
    show xs.length ≤ _
    omega
theorem acts {v : Value} {d : DataW H} {p : List MemPlace} {base : Nat} (hv : Value.okWide Try.prog W .any base 42 v) (h : DataW.Trod enc Try.prog W 0 (fun _ => true) true 42 v d p) (hs : Sz Try.prog 42 d) :
    ∃ p n c zs, v = .slice p n c ∧ ReadsA W p n c zs := by
  obtain ⟨a, len, cap, rfl⟩ := okWide_slice Try.underlying42 hv
  obtain ⟨fuel, hf⟩ := h
  obtain ⟨a', len', cap', e, h1, h2, h3, h4, h5, h6⟩ := elems (k := 10) Try.underlying42 (by kernel_rfl) (by decide) hf
  simp [Value.cells] at e
  obtain ⟨rfl, rfl, rfl⟩ := e
  rcases Nat.eq_zero_or_pos len with h0 | h0
  · subst h0
    exact ⟨a, 0, cap, [], rfl, rfl, ⟨h1, h2⟩, fun i z hz => by simp at hz⟩
  · obtain ⟨b, off, rfl, hb⟩ := h4 h0
    have key : ∀ i : Fin len, ∃ z : A × Value, W.rangeAt b (off + i.1 * 10) (rowA z.1 z.2).toList ∧ z.1.ok ∧ z.2.oneCell' = true ∧ Reads .u8 W z.2 z.1.bytes := by
      intro i
      obtain ⟨cs', n, y, k1, k2, k3, k4⟩ := h6 b off rfl i.1 i.2
      obtain ⟨x, px, cx, rfl, o1, o2⟩ := act k3
      refine ⟨(x, .slice px x.bytes.length cx), fun j v hj => ?_, o1 (k4 hs), rfl, o2⟩
      have hj10 : j < 10 := (List.getElem?_eq_some_iff.1 hj).1
      rw [k2 j hj10]
      exact hj
    obtain ⟨f, hf⟩ := Classical.axiomOfChoice key
    refine ⟨some ⟨b, off, none⟩, len, cap, List.ofFn f, rfl, by simp, ⟨h1, h2⟩, fun i z hz => ?_⟩
    have hi : i < len := by have := (List.getElem?_eq_some_iff.1 hz).1; simpa using this
    have e : f ⟨i, hi⟩ = z := by simpa [hi] using hz
    obtain ⟨g1, g2, g3, g4⟩ := hf ⟨i, hi⟩
    rw [e] at g1 g2 g3 g4
    exact ⟨b, off, rfl, hb, g1, g2, g3, g4⟩
end
end Go.Proofs.Ytmdhpjbahenbhaa.Open
