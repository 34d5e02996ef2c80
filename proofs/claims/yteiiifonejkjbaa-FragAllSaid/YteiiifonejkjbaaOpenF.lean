/-
  What comes in: messages; lists of messages and how they are cut; lists of pieces. Written by gen_openf.py.
-/
import Derived.Test.YteiiifonejkjbaaCutI
namespace Go.Proofs.Yteiiifonejkjbaa.Open
open Go.ChangeShapes Go.WideShapes Go.RowKit Mem Pcs
set_option linter.unusedVariables false
set_option linter.unusedSimpArgs false
/-- A message. -/
structure G where
  s : Int
  data : List Int
/-- A message, and how it is cut. -/
structure C where
  s : Int
  data : List Int
  un : Bool
  z : Int
def bytesOk (xs : List Int) : Prop := ∀ z ∈ xs, 0 ≤ z ∧ z ≤ 255
def G.ok (a : G) : Prop := (0 ≤ a.s ∧ a.s ≤ 65535) ∧ bytesOk a.data
def C.ok (a : C) : Prop := (0 ≤ a.s ∧ a.s ≤ 65535) ∧ bytesOk a.data ∧ -9223372036854775808 ≤ a.z ∧ a.z ≤ 9223372036854775807
def _root_.Go.Proofs.Yteiiifonejkjbaa.Pcs.A.ok (a : A) : Prop := (0 ≤ a.tsn ∧ a.tsn ≤ 4294967295) ∧ (0 ≤ a.stream ∧ a.stream ≤ 65535) ∧ (0 ≤ a.seq ∧ a.seq ≤ 65535) ∧ bytesOk a.data
def rowG (a : G) (d : Value) : List Value := [.int .u16 a.s, d]
def rowC (a : C) (d : Value) : List Value := [.int .u16 a.s, d, .bool a.un, .int .i64 a.z]
/-- The slice v reads as these. -/
def ReadsC (W : World) (v : Value) (al : List C) : Prop := ∃ p c, v = .slice p al.length c ∧ al.length ≤ c ∧ c ≤ maxLen ∧ ∀ i x, al[i]? = some x → ∃ b off d, p = some ⟨b, off, none⟩ ∧ b < W.heap.size ∧ W.rangeAt b (off + i * 4) (rowC x d) ∧ Reads .u8 W d x.data
def ReadsE (W : World) (v : Value) (al : List A) : Prop := ∃ p c, v = .slice p al.length c ∧ al.length ≤ c ∧ c ≤ maxLen ∧ ∀ i x, al[i]? = some x → ∃ b off d, p = some ⟨b, off, none⟩ ∧ b < W.heap.size ∧ W.rangeAt b (off + i * 7) (row x d) ∧ Reads .u8 W d x.data
section
variable {H : Type} {enc : TypeId × Value → H} {W : World}
theorem mesg {fuel : Nat} {cs : List Value} {x : DataW H × List MemPlace} (h : DataW.trod enc Try.prog W 0 (fun _ => true) true fuel 32 cs = some x) :
    ∃ (a : G) (p : Option Addr) (c : Nat), cs = rowG a (.slice p a.data.length c) ∧ a.ok ∧ Reads .u8 W (.slice p a.data.length c) a.data ∧ (Sz Try.prog 32 x.1 → a.data.length ≤ 140737488351232) := by
  obtain ⟨hl, hf⟩ := field Try.underlying32 h
  rw [show Try.prog.cellsOf 32 = 2 from by kernel_rfl] at hl
  match cs, hl with
  | [c0, c1], _ =>
    obtain ⟨n0, y0, h0, s0⟩ := hf 0 _ rfl
    obtain ⟨n1, y1, h1, s1⟩ := hf 1 _ rfl
    obtain ⟨a0, e0, _, w0⟩ := DataW.trod_int Try.underlying26 h0
    obtain ⟨p, c, xs, e1, hr, hw, hs⟩ := ints Try.underlying30 Try.underlying5 (by kernel_rfl) h1
    rw [show Try.prog.bytesOf 5 = 1 from by kernel_rfl] at hs
    have k26 : Try.prog.cellsOf 26 = 1 := by kernel_rfl
    have k30 : Try.prog.cellsOf 30 = 1 := by kernel_rfl
    simp [k26, k30] at e0 e1
    subst e0; subst e1
    refine ⟨⟨a0, xs⟩, p, c, rfl, ⟨?_, ?_⟩, hr, fun h => ?_⟩
    · have := bounds_u16 w0; omega
    · intro z hz
      have := bounds_u8 (hw z hz)
      omega
    · have := hs (s1 h)
      simp only [reachBytes] at this
      show xs.length ≤ _
      omega
theorem cut1 {fuel : Nat} {cs : List Value} {x : DataW H × List MemPlace} (h : DataW.trod enc Try.prog W 0 (fun _ => true) true fuel 34 cs = some x) :
    ∃ (a : C) (p : Option Addr) (c : Nat), cs = rowC a (.slice p a.data.length c) ∧ a.ok ∧ Reads .u8 W (.slice p a.data.length c) a.data ∧ (Sz Try.prog 34 x.1 → a.data.length ≤ 140737488351232) := by
  obtain ⟨hl, hf⟩ := field Try.underlying34 h
  rw [show Try.prog.cellsOf 34 = 4 from by kernel_rfl] at hl
  match cs, hl with
  | [c0, c1, c2, c3], _ =>
    obtain ⟨n0, y0, h0, s0⟩ := hf 0 _ rfl
    obtain ⟨n1, y1, h1, s1⟩ := hf 1 _ rfl
    obtain ⟨n2, y2, h2, s2⟩ := hf 2 _ rfl
    obtain ⟨g, p, c, e0, o1, o2, o3⟩ := mesg h0
    obtain ⟨a1, e1, _⟩ := DataW.trod_bool Try.underlying4 h1
    obtain ⟨a2, e2, _, w2⟩ := DataW.trod_int Try.underlying3 h2
    have k3 : Try.prog.cellsOf 3 = 1 := by kernel_rfl
    have k4 : Try.prog.cellsOf 4 = 1 := by kernel_rfl
    have k32 : Try.prog.cellsOf 32 = 2 := by kernel_rfl
    simp [k3, k4, k32, rowG] at e0 e1 e2
    obtain ⟨rfl, rfl⟩ := e0
    subst e1; subst e2
    refine ⟨⟨g.s, g.data, a1, a2⟩, p, c, rfl, ⟨o1.1, o1.2, bounds_i64 w2⟩, o2, fun h => o3 (s0 h)⟩
theorem piece {fuel : Nat} {cs : List Value} {x : DataW H × List MemPlace} (h : DataW.trod enc Try.prog W 0 (fun _ => true) true fuel 45 cs = some x) :
    ∃ (a : A) (p : Option Addr) (c : Nat), cs = row a (.slice p a.data.length c) ∧ a.ok ∧ Reads .u8 W (.slice p a.data.length c) a.data ∧ (Sz Try.prog 45 x.1 → a.data.length ≤ 140737488351232) := by
  obtain ⟨hl, hf⟩ := field Try.underlying45 h
  rw [show Try.prog.cellsOf 45 = 7 from by kernel_rfl] at hl
  match cs, hl with
  | [c0, c1, c2, c3, c4, c5, c6], _ =>
    obtain ⟨n0, y0, h0, s0⟩ := hf 0 _ rfl
    obtain ⟨n1, y1, h1, s1⟩ := hf 1 _ rfl
    obtain ⟨n2, y2, h2, s2⟩ := hf 2 _ rfl
    obtain ⟨n3, y3, h3, s3⟩ := hf 3 _ rfl
    obtain ⟨n4, y4, h4, s4⟩ := hf 4 _ rfl
    obtain ⟨n5, y5, h5, s5⟩ := hf 5 _ rfl
    obtain ⟨n6, y6, h6, s6⟩ := hf 6 _ rfl
    obtain ⟨a0, e0, _, w0⟩ := DataW.trod_int Try.underlying43 h0
    obtain ⟨a1, e1, _, w1⟩ := DataW.trod_int Try.underlying26 h1
    obtain ⟨a2, e2, _, w2⟩ := DataW.trod_int Try.underlying26 h2
    obtain ⟨a3, e3, _⟩ := DataW.trod_bool Try.underlying4 h3
    obtain ⟨a4, e4, _⟩ := DataW.trod_bool Try.underlying4 h4
    obtain ⟨a5, e5, _⟩ := DataW.trod_bool Try.underlying4 h5
    obtain ⟨p, c, xs, e6, hr, hw, hs⟩ := ints Try.underlying30 Try.underlying5 (by kernel_rfl) h6
    rw [show Try.prog.bytesOf 5 = 1 from by kernel_rfl] at hs
    have k4 : Try.prog.cellsOf 4 = 1 := by kernel_rfl
    have k26 : Try.prog.cellsOf 26 = 1 := by kernel_rfl
    have k30 : Try.prog.cellsOf 30 = 1 := by kernel_rfl
    have k43 : Try.prog.cellsOf 43 = 1 := by kernel_rfl
    simp [k4, k26, k30, k43] at e0 e1 e2 e3 e4 e5 e6
    subst e0; subst e1; subst e2; subst e3; subst e4; subst e5; subst e6
    refine ⟨⟨a0, a1, a2, a3, a4, a5, xs⟩, p, c, rfl, ⟨?_, ?_, ?_, ?_⟩, hr, fun h => ?_⟩
    · have := bounds_u32 w0; omega
    · have := bounds_u16 w1; omega
    · have := bounds_u16 w2; omega
    · intro z hz
      have := bounds_u8 (hw z hz)
      omega
    · have := hs (s6 h)
      simp only [reachBytes] at this
      show xs.length ≤ _
      omega
theorem cuts {v : Value} {d : DataW H} {p : List MemPlace} {base : Nat} (hv : Value.okWide Try.prog W .any base 22 v) (h : DataW.Trod enc Try.prog W 0 (fun _ => true) true 22 v d p) :
    ∃ al, ReadsC W v al ∧ (∀ a ∈ al, a.ok) ∧ (Sz Try.prog 22 d → ∀ a ∈ al, a.data.length ≤ 140737488351232) := by
  obtain ⟨a, len, cap, rfl⟩ := okWide_slice Try.underlying22 hv
  obtain ⟨fuel, hf⟩ := h
  obtain ⟨a', len', cap', e, h1, h2, h3, h4, h5, h6⟩ := elems (k := 4) Try.underlying22 (by kernel_rfl) (by decide) hf
  simp [Value.cells] at e
  obtain ⟨rfl, rfl, rfl⟩ := e
  rcases Nat.eq_zero_or_pos len with h0 | h0
  · subst h0
    exact ⟨[], ⟨a, cap, rfl, h1, h2, fun i x hx => by simp at hx⟩, (fun x hx => by cases hx), fun _ x hx => by cases hx⟩
  · obtain ⟨b, off, rfl, hb⟩ := h4 h0
    have key : ∀ i : Fin len, ∃ z : C × Value, (∀ j, j < 4 → W.cell? ⟨b, off + i.1 * 4 + j, none⟩ = (rowC z.1 z.2)[j]?) ∧ z.1.ok ∧ Reads .u8 W z.2 z.1.data ∧ (Sz Try.prog 22 d → z.1.data.length ≤ 140737488351232) := by
      intro i
      obtain ⟨cs', n, y, k1, k2, k3, k4⟩ := h6 b off rfl i.1 i.2
      obtain ⟨y', px, cx, rfl, o1, o2, o3⟩ := cut1 k3
      exact ⟨(y', .slice px y'.data.length cx), k2, o1, o2, fun hs => o3 (k4 hs)⟩
    obtain ⟨f, hf⟩ := Classical.axiomOfChoice key
    have hmem : ∀ z ∈ List.ofFn f, ∃ i : Fin len, f i = z := fun z hz => by simpa using hz
    refine ⟨(List.ofFn f).map Prod.fst, ⟨some ⟨b, off, none⟩, cap, by simp, by simpa using h1, h2, fun i x hx => ?_⟩, ?_, ?_⟩
    · have hi : i < len := by have := (List.getElem?_eq_some_iff.1 hx).1; simpa using this
      have e1 : x = (f ⟨i, hi⟩).1 := by simpa [hi] using hx.symm
      refine ⟨b, off, (f ⟨i, hi⟩).2, rfl, hb, fun j u hj => ?_, ?_⟩
      · have hj5 : j < 4 := (List.getElem?_eq_some_iff.1 hj).1
        rw [(hf ⟨i, hi⟩).1 j hj5, ← e1]
        exact hj
      · rw [e1]; exact (hf ⟨i, hi⟩).2.2.1
    · intro x hx
      obtain ⟨z, hz, rfl⟩ := List.mem_map.1 hx
      obtain ⟨i, rfl⟩ := hmem z hz
      exact (hf i).2.1
    · intro hs x hx
      obtain ⟨z, hz, rfl⟩ := List.mem_map.1 hx
      obtain ⟨i, rfl⟩ := hmem z hz
      exact (hf i).2.2.2 hs
theorem pieces {v : Value} {d : DataW H} {p : List MemPlace} {base : Nat} (hv : Value.okWide Try.prog W .any base 35 v) (h : DataW.Trod enc Try.prog W 0 (fun _ => true) true 35 v d p) :
    ∃ al, ReadsE W v al ∧ (∀ a ∈ al, a.ok) ∧ (Sz Try.prog 35 d → ∀ a ∈ al, a.data.length ≤ 140737488351232) := by
  obtain ⟨a, len, cap, rfl⟩ := okWide_slice Try.underlying35 hv
  obtain ⟨fuel, hf⟩ := h
  obtain ⟨a', len', cap', e, h1, h2, h3, h4, h5, h6⟩ := elems (k := 7) Try.underlying35 (by kernel_rfl) (by decide) hf
  simp [Value.cells] at e
  obtain ⟨rfl, rfl, rfl⟩ := e
  rcases Nat.eq_zero_or_pos len with h0 | h0
  · subst h0
    exact ⟨[], ⟨a, cap, rfl, h1, h2, fun i x hx => by simp at hx⟩, (fun x hx => by cases hx), fun _ x hx => by cases hx⟩
  · obtain ⟨b, off, rfl, hb⟩ := h4 h0
    have key : ∀ i : Fin len, ∃ z : A × Value, (∀ j, j < 7 → W.cell? ⟨b, off + i.1 * 7 + j, none⟩ = (row z.1 z.2)[j]?) ∧ z.1.ok ∧ Reads .u8 W z.2 z.1.data ∧ (Sz Try.prog 35 d → z.1.data.length ≤ 140737488351232) := by
      intro i
      obtain ⟨cs', n, y, k1, k2, k3, k4⟩ := h6 b off rfl i.1 i.2
      obtain ⟨y', px, cx, rfl, o1, o2, o3⟩ := piece k3
      exact ⟨(y', .slice px y'.data.length cx), k2, o1, o2, fun hs => o3 (k4 hs)⟩
    obtain ⟨f, hf⟩ := Classical.axiomOfChoice key
    have hmem : ∀ z ∈ List.ofFn f, ∃ i : Fin len, f i = z := fun z hz => by simpa using hz
    refine ⟨(List.ofFn f).map Prod.fst, ⟨some ⟨b, off, none⟩, cap, by simp, by simpa using h1, h2, fun i x hx => ?_⟩, ?_, ?_⟩
    · have hi : i < len := by have := (List.getElem?_eq_some_iff.1 hx).1; simpa using this
      have e1 : x = (f ⟨i, hi⟩).1 := by simpa [hi] using hx.symm
      refine ⟨b, off, (f ⟨i, hi⟩).2, rfl, hb, fun j u hj => ?_, ?_⟩
      · have hj5 : j < 7 := (List.getElem?_eq_some_iff.1 hj).1
        rw [(hf ⟨i, hi⟩).1 j hj5, ← e1]
        exact hj
      · rw [e1]; exact (hf ⟨i, hi⟩).2.2.1
    · intro x hx
      obtain ⟨z, hz, rfl⟩ := List.mem_map.1 hx
      obtain ⟨i, rfl⟩ := hmem z hz
      exact (hf i).2.1
    · intro hs x hx
      obtain ⟨z, hz, rfl⟩ := List.mem_map.1 hx
      obtain ⟨i, rfl⟩ := hmem z hz
      exact (hf i).2.2.2 hs
theorem message {v : Value} {d : DataW H} {p : List MemPlace} {base : Nat} (hv : Value.okWide Try.prog W .any base 32 v) (h : DataW.Trod enc Try.prog W 0 (fun _ => true) true 32 v d p) :
    ∃ (s : Int) (u : Value) (xs : List Int), v = .agg #[.int .u16 s, u] ∧ (0 ≤ s ∧ s ≤ 65535) ∧ bytesOk xs ∧ Reads .u8 W u xs ∧ (Sz Try.prog 32 d → xs.length ≤ 140737488351232) := by
  obtain ⟨cs, rfl, hcs, hw⟩ := agg_cells (ts := [26, 30]) Try.underlying32 (by kernel_rfl) hv
  rw [show Try.prog.cellsOf 32 = 2 from by kernel_rfl] at hcs
  obtain ⟨fuel, hf⟩ := h
  match cs, hcs with
  | ⟨[c0, c1]⟩, _ =>
    obtain ⟨g, p, c, e0, o1, o2, o3⟩ := mesg hf
    have e0 : [c0, c1] = rowG g (.slice p g.data.length c) := by simpa [Value.cells] using e0
    simp [rowG] at e0
    obtain ⟨rfl, rfl⟩ := e0
    exact ⟨g.s, _, g.data, rfl, o1.1, o1.2, o2, o3⟩
end
end Go.Proofs.Yteiiifonejkjbaa.Open
