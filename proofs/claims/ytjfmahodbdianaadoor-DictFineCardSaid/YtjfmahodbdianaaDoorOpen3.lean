/-
  A list of attributes that came in: what it reads as.
-/
import Derived.Test.YtjfmahodbdianaaDoorTpls
import Derived.Test.YtjfmahodbdianaaDoorAvps
namespace Go.Proofs.YtjfmahodbdianaaDoor.Open
open Go.ChangeShapes Go.WideShapes Go.RowKit Mem Avps
set_option linter.unusedVariables false
section
variable {H : Type} {enc : TypeId × Value → H} {W : World}
theorem attr {fuel : Nat} {cs : List Value} {x : DataW H × List MemPlace} (h : DataW.trod enc Tryd.prog W 0 (fun _ => true) true fuel 35 cs = some x) :
    ∃ (a : A) (p : Option Addr) (c : Nat), cs = row a (.slice p a.data.length c) ∧ a.ok ∧ Reads .u8 W (.slice p a.data.length c) a.data ∧ (Sz Tryd.prog 35 x.1 → a.data.length ≤ 140737488351232) := by
  obtain ⟨hl, hf⟩ := field Tryd.underlying35 h
  rw [show Tryd.prog.cellsOf 35 = 5 from by kernel_rfl] at hl
  match cs, hl with
  | [c0, c1, c2, c3, c4], _ =>
    obtain ⟨n0, y0, h0, _⟩ := hf 0 _ rfl
    obtain ⟨n1, y1, h1, _⟩ := hf 1 _ rfl
    obtain ⟨n2, y2, h2, _⟩ := hf 2 _ rfl
    obtain ⟨n3, y3, h3, _⟩ := hf 3 _ rfl
    obtain ⟨n4, y4, h4, s4⟩ := hf 4 _ rfl
    obtain ⟨a0, e0, _, w0⟩ := DataW.trod_int Tryd.underlying33 h0
    obtain ⟨a1, e1, _, w1⟩ := DataW.trod_int Tryd.underlying33 h1
    obtain ⟨a2, e2, _⟩ := DataW.trod_bool Tryd.underlying4 h2
    obtain ⟨a3, e3, _⟩ := DataW.trod_bool Tryd.underlying4 h3
    obtain ⟨p, c, xs, e4, hr, hw, hs⟩ := ints Tryd.underlying32 Tryd.underlying5 (by kernel_rfl) h4
    rw [show Tryd.prog.bytesOf 5 = 1 from by kernel_rfl] at hs
    have k39 : Tryd.prog.cellsOf 33 = 1 := by kernel_rfl
    have k4 : Tryd.prog.cellsOf 4 = 1 := by kernel_rfl
    have k23 : Tryd.prog.cellsOf 32 = 1 := by kernel_rfl
    simp [k39, k4, k23] at e0 e1 e2 e3 e4
    subst e0; subst e1; subst e2; subst e3; subst e4
    refine ⟨⟨a0, a1, a2, a3, xs⟩, p, c, rfl, ⟨?_, ?_, ?_⟩, hr, fun h => ?_⟩
    · have := bounds_u32 w0; omega
    · have := bounds_u32 w1; omega
    · intro z hz
      have := bounds_u8 (hw z hz)
      omega
    · have := hs (s4 h)
      simp only [reachBytes] at this
      show xs.length ≤ _
      omega
theorem attrs {v : Value} {d : DataW H} {p : List MemPlace} {base : Nat} (hv : Value.okWide Tryd.prog W .any base 23 v) (h : DataW.Trod enc Tryd.prog W 0 (fun _ => true) true 23 v d p) :
    ∃ al, ReadsL W v al ∧ (∀ a ∈ al, a.ok) ∧ (Sz Tryd.prog 23 d → ∀ a ∈ al, a.data.length ≤ 140737488351232) := by
  obtain ⟨a, len, cap, rfl⟩ := okWide_slice Tryd.underlying23 hv
  obtain ⟨fuel, hf⟩ := h
  obtain ⟨a', len', cap', e, h1, h2, h3, h4, h5, h6⟩ := elems (k := 5) Tryd.underlying23 (by kernel_rfl) (by decide) hf
  simp [Value.cells] at e
  obtain ⟨rfl, rfl, rfl⟩ := e
  rcases Nat.eq_zero_or_pos len with h0 | h0
  · subst h0
    exact ⟨[], ⟨a, cap, [], rfl, h1, h2, h3, rfl, (fun z hz => by cases hz), fun h => absurd h (Nat.lt_irrefl _)⟩, (fun x hx => by cases hx), fun _ x hx => by cases hx⟩
  · obtain ⟨b, off, rfl, hb⟩ := h4 h0
    have key : ∀ i : Fin len, ∃ z : A × Value, (∀ j, j < 5 → W.cell? ⟨b, off + i.1 * 5 + j, none⟩ = (row z.1 z.2)[j]?) ∧ z.1.ok ∧ Reads .u8 W z.2 z.1.data ∧ (Sz Tryd.prog 23 d → z.1.data.length ≤ 140737488351232) := by
      intro i
      obtain ⟨cs', n, y, k1, k2, k3, k4⟩ := h6 b off rfl i.1 i.2
      obtain ⟨x, px, cx, rfl, o1, o2, o3⟩ := attr k3
      exact ⟨(x, .slice px x.data.length cx), k2, o1, o2, fun hs => o3 (k4 hs)⟩
    obtain ⟨f, hf⟩ := Classical.axiomOfChoice key
    have hlen : ((List.ofFn f).map Prod.fst).length = len := by simp
    have hmem : ∀ z ∈ List.ofFn f, ∃ i : Fin len, f i = z := fun z hz => by simpa using hz
    refine ⟨(List.ofFn f).map Prod.fst, ⟨some ⟨b, off, none⟩, cap, List.ofFn f, by rw [hlen], by rw [hlen]; exact h1, h2, (fun h => by cases h), rfl, ?_, ?_⟩, ?_, ?_⟩
    · intro z hz
      obtain ⟨i, rfl⟩ := hmem z hz
      exact (hf i).2.2.1
    · intro _
      refine ⟨b, off, rfl, hb, fun j hj => ?_⟩
      rw [hlen] at hj
      have hi : j / 5 < len := by omega
      have hz : (List.ofFn f)[j / 5]? = some (f ⟨j / 5, hi⟩) := by simp [hi]
      have e1 := flat_get _ (j / 5) _ hz (j % 5) (by omega)
      rw [show j / 5 * 5 + j % 5 = j by omega] at e1
      rw [e1, ← (hf ⟨j / 5, hi⟩).1 (j % 5) (by omega)]
      show W.cell? ⟨b, off + j, none⟩ = W.cell? ⟨b, off + j / 5 * 5 + j % 5, none⟩
      rw [show off + j = off + j / 5 * 5 + j % 5 by omega]
    · intro x hx
      obtain ⟨z, hz, rfl⟩ := List.mem_map.1 hx
      obtain ⟨i, rfl⟩ := hmem z hz
      exact (hf i).2.1
    · intro hs x hx
      obtain ⟨z, hz, rfl⟩ := List.mem_map.1 hx
      obtain ⟨i, rfl⟩ := hmem z hz
      exact (hf i).2.2.2 hs
end
end Go.Proofs.YtjfmahodbdianaaDoor.Open
