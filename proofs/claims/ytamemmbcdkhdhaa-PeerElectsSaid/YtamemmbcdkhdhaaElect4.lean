/-
  A list of bools that came in; PeerElects in all cases.
-/
import Derived.Test.YtamemmbcdkhdhaaElect3
import Derived.Test.YtamemmbcdkhdhaaOpen2
namespace Go.Proofs.Ytamemmbcdkhdhaa.Open
open Go.ChangeShapes Go.WideShapes Go.RowKit Mem Peer
set_option linter.unusedVariables false
section
variable {H : Type} {enc : TypeId × Value → H} {W : World}
theorem bools {v : Value} {d : DataW H} {p : List MemPlace} {base : Nat} (hv : Value.okWide Try.prog W .any base 31 v) (h : DataW.Trod enc Try.prog W 0 (fun _ => true) true 31 v d p) :
    ∃ p n c xs, v = .slice p n c ∧ ReadsB W p n c xs := by
  obtain ⟨a, len, cap, rfl⟩ := okWide_slice Try.underlying31 hv
  obtain ⟨fuel, hf⟩ := h
  obtain ⟨a', len', cap', e, h1, h2, h3, h4, h5, h6⟩ := elems (k := 1) Try.underlying31 (by kernel_rfl) (by decide) hf
  simp [Value.cells] at e
  obtain ⟨rfl, rfl, rfl⟩ := e
  rcases Nat.eq_zero_or_pos len with h0 | h0
  · subst h0
    exact ⟨a, 0, cap, [], rfl, rfl, ⟨h1, h2⟩, fun i z hz => by simp at hz⟩
  · obtain ⟨b, off, rfl, hb⟩ := h4 h0
    have key : ∀ i : Fin len, ∃ x : Bool, W.cell? ⟨b, off + i.1, none⟩ = some (.bool x) := by
      intro i
      obtain ⟨cs', n, y, k1, k2, k3, k4⟩ := h6 b off rfl i.1 i.2
      obtain ⟨x, rfl, _⟩ := DataW.trod_bool Try.underlying4 k3
      refine ⟨x, ?_⟩
      have := k2 0 (by decide)
      simpa using this
    obtain ⟨f, hf⟩ := Classical.axiomOfChoice key
    refine ⟨some ⟨b, off, none⟩, len, cap, List.ofFn f, rfl, by simp, ⟨h1, h2⟩, fun i z hz => ?_⟩
    have hi : i < len := by have := (List.getElem?_eq_some_iff.1 hz).1; simpa using this
    have e : f ⟨i, hi⟩ = z := by simpa [hi] using hz
    have := hf ⟨i, hi⟩
    rw [e] at this
    exact ⟨b, off, rfl, hb, this⟩
end
end Go.Proofs.Ytamemmbcdkhdhaa.Open
namespace Go.Proofs.Ytamemmbcdkhdhaa.Peer
open Go.RowKit Mem Cells Ops
theorem elects_ (na nb : ByteArray) (p : Option Addr) (l c : Nat) (os : List Bool) (w : World) (ha : na.size ≤ 9223372036854775807) (hb : nb.size ≤ 9223372036854775807) (hO : ReadsB w p l c os) :
    Calls Try.prog 7 #[.string na, .string nb, .slice p l c] w fun e w' => e = .returned (.bool true) ∧ Below w.heap.size w w' := by
  by_cases h : winB na nb = winB nb na
  · exact electsSame na nb _ w ha hb h
  · exact elects na nb p l c os w ha hb hO h
end Go.Proofs.Ytamemmbcdkhdhaa.Peer
