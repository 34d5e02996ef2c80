/-
  One attribute that came in.
-/
import Derived.Test.YtjfmahodbdianaaDoorOpen4
namespace Go.Proofs.YtjfmahodbdianaaDoor.Open
open Go.ChangeShapes Go.WideShapes Go.RowKit Mem Avps
set_option linter.unusedVariables false
section
variable {H : Type} {enc : TypeId × Value → H} {W : World}
theorem avp1 {v : Value} {d : DataW H} {p : List MemPlace} {base : Nat} (hv : Value.okWide Tryd.prog W .any base 35 v) (h : DataW.Trod enc Tryd.prog W 0 (fun _ => true) true 35 v d p) :
    ∃ (a : A) (p : Option Addr) (c : Nat), v = .agg (row a (.slice p a.data.length c)).toArray ∧ Reads .u8 W (.slice p a.data.length c) a.data ∧ a.ok ∧ (Sz Tryd.prog 35 d → a.data.length ≤ 140737488351232) := by
  obtain ⟨cs, rfl, hcs, hw⟩ := agg_cells (ts := [33, 33, 4, 4, 32]) Tryd.underlying35 (by kernel_rfl) hv
  obtain ⟨fuel, hf⟩ := h
  obtain ⟨a, q, c, e, h1, h2, h3⟩ := attr hf
  refine ⟨a, q, c, ?_, h2, h1, h3⟩
  have e2 : cs.toList = row a (.slice q a.data.length c) := by simpa [Value.cells] using e
  rw [← e2]
end
end Go.Proofs.YtjfmahodbdianaaDoor.Open
