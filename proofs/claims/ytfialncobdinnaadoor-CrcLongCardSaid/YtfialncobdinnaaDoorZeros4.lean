/-
  The library's table, from the row's condition.
-/
import Derived.Test.YtfialncobdinnaaDoorZeros3
import Derived.Test.YtfialncobdinnaaDoorFrameL
namespace Go.Proofs.YtfialncobdinnaaDoor.Crc
open Go.ChangeShapes Go.WideShapes Go.RowKit Go
theorem gN : Tryd.prog.globalNamed "math/bits.deBruijn32tab" = some 0 := by kernel_rfl
theorem gT : (Tryd.prog.globals[0]?).map (·.type) = some 40 := by kernel_rfl
theorem tab_of {W : World} (h : laidMetH Tryd.prog [("math/bits.deBruijn32tab", Rows.laid_math_bits_deBruijn32tab)] W) : TabW W := by
  rw [MakeChecks.laidMetH_plain _ _ _ (by kernel_rfl)] at h
  have hT := Lib.tabIs_of_head (k := .u8) (zs := Lib.deBruijn32tab.map Int.ofNat) (rest := []) gN gT Tryd.underlying40 Tryd.underlying5 (by kernel_rfl) (by kernel_rfl) h
  intro j hj
  have hc := hT.cell gN j (by rw [List.length_map]; exact hj)
  refine ⟨?_, ?_⟩
  · rw [hc]
    have e : (Lib.deBruijn32tab.map Int.ofNat).getD j 0 = ((Lib.deBruijn32tab.getD j 0 : Nat) : Int) := by
      have hl : Lib.deBruijn32tab.length = 32 := rfl
      simp [List.getD_eq_getElem?_getD, hl, hj]
    rw [e]
  · rcases Nat.eq_zero_or_pos W.heap.size with e | e
    · exfalso
      have e0 : W.heap[0]? = none := Array.getElem?_eq_none (by omega)
      simp [World.cell?, e0] at hc
    · exact e
end Go.Proofs.YtfialncobdinnaaDoor.Crc
