/-
  The tables of unicode/utf8, from the row's condition. No walk.
-/
import Derived.Test.YtjfmahodbdianaaDoorFrameL
import Derived.Test.YtjfmahodbdianaaDoorRows
import Derived.Lib.LaidU8
namespace Go.Proofs.YtjfmahodbdianaaDoor.Utf
open Go.RowKit
set_option linter.unusedVariables false
set_option maxRecDepth 100000

abbrev listed : List (String × DataW Unit) := [("unicode/utf8.acceptRanges", Rows.laid_unicode_utf8_acceptRanges), ("unicode/utf8.first", Rows.laid_unicode_utf8_first)]
theorem accept_eq : (Rows.laid_unicode_utf8_acceptRanges : DataW Unit) = Lib.acceptData := by kernel_rfl
theorem first_eq : Rows.laid_unicode_utf8_first = Lib.firstData := by kernel_rfl
theorem n3 : Tryd.prog.globalNamed "unicode/utf8.first" = some 0 := by kernel_rfl
theorem n4 : Tryd.prog.globalNamed "unicode/utf8.acceptRanges" = some 1 := by kernel_rfl
theorem y3 : (Tryd.prog.globals[0]?).map (·.type) = some 71 := by kernel_rfl
theorem y4 : (Tryd.prog.globals[1]?).map (·.type) = some 74 := by kernel_rfl
theorem c5 : Tryd.prog.cellsOf 5 = 1 := by kernel_rfl
theorem c71 : Tryd.prog.cellsOf 71 = 256 := by kernel_rfl
theorem c73 : Tryd.prog.cellsOf 73 = 2 := by kernel_rfl
theorem tabs_of {W : World} (h : laidMetH Tryd.prog listed W) : Lib.Utf8Tabs 0 1 W := by
  rw [MakeChecks.laidMetH_plain _ _ _ (by kernel_rfl)] at h
  have h3 := Lib.laidMet.reads h (n := "unicode/utf8.first") (d := Lib.firstData) (by rw [← first_eq]; simp [listed])
  have h4 := Lib.laidMet.reads h (n := "unicode/utf8.acceptRanges") (d := Lib.acceptData) (by rw [← accept_eq]; simp [listed])
  refine ⟨fun c hc => ?_, fun i hi => ?_⟩
  · obtain ⟨g, t, cs, fuel, p, hg, hty, hvar, hd⟩ := h3
    obtain rfl := Option.some.inj (n3.symm.trans hg)
    obtain rfl := Option.some.inj (y3.symm.trans hty)
    have hcs := Lib.cells_of_tab Tryd.underlying71 Tryd.underlying5 c5 c71 hd
    have := World.var?_cell hg hvar c
    rw [this, ← Array.getElem?_toList, hcs]
    simp [Lib.firstTab, hc]
  · obtain ⟨g, t, cs, fuel, p, hg, hty, hvar, hd⟩ := h4
    obtain rfl := Option.some.inj (n4.symm.trans hg)
    obtain rfl := Option.some.inj (y4.symm.trans hty)
    obtain ⟨fuel', d, q, hdi, he⟩ := Lib.array_elem Tryd.underlying74 hd i hi
    rw [c73] at he
    have hd' : d = .agg ([(Lib.accLo i : Int), (Lib.accHi i : Int)].map fun z => .lit (.int .u8 z)) := by
      simp [hi] at hdi
      exact hdi.symm
    rw [hd'] at he
    have hcs := Lib.ints_of_struct Tryd.underlying73 (by
      intro j f hj
      match j with
      | 0 => simp at hj; subst hj; exact ⟨Tryd.underlying5, rfl, c5⟩
      | 1 => simp at hj; subst hj; exact ⟨Tryd.underlying5, rfl, c5⟩
      | j + 2 => simp at hj) (by rw [c73]; rfl) he
    have e0 : cs.toList[2 * i]? = some (.int .u8 (Lib.accLo i)) := by
      have := congrArg (·[0]?) hcs
      simpa [List.getElem?_take, List.getElem?_drop, Nat.mul_comm] using this
    have e1 : cs.toList[2 * i + 1]? = some (.int .u8 (Lib.accHi i)) := by
      have := congrArg (·[1]?) hcs
      simpa [List.getElem?_take, List.getElem?_drop, Nat.mul_comm] using this
    exact ⟨by rw [World.var?_cell hg hvar, ← Array.getElem?_toList]; exact e0, by rw [World.var?_cell hg hvar, ← Array.getElem?_toList]; exact e1⟩
end Go.Proofs.YtjfmahodbdianaaDoor.Utf
