/-
  Contracts: Cutter.Cut (10) where it refuses; NewCutter (9); own (11); answers (14). One piece of a list that Cut answers.
-/
import Derived.Test.YteiiifonejkjbaaCut1
import Derived.Deep.DeepMust
namespace Go.Proofs.Yteiiifonejkjbaa.Chunk
open Go.RowKit Go.Shelf Mem Cells Ops Pcs
set_option linter.unusedVariables false
set_option linter.unusedSimpArgs false
attribute [local go_sem] Oper.semAt_some

/-- Why Cut refuses (0: it doesn't). -/
def cutE (nilC : Bool) (L : Nat) (s z : Int) : Int := if nilC = true ∨ L = 0 ∨ 8 ≤ s ∨ z < 1 ∨ 256 < z then 1 else if 4096 < L then 4 else 0
def nilV : Value := .slice none 0 0
def CutBad (w : World) (er : Int) : Ending → World → Prop := fun e w' => e = .returned (.tuple #[.slice none 0 0, .int .i64 er]) ∧ Below w.heap.size w w'

set_option maxRecDepth 100000 in
set_option maxHeartbeats 800000 in
theorem bad_nil (w : World)  (s z : Int) (a : Option Addr) (L cap : Nat) (un : Bool) (hLm : L ≤ 9223372036854775807) (hs : 0 ≤ s ∧ s ≤ 65535) (hz : -9223372036854775808 ≤ z ∧ z ≤ 9223372036854775807)  :
    Calls Try.prog 10 #[.pointer none, .agg #[.int .u16 s, .slice a L cap], .bool un, .int .i64 z] w (CutBad w 1) := by
  go_enter Try.func10, Try.ntmps10
  go_wp2_with ((with_reducible refine wpl_boxAt rfl 32 (.tmp 1) rfl #[.int .u16 s, .slice a L cap] ?_ ?_); rfl; go_must (intro w1 hat1 hb1 hs1; have m0 := hat1.cell 0; have m1 := hat1.cell 1; simp at m0 m1; have HB := Lib.hid hb1; clear hb1))
  go_ret2
  exact ⟨rfl, HB.out⟩

set_option maxRecDepth 100000 in
set_option maxHeartbeats 800000 in
theorem bad_empty (w : World) (ad : Addr) (s z : Int) (a : Option Addr) (L cap : Nat) (un : Bool) (hLm : L ≤ 9223372036854775807) (hs : 0 ≤ s ∧ s ≤ 65535) (hz : -9223372036854775808 ≤ z ∧ z ≤ 9223372036854775807) (h : L = 0) :
    Calls Try.prog 10 #[.pointer (some ad), .agg #[.int .u16 s, .slice a L cap], .bool un, .int .i64 z] w (CutBad w 1) := by
  subst h
  go_enter Try.func10, Try.ntmps10
  go_wp2_with ((with_reducible refine wpl_boxAt rfl 32 (.tmp 1) rfl #[.int .u16 s, .slice a 0 cap] ?_ ?_); rfl; go_must (intro w1 hat1 hb1 hs1; have m0 := hat1.cell 0; have m1 := hat1.cell 1; simp at m0 m1; have HB := Lib.hid hb1; clear hb1))
  go_ret2
  exact ⟨rfl, HB.out⟩

set_option maxRecDepth 100000 in
set_option maxHeartbeats 800000 in
theorem bad_stream (w : World) (ad : Addr) (s z : Int) (a : Option Addr) (L cap : Nat) (un : Bool) (hLm : L ≤ 9223372036854775807) (hs : 0 ≤ s ∧ s ≤ 65535) (hz : -9223372036854775808 ≤ z ∧ z ≤ 9223372036854775807) (h0 : L ≠ 0) (h : 8 ≤ s) :
    Calls Try.prog 10 #[.pointer (some ad), .agg #[.int .u16 s, .slice a L cap], .bool un, .int .i64 z] w (CutBad w 1) := by
  have l0 : ((L : Int) == 0) = false := by simp; omega
  have s8 : decide ((8 : Int) ≤ s) = true := decide_eq_true h
  go_enter Try.func10, Try.ntmps10
  go_wp2_with ((with_reducible refine wpl_boxAt rfl 32 (.tmp 1) rfl #[.int .u16 s, .slice a L cap] ?_ ?_); rfl; go_must (intro w1 hat1 hb1 hs1; have m0 := hat1.cell 0; have m1 := hat1.cell 1; simp at m0 m1; have HB := Lib.hid hb1; clear hb1))
  go_ret2
  exact ⟨rfl, HB.out⟩

set_option maxRecDepth 100000 in
set_option maxHeartbeats 800000 in
theorem bad_small (w : World) (ad : Addr) (s z : Int) (a : Option Addr) (L cap : Nat) (un : Bool) (hLm : L ≤ 9223372036854775807) (hs : 0 ≤ s ∧ s ≤ 65535) (hz : -9223372036854775808 ≤ z ∧ z ≤ 9223372036854775807) (h0 : L ≠ 0) (h1 : s < 8) (h : z < 1) :
    Calls Try.prog 10 #[.pointer (some ad), .agg #[.int .u16 s, .slice a L cap], .bool un, .int .i64 z] w (CutBad w 1) := by
  have l0 : ((L : Int) == 0) = false := by simp; omega
  have s8z : ¬ (8 : Int) ≤ s := by omega
  have s8 : decide ((8 : Int) ≤ s) = false := decide_eq_false s8z
  have z1 : decide (z < 1) = true := decide_eq_true h
  go_enter Try.func10, Try.ntmps10
  go_wp2_with ((with_reducible refine wpl_boxAt rfl 32 (.tmp 1) rfl #[.int .u16 s, .slice a L cap] ?_ ?_); rfl; go_must (intro w1 hat1 hb1 hs1; have m0 := hat1.cell 0; have m1 := hat1.cell 1; simp at m0 m1; have HB := Lib.hid hb1; clear hb1))
  go_ret2
  exact ⟨rfl, HB.out⟩

set_option maxRecDepth 100000 in
set_option maxHeartbeats 800000 in
theorem bad_big (w : World) (ad : Addr) (s z : Int) (a : Option Addr) (L cap : Nat) (un : Bool) (hLm : L ≤ 9223372036854775807) (hs : 0 ≤ s ∧ s ≤ 65535) (hz : -9223372036854775808 ≤ z ∧ z ≤ 9223372036854775807) (h0 : L ≠ 0) (h1 : s < 8) (h2 : 1 ≤ z) (h : 256 < z) :
    Calls Try.prog 10 #[.pointer (some ad), .agg #[.int .u16 s, .slice a L cap], .bool un, .int .i64 z] w (CutBad w 1) := by
  have l0 : ((L : Int) == 0) = false := by simp; omega
  have s8z : ¬ (8 : Int) ≤ s := by omega
  have s8 : decide ((8 : Int) ≤ s) = false := decide_eq_false s8z
  have z1z : ¬ z < 1 := by omega
  have z1 : decide (z < 1) = false := decide_eq_false z1z
  have z2 : decide ((256 : Int) < z) = true := decide_eq_true h
  go_enter Try.func10, Try.ntmps10
  go_wp2_with ((with_reducible refine wpl_boxAt rfl 32 (.tmp 1) rfl #[.int .u16 s, .slice a L cap] ?_ ?_); rfl; go_must (intro w1 hat1 hb1 hs1; have m0 := hat1.cell 0; have m1 := hat1.cell 1; simp at m0 m1; have HB := Lib.hid hb1; clear hb1))
  go_ret2
  exact ⟨rfl, HB.out⟩

set_option maxRecDepth 100000 in
set_option maxHeartbeats 800000 in
theorem bad_large (w : World) (ad : Addr) (s z : Int) (a : Option Addr) (L cap : Nat) (un : Bool) (hLm : L ≤ 9223372036854775807) (hs : 0 ≤ s ∧ s ≤ 65535) (hz : -9223372036854775808 ≤ z ∧ z ≤ 9223372036854775807) (h0 : L ≠ 0) (h1 : s < 8) (h2 : 1 ≤ z) (h3 : z ≤ 256) (h : 4096 < L) :
    Calls Try.prog 10 #[.pointer (some ad), .agg #[.int .u16 s, .slice a L cap], .bool un, .int .i64 z] w (CutBad w 4) := by
  have l0 : ((L : Int) == 0) = false := by simp; omega
  have s8z : ¬ (8 : Int) ≤ s := by omega
  have s8 : decide ((8 : Int) ≤ s) = false := decide_eq_false s8z
  have z1z : ¬ z < 1 := by omega
  have z1 : decide (z < 1) = false := decide_eq_false z1z
  have z2z : ¬ (256 : Int) < z := by omega
  have z2 : decide ((256 : Int) < z) = false := decide_eq_false z2z
  have hz4 : (4096 : Int) < (L : Int) := by omega
  have lb : decide ((4096 : Int) < (L : Int)) = true := decide_eq_true hz4
  go_enter Try.func10, Try.ntmps10
  go_wp2_with ((with_reducible refine wpl_boxAt rfl 32 (.tmp 1) rfl #[.int .u16 s, .slice a L cap] ?_ ?_); rfl; go_must (intro w1 hat1 hb1 hs1; have m0 := hat1.cell 0; have m1 := hat1.cell 1; simp at m0 m1; have HB := Lib.hid hb1; clear hb1))
  go_ret2
  exact ⟨rfl, HB.out⟩

theorem cut_bad (w : World) (p : Option Addr) (s z : Int) (a : Option Addr) (L cap : Nat) (un : Bool) (he : cutE p.isNone L s z ≠ 0) (hLm : L ≤ 9223372036854775807) (hs : 0 ≤ s ∧ s ≤ 65535) (hz : -9223372036854775808 ≤ z ∧ z ≤ 9223372036854775807) :
    Calls Try.prog 10 #[.pointer p, .agg #[.int .u16 s, .slice a L cap], .bool un, .int .i64 z] w (CutBad w (cutE p.isNone L s z)) := by
  cases p with
  | none => exact bad_nil w s z a L cap un hLm hs hz
  | some ad =>
    by_cases h0 : L = 0
    · have e : cutE (some ad).isNone L s z = 1 := by simp [cutE, h0]
      rw [e]; exact bad_empty w ad s z a L cap un hLm hs hz h0
    by_cases h1 : 8 ≤ s
    · have e : cutE (some ad).isNone L s z = 1 := by simp [cutE, h1]
      rw [e]; exact bad_stream w ad s z a L cap un hLm hs hz h0 h1
    by_cases h2 : z < 1
    · have e : cutE (some ad).isNone L s z = 1 := by simp [cutE, h2]
      rw [e]; exact bad_small w ad s z a L cap un hLm hs hz h0 (by omega) h2
    by_cases h3 : 256 < z
    · have e : cutE (some ad).isNone L s z = 1 := by simp [cutE, h3]
      rw [e]; exact bad_big w ad s z a L cap un hLm hs hz h0 (by omega) (by omega) h3
    by_cases h4 : 4096 < L
    · have e : cutE (some ad).isNone L s z = 4 := by simp [cutE, h0, h1, h2, h3, h4]
      rw [e]; exact bad_large w ad s z a L cap un hLm hs hz h0 (by omega) (by omega) (by omega) h4
    · exact absurd (by simp [cutE, h0, h1, h2, h3, h4]) he
end Go.Proofs.Yteiiifonejkjbaa.Chunk
