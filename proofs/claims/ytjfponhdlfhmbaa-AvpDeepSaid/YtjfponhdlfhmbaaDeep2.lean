/-
  Contracts: slices.Contains (35) of one number; opener.open (29) of attributes within one another: all of them, or the panic that they are too deep.
-/
import Derived.Test.YtjfponhdlfhmbaaDeep1
import Derived.Deep.DeepMust
import Derived.WalkLawsBesides
import Derived.Deep.Cut
import Derived.Lib.Hide
namespace Go.Proofs.Ytjfponhdlfhmbaa.Deep
open Go.RowKit Mem Cells Avps Avp Ops
set_option linter.unusedVariables false
set_option linter.unusedSimpArgs false
attribute [local go_sem] Oper.semAt_some

set_option maxRecDepth 100000 in
theorem index36 (w : World) (b off cap : Nat) (code c : Int) (hc : w.cell? ⟨b, off, none⟩ = some (.int .u32 code)) (hb : b < w.heap.size) (h1 : 1 ≤ cap) :
    Calls Try.prog 36 #[.slice (some ⟨b, off, none⟩) 1 cap, .int .u32 c] w fun e w' => e = .returned (.int .i64 (if c = code then 0 else -1)) ∧ Below w.heap.size w w' := by
  obtain ⟨W0, hW0⟩ : ∃ W0, w = W0 := ⟨w, rfl⟩
  rw [hW0] at hc hb ⊢
  have HC := Lib.hid hc
  have HB := Lib.hid hb
  clear hW0 hc hb
  go_enter Try.func36, Try.ntmps36
  go_upto_region 2 with fail
  go_loopw [8] (fun vi wr => ∃ i : Nat, vi = .int .i64 (i : Int) ∧ i ≤ 1 ∧ Hid (i = 1 → c ≠ code) ∧ Hid (Below W0.heap.size W0 wr)) (fun vi _ => 1 - (intOf vi).toNat)
  case atStart => exact ⟨0, rfl, by omega, Lib.hid (fun h => by omega), Lib.hid (Below.refl _ _)⟩
  case round =>
    obtain ⟨i, rfl, hi, HNE, HBL⟩ := hrel
    by_cases h0 : i = 0
    · subst h0
      have cc := (HBL.out.cell (p := ⟨b, off, none⟩) HB.out).trans HC.out
      by_cases hcc : c = code
      · subst hcc
        go_wp2_with fail
        go_ret
        exact ⟨by simp, HBL.out⟩
      · have hc1 : (c == code) = false := by simpa using hcc
        have HCC := Lib.hid hcc
        clear hcc
        go_wp2_with fail
        go_roundw
        case rel => exact ⟨1, rfl, by omega, Lib.hid (fun _ => HCC.out), HBL⟩
        case measure => simp [intOf]
    · have hi1 : i = 1 := by omega
      subst hi1
      have HCC := Lib.hid (HNE.out rfl)
      go_wp2_with fail
      go_ret
      exact ⟨by simp [HCC.out], HBL.out⟩
set_option maxRecDepth 100000 in
theorem contains35 (w : World) (b off cap : Nat) (code c : Int) (hc : w.cell? ⟨b, off, none⟩ = some (.int .u32 code)) (hb : b < w.heap.size) (h1 : 1 ≤ cap) :
    Calls Try.prog 35 #[.slice (some ⟨b, off, none⟩) 1 cap, .int .u32 c] w fun e w' => e = .returned (.bool (decide (c = code))) ∧ Below w.heap.size w w' := by
  have HP := Lib.hid (index36 w b off cap code c hc hb h1)
  clear hc hb h1
  by_cases hcc : c = code
  · subst hcc
    go_enter Try.func35, Try.ntmps35
    go_wp2_with (go_at_call 36; go_must (refine HP.out.mono ?_; rintro e w1 ⟨rfl, hb1⟩; rw [if_pos rfl]; have HB := Lib.hid hb1; clear hb1))
    go_ret
    exact ⟨by simp, HB.out⟩
  · have HCC := Lib.hid hcc
    clear hcc
    go_enter Try.func35, Try.ntmps35
    go_wp2_with (go_at_call 36; go_must (refine HP.out.mono ?_; rintro e w1 ⟨rfl, hb1⟩; rw [if_neg HCC.out]; have HB := Lib.hid hb1; clear hb1))
    go_ret
    exact ⟨by rw [decide_eq_false HCC.out]; rfl, HB.out⟩
end Go.Proofs.Ytjfponhdlfhmbaa.Deep
