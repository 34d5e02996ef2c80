/-
  Contract: avp.size.
-/
import Derived.Test.YtjfponhdlfhmbaaSame2
import Derived.Test.YtjfponhdlfhmbaaPlain1
import Derived.Deep.QuietTactic
import Derived.BigQuiet
namespace Go.Proofs.Ytjfponhdlfhmbaa.Avp
open Go.RowKit Mem Cells Avps Wire Ops
set_option linter.unusedVariables false
set_option linter.unusedSimpArgs false

def sizeN (a : A) : Int := headN (venB a) + a.data.length + padN a.data.length
set_option maxRecDepth 100000 in
set_option maxHeartbeats 1600000 in
theorem size (a : A) (p : Option Addr) (n : Nat) (w : World) (hl : a.data.length ≤ 140737488355328) :
    Calls Try.prog 18 #[.agg (row a (.slice p a.data.length n)).toArray] w fun e w' => e = .returned (.int .i64 (sizeN a)) ∧ Below w.heap.size w w' := by
  have hp := padN_bd a.data.length
  have hh := headN_bd (venB a)
  obtain ⟨pn, hpn⟩ : ∃ pn, padN a.data.length = pn := ⟨_, rfl⟩
  obtain ⟨b, hb⟩ : ∃ b, venB a = b := ⟨_, rfl⟩
  obtain ⟨h, hhd⟩ : ∃ h, headN b = h := ⟨_, rfl⟩
  have hne : (a.vendor != 0) = b := by
    rw [← hb]; unfold venB
    by_cases h : a.vendor = 0 <;> simp [h]
  have PD := Lib.hid (fun w => by have := (pad a.data.length w (by omega)).mono (fun _ _ h => (⟨h.1, h.2.symm⟩ : _ ∧ _)); rwa [hpn] at this)
  have HD := Lib.hid (fun w => by have := head b w; rwa [hhd] at this)
  have e : sizeN a = h + a.data.length + pn := by unfold sizeN; rw [hb, hhd, hpn]
  rw [e]
  rw [hpn] at hp
  rw [hb, hhd] at hh
  have s1 : IntKind.i64.wrap (h + (a.data.length : Int)) = h + a.data.length := IntWalk.i64_in _ (by omega)
  have s2 : IntKind.i64.wrap (h + (a.data.length : Int) + pn) = h + a.data.length + pn := IntWalk.i64_in _ (by omega)
  clear hpn hb hhd e
  go_enter Try.func18, Try.ntmps18
  go_wp2_with (first
    | ((with_reducible refine wpl_boxAt rfl 41 (.tmp 0) rfl (row a (.slice p a.data.length n)).toArray ?_ ?_); rfl; go_must (intro w1 hat1 hb1 hs1; have HS1 := Lib.hid hs1; have c1 := hat1.cell 1; have c4 := hat1.cell 4; simp [row] at c1 c4; clear hs1)))
  go_quiet ((first | (go_at_call 21; exact Calls.quiet_of_same (HD.out _)) | (go_at_call 30; exact Calls.quiet_of_same (PD.out _))))
  go_wp2
  go_ret
  exact ⟨rfl, hb1.os, hb1.tape, hb1.output, hb1.size, hb1.block⟩
end Go.Proofs.Ytjfponhdlfhmbaa.Avp
