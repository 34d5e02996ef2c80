/-
  The walks of the laws CrcSums and CrcMores: they return true, and write nothing that was there.
-/
import Derived.Test.YtfialncobdinnaaDoorWalk2
import Derived.Lib.SlBytesConst
namespace Go.Proofs.YtfialncobdinnaaDoor.Laws
open Go.RowKit Mem Crc
set_option linter.unusedVariables false

theorem answers (w : World) : Calls Tryd.prog 5 #[] w fun e w' => e = .returned (.bool true) ∧ Below w.heap.size w w' := by
  have hcv := Go.Lib.run_convert_bytes_const (P := Tryd.prog) w 29 5 ([49, 50, 51, 52, 53, 54, 55, 56, 57].map (Value.int .u8)).toArray 9 9 Tryd.underlying29 Tryd.underlying5
  have hrd := Reads.alloc .u8 w [49, 50, 51, 52, 53, 54, 55, 56, 57] 5 (9, 10) 9 (by decide) (by decide)
  simp only [List.map_cons, List.map_nil, List.size_toArray, List.length_cons, List.length_nil] at hcv hrd
  have hb := (Below.refl w.heap.size w).alloc (Nat.le_refl _) (.cells #[Value.int IntKind.u8 49, Value.int IntKind.u8 50, Value.int IntKind.u8 51, Value.int IntKind.u8 52, Value.int IntKind.u8 53, Value.int IntKind.u8 54, Value.int IntKind.u8 55, Value.int IntKind.u8 56, Value.int IntKind.u8 57] 5 (9, 10))
  go_enter Tryd.func5, Tryd.ntmps5
  go_wp2_with fail
  refine (sumP _ _ _ hrd (by decide) (by decide)).mono ?_
  rintro e w1 ⟨rfl, b1⟩
  rw [sum_nine]
  have hbb := Frame.ext hb b1
  clear hcv hrd hb b1
  go_wp2
  go_ret
  exact ⟨rfl, hbb⟩

theorem info5 : (Tryd.prog.info? 5).map (fun i => (i.zero, i.size, i.bytes)) = some (some (.int .u8 0), 1, 1) := by kernel_rfl
theorem more_lt {n : Nat} {xs : List Int} : more n xs < 4294967296 := by unfold more; omega
theorem more_append (n : Nat) (xs ys : List Int) (hn : n < 4294967296) (hx : ∀ x ∈ xs, 0 ≤ x ∧ x ≤ 255) : more n (xs ++ ys) = more (more n xs) ys := by
  unfold more
  have h : reg (4294967295 - n) xs < 4294967296 := reg_lt (by omega) hx
  rw [reg_append, show 4294967295 - (4294967295 - reg (4294967295 - n) xs) = reg (4294967295 - n) xs from by omega]
end Go.Proofs.YtfialncobdinnaaDoor.Laws
