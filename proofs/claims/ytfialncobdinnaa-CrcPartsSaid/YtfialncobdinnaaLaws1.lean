/-
  The walks of the laws CrcSums and CrcMores: they return true, and write nothing that was there.
-/
import Derived.Test.YtfialncobdinnaaWalk2
import Derived.Lib.SlBytesConst
namespace Go.Proofs.Ytfialncobdinnaa.Laws
open Go.RowKit Mem Crc
set_option linter.unusedVariables false

theorem answers (w : World) : Calls Try.prog 7 #[] w fun e w' => e = .returned (.bool true) ∧ Below w.heap.size w w' := by
  have hcv := Go.Lib.run_convert_bytes_const (P := Try.prog) w 22 5 ([49, 50, 51, 52, 53, 54, 55, 56, 57].map (Value.int .u8)).toArray 9 9 Try.underlying22 Try.underlying5
  have hrd := Reads.alloc .u8 w [49, 50, 51, 52, 53, 54, 55, 56, 57] 5 (9, 10) 9 (by decide) (by decide)
  simp only [List.map_cons, List.map_nil, List.size_toArray, List.length_cons, List.length_nil] at hcv hrd
  have hb := (Below.refl w.heap.size w).alloc (Nat.le_refl _) (.cells #[Value.int IntKind.u8 49, Value.int IntKind.u8 50, Value.int IntKind.u8 51, Value.int IntKind.u8 52, Value.int IntKind.u8 53, Value.int IntKind.u8 54, Value.int IntKind.u8 55, Value.int IntKind.u8 56, Value.int IntKind.u8 57] 5 (9, 10))
  go_enter Try.func7, Try.ntmps7
  go_wp2_with fail
  refine (sumP _ _ _ hrd (by decide) (by decide)).mono ?_
  rintro e w1 ⟨rfl, b1⟩
  rw [sum_nine]
  have hbb := Frame.ext hb b1
  clear hcv hrd hb b1
  go_wp2
  go_ret
  exact ⟨rfl, hbb⟩

theorem info5 : (Try.prog.info? 5).map (fun i => (i.zero, i.size, i.bytes)) = some (some (.int .u8 0), 1, 1) := by kernel_rfl
theorem more_lt {n : Nat} {xs : List Int} : more n xs < 4294967296 := by unfold more; omega
theorem more_append (n : Nat) (xs ys : List Int) (hn : n < 4294967296) (hx : ∀ x ∈ xs, 0 ≤ x ∧ x ≤ 255) : more n (xs ++ ys) = more (more n xs) ys := by
  unfold more
  have h : reg (4294967295 - n) xs < 4294967296 := reg_lt (by omega) hx
  rw [reg_append, show 4294967295 - (4294967295 - reg (4294967295 - n) xs) = reg (4294967295 - n) xs from by omega]
theorem sums (p1 p2 : Option Addr) (l1 c1 l2 c2 : Nat) (z1 z2 : List Int) (w : World) (r1 : Frame.IsRow .u8 w p1 l1 c1 z1) (r2 : Frame.IsRow .u8 w p2 l2 c2 z2) (h1 : l1 ≤ 140737488351232) (h2 : l2 ≤ 140737488351232) (h12 : l1 + l2 ≤ 140737488351232) :
    Calls Try.prog 3 #[.slice p1 l1 c1, .slice p2 l2 c2] w fun e w' => e = .returned (.bool true) ∧ Below w.heap.size w w' := by
  obtain ⟨i0, hi, hz0, hz1, hz2⟩ := info_parts info5
  obtain ⟨r1, hl1, hwf1⟩ := Mem.isRow_reads r1
  obtain ⟨r2, hl2, hwf2⟩ := Mem.isRow_reads r2
  obtain ⟨xs, hx⟩ : ∃ xs, z1.take l1 = xs := ⟨_, rfl⟩
  obtain ⟨ys, hy⟩ : ∃ ys, z2.take l2 = ys := ⟨_, rfl⟩
  rw [hx] at r1 hl1 hwf1
  rw [hy] at r2 hl2 hwf2
  subst hl1 hl2
  have hwf1 : ∀ x ∈ xs, 0 ≤ x ∧ x ≤ 255 := fun x hx => bounds_u8 (hwf1 x hx)
  have hwf2 : ∀ x ∈ ys, 0 ≤ x ∧ x ≤ 255 := fun x hx => bounds_u8 (hwf2 x hx)
  have hwf12 : ∀ x ∈ xs ++ ys, 0 ≤ x ∧ x ≤ 255 := fun x hx => (List.mem_append.1 hx).elim (hwf1 x) (hwf2 x)
  clear hx hy
  go_enter Try.func3, Try.ntmps3
  go_wp2_with fail
  refine (answers w).mono ?_
  rintro e w1 ⟨rfl, b1⟩
  go_wp2_with fail
  refine (sumP _ _ _ (r1.below b1) hwf1 (by omega)).mono ?_
  rintro e w2 ⟨rfl, b2⟩
  replace b2 := Frame.ext b1 b2
  go_wp2_with fail
  refine (sumR _ _ _ (r1.below b2) hwf1 (by omega)).mono ?_
  rintro e w3 ⟨rfl, rfl⟩
  go_wp2_with fail
  refine (sumP _ _ _ (r1.below b2) hwf1 (by omega)).mono ?_
  rintro e w4 ⟨rfl, b4⟩
  replace b4 := Frame.ext b2 b4
  go_wp2_with fail
  refine (moreP _ _ _ _ more_lt (r2.below b4) hwf2 (by omega)).mono ?_
  rintro e w5 ⟨rfl, b5⟩
  replace b5 := Frame.ext b4 b5
  have bn := b5.alloc b5.size (.cells #[] 5)
  have rn := Row.alloc_nil .u8 5 w5 b5.size
  have rx := r1.below bn
  clear b1 b2 b4
  go_wp2_with (at_builtin; refine wpl_wanted (by rfl) ?_; refine wpl_append rfl _ _ 22 rfl .u8 w.heap.size 5 1 i0 (.int .u8 0) Try.underlying22 hi hz0 hz1 hz2 rfl _ _ _ _ rfl rfl rn rx ?_ ?_ ?_ ?_)
  · unfold maxLen; simp; omega
  · simp; omega
  · exact bn.size
  · intro v6 w6 o6 g6
    have b6 : Below w.heap.size w w6 := bn.grown g6 bn.size (fun q hq => (rn.lt q hq).1)
    have ry := r2.below b6
    clear g6
    go_wp2_with (at_builtin; refine wpl_wanted (by rfl) ?_; refine wpl_append rfl _ _ 22 rfl .u8 w.heap.size 5 1 i0 (.int .u8 0) Try.underlying22 hi hz0 hz1 hz2 rfl _ _ _ _ rfl rfl o6 ry ?_ ?_ ?_ ?_)
    · unfold maxLen; omega
    · omega
    · exact b6.size
    · intro v7 w7 o7 g7
      have b7 : Below w.heap.size w w7 := b6.grown g7 b6.size (fun q hq => (o6.lt q hq).1)
      clear g7
      go_wp2_with fail
      refine (sumR _ _ _ o7.reads hwf12 (by rw [List.length_append]; omega)).mono ?_
      rintro e w8 ⟨rfl, rfl⟩
      have hm := more_append 0 xs ys (by decide) hwf1
      go_wp2
      go_ret
      exact ⟨rfl, b7⟩
end Go.Proofs.Ytfialncobdinnaa.Laws
