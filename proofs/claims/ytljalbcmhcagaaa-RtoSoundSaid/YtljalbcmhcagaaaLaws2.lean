/-
  The law's own walk of one step; the walks of RtoShrinks and RtoSettles.
-/
import Derived.Test.YtljalbcmhcagaaaLaws1
import Derived.Deep.LoopGhost
namespace Go.Proofs.Ytljalbcmhcagaaa.Way
open Go.RowKit Mem
set_option linter.unusedVariables false
set_option linter.unusedSimpArgs false

/-- What one step makes of a path. -/
def walkW (x : Wy) (kd n : Int) (full : Bool) : Wy :=
  if kd = 1 then (if inB n 0 1099511627776 then measured x n else x)
  else if kd = 2 then lated x
  else if kd = 3 then halved x
  else if kd = 4 then (if inB n 0 65536 then ackedF x n full else x)
  else x
theorem walk_ok {x : Wy} {kd n : Int} {full : Bool} (hx : okB x = true) : okB (walkW x kd n full) = true := by
  unfold walkW
  split
  · split
    · rename_i h; unfold inB at h; exact measured_ok hx (of_decide_eq_true h)
    · exact hx
  · split
    · exact lated_ok hx
    · split
      · exact halved_ok hx
      · split
        · split
          · rename_i h; unfold inB at h; exact acked_ok hx (of_decide_eq_true h)
          · exact hx
        · exact hx

theorem At.row_other {u : World} {g k : Nat} {x : Wy} {cs : Array Value} (h : At u g x) (hn : g ≠ k) : At (u.setRow k cs) g x := by
  unfold At
  rw [setRow_other _ _ _ _ hn]; exact h
theorem mWtrue {x : Wy} {n : Int} (hx : okB x = true) (hi : inB n 0 1099511627776 = true) : measureW x n = measured x n ∧ measureE x n = 0 := by unfold measureW measureE; simp [hx, hi]
theorem aWtrue {x : Wy} {n : Int} {full : Bool} (hx : okB x = true) (hi : inB n 0 65536 = true) : ackedW x n full = ackedF x n full ∧ ackedE x n = 0 := by unfold ackedW ackedE; simp [hx, hi]
theorem mWfalse {x : Wy} {n : Int} (hx : okB x = true) (hi : inB n 0 1099511627776 = false) : measureW x n = none7 ∧ measureE x n = 1 := by unfold measureW measureE; simp [hx, hi]
theorem aWfalse {x : Wy} {n : Int} {full : Bool} (hx : okB x = true) (hi : inB n 0 65536 = false) : ackedW x n full = none7 ∧ ackedE x n = 1 := by unfold ackedW ackedE; simp [hx, hi]
theorem lW {x : Wy} (hx : okB x = true) : lateW x = lated x ∧ lateE x = 0 ∧ fastW x = halved x := by unfold lateW lateE fastW; simp [hx]
theorem measureT (x : Wy) (n : Int) (w : World) (hx : okB x = true) (hi : inB n 0 1099511627776 = true) : Calls Try.prog 9 #[.agg (cells x), .int .i64 n] w fun e w' => e = .returned (.tuple #[.agg (cells (measured x n)), .int .i64 0]) ∧ Below w.heap.size w w' := by
  have := measure x n w; rwa [(mWtrue hx hi).1, (mWtrue hx hi).2] at this
theorem measureF (x : Wy) (n : Int) (w : World) (hx : okB x = true) (hi : inB n 0 1099511627776 = false) : Calls Try.prog 9 #[.agg (cells x), .int .i64 n] w fun e w' => e = .returned (.tuple #[.agg (cells none7), .int .i64 1]) ∧ Below w.heap.size w w' := by
  have := measure x n w; rwa [(mWfalse hx hi).1, (mWfalse hx hi).2] at this
theorem ackedT (x : Wy) (n : Int) (full : Bool) (w : World) (hx : okB x = true) (hi : inB n 0 65536 = true) : Calls Try.prog 18 #[.agg (cells x), .int .i64 n, .bool full] w fun e w' => e = .returned (.tuple #[.agg (cells (ackedF x n full)), .int .i64 0]) ∧ Below w.heap.size w w' := by
  have := acked x n full w; rwa [(aWtrue hx hi).1, (aWtrue (full := full) hx hi).2] at this
theorem ackedN (x : Wy) (n : Int) (full : Bool) (w : World) (hx : okB x = true) (hi : inB n 0 65536 = false) : Calls Try.prog 18 #[.agg (cells x), .int .i64 n, .bool full] w fun e w' => e = .returned (.tuple #[.agg (cells none7), .int .i64 1]) ∧ Below w.heap.size w w' := by
  have := acked x n full w; rwa [(aWfalse hx hi).1, (aWfalse (full := full) hx hi).2] at this
theorem lateT (x : Wy) (w : World) (hx : okB x = true) : Calls Try.prog 14 #[.agg (cells x)] w fun e w' => e = .returned (.tuple #[.agg (cells (lated x)), .int .i64 0]) ∧ Below w.heap.size w w' := by
  have := late x w; rwa [(lW hx).1, (lW hx).2.1] at this
theorem fastT (x : Wy) (w : World) (hx : okB x = true) : Calls Try.prog 16 #[.agg (cells x)] w fun e w' => e = .returned (.tuple #[.agg (cells (halved x)), .int .i64 0]) ∧ Below w.heap.size w w' := by
  have := fast x w; rwa [(lW hx).2.2, (lW hx).2.1] at this

set_option maxRecDepth 100000 in
set_option maxHeartbeats 3200000 in
theorem walk1 (x : Wy) (n : Int) (full : Bool) (w : World) (hx : okB x = true) (hi : inB n 0 1099511627776 = true) : Calls Try.prog 23 #[.agg (cells x), .agg #[.int .i64 1, .int .i64 n, .bool full]] w fun e w' => e = .returned (.agg (cells (measured x n))) ∧ Below w.heap.size w w' := by
  have hx0 := (((At.new w x).alloc (.cells #[.int .i64 1, .int .i64 n, .bool full] 39)).alloc (.cells (cells none7) 23)).alloc (.cells (cells x) 23)
  have hr0 := (At.new ((w.alloc (.cells (cells x) 23)).alloc (.cells #[.int .i64 1, .int .i64 n, .bool full] 39)) none7).alloc (.cells (cells x) 23)
  rw [show ((w.alloc (.cells (cells x) 23)).alloc (.cells #[.int .i64 1, .int .i64 n, .bool full] 39)).heap.size = w.heap.size + 1 + 1 from by simp] at hr0
  have hc0 := At.new (((w.alloc (.cells (cells x) 23)).alloc (.cells #[.int .i64 1, .int .i64 n, .bool full] 39)).alloc (.cells (cells none7) 23)) x
  rw [show (((w.alloc (.cells (cells x) 23)).alloc (.cells #[.int .i64 1, .int .i64 n, .bool full] 39)).alloc (.cells (cells none7) 23)).heap.size = w.heap.size + 1 + 1 + 1 from by simp] at hc0
  have hb0 := ((((Below.refl w.heap.size w).alloc (Nat.le_refl _) (.cells (cells x) 23)).alloc (by simp) (.cells #[.int .i64 1, .int .i64 n, .bool full] 39)).alloc (by simp; omega) (.cells (cells none7) 23)).alloc (by simp; omega) (.cells (cells x) 23)
  have hs0 : ((((w.alloc (.cells (cells x) 23)).alloc (.cells #[.int .i64 1, .int .i64 n, .bool full] 39)).alloc (.cells (cells none7) 23)).alloc (.cells (cells x) 23)).heap.size = w.heap.size + 4 := by simp
  obtain ⟨W, hW⟩ : ∃ W, W = (((w.alloc (.cells (cells x) 23)).alloc (.cells #[.int .i64 1, .int .i64 n, .bool full] 39)).alloc (.cells (cells none7) 23)).alloc (.cells (cells x) 23) := ⟨_, rfl⟩
  rw [← hW] at hx0 hr0 hc0 hb0 hs0
  have HW := Lib.hid hW
  have HS := Lib.hid hs0
  clear hW hs0
  go_enter Try.func23, Try.ntmps23
  go_wp2_with fail
  refine (measureT x n _ hx hi).mono ?_
  rintro e w1 ⟨rfl, b1⟩
  replace b1 : Below W.heap.size W w1 := by rw [HW.out]; exact b1
  rw [HS.out] at b1
  have hx1 := hx0.below b1 (by omega)
  have hr1 := hr0.below b1 (by omega)
  have hc1 := hc0.below b1 (by omega)
  have hb1 := hb0.trans (b1.mono (by omega))
  clear b1 hx0 hr0 hc0 hb0 HW HS
  have hr2 : At (w1.setRow (w.heap.size + 1 + 1 + 1) (cells (measured x n))) (w.heap.size + 1 + 1) none7 := hr1.row_other (by omega)
  have hx2 : At (w1.setRow (w.heap.size + 1 + 1 + 1) (cells (measured x n))) w.heap.size x := hx1.row_other (by omega)
  have hc2 : At (w1.setRow (w.heap.size + 1 + 1 + 1) (cells (measured x n))) (w.heap.size + 1 + 1 + 1) (measured x n) := hc1.row
  have hb2 : Below w.heap.size w (w1.setRow (w.heap.size + 1 + 1 + 1) (cells (measured x n))) := below_setRow hb1 (by omega) _
  go_wp2_with (first
    | (refine wpList_store_row rfl 23 (.tmp 5) _ rfl (w.heap.size + 1 + 1 + 1) (cells (measured x n)) rfl rfl 23 _ hc1 (by kernel_rfl) rfl (cells_one _) ?_)
    | (refine wpList_load_row rfl 23 (.tmp 5) rfl (w.heap.size + 1 + 1 + 1) rfl 23 _ _ _ hc2 Try.underlying23 rfl (by kernel_rfl) ?_)
    | (refine wpList_load_row rfl 23 (.tmp 2) rfl w.heap.size rfl 23 _ _ _ hx2 Try.underlying23 rfl (by kernel_rfl) ?_)
    | (refine wpList_store_row rfl 23 (.tmp 4) _ rfl (w.heap.size + 1 + 1) (cells (measured x n)) rfl rfl 23 _ hr2 (by kernel_rfl) rfl (cells_one _) ?_))
  exact end_cell (p := 4) (by kernel_rfl) rfl hr2.row rfl ⟨rfl, below_setRow hb2 (by omega) _⟩

set_option maxRecDepth 100000 in
set_option maxHeartbeats 3200000 in
theorem walk1f (x : Wy) (n : Int) (full : Bool) (w : World) (hx : okB x = true) (hi : inB n 0 1099511627776 = false) : Calls Try.prog 23 #[.agg (cells x), .agg #[.int .i64 1, .int .i64 n, .bool full]] w fun e w' => e = .returned (.agg (cells (x))) ∧ Below w.heap.size w w' := by
  have hx0 := (((At.new w x).alloc (.cells #[.int .i64 1, .int .i64 n, .bool full] 39)).alloc (.cells (cells none7) 23)).alloc (.cells (cells x) 23)
  have hr0 := (At.new ((w.alloc (.cells (cells x) 23)).alloc (.cells #[.int .i64 1, .int .i64 n, .bool full] 39)) none7).alloc (.cells (cells x) 23)
  rw [show ((w.alloc (.cells (cells x) 23)).alloc (.cells #[.int .i64 1, .int .i64 n, .bool full] 39)).heap.size = w.heap.size + 1 + 1 from by simp] at hr0
  have hc0 := At.new (((w.alloc (.cells (cells x) 23)).alloc (.cells #[.int .i64 1, .int .i64 n, .bool full] 39)).alloc (.cells (cells none7) 23)) x
  rw [show (((w.alloc (.cells (cells x) 23)).alloc (.cells #[.int .i64 1, .int .i64 n, .bool full] 39)).alloc (.cells (cells none7) 23)).heap.size = w.heap.size + 1 + 1 + 1 from by simp] at hc0
  have hb0 := ((((Below.refl w.heap.size w).alloc (Nat.le_refl _) (.cells (cells x) 23)).alloc (by simp) (.cells #[.int .i64 1, .int .i64 n, .bool full] 39)).alloc (by simp; omega) (.cells (cells none7) 23)).alloc (by simp; omega) (.cells (cells x) 23)
  have hs0 : ((((w.alloc (.cells (cells x) 23)).alloc (.cells #[.int .i64 1, .int .i64 n, .bool full] 39)).alloc (.cells (cells none7) 23)).alloc (.cells (cells x) 23)).heap.size = w.heap.size + 4 := by simp
  obtain ⟨W, hW⟩ : ∃ W, W = (((w.alloc (.cells (cells x) 23)).alloc (.cells #[.int .i64 1, .int .i64 n, .bool full] 39)).alloc (.cells (cells none7) 23)).alloc (.cells (cells x) 23) := ⟨_, rfl⟩
  rw [← hW] at hx0 hr0 hc0 hb0 hs0
  have HW := Lib.hid hW
  have HS := Lib.hid hs0
  clear hW hs0
  go_enter Try.func23, Try.ntmps23
  go_wp2_with fail
  refine (measureF x n _ hx hi).mono ?_
  rintro e w1 ⟨rfl, b1⟩
  replace b1 : Below W.heap.size W w1 := by rw [HW.out]; exact b1
  rw [HS.out] at b1
  have hx1 := hx0.below b1 (by omega)
  have hr1 := hr0.below b1 (by omega)
  have hc1 := hc0.below b1 (by omega)
  have hb1 := hb0.trans (b1.mono (by omega))
  clear b1 hx0 hr0 hc0 hb0 HW HS
  have hr2 : At (w1.setRow (w.heap.size + 1 + 1 + 1) (cells (none7))) (w.heap.size + 1 + 1) none7 := hr1.row_other (by omega)
  have hx2 : At (w1.setRow (w.heap.size + 1 + 1 + 1) (cells (none7))) w.heap.size x := hx1.row_other (by omega)
  have hc2 : At (w1.setRow (w.heap.size + 1 + 1 + 1) (cells (none7))) (w.heap.size + 1 + 1 + 1) (none7) := hc1.row
  have hb2 : Below w.heap.size w (w1.setRow (w.heap.size + 1 + 1 + 1) (cells (none7))) := below_setRow hb1 (by omega) _
  go_wp2_with (first
    | (refine wpList_store_row rfl 23 (.tmp 5) _ rfl (w.heap.size + 1 + 1 + 1) (cells (none7)) rfl rfl 23 _ hc1 (by kernel_rfl) rfl (cells_one _) ?_)
    | (refine wpList_load_row rfl 23 (.tmp 5) rfl (w.heap.size + 1 + 1 + 1) rfl 23 _ _ _ hc2 Try.underlying23 rfl (by kernel_rfl) ?_)
    | (refine wpList_load_row rfl 23 (.tmp 2) rfl w.heap.size rfl 23 _ _ _ hx2 Try.underlying23 rfl (by kernel_rfl) ?_)
    | (refine wpList_store_row rfl 23 (.tmp 4) _ rfl (w.heap.size + 1 + 1) (cells (x)) rfl rfl 23 _ hr2 (by kernel_rfl) rfl (cells_one _) ?_))
  exact end_cell (p := 4) (by kernel_rfl) rfl hr2.row rfl ⟨rfl, below_setRow hb2 (by omega) _⟩

set_option maxRecDepth 100000 in
set_option maxHeartbeats 3200000 in
theorem walk2 (x : Wy) (n : Int) (full : Bool) (w : World) (hx : okB x = true)  : Calls Try.prog 23 #[.agg (cells x), .agg #[.int .i64 2, .int .i64 n, .bool full]] w fun e w' => e = .returned (.agg (cells (lated x))) ∧ Below w.heap.size w w' := by
  have hx0 := (((At.new w x).alloc (.cells #[.int .i64 2, .int .i64 n, .bool full] 39)).alloc (.cells (cells none7) 23)).alloc (.cells (cells x) 23)
  have hr0 := (At.new ((w.alloc (.cells (cells x) 23)).alloc (.cells #[.int .i64 2, .int .i64 n, .bool full] 39)) none7).alloc (.cells (cells x) 23)
  rw [show ((w.alloc (.cells (cells x) 23)).alloc (.cells #[.int .i64 2, .int .i64 n, .bool full] 39)).heap.size = w.heap.size + 1 + 1 from by simp] at hr0
  have hc0 := At.new (((w.alloc (.cells (cells x) 23)).alloc (.cells #[.int .i64 2, .int .i64 n, .bool full] 39)).alloc (.cells (cells none7) 23)) x
  rw [show (((w.alloc (.cells (cells x) 23)).alloc (.cells #[.int .i64 2, .int .i64 n, .bool full] 39)).alloc (.cells (cells none7) 23)).heap.size = w.heap.size + 1 + 1 + 1 from by simp] at hc0
  have hb0 := ((((Below.refl w.heap.size w).alloc (Nat.le_refl _) (.cells (cells x) 23)).alloc (by simp) (.cells #[.int .i64 2, .int .i64 n, .bool full] 39)).alloc (by simp; omega) (.cells (cells none7) 23)).alloc (by simp; omega) (.cells (cells x) 23)
  have hs0 : ((((w.alloc (.cells (cells x) 23)).alloc (.cells #[.int .i64 2, .int .i64 n, .bool full] 39)).alloc (.cells (cells none7) 23)).alloc (.cells (cells x) 23)).heap.size = w.heap.size + 4 := by simp
  obtain ⟨W, hW⟩ : ∃ W, W = (((w.alloc (.cells (cells x) 23)).alloc (.cells #[.int .i64 2, .int .i64 n, .bool full] 39)).alloc (.cells (cells none7) 23)).alloc (.cells (cells x) 23) := ⟨_, rfl⟩
  rw [← hW] at hx0 hr0 hc0 hb0 hs0
  have HW := Lib.hid hW
  have HS := Lib.hid hs0
  clear hW hs0
  go_enter Try.func23, Try.ntmps23
  go_wp2_with fail
  refine (lateT x _ hx).mono ?_
  rintro e w1 ⟨rfl, b1⟩
  replace b1 : Below W.heap.size W w1 := by rw [HW.out]; exact b1
  rw [HS.out] at b1
  have hx1 := hx0.below b1 (by omega)
  have hr1 := hr0.below b1 (by omega)
  have hc1 := hc0.below b1 (by omega)
  have hb1 := hb0.trans (b1.mono (by omega))
  clear b1 hx0 hr0 hc0 hb0 HW HS
  have hr2 : At (w1.setRow (w.heap.size + 1 + 1 + 1) (cells (lated x))) (w.heap.size + 1 + 1) none7 := hr1.row_other (by omega)
  have hx2 : At (w1.setRow (w.heap.size + 1 + 1 + 1) (cells (lated x))) w.heap.size x := hx1.row_other (by omega)
  have hc2 : At (w1.setRow (w.heap.size + 1 + 1 + 1) (cells (lated x))) (w.heap.size + 1 + 1 + 1) (lated x) := hc1.row
  have hb2 : Below w.heap.size w (w1.setRow (w.heap.size + 1 + 1 + 1) (cells (lated x))) := below_setRow hb1 (by omega) _
  go_wp2_with (first
    | (refine wpList_store_row rfl 23 (.tmp 5) _ rfl (w.heap.size + 1 + 1 + 1) (cells (lated x)) rfl rfl 23 _ hc1 (by kernel_rfl) rfl (cells_one _) ?_)
    | (refine wpList_load_row rfl 23 (.tmp 5) rfl (w.heap.size + 1 + 1 + 1) rfl 23 _ _ _ hc2 Try.underlying23 rfl (by kernel_rfl) ?_)
    | (refine wpList_load_row rfl 23 (.tmp 2) rfl w.heap.size rfl 23 _ _ _ hx2 Try.underlying23 rfl (by kernel_rfl) ?_)
    | (refine wpList_store_row rfl 23 (.tmp 4) _ rfl (w.heap.size + 1 + 1) (cells (lated x)) rfl rfl 23 _ hr2 (by kernel_rfl) rfl (cells_one _) ?_))
  exact end_cell (p := 4) (by kernel_rfl) rfl hr2.row rfl ⟨rfl, below_setRow hb2 (by omega) _⟩

set_option maxRecDepth 100000 in
set_option maxHeartbeats 3200000 in
theorem walk3 (x : Wy) (n : Int) (full : Bool) (w : World) (hx : okB x = true)  : Calls Try.prog 23 #[.agg (cells x), .agg #[.int .i64 3, .int .i64 n, .bool full]] w fun e w' => e = .returned (.agg (cells (halved x))) ∧ Below w.heap.size w w' := by
  have hx0 := (((At.new w x).alloc (.cells #[.int .i64 3, .int .i64 n, .bool full] 39)).alloc (.cells (cells none7) 23)).alloc (.cells (cells x) 23)
  have hr0 := (At.new ((w.alloc (.cells (cells x) 23)).alloc (.cells #[.int .i64 3, .int .i64 n, .bool full] 39)) none7).alloc (.cells (cells x) 23)
  rw [show ((w.alloc (.cells (cells x) 23)).alloc (.cells #[.int .i64 3, .int .i64 n, .bool full] 39)).heap.size = w.heap.size + 1 + 1 from by simp] at hr0
  have hc0 := At.new (((w.alloc (.cells (cells x) 23)).alloc (.cells #[.int .i64 3, .int .i64 n, .bool full] 39)).alloc (.cells (cells none7) 23)) x
  rw [show (((w.alloc (.cells (cells x) 23)).alloc (.cells #[.int .i64 3, .int .i64 n, .bool full] 39)).alloc (.cells (cells none7) 23)).heap.size = w.heap.size + 1 + 1 + 1 from by simp] at hc0
  have hb0 := ((((Below.refl w.heap.size w).alloc (Nat.le_refl _) (.cells (cells x) 23)).alloc (by simp) (.cells #[.int .i64 3, .int .i64 n, .bool full] 39)).alloc (by simp; omega) (.cells (cells none7) 23)).alloc (by simp; omega) (.cells (cells x) 23)
  have hs0 : ((((w.alloc (.cells (cells x) 23)).alloc (.cells #[.int .i64 3, .int .i64 n, .bool full] 39)).alloc (.cells (cells none7) 23)).alloc (.cells (cells x) 23)).heap.size = w.heap.size + 4 := by simp
  obtain ⟨W, hW⟩ : ∃ W, W = (((w.alloc (.cells (cells x) 23)).alloc (.cells #[.int .i64 3, .int .i64 n, .bool full] 39)).alloc (.cells (cells none7) 23)).alloc (.cells (cells x) 23) := ⟨_, rfl⟩
  rw [← hW] at hx0 hr0 hc0 hb0 hs0
  have HW := Lib.hid hW
  have HS := Lib.hid hs0
  clear hW hs0
  go_enter Try.func23, Try.ntmps23
  go_wp2_with fail
  refine (fastT x _ hx).mono ?_
  rintro e w1 ⟨rfl, b1⟩
  replace b1 : Below W.heap.size W w1 := by rw [HW.out]; exact b1
  rw [HS.out] at b1
  have hx1 := hx0.below b1 (by omega)
  have hr1 := hr0.below b1 (by omega)
  have hc1 := hc0.below b1 (by omega)
  have hb1 := hb0.trans (b1.mono (by omega))
  clear b1 hx0 hr0 hc0 hb0 HW HS
  have hr2 : At (w1.setRow (w.heap.size + 1 + 1 + 1) (cells (halved x))) (w.heap.size + 1 + 1) none7 := hr1.row_other (by omega)
  have hx2 : At (w1.setRow (w.heap.size + 1 + 1 + 1) (cells (halved x))) w.heap.size x := hx1.row_other (by omega)
  have hc2 : At (w1.setRow (w.heap.size + 1 + 1 + 1) (cells (halved x))) (w.heap.size + 1 + 1 + 1) (halved x) := hc1.row
  have hb2 : Below w.heap.size w (w1.setRow (w.heap.size + 1 + 1 + 1) (cells (halved x))) := below_setRow hb1 (by omega) _
  go_wp2_with (first
    | (refine wpList_store_row rfl 23 (.tmp 5) _ rfl (w.heap.size + 1 + 1 + 1) (cells (halved x)) rfl rfl 23 _ hc1 (by kernel_rfl) rfl (cells_one _) ?_)
    | (refine wpList_load_row rfl 23 (.tmp 5) rfl (w.heap.size + 1 + 1 + 1) rfl 23 _ _ _ hc2 Try.underlying23 rfl (by kernel_rfl) ?_)
    | (refine wpList_load_row rfl 23 (.tmp 2) rfl w.heap.size rfl 23 _ _ _ hx2 Try.underlying23 rfl (by kernel_rfl) ?_)
    | (refine wpList_store_row rfl 23 (.tmp 4) _ rfl (w.heap.size + 1 + 1) (cells (halved x)) rfl rfl 23 _ hr2 (by kernel_rfl) rfl (cells_one _) ?_))
  exact end_cell (p := 4) (by kernel_rfl) rfl hr2.row rfl ⟨rfl, below_setRow hb2 (by omega) _⟩

set_option maxRecDepth 100000 in
set_option maxHeartbeats 3200000 in
theorem walk4 (x : Wy) (n : Int) (full : Bool) (w : World) (hx : okB x = true) (hi : inB n 0 65536 = true) : Calls Try.prog 23 #[.agg (cells x), .agg #[.int .i64 4, .int .i64 n, .bool full]] w fun e w' => e = .returned (.agg (cells (ackedF x n full))) ∧ Below w.heap.size w w' := by
  have hx0 := (((At.new w x).alloc (.cells #[.int .i64 4, .int .i64 n, .bool full] 39)).alloc (.cells (cells none7) 23)).alloc (.cells (cells x) 23)
  have hr0 := (At.new ((w.alloc (.cells (cells x) 23)).alloc (.cells #[.int .i64 4, .int .i64 n, .bool full] 39)) none7).alloc (.cells (cells x) 23)
  rw [show ((w.alloc (.cells (cells x) 23)).alloc (.cells #[.int .i64 4, .int .i64 n, .bool full] 39)).heap.size = w.heap.size + 1 + 1 from by simp] at hr0
  have hc0 := At.new (((w.alloc (.cells (cells x) 23)).alloc (.cells #[.int .i64 4, .int .i64 n, .bool full] 39)).alloc (.cells (cells none7) 23)) x
  rw [show (((w.alloc (.cells (cells x) 23)).alloc (.cells #[.int .i64 4, .int .i64 n, .bool full] 39)).alloc (.cells (cells none7) 23)).heap.size = w.heap.size + 1 + 1 + 1 from by simp] at hc0
  have hb0 := ((((Below.refl w.heap.size w).alloc (Nat.le_refl _) (.cells (cells x) 23)).alloc (by simp) (.cells #[.int .i64 4, .int .i64 n, .bool full] 39)).alloc (by simp; omega) (.cells (cells none7) 23)).alloc (by simp; omega) (.cells (cells x) 23)
  have hs0 : ((((w.alloc (.cells (cells x) 23)).alloc (.cells #[.int .i64 4, .int .i64 n, .bool full] 39)).alloc (.cells (cells none7) 23)).alloc (.cells (cells x) 23)).heap.size = w.heap.size + 4 := by simp
  obtain ⟨W, hW⟩ : ∃ W, W = (((w.alloc (.cells (cells x) 23)).alloc (.cells #[.int .i64 4, .int .i64 n, .bool full] 39)).alloc (.cells (cells none7) 23)).alloc (.cells (cells x) 23) := ⟨_, rfl⟩
  rw [← hW] at hx0 hr0 hc0 hb0 hs0
  have HW := Lib.hid hW
  have HS := Lib.hid hs0
  clear hW hs0
  go_enter Try.func23, Try.ntmps23
  go_wp2_with fail
  refine (ackedT x n full _ hx hi).mono ?_
  rintro e w1 ⟨rfl, b1⟩
  replace b1 : Below W.heap.size W w1 := by rw [HW.out]; exact b1
  rw [HS.out] at b1
  have hx1 := hx0.below b1 (by omega)
  have hr1 := hr0.below b1 (by omega)
  have hc1 := hc0.below b1 (by omega)
  have hb1 := hb0.trans (b1.mono (by omega))
  clear b1 hx0 hr0 hc0 hb0 HW HS
  have hr2 : At (w1.setRow (w.heap.size + 1 + 1 + 1) (cells (ackedF x n full))) (w.heap.size + 1 + 1) none7 := hr1.row_other (by omega)
  have hx2 : At (w1.setRow (w.heap.size + 1 + 1 + 1) (cells (ackedF x n full))) w.heap.size x := hx1.row_other (by omega)
  have hc2 : At (w1.setRow (w.heap.size + 1 + 1 + 1) (cells (ackedF x n full))) (w.heap.size + 1 + 1 + 1) (ackedF x n full) := hc1.row
  have hb2 : Below w.heap.size w (w1.setRow (w.heap.size + 1 + 1 + 1) (cells (ackedF x n full))) := below_setRow hb1 (by omega) _
  go_wp2_with (first
    | (refine wpList_store_row rfl 23 (.tmp 5) _ rfl (w.heap.size + 1 + 1 + 1) (cells (ackedF x n full)) rfl rfl 23 _ hc1 (by kernel_rfl) rfl (cells_one _) ?_)
    | (refine wpList_load_row rfl 23 (.tmp 5) rfl (w.heap.size + 1 + 1 + 1) rfl 23 _ _ _ hc2 Try.underlying23 rfl (by kernel_rfl) ?_)
    | (refine wpList_load_row rfl 23 (.tmp 2) rfl w.heap.size rfl 23 _ _ _ hx2 Try.underlying23 rfl (by kernel_rfl) ?_)
    | (refine wpList_store_row rfl 23 (.tmp 4) _ rfl (w.heap.size + 1 + 1) (cells (ackedF x n full)) rfl rfl 23 _ hr2 (by kernel_rfl) rfl (cells_one _) ?_))
  exact end_cell (p := 4) (by kernel_rfl) rfl hr2.row rfl ⟨rfl, below_setRow hb2 (by omega) _⟩

set_option maxRecDepth 100000 in
set_option maxHeartbeats 3200000 in
theorem walk4f (x : Wy) (n : Int) (full : Bool) (w : World) (hx : okB x = true) (hi : inB n 0 65536 = false) : Calls Try.prog 23 #[.agg (cells x), .agg #[.int .i64 4, .int .i64 n, .bool full]] w fun e w' => e = .returned (.agg (cells (x))) ∧ Below w.heap.size w w' := by
  have hx0 := (((At.new w x).alloc (.cells #[.int .i64 4, .int .i64 n, .bool full] 39)).alloc (.cells (cells none7) 23)).alloc (.cells (cells x) 23)
  have hr0 := (At.new ((w.alloc (.cells (cells x) 23)).alloc (.cells #[.int .i64 4, .int .i64 n, .bool full] 39)) none7).alloc (.cells (cells x) 23)
  rw [show ((w.alloc (.cells (cells x) 23)).alloc (.cells #[.int .i64 4, .int .i64 n, .bool full] 39)).heap.size = w.heap.size + 1 + 1 from by simp] at hr0
  have hc0 := At.new (((w.alloc (.cells (cells x) 23)).alloc (.cells #[.int .i64 4, .int .i64 n, .bool full] 39)).alloc (.cells (cells none7) 23)) x
  rw [show (((w.alloc (.cells (cells x) 23)).alloc (.cells #[.int .i64 4, .int .i64 n, .bool full] 39)).alloc (.cells (cells none7) 23)).heap.size = w.heap.size + 1 + 1 + 1 from by simp] at hc0
  have hb0 := ((((Below.refl w.heap.size w).alloc (Nat.le_refl _) (.cells (cells x) 23)).alloc (by simp) (.cells #[.int .i64 4, .int .i64 n, .bool full] 39)).alloc (by simp; omega) (.cells (cells none7) 23)).alloc (by simp; omega) (.cells (cells x) 23)
  have hs0 : ((((w.alloc (.cells (cells x) 23)).alloc (.cells #[.int .i64 4, .int .i64 n, .bool full] 39)).alloc (.cells (cells none7) 23)).alloc (.cells (cells x) 23)).heap.size = w.heap.size + 4 := by simp
  obtain ⟨W, hW⟩ : ∃ W, W = (((w.alloc (.cells (cells x) 23)).alloc (.cells #[.int .i64 4, .int .i64 n, .bool full] 39)).alloc (.cells (cells none7) 23)).alloc (.cells (cells x) 23) := ⟨_, rfl⟩
  rw [← hW] at hx0 hr0 hc0 hb0 hs0
  have HW := Lib.hid hW
  have HS := Lib.hid hs0
  clear hW hs0
  go_enter Try.func23, Try.ntmps23
  go_wp2_with fail
  refine (ackedN x n full _ hx hi).mono ?_
  rintro e w1 ⟨rfl, b1⟩
  replace b1 : Below W.heap.size W w1 := by rw [HW.out]; exact b1
  rw [HS.out] at b1
  have hx1 := hx0.below b1 (by omega)
  have hr1 := hr0.below b1 (by omega)
  have hc1 := hc0.below b1 (by omega)
  have hb1 := hb0.trans (b1.mono (by omega))
  clear b1 hx0 hr0 hc0 hb0 HW HS
  have hr2 : At (w1.setRow (w.heap.size + 1 + 1 + 1) (cells (none7))) (w.heap.size + 1 + 1) none7 := hr1.row_other (by omega)
  have hx2 : At (w1.setRow (w.heap.size + 1 + 1 + 1) (cells (none7))) w.heap.size x := hx1.row_other (by omega)
  have hc2 : At (w1.setRow (w.heap.size + 1 + 1 + 1) (cells (none7))) (w.heap.size + 1 + 1 + 1) (none7) := hc1.row
  have hb2 : Below w.heap.size w (w1.setRow (w.heap.size + 1 + 1 + 1) (cells (none7))) := below_setRow hb1 (by omega) _
  go_wp2_with (first
    | (refine wpList_store_row rfl 23 (.tmp 5) _ rfl (w.heap.size + 1 + 1 + 1) (cells (none7)) rfl rfl 23 _ hc1 (by kernel_rfl) rfl (cells_one _) ?_)
    | (refine wpList_load_row rfl 23 (.tmp 5) rfl (w.heap.size + 1 + 1 + 1) rfl 23 _ _ _ hc2 Try.underlying23 rfl (by kernel_rfl) ?_)
    | (refine wpList_load_row rfl 23 (.tmp 2) rfl w.heap.size rfl 23 _ _ _ hx2 Try.underlying23 rfl (by kernel_rfl) ?_)
    | (refine wpList_store_row rfl 23 (.tmp 4) _ rfl (w.heap.size + 1 + 1) (cells (x)) rfl rfl 23 _ hr2 (by kernel_rfl) rfl (cells_one _) ?_))
  exact end_cell (p := 4) (by kernel_rfl) rfl hr2.row rfl ⟨rfl, below_setRow hb2 (by omega) _⟩

set_option maxRecDepth 100000 in
set_option maxHeartbeats 3200000 in
theorem walk0 (x : Wy) (kd : Int) (n : Int) (full : Bool) (w : World) (k1 : (kd == 1) = false) (k2 : (kd == 2) = false) (k3 : (kd == 3) = false) (k4 : (kd == 4) = false) : Calls Try.prog 23 #[.agg (cells x), .agg #[.int .i64 kd, .int .i64 n, .bool full]] w fun e w' => e = .returned (.agg (cells x)) ∧ Below w.heap.size w w' := by
  have hx0 := (((At.new w x).alloc (.cells #[.int .i64 kd, .int .i64 n, .bool full] 39)).alloc (.cells (cells none7) 23)).alloc (.cells (cells x) 23)
  have hr0 := (At.new ((w.alloc (.cells (cells x) 23)).alloc (.cells #[.int .i64 kd, .int .i64 n, .bool full] 39)) none7).alloc (.cells (cells x) 23)
  rw [show ((w.alloc (.cells (cells x) 23)).alloc (.cells #[.int .i64 kd, .int .i64 n, .bool full] 39)).heap.size = w.heap.size + 1 + 1 from by simp] at hr0
  have hc0 := At.new (((w.alloc (.cells (cells x) 23)).alloc (.cells #[.int .i64 kd, .int .i64 n, .bool full] 39)).alloc (.cells (cells none7) 23)) x
  rw [show (((w.alloc (.cells (cells x) 23)).alloc (.cells #[.int .i64 kd, .int .i64 n, .bool full] 39)).alloc (.cells (cells none7) 23)).heap.size = w.heap.size + 1 + 1 + 1 from by simp] at hc0
  have hb0 := ((((Below.refl w.heap.size w).alloc (Nat.le_refl _) (.cells (cells x) 23)).alloc (by simp) (.cells #[.int .i64 kd, .int .i64 n, .bool full] 39)).alloc (by simp; omega) (.cells (cells none7) 23)).alloc (by simp; omega) (.cells (cells x) 23)
  have hs0 : ((((w.alloc (.cells (cells x) 23)).alloc (.cells #[.int .i64 kd, .int .i64 n, .bool full] 39)).alloc (.cells (cells none7) 23)).alloc (.cells (cells x) 23)).heap.size = w.heap.size + 4 := by simp
  obtain ⟨W, hW⟩ : ∃ W, W = (((w.alloc (.cells (cells x) 23)).alloc (.cells #[.int .i64 kd, .int .i64 n, .bool full] 39)).alloc (.cells (cells none7) 23)).alloc (.cells (cells x) 23) := ⟨_, rfl⟩
  rw [← hW] at hx0 hr0 hc0 hb0 hs0
  rw [hW] at hr0 hc0 hb0
  clear hx0 hW hs0
  go_enter Try.func23, Try.ntmps23
  go_wp2_with (first
    | (refine wpList_store_row rfl 23 (.tmp 4) _ rfl (w.heap.size + 1 + 1) (cells x) rfl rfl 23 _ hr0 (by kernel_rfl) rfl (cells_one _) ?_))
  exact end_cell (p := 4) (by kernel_rfl) rfl hr0.row rfl ⟨rfl, below_setRow hb0 (by omega) _⟩

theorem walk (x : Wy) (kd n : Int) (full : Bool) (w : World) (hx : okB x = true) : Calls Try.prog 23 #[.agg (cells x), .agg #[.int .i64 kd, .int .i64 n, .bool full]] w fun e w' => e = .returned (.agg (cells (walkW x kd n full))) ∧ Below w.heap.size w w' := by
  unfold walkW
  by_cases k1 : kd = 1
  · subst k1
    rw [if_pos rfl]
    cases hi : inB n 0 1099511627776 with
    | true => exact walk1 x n full w hx hi
    | false => exact walk1f x n full w hx hi
  · rw [if_neg k1]
    by_cases k2 : kd = 2
    · subst k2; rw [if_pos rfl]; exact walk2 x n full w hx
    · rw [if_neg k2]
      by_cases k3 : kd = 3
      · subst k3; rw [if_pos rfl]; exact walk3 x n full w hx
      · rw [if_neg k3]
        by_cases k4 : kd = 4
        · subst k4
          rw [if_pos rfl]
          cases hi : inB n 0 65536 with
          | true => exact walk4 x n full w hx hi
          | false => exact walk4f x n full w hx hi
        · rw [if_neg k4]; exact walk0 x kd n full w (by simp [k1]) (by simp [k2]) (by simp [k3]) (by simp [k4])
end Go.Proofs.Ytljalbcmhcagaaa.Way
