/-
  Contracts: the inner steps of peer, function 16, at each state and event.
-/
import Derived.Test.YtamemmbcdkhdhaaStep1
namespace Go.Proofs.Ytamemmbcdkhdhaa.Peer
open Go.RowKit Mem Cells
set_option linter.unusedVariables false
set_option linter.unusedSimpArgs false

theorem f16_5_1 (w : World) : Calls Try.prog 16 #[.int .i64 5, .int .i64 1] w (Known w (none)) := by
  have h0 := At.new w 38 #[.int .i64 0, .slice none 0 0]
  have hb := (Below.refl w.heap.size w).alloc (Nat.le_refl _) (.cells #[.int .i64 0, .slice none 0 0] 38)
  go_enter Try.func16, Try.ntmps16
  go_wp2_with (refine wpList_store_row rfl 38 _ _ rfl w.heap.size #[.int .i64 0, .slice none 0 0] rfl rfl 38 _ h0 (by kernel_rfl) rfl (by simp [Value.oneCell']) ?_)
  exact end_cell_tmp (p := 4) (u := 5) (by kernel_rfl) rfl h0.row Try.underlying38 rfl (by kernel_rfl) rfl rfl ⟨below_setRow hb (Nat.le_refl _) _, _, _, _, _, rfl⟩

theorem f16_5_2 (w : World) : Calls Try.prog 16 #[.int .i64 5, .int .i64 2] w (Known w (some (5, [5]))) := by
  have h0 := At.new w 38 #[.int .i64 0, .slice none 0 0]
  have hb := (Below.refl w.heap.size w).alloc (Nat.le_refl _) (.cells #[.int .i64 0, .slice none 0 0] 38)
  go_enter Try.func16, Try.ntmps16
  go_wp2_with fail
  have hr : Reads .i64 ((w.alloc (.cells #[.int .i64 0, .slice none 0 0] 38)).alloc (.cells #[.int .i64 5] 3)) (.slice (some ⟨w.heap.size + 1, 0, none⟩) 1 1) [5] := by
    have := lst (w.alloc (.cells #[.int .i64 0, .slice none 0 0] 38)) [5] (by decide)
    rwa [show (w.alloc (.cells #[.int .i64 0, .slice none 0 0] 38)).heap.size = w.heap.size + 1 from by simp] at this
  have h1 := h0.alloc (.cells #[.int .i64 5] 3)
  have hb1 := hb.alloc (by simp) (.cells #[.int .i64 5] 3)
  refine (to_ _ _ _ _ _).mono ?_
  rintro e w1 ⟨rfl, b1⟩
  replace b1 := below_of (a := ((w.alloc (.cells #[.int .i64 0, .slice none 0 0] 38)).alloc (.cells #[.int .i64 5] 3))) b1 rfl
  replace hr := hr.below b1
  replace h1 := h1.ext b1
  replace hb1 := hb1.trans (b1.mono hb1.size)
  clear b1 h0 hb
  go_wp2_with (refine wpList_store_row rfl 38 _ _ rfl w.heap.size #[.int .i64 5, .slice (some ⟨w.heap.size + 1, 0, none⟩) 1 1] rfl rfl 38 _ h1 (by kernel_rfl) rfl (by simp [Value.oneCell']) ?_)
  refine end_cell_tmp (p := 4) (u := 5) (by kernel_rfl) rfl h1.row Try.underlying38 rfl (by kernel_rfl) rfl rfl ⟨below_setRow hb1 (Nat.le_refl _) _, _, _, rfl, (by intro b off h; cases h; omega), ?_⟩
  exact reads_row hr (by intro b off h; cases h; omega)

theorem f16_5_3 (w : World) : Calls Try.prog 16 #[.int .i64 5, .int .i64 3] w (Known w (none)) := by
  have h0 := At.new w 38 #[.int .i64 0, .slice none 0 0]
  have hb := (Below.refl w.heap.size w).alloc (Nat.le_refl _) (.cells #[.int .i64 0, .slice none 0 0] 38)
  go_enter Try.func16, Try.ntmps16
  go_wp2_with (refine wpList_store_row rfl 38 _ _ rfl w.heap.size #[.int .i64 0, .slice none 0 0] rfl rfl 38 _ h0 (by kernel_rfl) rfl (by simp [Value.oneCell']) ?_)
  exact end_cell_tmp (p := 4) (u := 5) (by kernel_rfl) rfl h0.row Try.underlying38 rfl (by kernel_rfl) rfl rfl ⟨below_setRow hb (Nat.le_refl _) _, _, _, _, _, rfl⟩

theorem f16_5_4 (w : World) : Calls Try.prog 16 #[.int .i64 5, .int .i64 4] w (Known w (none)) := by
  have h0 := At.new w 38 #[.int .i64 0, .slice none 0 0]
  have hb := (Below.refl w.heap.size w).alloc (Nat.le_refl _) (.cells #[.int .i64 0, .slice none 0 0] 38)
  go_enter Try.func16, Try.ntmps16
  go_wp2_with (refine wpList_store_row rfl 38 _ _ rfl w.heap.size #[.int .i64 0, .slice none 0 0] rfl rfl 38 _ h0 (by kernel_rfl) rfl (by simp [Value.oneCell']) ?_)
  exact end_cell_tmp (p := 4) (u := 5) (by kernel_rfl) rfl h0.row Try.underlying38 rfl (by kernel_rfl) rfl rfl ⟨below_setRow hb (Nat.le_refl _) _, _, _, _, _, rfl⟩

theorem f16_5_5 (w : World) : Calls Try.prog 16 #[.int .i64 5, .int .i64 5] w (Known w (none)) := by
  have h0 := At.new w 38 #[.int .i64 0, .slice none 0 0]
  have hb := (Below.refl w.heap.size w).alloc (Nat.le_refl _) (.cells #[.int .i64 0, .slice none 0 0] 38)
  go_enter Try.func16, Try.ntmps16
  go_wp2_with (refine wpList_store_row rfl 38 _ _ rfl w.heap.size #[.int .i64 0, .slice none 0 0] rfl rfl 38 _ h0 (by kernel_rfl) rfl (by simp [Value.oneCell']) ?_)
  exact end_cell_tmp (p := 4) (u := 5) (by kernel_rfl) rfl h0.row Try.underlying38 rfl (by kernel_rfl) rfl rfl ⟨below_setRow hb (Nat.le_refl _) _, _, _, _, _, rfl⟩

theorem f16_5_6 (w : World) : Calls Try.prog 16 #[.int .i64 5, .int .i64 6] w (Known w (none)) := by
  have h0 := At.new w 38 #[.int .i64 0, .slice none 0 0]
  have hb := (Below.refl w.heap.size w).alloc (Nat.le_refl _) (.cells #[.int .i64 0, .slice none 0 0] 38)
  go_enter Try.func16, Try.ntmps16
  go_wp2_with (refine wpList_store_row rfl 38 _ _ rfl w.heap.size #[.int .i64 0, .slice none 0 0] rfl rfl 38 _ h0 (by kernel_rfl) rfl (by simp [Value.oneCell']) ?_)
  exact end_cell_tmp (p := 4) (u := 5) (by kernel_rfl) rfl h0.row Try.underlying38 rfl (by kernel_rfl) rfl rfl ⟨below_setRow hb (Nat.le_refl _) _, _, _, _, _, rfl⟩

theorem f16_5_7 (w : World) : Calls Try.prog 16 #[.int .i64 5, .int .i64 7] w (Known w (some (0, [11]))) := by
  have h0 := At.new w 38 #[.int .i64 0, .slice none 0 0]
  have hb := (Below.refl w.heap.size w).alloc (Nat.le_refl _) (.cells #[.int .i64 0, .slice none 0 0] 38)
  go_enter Try.func16, Try.ntmps16
  go_wp2_with fail
  have hr : Reads .i64 ((w.alloc (.cells #[.int .i64 0, .slice none 0 0] 38)).alloc (.cells #[.int .i64 11] 3)) (.slice (some ⟨w.heap.size + 1, 0, none⟩) 1 1) [11] := by
    have := lst (w.alloc (.cells #[.int .i64 0, .slice none 0 0] 38)) [11] (by decide)
    rwa [show (w.alloc (.cells #[.int .i64 0, .slice none 0 0] 38)).heap.size = w.heap.size + 1 from by simp] at this
  have h1 := h0.alloc (.cells #[.int .i64 11] 3)
  have hb1 := hb.alloc (by simp) (.cells #[.int .i64 11] 3)
  refine (to_ _ _ _ _ _).mono ?_
  rintro e w1 ⟨rfl, b1⟩
  replace b1 := below_of (a := ((w.alloc (.cells #[.int .i64 0, .slice none 0 0] 38)).alloc (.cells #[.int .i64 11] 3))) b1 rfl
  replace hr := hr.below b1
  replace h1 := h1.ext b1
  replace hb1 := hb1.trans (b1.mono hb1.size)
  clear b1 h0 hb
  go_wp2_with (refine wpList_store_row rfl 38 _ _ rfl w.heap.size #[.int .i64 0, .slice (some ⟨w.heap.size + 1, 0, none⟩) 1 1] rfl rfl 38 _ h1 (by kernel_rfl) rfl (by simp [Value.oneCell']) ?_)
  refine end_cell_tmp (p := 4) (u := 5) (by kernel_rfl) rfl h1.row Try.underlying38 rfl (by kernel_rfl) rfl rfl ⟨below_setRow hb1 (Nat.le_refl _) _, _, _, rfl, (by intro b off h; cases h; omega), ?_⟩
  exact reads_row hr (by intro b off h; cases h; omega)

theorem f16_5_8 (w : World) : Calls Try.prog 16 #[.int .i64 5, .int .i64 8] w (Known w (none)) := by
  have h0 := At.new w 38 #[.int .i64 0, .slice none 0 0]
  have hb := (Below.refl w.heap.size w).alloc (Nat.le_refl _) (.cells #[.int .i64 0, .slice none 0 0] 38)
  go_enter Try.func16, Try.ntmps16
  go_wp2_with (refine wpList_store_row rfl 38 _ _ rfl w.heap.size #[.int .i64 0, .slice none 0 0] rfl rfl 38 _ h0 (by kernel_rfl) rfl (by simp [Value.oneCell']) ?_)
  exact end_cell_tmp (p := 4) (u := 5) (by kernel_rfl) rfl h0.row Try.underlying38 rfl (by kernel_rfl) rfl rfl ⟨below_setRow hb (Nat.le_refl _) _, _, _, _, _, rfl⟩

theorem f16_5_9 (w : World) : Calls Try.prog 16 #[.int .i64 5, .int .i64 9] w (Known w (some (7, [8]))) := by
  have h0 := At.new w 38 #[.int .i64 0, .slice none 0 0]
  have hb := (Below.refl w.heap.size w).alloc (Nat.le_refl _) (.cells #[.int .i64 0, .slice none 0 0] 38)
  go_enter Try.func16, Try.ntmps16
  go_wp2_with fail
  have hr : Reads .i64 ((w.alloc (.cells #[.int .i64 0, .slice none 0 0] 38)).alloc (.cells #[.int .i64 8] 3)) (.slice (some ⟨w.heap.size + 1, 0, none⟩) 1 1) [8] := by
    have := lst (w.alloc (.cells #[.int .i64 0, .slice none 0 0] 38)) [8] (by decide)
    rwa [show (w.alloc (.cells #[.int .i64 0, .slice none 0 0] 38)).heap.size = w.heap.size + 1 from by simp] at this
  have h1 := h0.alloc (.cells #[.int .i64 8] 3)
  have hb1 := hb.alloc (by simp) (.cells #[.int .i64 8] 3)
  refine (to_ _ _ _ _ _).mono ?_
  rintro e w1 ⟨rfl, b1⟩
  replace b1 := below_of (a := ((w.alloc (.cells #[.int .i64 0, .slice none 0 0] 38)).alloc (.cells #[.int .i64 8] 3))) b1 rfl
  replace hr := hr.below b1
  replace h1 := h1.ext b1
  replace hb1 := hb1.trans (b1.mono hb1.size)
  clear b1 h0 hb
  go_wp2_with (refine wpList_store_row rfl 38 _ _ rfl w.heap.size #[.int .i64 7, .slice (some ⟨w.heap.size + 1, 0, none⟩) 1 1] rfl rfl 38 _ h1 (by kernel_rfl) rfl (by simp [Value.oneCell']) ?_)
  refine end_cell_tmp (p := 4) (u := 5) (by kernel_rfl) rfl h1.row Try.underlying38 rfl (by kernel_rfl) rfl rfl ⟨below_setRow hb1 (Nat.le_refl _) _, _, _, rfl, (by intro b off h; cases h; omega), ?_⟩
  exact reads_row hr (by intro b off h; cases h; omega)

theorem f16_5_10 (w : World) : Calls Try.prog 16 #[.int .i64 5, .int .i64 10] w (Known w (some (0, [9, 6, 11]))) := by
  have h0 := At.new w 38 #[.int .i64 0, .slice none 0 0]
  have hb := (Below.refl w.heap.size w).alloc (Nat.le_refl _) (.cells #[.int .i64 0, .slice none 0 0] 38)
  go_enter Try.func16, Try.ntmps16
  go_wp2_with fail
  have hr : Reads .i64 ((w.alloc (.cells #[.int .i64 0, .slice none 0 0] 38)).alloc (.cells #[.int .i64 9, .int .i64 6, .int .i64 11] 3)) (.slice (some ⟨w.heap.size + 1, 0, none⟩) 3 3) [9, 6, 11] := by
    have := lst (w.alloc (.cells #[.int .i64 0, .slice none 0 0] 38)) [9, 6, 11] (by decide)
    rwa [show (w.alloc (.cells #[.int .i64 0, .slice none 0 0] 38)).heap.size = w.heap.size + 1 from by simp] at this
  have h1 := h0.alloc (.cells #[.int .i64 9, .int .i64 6, .int .i64 11] 3)
  have hb1 := hb.alloc (by simp) (.cells #[.int .i64 9, .int .i64 6, .int .i64 11] 3)
  refine (to_ _ _ _ _ _).mono ?_
  rintro e w1 ⟨rfl, b1⟩
  replace b1 := below_of (a := ((w.alloc (.cells #[.int .i64 0, .slice none 0 0] 38)).alloc (.cells #[.int .i64 9, .int .i64 6, .int .i64 11] 3))) b1 rfl
  replace hr := hr.below b1
  replace h1 := h1.ext b1
  replace hb1 := hb1.trans (b1.mono hb1.size)
  clear b1 h0 hb
  go_wp2_with (refine wpList_store_row rfl 38 _ _ rfl w.heap.size #[.int .i64 0, .slice (some ⟨w.heap.size + 1, 0, none⟩) 3 3] rfl rfl 38 _ h1 (by kernel_rfl) rfl (by simp [Value.oneCell']) ?_)
  refine end_cell_tmp (p := 4) (u := 5) (by kernel_rfl) rfl h1.row Try.underlying38 rfl (by kernel_rfl) rfl rfl ⟨below_setRow hb1 (Nat.le_refl _) _, _, _, rfl, (by intro b off h; cases h; omega), ?_⟩
  exact reads_row hr (by intro b off h; cases h; omega)

theorem f16_5_11 (w : World) : Calls Try.prog 16 #[.int .i64 5, .int .i64 11] w (Known w (none)) := by
  have h0 := At.new w 38 #[.int .i64 0, .slice none 0 0]
  have hb := (Below.refl w.heap.size w).alloc (Nat.le_refl _) (.cells #[.int .i64 0, .slice none 0 0] 38)
  go_enter Try.func16, Try.ntmps16
  go_wp2_with (refine wpList_store_row rfl 38 _ _ rfl w.heap.size #[.int .i64 0, .slice none 0 0] rfl rfl 38 _ h0 (by kernel_rfl) rfl (by simp [Value.oneCell']) ?_)
  exact end_cell_tmp (p := 4) (u := 5) (by kernel_rfl) rfl h0.row Try.underlying38 rfl (by kernel_rfl) rfl rfl ⟨below_setRow hb (Nat.le_refl _) _, _, _, _, _, rfl⟩

theorem f16_5_12 (w : World) : Calls Try.prog 16 #[.int .i64 5, .int .i64 12] w (Known w (none)) := by
  have h0 := At.new w 38 #[.int .i64 0, .slice none 0 0]
  have hb := (Below.refl w.heap.size w).alloc (Nat.le_refl _) (.cells #[.int .i64 0, .slice none 0 0] 38)
  go_enter Try.func16, Try.ntmps16
  go_wp2_with (refine wpList_store_row rfl 38 _ _ rfl w.heap.size #[.int .i64 0, .slice none 0 0] rfl rfl 38 _ h0 (by kernel_rfl) rfl (by simp [Value.oneCell']) ?_)
  exact end_cell_tmp (p := 4) (u := 5) (by kernel_rfl) rfl h0.row Try.underlying38 rfl (by kernel_rfl) rfl rfl ⟨below_setRow hb (Nat.le_refl _) _, _, _, _, _, rfl⟩

theorem f16_6_1 (w : World) : Calls Try.prog 16 #[.int .i64 6, .int .i64 1] w (Known w (none)) := by
  have h0 := At.new w 38 #[.int .i64 0, .slice none 0 0]
  have hb := (Below.refl w.heap.size w).alloc (Nat.le_refl _) (.cells #[.int .i64 0, .slice none 0 0] 38)
  go_enter Try.func16, Try.ntmps16
  go_wp2_with (refine wpList_store_row rfl 38 _ _ rfl w.heap.size #[.int .i64 0, .slice none 0 0] rfl rfl 38 _ h0 (by kernel_rfl) rfl (by simp [Value.oneCell']) ?_)
  exact end_cell_tmp (p := 4) (u := 5) (by kernel_rfl) rfl h0.row Try.underlying38 rfl (by kernel_rfl) rfl rfl ⟨below_setRow hb (Nat.le_refl _) _, _, _, _, _, rfl⟩

theorem f16_6_2 (w : World) : Calls Try.prog 16 #[.int .i64 6, .int .i64 2] w (Known w (some (6, [5]))) := by
  have h0 := At.new w 38 #[.int .i64 0, .slice none 0 0]
  have hb := (Below.refl w.heap.size w).alloc (Nat.le_refl _) (.cells #[.int .i64 0, .slice none 0 0] 38)
  go_enter Try.func16, Try.ntmps16
  go_wp2_with fail
  have hr : Reads .i64 ((w.alloc (.cells #[.int .i64 0, .slice none 0 0] 38)).alloc (.cells #[.int .i64 5] 3)) (.slice (some ⟨w.heap.size + 1, 0, none⟩) 1 1) [5] := by
    have := lst (w.alloc (.cells #[.int .i64 0, .slice none 0 0] 38)) [5] (by decide)
    rwa [show (w.alloc (.cells #[.int .i64 0, .slice none 0 0] 38)).heap.size = w.heap.size + 1 from by simp] at this
  have h1 := h0.alloc (.cells #[.int .i64 5] 3)
  have hb1 := hb.alloc (by simp) (.cells #[.int .i64 5] 3)
  refine (to_ _ _ _ _ _).mono ?_
  rintro e w1 ⟨rfl, b1⟩
  replace b1 := below_of (a := ((w.alloc (.cells #[.int .i64 0, .slice none 0 0] 38)).alloc (.cells #[.int .i64 5] 3))) b1 rfl
  replace hr := hr.below b1
  replace h1 := h1.ext b1
  replace hb1 := hb1.trans (b1.mono hb1.size)
  clear b1 h0 hb
  go_wp2_with (refine wpList_store_row rfl 38 _ _ rfl w.heap.size #[.int .i64 6, .slice (some ⟨w.heap.size + 1, 0, none⟩) 1 1] rfl rfl 38 _ h1 (by kernel_rfl) rfl (by simp [Value.oneCell']) ?_)
  refine end_cell_tmp (p := 4) (u := 5) (by kernel_rfl) rfl h1.row Try.underlying38 rfl (by kernel_rfl) rfl rfl ⟨below_setRow hb1 (Nat.le_refl _) _, _, _, rfl, (by intro b off h; cases h; omega), ?_⟩
  exact reads_row hr (by intro b off h; cases h; omega)

theorem f16_6_3 (w : World) : Calls Try.prog 16 #[.int .i64 6, .int .i64 3] w (Known w (none)) := by
  have h0 := At.new w 38 #[.int .i64 0, .slice none 0 0]
  have hb := (Below.refl w.heap.size w).alloc (Nat.le_refl _) (.cells #[.int .i64 0, .slice none 0 0] 38)
  go_enter Try.func16, Try.ntmps16
  go_wp2_with (refine wpList_store_row rfl 38 _ _ rfl w.heap.size #[.int .i64 0, .slice none 0 0] rfl rfl 38 _ h0 (by kernel_rfl) rfl (by simp [Value.oneCell']) ?_)
  exact end_cell_tmp (p := 4) (u := 5) (by kernel_rfl) rfl h0.row Try.underlying38 rfl (by kernel_rfl) rfl rfl ⟨below_setRow hb (Nat.le_refl _) _, _, _, _, _, rfl⟩

theorem f16_6_4 (w : World) : Calls Try.prog 16 #[.int .i64 6, .int .i64 4] w (Known w (none)) := by
  have h0 := At.new w 38 #[.int .i64 0, .slice none 0 0]
  have hb := (Below.refl w.heap.size w).alloc (Nat.le_refl _) (.cells #[.int .i64 0, .slice none 0 0] 38)
  go_enter Try.func16, Try.ntmps16
  go_wp2_with (refine wpList_store_row rfl 38 _ _ rfl w.heap.size #[.int .i64 0, .slice none 0 0] rfl rfl 38 _ h0 (by kernel_rfl) rfl (by simp [Value.oneCell']) ?_)
  exact end_cell_tmp (p := 4) (u := 5) (by kernel_rfl) rfl h0.row Try.underlying38 rfl (by kernel_rfl) rfl rfl ⟨below_setRow hb (Nat.le_refl _) _, _, _, _, _, rfl⟩

theorem f16_6_5 (w : World) : Calls Try.prog 16 #[.int .i64 6, .int .i64 5] w (Known w (none)) := by
  have h0 := At.new w 38 #[.int .i64 0, .slice none 0 0]
  have hb := (Below.refl w.heap.size w).alloc (Nat.le_refl _) (.cells #[.int .i64 0, .slice none 0 0] 38)
  go_enter Try.func16, Try.ntmps16
  go_wp2_with (refine wpList_store_row rfl 38 _ _ rfl w.heap.size #[.int .i64 0, .slice none 0 0] rfl rfl 38 _ h0 (by kernel_rfl) rfl (by simp [Value.oneCell']) ?_)
  exact end_cell_tmp (p := 4) (u := 5) (by kernel_rfl) rfl h0.row Try.underlying38 rfl (by kernel_rfl) rfl rfl ⟨below_setRow hb (Nat.le_refl _) _, _, _, _, _, rfl⟩

theorem f16_6_6 (w : World) : Calls Try.prog 16 #[.int .i64 6, .int .i64 6] w (Known w (none)) := by
  have h0 := At.new w 38 #[.int .i64 0, .slice none 0 0]
  have hb := (Below.refl w.heap.size w).alloc (Nat.le_refl _) (.cells #[.int .i64 0, .slice none 0 0] 38)
  go_enter Try.func16, Try.ntmps16
  go_wp2_with (refine wpList_store_row rfl 38 _ _ rfl w.heap.size #[.int .i64 0, .slice none 0 0] rfl rfl 38 _ h0 (by kernel_rfl) rfl (by simp [Value.oneCell']) ?_)
  exact end_cell_tmp (p := 4) (u := 5) (by kernel_rfl) rfl h0.row Try.underlying38 rfl (by kernel_rfl) rfl rfl ⟨below_setRow hb (Nat.le_refl _) _, _, _, _, _, rfl⟩

theorem f16_6_7 (w : World) : Calls Try.prog 16 #[.int .i64 6, .int .i64 7] w (Known w (none)) := by
  have h0 := At.new w 38 #[.int .i64 0, .slice none 0 0]
  have hb := (Below.refl w.heap.size w).alloc (Nat.le_refl _) (.cells #[.int .i64 0, .slice none 0 0] 38)
  go_enter Try.func16, Try.ntmps16
  go_wp2_with (refine wpList_store_row rfl 38 _ _ rfl w.heap.size #[.int .i64 0, .slice none 0 0] rfl rfl 38 _ h0 (by kernel_rfl) rfl (by simp [Value.oneCell']) ?_)
  exact end_cell_tmp (p := 4) (u := 5) (by kernel_rfl) rfl h0.row Try.underlying38 rfl (by kernel_rfl) rfl rfl ⟨below_setRow hb (Nat.le_refl _) _, _, _, _, _, rfl⟩

theorem f16_6_8 (w : World) : Calls Try.prog 16 #[.int .i64 6, .int .i64 8] w (Known w (some (0, [11]))) := by
  have h0 := At.new w 38 #[.int .i64 0, .slice none 0 0]
  have hb := (Below.refl w.heap.size w).alloc (Nat.le_refl _) (.cells #[.int .i64 0, .slice none 0 0] 38)
  go_enter Try.func16, Try.ntmps16
  go_wp2_with fail
  have hr : Reads .i64 ((w.alloc (.cells #[.int .i64 0, .slice none 0 0] 38)).alloc (.cells #[.int .i64 11] 3)) (.slice (some ⟨w.heap.size + 1, 0, none⟩) 1 1) [11] := by
    have := lst (w.alloc (.cells #[.int .i64 0, .slice none 0 0] 38)) [11] (by decide)
    rwa [show (w.alloc (.cells #[.int .i64 0, .slice none 0 0] 38)).heap.size = w.heap.size + 1 from by simp] at this
  have h1 := h0.alloc (.cells #[.int .i64 11] 3)
  have hb1 := hb.alloc (by simp) (.cells #[.int .i64 11] 3)
  refine (to_ _ _ _ _ _).mono ?_
  rintro e w1 ⟨rfl, b1⟩
  replace b1 := below_of (a := ((w.alloc (.cells #[.int .i64 0, .slice none 0 0] 38)).alloc (.cells #[.int .i64 11] 3))) b1 rfl
  replace hr := hr.below b1
  replace h1 := h1.ext b1
  replace hb1 := hb1.trans (b1.mono hb1.size)
  clear b1 h0 hb
  go_wp2_with (refine wpList_store_row rfl 38 _ _ rfl w.heap.size #[.int .i64 0, .slice (some ⟨w.heap.size + 1, 0, none⟩) 1 1] rfl rfl 38 _ h1 (by kernel_rfl) rfl (by simp [Value.oneCell']) ?_)
  refine end_cell_tmp (p := 4) (u := 5) (by kernel_rfl) rfl h1.row Try.underlying38 rfl (by kernel_rfl) rfl rfl ⟨below_setRow hb1 (Nat.le_refl _) _, _, _, rfl, (by intro b off h; cases h; omega), ?_⟩
  exact reads_row hr (by intro b off h; cases h; omega)

theorem f16_6_9 (w : World) : Calls Try.prog 16 #[.int .i64 6, .int .i64 9] w (Known w (some (7, [8]))) := by
  have h0 := At.new w 38 #[.int .i64 0, .slice none 0 0]
  have hb := (Below.refl w.heap.size w).alloc (Nat.le_refl _) (.cells #[.int .i64 0, .slice none 0 0] 38)
  go_enter Try.func16, Try.ntmps16
  go_wp2_with fail
  have hr : Reads .i64 ((w.alloc (.cells #[.int .i64 0, .slice none 0 0] 38)).alloc (.cells #[.int .i64 8] 3)) (.slice (some ⟨w.heap.size + 1, 0, none⟩) 1 1) [8] := by
    have := lst (w.alloc (.cells #[.int .i64 0, .slice none 0 0] 38)) [8] (by decide)
    rwa [show (w.alloc (.cells #[.int .i64 0, .slice none 0 0] 38)).heap.size = w.heap.size + 1 from by simp] at this
  have h1 := h0.alloc (.cells #[.int .i64 8] 3)
  have hb1 := hb.alloc (by simp) (.cells #[.int .i64 8] 3)
  refine (to_ _ _ _ _ _).mono ?_
  rintro e w1 ⟨rfl, b1⟩
  replace b1 := below_of (a := ((w.alloc (.cells #[.int .i64 0, .slice none 0 0] 38)).alloc (.cells #[.int .i64 8] 3))) b1 rfl
  replace hr := hr.below b1
  replace h1 := h1.ext b1
  replace hb1 := hb1.trans (b1.mono hb1.size)
  clear b1 h0 hb
  go_wp2_with (refine wpList_store_row rfl 38 _ _ rfl w.heap.size #[.int .i64 7, .slice (some ⟨w.heap.size + 1, 0, none⟩) 1 1] rfl rfl 38 _ h1 (by kernel_rfl) rfl (by simp [Value.oneCell']) ?_)
  refine end_cell_tmp (p := 4) (u := 5) (by kernel_rfl) rfl h1.row Try.underlying38 rfl (by kernel_rfl) rfl rfl ⟨below_setRow hb1 (Nat.le_refl _) _, _, _, rfl, (by intro b off h; cases h; omega), ?_⟩
  exact reads_row hr (by intro b off h; cases h; omega)

theorem f16_6_10 (w : World) : Calls Try.prog 16 #[.int .i64 6, .int .i64 10] w (Known w (none)) := by
  have h0 := At.new w 38 #[.int .i64 0, .slice none 0 0]
  have hb := (Below.refl w.heap.size w).alloc (Nat.le_refl _) (.cells #[.int .i64 0, .slice none 0 0] 38)
  go_enter Try.func16, Try.ntmps16
  go_wp2_with (refine wpList_store_row rfl 38 _ _ rfl w.heap.size #[.int .i64 0, .slice none 0 0] rfl rfl 38 _ h0 (by kernel_rfl) rfl (by simp [Value.oneCell']) ?_)
  exact end_cell_tmp (p := 4) (u := 5) (by kernel_rfl) rfl h0.row Try.underlying38 rfl (by kernel_rfl) rfl rfl ⟨below_setRow hb (Nat.le_refl _) _, _, _, _, _, rfl⟩

theorem f16_6_11 (w : World) : Calls Try.prog 16 #[.int .i64 6, .int .i64 11] w (Known w (some (0, [9, 7, 11]))) := by
  have h0 := At.new w 38 #[.int .i64 0, .slice none 0 0]
  have hb := (Below.refl w.heap.size w).alloc (Nat.le_refl _) (.cells #[.int .i64 0, .slice none 0 0] 38)
  go_enter Try.func16, Try.ntmps16
  go_wp2_with fail
  have hr : Reads .i64 ((w.alloc (.cells #[.int .i64 0, .slice none 0 0] 38)).alloc (.cells #[.int .i64 9, .int .i64 7, .int .i64 11] 3)) (.slice (some ⟨w.heap.size + 1, 0, none⟩) 3 3) [9, 7, 11] := by
    have := lst (w.alloc (.cells #[.int .i64 0, .slice none 0 0] 38)) [9, 7, 11] (by decide)
    rwa [show (w.alloc (.cells #[.int .i64 0, .slice none 0 0] 38)).heap.size = w.heap.size + 1 from by simp] at this
  have h1 := h0.alloc (.cells #[.int .i64 9, .int .i64 7, .int .i64 11] 3)
  have hb1 := hb.alloc (by simp) (.cells #[.int .i64 9, .int .i64 7, .int .i64 11] 3)
  refine (to_ _ _ _ _ _).mono ?_
  rintro e w1 ⟨rfl, b1⟩
  replace b1 := below_of (a := ((w.alloc (.cells #[.int .i64 0, .slice none 0 0] 38)).alloc (.cells #[.int .i64 9, .int .i64 7, .int .i64 11] 3))) b1 rfl
  replace hr := hr.below b1
  replace h1 := h1.ext b1
  replace hb1 := hb1.trans (b1.mono hb1.size)
  clear b1 h0 hb
  go_wp2_with (refine wpList_store_row rfl 38 _ _ rfl w.heap.size #[.int .i64 0, .slice (some ⟨w.heap.size + 1, 0, none⟩) 3 3] rfl rfl 38 _ h1 (by kernel_rfl) rfl (by simp [Value.oneCell']) ?_)
  refine end_cell_tmp (p := 4) (u := 5) (by kernel_rfl) rfl h1.row Try.underlying38 rfl (by kernel_rfl) rfl rfl ⟨below_setRow hb1 (Nat.le_refl _) _, _, _, rfl, (by intro b off h; cases h; omega), ?_⟩
  exact reads_row hr (by intro b off h; cases h; omega)

theorem f16_6_12 (w : World) : Calls Try.prog 16 #[.int .i64 6, .int .i64 12] w (Known w (none)) := by
  have h0 := At.new w 38 #[.int .i64 0, .slice none 0 0]
  have hb := (Below.refl w.heap.size w).alloc (Nat.le_refl _) (.cells #[.int .i64 0, .slice none 0 0] 38)
  go_enter Try.func16, Try.ntmps16
  go_wp2_with (refine wpList_store_row rfl 38 _ _ rfl w.heap.size #[.int .i64 0, .slice none 0 0] rfl rfl 38 _ h0 (by kernel_rfl) rfl (by simp [Value.oneCell']) ?_)
  exact end_cell_tmp (p := 4) (u := 5) (by kernel_rfl) rfl h0.row Try.underlying38 rfl (by kernel_rfl) rfl rfl ⟨below_setRow hb (Nat.le_refl _) _, _, _, _, _, rfl⟩

theorem f16_7_1 (w : World) : Calls Try.prog 16 #[.int .i64 7, .int .i64 1] w (Known w (none)) := by
  have h0 := At.new w 38 #[.int .i64 0, .slice none 0 0]
  have hb := (Below.refl w.heap.size w).alloc (Nat.le_refl _) (.cells #[.int .i64 0, .slice none 0 0] 38)
  go_enter Try.func16, Try.ntmps16
  go_wp2_with (refine wpList_store_row rfl 38 _ _ rfl w.heap.size #[.int .i64 0, .slice none 0 0] rfl rfl 38 _ h0 (by kernel_rfl) rfl (by simp [Value.oneCell']) ?_)
  exact end_cell_tmp (p := 4) (u := 5) (by kernel_rfl) rfl h0.row Try.underlying38 rfl (by kernel_rfl) rfl rfl ⟨below_setRow hb (Nat.le_refl _) _, _, _, _, _, rfl⟩

theorem f16_7_2 (w : World) : Calls Try.prog 16 #[.int .i64 7, .int .i64 2] w (Known w (some (7, [5]))) := by
  have h0 := At.new w 38 #[.int .i64 0, .slice none 0 0]
  have hb := (Below.refl w.heap.size w).alloc (Nat.le_refl _) (.cells #[.int .i64 0, .slice none 0 0] 38)
  go_enter Try.func16, Try.ntmps16
  go_wp2_with fail
  have hr : Reads .i64 ((w.alloc (.cells #[.int .i64 0, .slice none 0 0] 38)).alloc (.cells #[.int .i64 5] 3)) (.slice (some ⟨w.heap.size + 1, 0, none⟩) 1 1) [5] := by
    have := lst (w.alloc (.cells #[.int .i64 0, .slice none 0 0] 38)) [5] (by decide)
    rwa [show (w.alloc (.cells #[.int .i64 0, .slice none 0 0] 38)).heap.size = w.heap.size + 1 from by simp] at this
  have h1 := h0.alloc (.cells #[.int .i64 5] 3)
  have hb1 := hb.alloc (by simp) (.cells #[.int .i64 5] 3)
  refine (to_ _ _ _ _ _).mono ?_
  rintro e w1 ⟨rfl, b1⟩
  replace b1 := below_of (a := ((w.alloc (.cells #[.int .i64 0, .slice none 0 0] 38)).alloc (.cells #[.int .i64 5] 3))) b1 rfl
  replace hr := hr.below b1
  replace h1 := h1.ext b1
  replace hb1 := hb1.trans (b1.mono hb1.size)
  clear b1 h0 hb
  go_wp2_with (refine wpList_store_row rfl 38 _ _ rfl w.heap.size #[.int .i64 7, .slice (some ⟨w.heap.size + 1, 0, none⟩) 1 1] rfl rfl 38 _ h1 (by kernel_rfl) rfl (by simp [Value.oneCell']) ?_)
  refine end_cell_tmp (p := 4) (u := 5) (by kernel_rfl) rfl h1.row Try.underlying38 rfl (by kernel_rfl) rfl rfl ⟨below_setRow hb1 (Nat.le_refl _) _, _, _, rfl, (by intro b off h; cases h; omega), ?_⟩
  exact reads_row hr (by intro b off h; cases h; omega)

theorem f16_7_3 (w : World) : Calls Try.prog 16 #[.int .i64 7, .int .i64 3] w (Known w (none)) := by
  have h0 := At.new w 38 #[.int .i64 0, .slice none 0 0]
  have hb := (Below.refl w.heap.size w).alloc (Nat.le_refl _) (.cells #[.int .i64 0, .slice none 0 0] 38)
  go_enter Try.func16, Try.ntmps16
  go_wp2_with (refine wpList_store_row rfl 38 _ _ rfl w.heap.size #[.int .i64 0, .slice none 0 0] rfl rfl 38 _ h0 (by kernel_rfl) rfl (by simp [Value.oneCell']) ?_)
  exact end_cell_tmp (p := 4) (u := 5) (by kernel_rfl) rfl h0.row Try.underlying38 rfl (by kernel_rfl) rfl rfl ⟨below_setRow hb (Nat.le_refl _) _, _, _, _, _, rfl⟩

theorem f16_7_4 (w : World) : Calls Try.prog 16 #[.int .i64 7, .int .i64 4] w (Known w (none)) := by
  have h0 := At.new w 38 #[.int .i64 0, .slice none 0 0]
  have hb := (Below.refl w.heap.size w).alloc (Nat.le_refl _) (.cells #[.int .i64 0, .slice none 0 0] 38)
  go_enter Try.func16, Try.ntmps16
  go_wp2_with (refine wpList_store_row rfl 38 _ _ rfl w.heap.size #[.int .i64 0, .slice none 0 0] rfl rfl 38 _ h0 (by kernel_rfl) rfl (by simp [Value.oneCell']) ?_)
  exact end_cell_tmp (p := 4) (u := 5) (by kernel_rfl) rfl h0.row Try.underlying38 rfl (by kernel_rfl) rfl rfl ⟨below_setRow hb (Nat.le_refl _) _, _, _, _, _, rfl⟩

theorem f16_7_5 (w : World) : Calls Try.prog 16 #[.int .i64 7, .int .i64 5] w (Known w (some (0, [6, 7, 11]))) := by
  have h0 := At.new w 38 #[.int .i64 0, .slice none 0 0]
  have hb := (Below.refl w.heap.size w).alloc (Nat.le_refl _) (.cells #[.int .i64 0, .slice none 0 0] 38)
  go_enter Try.func16, Try.ntmps16
  go_wp2_with fail
  have hr : Reads .i64 ((w.alloc (.cells #[.int .i64 0, .slice none 0 0] 38)).alloc (.cells #[.int .i64 6, .int .i64 7, .int .i64 11] 3)) (.slice (some ⟨w.heap.size + 1, 0, none⟩) 3 3) [6, 7, 11] := by
    have := lst (w.alloc (.cells #[.int .i64 0, .slice none 0 0] 38)) [6, 7, 11] (by decide)
    rwa [show (w.alloc (.cells #[.int .i64 0, .slice none 0 0] 38)).heap.size = w.heap.size + 1 from by simp] at this
  have h1 := h0.alloc (.cells #[.int .i64 6, .int .i64 7, .int .i64 11] 3)
  have hb1 := hb.alloc (by simp) (.cells #[.int .i64 6, .int .i64 7, .int .i64 11] 3)
  refine (to_ _ _ _ _ _).mono ?_
  rintro e w1 ⟨rfl, b1⟩
  replace b1 := below_of (a := ((w.alloc (.cells #[.int .i64 0, .slice none 0 0] 38)).alloc (.cells #[.int .i64 6, .int .i64 7, .int .i64 11] 3))) b1 rfl
  replace hr := hr.below b1
  replace h1 := h1.ext b1
  replace hb1 := hb1.trans (b1.mono hb1.size)
  clear b1 h0 hb
  go_wp2_with (refine wpList_store_row rfl 38 _ _ rfl w.heap.size #[.int .i64 0, .slice (some ⟨w.heap.size + 1, 0, none⟩) 3 3] rfl rfl 38 _ h1 (by kernel_rfl) rfl (by simp [Value.oneCell']) ?_)
  refine end_cell_tmp (p := 4) (u := 5) (by kernel_rfl) rfl h1.row Try.underlying38 rfl (by kernel_rfl) rfl rfl ⟨below_setRow hb1 (Nat.le_refl _) _, _, _, rfl, (by intro b off h; cases h; omega), ?_⟩
  exact reads_row hr (by intro b off h; cases h; omega)

theorem f16_7_6 (w : World) : Calls Try.prog 16 #[.int .i64 7, .int .i64 6] w (Known w (none)) := by
  have h0 := At.new w 38 #[.int .i64 0, .slice none 0 0]
  have hb := (Below.refl w.heap.size w).alloc (Nat.le_refl _) (.cells #[.int .i64 0, .slice none 0 0] 38)
  go_enter Try.func16, Try.ntmps16
  go_wp2_with (refine wpList_store_row rfl 38 _ _ rfl w.heap.size #[.int .i64 0, .slice none 0 0] rfl rfl 38 _ h0 (by kernel_rfl) rfl (by simp [Value.oneCell']) ?_)
  exact end_cell_tmp (p := 4) (u := 5) (by kernel_rfl) rfl h0.row Try.underlying38 rfl (by kernel_rfl) rfl rfl ⟨below_setRow hb (Nat.le_refl _) _, _, _, _, _, rfl⟩

theorem f16_7_7 (w : World) : Calls Try.prog 16 #[.int .i64 7, .int .i64 7] w (Known w (some (0, [11]))) := by
  have h0 := At.new w 38 #[.int .i64 0, .slice none 0 0]
  have hb := (Below.refl w.heap.size w).alloc (Nat.le_refl _) (.cells #[.int .i64 0, .slice none 0 0] 38)
  go_enter Try.func16, Try.ntmps16
  go_wp2_with fail
  have hr : Reads .i64 ((w.alloc (.cells #[.int .i64 0, .slice none 0 0] 38)).alloc (.cells #[.int .i64 11] 3)) (.slice (some ⟨w.heap.size + 1, 0, none⟩) 1 1) [11] := by
    have := lst (w.alloc (.cells #[.int .i64 0, .slice none 0 0] 38)) [11] (by decide)
    rwa [show (w.alloc (.cells #[.int .i64 0, .slice none 0 0] 38)).heap.size = w.heap.size + 1 from by simp] at this
  have h1 := h0.alloc (.cells #[.int .i64 11] 3)
  have hb1 := hb.alloc (by simp) (.cells #[.int .i64 11] 3)
  refine (to_ _ _ _ _ _).mono ?_
  rintro e w1 ⟨rfl, b1⟩
  replace b1 := below_of (a := ((w.alloc (.cells #[.int .i64 0, .slice none 0 0] 38)).alloc (.cells #[.int .i64 11] 3))) b1 rfl
  replace hr := hr.below b1
  replace h1 := h1.ext b1
  replace hb1 := hb1.trans (b1.mono hb1.size)
  clear b1 h0 hb
  go_wp2_with (refine wpList_store_row rfl 38 _ _ rfl w.heap.size #[.int .i64 0, .slice (some ⟨w.heap.size + 1, 0, none⟩) 1 1] rfl rfl 38 _ h1 (by kernel_rfl) rfl (by simp [Value.oneCell']) ?_)
  refine end_cell_tmp (p := 4) (u := 5) (by kernel_rfl) rfl h1.row Try.underlying38 rfl (by kernel_rfl) rfl rfl ⟨below_setRow hb1 (Nat.le_refl _) _, _, _, rfl, (by intro b off h; cases h; omega), ?_⟩
  exact reads_row hr (by intro b off h; cases h; omega)

theorem f16_7_8 (w : World) : Calls Try.prog 16 #[.int .i64 7, .int .i64 8] w (Known w (some (0, [11]))) := by
  have h0 := At.new w 38 #[.int .i64 0, .slice none 0 0]
  have hb := (Below.refl w.heap.size w).alloc (Nat.le_refl _) (.cells #[.int .i64 0, .slice none 0 0] 38)
  go_enter Try.func16, Try.ntmps16
  go_wp2_with fail
  have hr : Reads .i64 ((w.alloc (.cells #[.int .i64 0, .slice none 0 0] 38)).alloc (.cells #[.int .i64 11] 3)) (.slice (some ⟨w.heap.size + 1, 0, none⟩) 1 1) [11] := by
    have := lst (w.alloc (.cells #[.int .i64 0, .slice none 0 0] 38)) [11] (by decide)
    rwa [show (w.alloc (.cells #[.int .i64 0, .slice none 0 0] 38)).heap.size = w.heap.size + 1 from by simp] at this
  have h1 := h0.alloc (.cells #[.int .i64 11] 3)
  have hb1 := hb.alloc (by simp) (.cells #[.int .i64 11] 3)
  refine (to_ _ _ _ _ _).mono ?_
  rintro e w1 ⟨rfl, b1⟩
  replace b1 := below_of (a := ((w.alloc (.cells #[.int .i64 0, .slice none 0 0] 38)).alloc (.cells #[.int .i64 11] 3))) b1 rfl
  replace hr := hr.below b1
  replace h1 := h1.ext b1
  replace hb1 := hb1.trans (b1.mono hb1.size)
  clear b1 h0 hb
  go_wp2_with (refine wpList_store_row rfl 38 _ _ rfl w.heap.size #[.int .i64 0, .slice (some ⟨w.heap.size + 1, 0, none⟩) 1 1] rfl rfl 38 _ h1 (by kernel_rfl) rfl (by simp [Value.oneCell']) ?_)
  refine end_cell_tmp (p := 4) (u := 5) (by kernel_rfl) rfl h1.row Try.underlying38 rfl (by kernel_rfl) rfl rfl ⟨below_setRow hb1 (Nat.le_refl _) _, _, _, rfl, (by intro b off h; cases h; omega), ?_⟩
  exact reads_row hr (by intro b off h; cases h; omega)

theorem f16_7_9 (w : World) : Calls Try.prog 16 #[.int .i64 7, .int .i64 9] w (Known w (none)) := by
  have h0 := At.new w 38 #[.int .i64 0, .slice none 0 0]
  have hb := (Below.refl w.heap.size w).alloc (Nat.le_refl _) (.cells #[.int .i64 0, .slice none 0 0] 38)
  go_enter Try.func16, Try.ntmps16
  go_wp2_with (refine wpList_store_row rfl 38 _ _ rfl w.heap.size #[.int .i64 0, .slice none 0 0] rfl rfl 38 _ h0 (by kernel_rfl) rfl (by simp [Value.oneCell']) ?_)
  exact end_cell_tmp (p := 4) (u := 5) (by kernel_rfl) rfl h0.row Try.underlying38 rfl (by kernel_rfl) rfl rfl ⟨below_setRow hb (Nat.le_refl _) _, _, _, _, _, rfl⟩

theorem f16_7_10 (w : World) : Calls Try.prog 16 #[.int .i64 7, .int .i64 10] w (Known w (none)) := by
  have h0 := At.new w 38 #[.int .i64 0, .slice none 0 0]
  have hb := (Below.refl w.heap.size w).alloc (Nat.le_refl _) (.cells #[.int .i64 0, .slice none 0 0] 38)
  go_enter Try.func16, Try.ntmps16
  go_wp2_with (refine wpList_store_row rfl 38 _ _ rfl w.heap.size #[.int .i64 0, .slice none 0 0] rfl rfl 38 _ h0 (by kernel_rfl) rfl (by simp [Value.oneCell']) ?_)
  exact end_cell_tmp (p := 4) (u := 5) (by kernel_rfl) rfl h0.row Try.underlying38 rfl (by kernel_rfl) rfl rfl ⟨below_setRow hb (Nat.le_refl _) _, _, _, _, _, rfl⟩

theorem f16_7_11 (w : World) : Calls Try.prog 16 #[.int .i64 7, .int .i64 11] w (Known w (none)) := by
  have h0 := At.new w 38 #[.int .i64 0, .slice none 0 0]
  have hb := (Below.refl w.heap.size w).alloc (Nat.le_refl _) (.cells #[.int .i64 0, .slice none 0 0] 38)
  go_enter Try.func16, Try.ntmps16
  go_wp2_with (refine wpList_store_row rfl 38 _ _ rfl w.heap.size #[.int .i64 0, .slice none 0 0] rfl rfl 38 _ h0 (by kernel_rfl) rfl (by simp [Value.oneCell']) ?_)
  exact end_cell_tmp (p := 4) (u := 5) (by kernel_rfl) rfl h0.row Try.underlying38 rfl (by kernel_rfl) rfl rfl ⟨below_setRow hb (Nat.le_refl _) _, _, _, _, _, rfl⟩

theorem f16_7_12 (w : World) : Calls Try.prog 16 #[.int .i64 7, .int .i64 12] w (Known w (some (0, [6, 7, 11]))) := by
  have h0 := At.new w 38 #[.int .i64 0, .slice none 0 0]
  have hb := (Below.refl w.heap.size w).alloc (Nat.le_refl _) (.cells #[.int .i64 0, .slice none 0 0] 38)
  go_enter Try.func16, Try.ntmps16
  go_wp2_with fail
  have hr : Reads .i64 ((w.alloc (.cells #[.int .i64 0, .slice none 0 0] 38)).alloc (.cells #[.int .i64 6, .int .i64 7, .int .i64 11] 3)) (.slice (some ⟨w.heap.size + 1, 0, none⟩) 3 3) [6, 7, 11] := by
    have := lst (w.alloc (.cells #[.int .i64 0, .slice none 0 0] 38)) [6, 7, 11] (by decide)
    rwa [show (w.alloc (.cells #[.int .i64 0, .slice none 0 0] 38)).heap.size = w.heap.size + 1 from by simp] at this
  have h1 := h0.alloc (.cells #[.int .i64 6, .int .i64 7, .int .i64 11] 3)
  have hb1 := hb.alloc (by simp) (.cells #[.int .i64 6, .int .i64 7, .int .i64 11] 3)
  refine (to_ _ _ _ _ _).mono ?_
  rintro e w1 ⟨rfl, b1⟩
  replace b1 := below_of (a := ((w.alloc (.cells #[.int .i64 0, .slice none 0 0] 38)).alloc (.cells #[.int .i64 6, .int .i64 7, .int .i64 11] 3))) b1 rfl
  replace hr := hr.below b1
  replace h1 := h1.ext b1
  replace hb1 := hb1.trans (b1.mono hb1.size)
  clear b1 h0 hb
  go_wp2_with (refine wpList_store_row rfl 38 _ _ rfl w.heap.size #[.int .i64 0, .slice (some ⟨w.heap.size + 1, 0, none⟩) 3 3] rfl rfl 38 _ h1 (by kernel_rfl) rfl (by simp [Value.oneCell']) ?_)
  refine end_cell_tmp (p := 4) (u := 5) (by kernel_rfl) rfl h1.row Try.underlying38 rfl (by kernel_rfl) rfl rfl ⟨below_setRow hb1 (Nat.le_refl _) _, _, _, rfl, (by intro b off h; cases h; omega), ?_⟩
  exact reads_row hr (by intro b off h; cases h; omega)

end Go.Proofs.Ytamemmbcdkhdhaa.Peer
