/-
  Contracts: the inner steps of peer, function 15, at each state and event.
-/
import Derived.Test.YtamemmbcdkhdhaaStep1
namespace Go.Proofs.Ytamemmbcdkhdhaa.Peer
open Go.RowKit Mem Cells
set_option linter.unusedVariables false
set_option linter.unusedSimpArgs false

theorem f15_3_1 (win : Bool) (w : World) : Calls Try.prog 15 #[.int .i64 3, .int .i64 1, .bool win] w (Known w (none)) := by
  have h0 := At.new w 38 #[.int .i64 0, .slice none 0 0]
  have hb := (Below.refl w.heap.size w).alloc (Nat.le_refl _) (.cells #[.int .i64 0, .slice none 0 0] 38)
  go_enter Try.func15, Try.ntmps15
  go_wp2_with (refine wpList_store_row rfl 38 _ _ rfl w.heap.size #[.int .i64 0, .slice none 0 0] rfl rfl 38 _ h0 (by kernel_rfl) rfl (by simp [Value.oneCell']) ?_)
  exact end_cell_tmp (p := 6) (u := 7) (by kernel_rfl) rfl h0.row Try.underlying38 rfl (by kernel_rfl) rfl rfl ⟨below_setRow hb (Nat.le_refl _) _, _, _, _, _, rfl⟩

theorem f15_3_2 (win : Bool) (w : World) : Calls Try.prog 15 #[.int .i64 3, .int .i64 2, .bool win] w (Known w (some (3, [5]))) := by
  have h0 := At.new w 38 #[.int .i64 0, .slice none 0 0]
  have hb := (Below.refl w.heap.size w).alloc (Nat.le_refl _) (.cells #[.int .i64 0, .slice none 0 0] 38)
  go_enter Try.func15, Try.ntmps15
  go_wp2_with fail
  have hr : Reads .i64 ((w.alloc (.cells #[.int .i64 0, .slice none 0 0] 38)).alloc (.cells #[.int .i64 5] 3)) (.slice (some ⟨w.heap.size + 1, 0, none⟩) 1 1) [5] := by
    have := lst (w.alloc (.cells #[.int .i64 0, .slice none 0 0] 38)) [5] (by decide)
    rwa [show (w.alloc (.cells #[.int .i64 0, .slice none 0 0] 38)).heap.size = w.heap.size + 1 from by simp] at this
  have h1 := h0.alloc (.cells #[.int .i64 5] 3)
  have hb1 := hb.alloc (by simp) (.cells #[.int .i64 5] 3)
  refine (to_ _ _ _ _ _).mono ?_
  rintro e w1 ⟨rfl, b1⟩
  replace b1 := below_of (a := ((w.alloc (.cells #[.int .i64 0, .slice none 0 0] 38)).alloc (.cells #[.int .i64 5] 3))) b1 rfl
  replace hr := hr.below b1
  replace h1 := h1.ext b1
  replace hb1 := hb1.trans (b1.mono hb1.size)
  clear b1 h0 hb
  go_wp2_with (refine wpList_store_row rfl 38 _ _ rfl w.heap.size #[.int .i64 3, .slice (some ⟨w.heap.size + 1, 0, none⟩) 1 1] rfl rfl 38 _ h1 (by kernel_rfl) rfl (by simp [Value.oneCell']) ?_)
  refine end_cell_tmp (p := 6) (u := 7) (by kernel_rfl) rfl h1.row Try.underlying38 rfl (by kernel_rfl) rfl rfl ⟨below_setRow hb1 (Nat.le_refl _) _, _, _, rfl, (by intro b off h; cases h; omega), ?_⟩
  exact reads_row hr (by intro b off h; cases h; omega)

theorem f15_3_3t (w : World) : Calls Try.prog 15 #[.int .i64 3, .int .i64 3, .bool true] w (Known w (some (6, [2, 6, 4]))) := by
  have h0 := At.new w 38 #[.int .i64 0, .slice none 0 0]
  have hb := (Below.refl w.heap.size w).alloc (Nat.le_refl _) (.cells #[.int .i64 0, .slice none 0 0] 38)
  go_enter Try.func15, Try.ntmps15
  go_wp2_with fail
  have hr1 : Reads .i64 ((w.alloc (.cells #[.int .i64 0, .slice none 0 0] 38)).alloc (.cells #[.int .i64 2, .int .i64 6, .int .i64 4] 3)) (.slice (some ⟨w.heap.size + 1, 0, none⟩) 3 3) [2, 6, 4] := by
    have := lst (w.alloc (.cells #[.int .i64 0, .slice none 0 0] 38)) [2, 6, 4] (by decide)
    rwa [show (w.alloc (.cells #[.int .i64 0, .slice none 0 0] 38)).heap.size = w.heap.size + 1 from by simp] at this
  have h1 := h0.alloc (.cells #[.int .i64 2, .int .i64 6, .int .i64 4] 3)
  have hb1 := hb.alloc (by simp) (.cells #[.int .i64 2, .int .i64 6, .int .i64 4] 3)
  refine (to_ _ _ _ _ _).mono ?_
  rintro e w1 ⟨rfl, b1⟩
  replace b1 := below_of (a := ((w.alloc (.cells #[.int .i64 0, .slice none 0 0] 38)).alloc (.cells #[.int .i64 2, .int .i64 6, .int .i64 4] 3))) b1 rfl
  replace hr1 := hr1.below b1
  replace h1 := h1.ext b1
  replace hb1 := hb1.trans (b1.mono hb1.size)
  have hlt : w.heap.size + 1 < w1.heap.size := by have := b1.size; simp at this; omega
  clear b1 h0 hb
  go_wp2_with fail
  have hr2 := lst w1 [2] (by decide)
  replace hr1 := hr1.below ((Below.refl w1.heap.size w1).alloc (Nat.le_refl _) (.cells #[.int .i64 2] 3))
  replace h1 := h1.alloc (.cells #[.int .i64 2] 3)
  replace hb1 := hb1.alloc (by omega) (.cells #[.int .i64 2] 3)
  refine (to_ _ _ _ _ _).mono ?_
  rintro e w2 ⟨rfl, b2⟩
  replace b2 := below_of (a := (w1.alloc (.cells #[.int .i64 2] 3))) b2 rfl
  replace hr2 := hr2.below b2
  replace hr1 := hr1.below b2
  replace h1 := h1.ext b2
  replace hb1 := hb1.trans (b2.mono hb1.size)
  clear b2
  go_wp2_with fail
  refine (either_ _ _ _ _ _ _ _ _ _ _).mono ?_
  rintro e w3 ⟨rfl, b3⟩
  replace hr2 := hr2.below b3
  replace hr1 := hr1.below b3
  replace h1 := h1.ext b3
  replace hb1 := hb1.trans (b3.mono hb1.size)
  clear b3
  simp only [if_true, if_false, Bool.false_eq_true]
  go_wp2_with (refine wpList_store_row rfl 38 _ _ rfl w.heap.size #[.int .i64 6, .slice (some ⟨w.heap.size + 1, 0, none⟩) 3 3] rfl rfl 38 _ h1 (by kernel_rfl) rfl (by simp [Value.oneCell']) ?_)
  refine end_cell_tmp (p := 6) (u := 7) (by kernel_rfl) rfl h1.row Try.underlying38 rfl (by kernel_rfl) rfl rfl ⟨below_setRow hb1 (Nat.le_refl _) _, _, _, rfl, (by intro b off h; cases h; omega), ?_⟩
  exact reads_row hr1 (by intro b off h; cases h; omega)

theorem f15_3_3f (w : World) : Calls Try.prog 15 #[.int .i64 3, .int .i64 3, .bool false] w (Known w (some (4, [2]))) := by
  have h0 := At.new w 38 #[.int .i64 0, .slice none 0 0]
  have hb := (Below.refl w.heap.size w).alloc (Nat.le_refl _) (.cells #[.int .i64 0, .slice none 0 0] 38)
  go_enter Try.func15, Try.ntmps15
  go_wp2_with fail
  have hr1 : Reads .i64 ((w.alloc (.cells #[.int .i64 0, .slice none 0 0] 38)).alloc (.cells #[.int .i64 2, .int .i64 6, .int .i64 4] 3)) (.slice (some ⟨w.heap.size + 1, 0, none⟩) 3 3) [2, 6, 4] := by
    have := lst (w.alloc (.cells #[.int .i64 0, .slice none 0 0] 38)) [2, 6, 4] (by decide)
    rwa [show (w.alloc (.cells #[.int .i64 0, .slice none 0 0] 38)).heap.size = w.heap.size + 1 from by simp] at this
  have h1 := h0.alloc (.cells #[.int .i64 2, .int .i64 6, .int .i64 4] 3)
  have hb1 := hb.alloc (by simp) (.cells #[.int .i64 2, .int .i64 6, .int .i64 4] 3)
  refine (to_ _ _ _ _ _).mono ?_
  rintro e w1 ⟨rfl, b1⟩
  replace b1 := below_of (a := ((w.alloc (.cells #[.int .i64 0, .slice none 0 0] 38)).alloc (.cells #[.int .i64 2, .int .i64 6, .int .i64 4] 3))) b1 rfl
  replace hr1 := hr1.below b1
  replace h1 := h1.ext b1
  replace hb1 := hb1.trans (b1.mono hb1.size)
  have hlt : w.heap.size + 1 < w1.heap.size := by have := b1.size; simp at this; omega
  clear b1 h0 hb
  go_wp2_with fail
  have hr2 := lst w1 [2] (by decide)
  replace hr1 := hr1.below ((Below.refl w1.heap.size w1).alloc (Nat.le_refl _) (.cells #[.int .i64 2] 3))
  replace h1 := h1.alloc (.cells #[.int .i64 2] 3)
  replace hb1 := hb1.alloc (by omega) (.cells #[.int .i64 2] 3)
  refine (to_ _ _ _ _ _).mono ?_
  rintro e w2 ⟨rfl, b2⟩
  replace b2 := below_of (a := (w1.alloc (.cells #[.int .i64 2] 3))) b2 rfl
  replace hr2 := hr2.below b2
  replace hr1 := hr1.below b2
  replace h1 := h1.ext b2
  replace hb1 := hb1.trans (b2.mono hb1.size)
  clear b2
  go_wp2_with fail
  refine (either_ _ _ _ _ _ _ _ _ _ _).mono ?_
  rintro e w3 ⟨rfl, b3⟩
  replace hr2 := hr2.below b3
  replace hr1 := hr1.below b3
  replace h1 := h1.ext b3
  replace hb1 := hb1.trans (b3.mono hb1.size)
  clear b3
  simp only [if_true, if_false, Bool.false_eq_true]
  go_wp2_with (refine wpList_store_row rfl 38 _ _ rfl w.heap.size #[.int .i64 4, .slice (some ⟨w1.heap.size, 0, none⟩) 1 1] rfl rfl 38 _ h1 (by kernel_rfl) rfl (by simp [Value.oneCell']) ?_)
  refine end_cell_tmp (p := 6) (u := 7) (by kernel_rfl) rfl h1.row Try.underlying38 rfl (by kernel_rfl) rfl rfl ⟨below_setRow hb1 (Nat.le_refl _) _, _, _, rfl, (by intro b off h; cases h; omega), ?_⟩
  exact reads_row hr2 (by intro b off h; cases h; omega)

theorem f15_3_4 (win : Bool) (w : World) : Calls Try.prog 15 #[.int .i64 3, .int .i64 4, .bool win] w (Known w (some (6, [4]))) := by
  have h0 := At.new w 38 #[.int .i64 0, .slice none 0 0]
  have hb := (Below.refl w.heap.size w).alloc (Nat.le_refl _) (.cells #[.int .i64 0, .slice none 0 0] 38)
  go_enter Try.func15, Try.ntmps15
  go_wp2_with fail
  have hr : Reads .i64 ((w.alloc (.cells #[.int .i64 0, .slice none 0 0] 38)).alloc (.cells #[.int .i64 4] 3)) (.slice (some ⟨w.heap.size + 1, 0, none⟩) 1 1) [4] := by
    have := lst (w.alloc (.cells #[.int .i64 0, .slice none 0 0] 38)) [4] (by decide)
    rwa [show (w.alloc (.cells #[.int .i64 0, .slice none 0 0] 38)).heap.size = w.heap.size + 1 from by simp] at this
  have h1 := h0.alloc (.cells #[.int .i64 4] 3)
  have hb1 := hb.alloc (by simp) (.cells #[.int .i64 4] 3)
  refine (to_ _ _ _ _ _).mono ?_
  rintro e w1 ⟨rfl, b1⟩
  replace b1 := below_of (a := ((w.alloc (.cells #[.int .i64 0, .slice none 0 0] 38)).alloc (.cells #[.int .i64 4] 3))) b1 rfl
  replace hr := hr.below b1
  replace h1 := h1.ext b1
  replace hb1 := hb1.trans (b1.mono hb1.size)
  clear b1 h0 hb
  go_wp2_with (refine wpList_store_row rfl 38 _ _ rfl w.heap.size #[.int .i64 6, .slice (some ⟨w.heap.size + 1, 0, none⟩) 1 1] rfl rfl 38 _ h1 (by kernel_rfl) rfl (by simp [Value.oneCell']) ?_)
  refine end_cell_tmp (p := 6) (u := 7) (by kernel_rfl) rfl h1.row Try.underlying38 rfl (by kernel_rfl) rfl rfl ⟨below_setRow hb1 (Nat.le_refl _) _, _, _, rfl, (by intro b off h; cases h; omega), ?_⟩
  exact reads_row hr (by intro b off h; cases h; omega)

theorem f15_3_5 (win : Bool) (w : World) : Calls Try.prog 15 #[.int .i64 3, .int .i64 5, .bool win] w (Known w (some (0, [6, 7, 11]))) := by
  have h0 := At.new w 38 #[.int .i64 0, .slice none 0 0]
  have hb := (Below.refl w.heap.size w).alloc (Nat.le_refl _) (.cells #[.int .i64 0, .slice none 0 0] 38)
  go_enter Try.func15, Try.ntmps15
  go_wp2_with fail
  have hr : Reads .i64 ((w.alloc (.cells #[.int .i64 0, .slice none 0 0] 38)).alloc (.cells #[.int .i64 6, .int .i64 7, .int .i64 11] 3)) (.slice (some ⟨w.heap.size + 1, 0, none⟩) 3 3) [6, 7, 11] := by
    have := lst (w.alloc (.cells #[.int .i64 0, .slice none 0 0] 38)) [6, 7, 11] (by decide)
    rwa [show (w.alloc (.cells #[.int .i64 0, .slice none 0 0] 38)).heap.size = w.heap.size + 1 from by simp] at this
  have h1 := h0.alloc (.cells #[.int .i64 6, .int .i64 7, .int .i64 11] 3)
  have hb1 := hb.alloc (by simp) (.cells #[.int .i64 6, .int .i64 7, .int .i64 11] 3)
  refine (to_ _ _ _ _ _).mono ?_
  rintro e w1 ⟨rfl, b1⟩
  replace b1 := below_of (a := ((w.alloc (.cells #[.int .i64 0, .slice none 0 0] 38)).alloc (.cells #[.int .i64 6, .int .i64 7, .int .i64 11] 3))) b1 rfl
  replace hr := hr.below b1
  replace h1 := h1.ext b1
  replace hb1 := hb1.trans (b1.mono hb1.size)
  clear b1 h0 hb
  go_wp2_with (refine wpList_store_row rfl 38 _ _ rfl w.heap.size #[.int .i64 0, .slice (some ⟨w.heap.size + 1, 0, none⟩) 3 3] rfl rfl 38 _ h1 (by kernel_rfl) rfl (by simp [Value.oneCell']) ?_)
  refine end_cell_tmp (p := 6) (u := 7) (by kernel_rfl) rfl h1.row Try.underlying38 rfl (by kernel_rfl) rfl rfl ⟨below_setRow hb1 (Nat.le_refl _) _, _, _, rfl, (by intro b off h; cases h; omega), ?_⟩
  exact reads_row hr (by intro b off h; cases h; omega)

theorem f15_3_6 (win : Bool) (w : World) : Calls Try.prog 15 #[.int .i64 3, .int .i64 6, .bool win] w (Known w (none)) := by
  have h0 := At.new w 38 #[.int .i64 0, .slice none 0 0]
  have hb := (Below.refl w.heap.size w).alloc (Nat.le_refl _) (.cells #[.int .i64 0, .slice none 0 0] 38)
  go_enter Try.func15, Try.ntmps15
  go_wp2_with (refine wpList_store_row rfl 38 _ _ rfl w.heap.size #[.int .i64 0, .slice none 0 0] rfl rfl 38 _ h0 (by kernel_rfl) rfl (by simp [Value.oneCell']) ?_)
  exact end_cell_tmp (p := 6) (u := 7) (by kernel_rfl) rfl h0.row Try.underlying38 rfl (by kernel_rfl) rfl rfl ⟨below_setRow hb (Nat.le_refl _) _, _, _, _, _, rfl⟩

theorem f15_3_7 (win : Bool) (w : World) : Calls Try.prog 15 #[.int .i64 3, .int .i64 7, .bool win] w (Known w (none)) := by
  have h0 := At.new w 38 #[.int .i64 0, .slice none 0 0]
  have hb := (Below.refl w.heap.size w).alloc (Nat.le_refl _) (.cells #[.int .i64 0, .slice none 0 0] 38)
  go_enter Try.func15, Try.ntmps15
  go_wp2_with (refine wpList_store_row rfl 38 _ _ rfl w.heap.size #[.int .i64 0, .slice none 0 0] rfl rfl 38 _ h0 (by kernel_rfl) rfl (by simp [Value.oneCell']) ?_)
  exact end_cell_tmp (p := 6) (u := 7) (by kernel_rfl) rfl h0.row Try.underlying38 rfl (by kernel_rfl) rfl rfl ⟨below_setRow hb (Nat.le_refl _) _, _, _, _, _, rfl⟩

theorem f15_3_8 (win : Bool) (w : World) : Calls Try.prog 15 #[.int .i64 3, .int .i64 8, .bool win] w (Known w (some (1, [7]))) := by
  have h0 := At.new w 38 #[.int .i64 0, .slice none 0 0]
  have hb := (Below.refl w.heap.size w).alloc (Nat.le_refl _) (.cells #[.int .i64 0, .slice none 0 0] 38)
  go_enter Try.func15, Try.ntmps15
  go_wp2_with fail
  have hr : Reads .i64 ((w.alloc (.cells #[.int .i64 0, .slice none 0 0] 38)).alloc (.cells #[.int .i64 7] 3)) (.slice (some ⟨w.heap.size + 1, 0, none⟩) 1 1) [7] := by
    have := lst (w.alloc (.cells #[.int .i64 0, .slice none 0 0] 38)) [7] (by decide)
    rwa [show (w.alloc (.cells #[.int .i64 0, .slice none 0 0] 38)).heap.size = w.heap.size + 1 from by simp] at this
  have h1 := h0.alloc (.cells #[.int .i64 7] 3)
  have hb1 := hb.alloc (by simp) (.cells #[.int .i64 7] 3)
  refine (to_ _ _ _ _ _).mono ?_
  rintro e w1 ⟨rfl, b1⟩
  replace b1 := below_of (a := ((w.alloc (.cells #[.int .i64 0, .slice none 0 0] 38)).alloc (.cells #[.int .i64 7] 3))) b1 rfl
  replace hr := hr.below b1
  replace h1 := h1.ext b1
  replace hb1 := hb1.trans (b1.mono hb1.size)
  clear b1 h0 hb
  go_wp2_with (refine wpList_store_row rfl 38 _ _ rfl w.heap.size #[.int .i64 1, .slice (some ⟨w.heap.size + 1, 0, none⟩) 1 1] rfl rfl 38 _ h1 (by kernel_rfl) rfl (by simp [Value.oneCell']) ?_)
  refine end_cell_tmp (p := 6) (u := 7) (by kernel_rfl) rfl h1.row Try.underlying38 rfl (by kernel_rfl) rfl rfl ⟨below_setRow hb1 (Nat.le_refl _) _, _, _, rfl, (by intro b off h; cases h; omega), ?_⟩
  exact reads_row hr (by intro b off h; cases h; omega)

theorem f15_3_9 (win : Bool) (w : World) : Calls Try.prog 15 #[.int .i64 3, .int .i64 9, .bool win] w (Known w (none)) := by
  have h0 := At.new w 38 #[.int .i64 0, .slice none 0 0]
  have hb := (Below.refl w.heap.size w).alloc (Nat.le_refl _) (.cells #[.int .i64 0, .slice none 0 0] 38)
  go_enter Try.func15, Try.ntmps15
  go_wp2_with (refine wpList_store_row rfl 38 _ _ rfl w.heap.size #[.int .i64 0, .slice none 0 0] rfl rfl 38 _ h0 (by kernel_rfl) rfl (by simp [Value.oneCell']) ?_)
  exact end_cell_tmp (p := 6) (u := 7) (by kernel_rfl) rfl h0.row Try.underlying38 rfl (by kernel_rfl) rfl rfl ⟨below_setRow hb (Nat.le_refl _) _, _, _, _, _, rfl⟩

theorem f15_3_10 (win : Bool) (w : World) : Calls Try.prog 15 #[.int .i64 3, .int .i64 10, .bool win] w (Known w (none)) := by
  have h0 := At.new w 38 #[.int .i64 0, .slice none 0 0]
  have hb := (Below.refl w.heap.size w).alloc (Nat.le_refl _) (.cells #[.int .i64 0, .slice none 0 0] 38)
  go_enter Try.func15, Try.ntmps15
  go_wp2_with (refine wpList_store_row rfl 38 _ _ rfl w.heap.size #[.int .i64 0, .slice none 0 0] rfl rfl 38 _ h0 (by kernel_rfl) rfl (by simp [Value.oneCell']) ?_)
  exact end_cell_tmp (p := 6) (u := 7) (by kernel_rfl) rfl h0.row Try.underlying38 rfl (by kernel_rfl) rfl rfl ⟨below_setRow hb (Nat.le_refl _) _, _, _, _, _, rfl⟩

theorem f15_3_11 (win : Bool) (w : World) : Calls Try.prog 15 #[.int .i64 3, .int .i64 11, .bool win] w (Known w (none)) := by
  have h0 := At.new w 38 #[.int .i64 0, .slice none 0 0]
  have hb := (Below.refl w.heap.size w).alloc (Nat.le_refl _) (.cells #[.int .i64 0, .slice none 0 0] 38)
  go_enter Try.func15, Try.ntmps15
  go_wp2_with (refine wpList_store_row rfl 38 _ _ rfl w.heap.size #[.int .i64 0, .slice none 0 0] rfl rfl 38 _ h0 (by kernel_rfl) rfl (by simp [Value.oneCell']) ?_)
  exact end_cell_tmp (p := 6) (u := 7) (by kernel_rfl) rfl h0.row Try.underlying38 rfl (by kernel_rfl) rfl rfl ⟨below_setRow hb (Nat.le_refl _) _, _, _, _, _, rfl⟩

theorem f15_3_12 (win : Bool) (w : World) : Calls Try.prog 15 #[.int .i64 3, .int .i64 12, .bool win] w (Known w (none)) := by
  have h0 := At.new w 38 #[.int .i64 0, .slice none 0 0]
  have hb := (Below.refl w.heap.size w).alloc (Nat.le_refl _) (.cells #[.int .i64 0, .slice none 0 0] 38)
  go_enter Try.func15, Try.ntmps15
  go_wp2_with (refine wpList_store_row rfl 38 _ _ rfl w.heap.size #[.int .i64 0, .slice none 0 0] rfl rfl 38 _ h0 (by kernel_rfl) rfl (by simp [Value.oneCell']) ?_)
  exact end_cell_tmp (p := 6) (u := 7) (by kernel_rfl) rfl h0.row Try.underlying38 rfl (by kernel_rfl) rfl rfl ⟨below_setRow hb (Nat.le_refl _) _, _, _, _, _, rfl⟩

theorem f15_4_1 (win : Bool) (w : World) : Calls Try.prog 15 #[.int .i64 4, .int .i64 1, .bool win] w (Known w (none)) := by
  have h0 := At.new w 38 #[.int .i64 0, .slice none 0 0]
  have hb := (Below.refl w.heap.size w).alloc (Nat.le_refl _) (.cells #[.int .i64 0, .slice none 0 0] 38)
  go_enter Try.func15, Try.ntmps15
  go_wp2_with (refine wpList_store_row rfl 38 _ _ rfl w.heap.size #[.int .i64 0, .slice none 0 0] rfl rfl 38 _ h0 (by kernel_rfl) rfl (by simp [Value.oneCell']) ?_)
  exact end_cell_tmp (p := 6) (u := 7) (by kernel_rfl) rfl h0.row Try.underlying38 rfl (by kernel_rfl) rfl rfl ⟨below_setRow hb (Nat.le_refl _) _, _, _, _, _, rfl⟩

theorem f15_4_2 (win : Bool) (w : World) : Calls Try.prog 15 #[.int .i64 4, .int .i64 2, .bool win] w (Known w (some (4, [5]))) := by
  have h0 := At.new w 38 #[.int .i64 0, .slice none 0 0]
  have hb := (Below.refl w.heap.size w).alloc (Nat.le_refl _) (.cells #[.int .i64 0, .slice none 0 0] 38)
  go_enter Try.func15, Try.ntmps15
  go_wp2_with fail
  have hr : Reads .i64 ((w.alloc (.cells #[.int .i64 0, .slice none 0 0] 38)).alloc (.cells #[.int .i64 5] 3)) (.slice (some ⟨w.heap.size + 1, 0, none⟩) 1 1) [5] := by
    have := lst (w.alloc (.cells #[.int .i64 0, .slice none 0 0] 38)) [5] (by decide)
    rwa [show (w.alloc (.cells #[.int .i64 0, .slice none 0 0] 38)).heap.size = w.heap.size + 1 from by simp] at this
  have h1 := h0.alloc (.cells #[.int .i64 5] 3)
  have hb1 := hb.alloc (by simp) (.cells #[.int .i64 5] 3)
  refine (to_ _ _ _ _ _).mono ?_
  rintro e w1 ⟨rfl, b1⟩
  replace b1 := below_of (a := ((w.alloc (.cells #[.int .i64 0, .slice none 0 0] 38)).alloc (.cells #[.int .i64 5] 3))) b1 rfl
  replace hr := hr.below b1
  replace h1 := h1.ext b1
  replace hb1 := hb1.trans (b1.mono hb1.size)
  clear b1 h0 hb
  go_wp2_with (refine wpList_store_row rfl 38 _ _ rfl w.heap.size #[.int .i64 4, .slice (some ⟨w.heap.size + 1, 0, none⟩) 1 1] rfl rfl 38 _ h1 (by kernel_rfl) rfl (by simp [Value.oneCell']) ?_)
  refine end_cell_tmp (p := 6) (u := 7) (by kernel_rfl) rfl h1.row Try.underlying38 rfl (by kernel_rfl) rfl rfl ⟨below_setRow hb1 (Nat.le_refl _) _, _, _, rfl, (by intro b off h; cases h; omega), ?_⟩
  exact reads_row hr (by intro b off h; cases h; omega)

theorem f15_4_3 (win : Bool) (w : World) : Calls Try.prog 15 #[.int .i64 4, .int .i64 3, .bool win] w (Known w (none)) := by
  have h0 := At.new w 38 #[.int .i64 0, .slice none 0 0]
  have hb := (Below.refl w.heap.size w).alloc (Nat.le_refl _) (.cells #[.int .i64 0, .slice none 0 0] 38)
  go_enter Try.func15, Try.ntmps15
  go_wp2_with (refine wpList_store_row rfl 38 _ _ rfl w.heap.size #[.int .i64 0, .slice none 0 0] rfl rfl 38 _ h0 (by kernel_rfl) rfl (by simp [Value.oneCell']) ?_)
  exact end_cell_tmp (p := 6) (u := 7) (by kernel_rfl) rfl h0.row Try.underlying38 rfl (by kernel_rfl) rfl rfl ⟨below_setRow hb (Nat.le_refl _) _, _, _, _, _, rfl⟩

theorem f15_4_4 (win : Bool) (w : World) : Calls Try.prog 15 #[.int .i64 4, .int .i64 4, .bool win] w (Known w (none)) := by
  have h0 := At.new w 38 #[.int .i64 0, .slice none 0 0]
  have hb := (Below.refl w.heap.size w).alloc (Nat.le_refl _) (.cells #[.int .i64 0, .slice none 0 0] 38)
  go_enter Try.func15, Try.ntmps15
  go_wp2_with (refine wpList_store_row rfl 38 _ _ rfl w.heap.size #[.int .i64 0, .slice none 0 0] rfl rfl 38 _ h0 (by kernel_rfl) rfl (by simp [Value.oneCell']) ?_)
  exact end_cell_tmp (p := 6) (u := 7) (by kernel_rfl) rfl h0.row Try.underlying38 rfl (by kernel_rfl) rfl rfl ⟨below_setRow hb (Nat.le_refl _) _, _, _, _, _, rfl⟩

theorem f15_4_5 (win : Bool) (w : World) : Calls Try.prog 15 #[.int .i64 4, .int .i64 5, .bool win] w (Known w (some (0, [6, 7, 11]))) := by
  have h0 := At.new w 38 #[.int .i64 0, .slice none 0 0]
  have hb := (Below.refl w.heap.size w).alloc (Nat.le_refl _) (.cells #[.int .i64 0, .slice none 0 0] 38)
  go_enter Try.func15, Try.ntmps15
  go_wp2_with fail
  have hr : Reads .i64 ((w.alloc (.cells #[.int .i64 0, .slice none 0 0] 38)).alloc (.cells #[.int .i64 6, .int .i64 7, .int .i64 11] 3)) (.slice (some ⟨w.heap.size + 1, 0, none⟩) 3 3) [6, 7, 11] := by
    have := lst (w.alloc (.cells #[.int .i64 0, .slice none 0 0] 38)) [6, 7, 11] (by decide)
    rwa [show (w.alloc (.cells #[.int .i64 0, .slice none 0 0] 38)).heap.size = w.heap.size + 1 from by simp] at this
  have h1 := h0.alloc (.cells #[.int .i64 6, .int .i64 7, .int .i64 11] 3)
  have hb1 := hb.alloc (by simp) (.cells #[.int .i64 6, .int .i64 7, .int .i64 11] 3)
  refine (to_ _ _ _ _ _).mono ?_
  rintro e w1 ⟨rfl, b1⟩
  replace b1 := below_of (a := ((w.alloc (.cells #[.int .i64 0, .slice none 0 0] 38)).alloc (.cells #[.int .i64 6, .int .i64 7, .int .i64 11] 3))) b1 rfl
  replace hr := hr.below b1
  replace h1 := h1.ext b1
  replace hb1 := hb1.trans (b1.mono hb1.size)
  clear b1 h0 hb
  go_wp2_with (refine wpList_store_row rfl 38 _ _ rfl w.heap.size #[.int .i64 0, .slice (some ⟨w.heap.size + 1, 0, none⟩) 3 3] rfl rfl 38 _ h1 (by kernel_rfl) rfl (by simp [Value.oneCell']) ?_)
  refine end_cell_tmp (p := 6) (u := 7) (by kernel_rfl) rfl h1.row Try.underlying38 rfl (by kernel_rfl) rfl rfl ⟨below_setRow hb1 (Nat.le_refl _) _, _, _, rfl, (by intro b off h; cases h; omega), ?_⟩
  exact reads_row hr (by intro b off h; cases h; omega)

theorem f15_4_6 (win : Bool) (w : World) : Calls Try.prog 15 #[.int .i64 4, .int .i64 6, .bool win] w (Known w (some (5, [7, 10]))) := by
  have h0 := At.new w 38 #[.int .i64 0, .slice none 0 0]
  have hb := (Below.refl w.heap.size w).alloc (Nat.le_refl _) (.cells #[.int .i64 0, .slice none 0 0] 38)
  go_enter Try.func15, Try.ntmps15
  go_wp2_with fail
  have hr : Reads .i64 ((w.alloc (.cells #[.int .i64 0, .slice none 0 0] 38)).alloc (.cells #[.int .i64 7, .int .i64 10] 3)) (.slice (some ⟨w.heap.size + 1, 0, none⟩) 2 2) [7, 10] := by
    have := lst (w.alloc (.cells #[.int .i64 0, .slice none 0 0] 38)) [7, 10] (by decide)
    rwa [show (w.alloc (.cells #[.int .i64 0, .slice none 0 0] 38)).heap.size = w.heap.size + 1 from by simp] at this
  have h1 := h0.alloc (.cells #[.int .i64 7, .int .i64 10] 3)
  have hb1 := hb.alloc (by simp) (.cells #[.int .i64 7, .int .i64 10] 3)
  refine (to_ _ _ _ _ _).mono ?_
  rintro e w1 ⟨rfl, b1⟩
  replace b1 := below_of (a := ((w.alloc (.cells #[.int .i64 0, .slice none 0 0] 38)).alloc (.cells #[.int .i64 7, .int .i64 10] 3))) b1 rfl
  replace hr := hr.below b1
  replace h1 := h1.ext b1
  replace hb1 := hb1.trans (b1.mono hb1.size)
  clear b1 h0 hb
  go_wp2_with (refine wpList_store_row rfl 38 _ _ rfl w.heap.size #[.int .i64 5, .slice (some ⟨w.heap.size + 1, 0, none⟩) 2 2] rfl rfl 38 _ h1 (by kernel_rfl) rfl (by simp [Value.oneCell']) ?_)
  refine end_cell_tmp (p := 6) (u := 7) (by kernel_rfl) rfl h1.row Try.underlying38 rfl (by kernel_rfl) rfl rfl ⟨below_setRow hb1 (Nat.le_refl _) _, _, _, rfl, (by intro b off h; cases h; omega), ?_⟩
  exact reads_row hr (by intro b off h; cases h; omega)

theorem f15_4_7 (win : Bool) (w : World) : Calls Try.prog 15 #[.int .i64 4, .int .i64 7, .bool win] w (Known w (some (6, [4]))) := by
  have h0 := At.new w 38 #[.int .i64 0, .slice none 0 0]
  have hb := (Below.refl w.heap.size w).alloc (Nat.le_refl _) (.cells #[.int .i64 0, .slice none 0 0] 38)
  go_enter Try.func15, Try.ntmps15
  go_wp2_with fail
  have hr : Reads .i64 ((w.alloc (.cells #[.int .i64 0, .slice none 0 0] 38)).alloc (.cells #[.int .i64 4] 3)) (.slice (some ⟨w.heap.size + 1, 0, none⟩) 1 1) [4] := by
    have := lst (w.alloc (.cells #[.int .i64 0, .slice none 0 0] 38)) [4] (by decide)
    rwa [show (w.alloc (.cells #[.int .i64 0, .slice none 0 0] 38)).heap.size = w.heap.size + 1 from by simp] at this
  have h1 := h0.alloc (.cells #[.int .i64 4] 3)
  have hb1 := hb.alloc (by simp) (.cells #[.int .i64 4] 3)
  refine (to_ _ _ _ _ _).mono ?_
  rintro e w1 ⟨rfl, b1⟩
  replace b1 := below_of (a := ((w.alloc (.cells #[.int .i64 0, .slice none 0 0] 38)).alloc (.cells #[.int .i64 4] 3))) b1 rfl
  replace hr := hr.below b1
  replace h1 := h1.ext b1
  replace hb1 := hb1.trans (b1.mono hb1.size)
  clear b1 h0 hb
  go_wp2_with (refine wpList_store_row rfl 38 _ _ rfl w.heap.size #[.int .i64 6, .slice (some ⟨w.heap.size + 1, 0, none⟩) 1 1] rfl rfl 38 _ h1 (by kernel_rfl) rfl (by simp [Value.oneCell']) ?_)
  refine end_cell_tmp (p := 6) (u := 7) (by kernel_rfl) rfl h1.row Try.underlying38 rfl (by kernel_rfl) rfl rfl ⟨below_setRow hb1 (Nat.le_refl _) _, _, _, rfl, (by intro b off h; cases h; omega), ?_⟩
  exact reads_row hr (by intro b off h; cases h; omega)

theorem f15_4_8 (win : Bool) (w : World) : Calls Try.prog 15 #[.int .i64 4, .int .i64 8, .bool win] w (Known w (some (2, [7]))) := by
  have h0 := At.new w 38 #[.int .i64 0, .slice none 0 0]
  have hb := (Below.refl w.heap.size w).alloc (Nat.le_refl _) (.cells #[.int .i64 0, .slice none 0 0] 38)
  go_enter Try.func15, Try.ntmps15
  go_wp2_with fail
  have hr : Reads .i64 ((w.alloc (.cells #[.int .i64 0, .slice none 0 0] 38)).alloc (.cells #[.int .i64 7] 3)) (.slice (some ⟨w.heap.size + 1, 0, none⟩) 1 1) [7] := by
    have := lst (w.alloc (.cells #[.int .i64 0, .slice none 0 0] 38)) [7] (by decide)
    rwa [show (w.alloc (.cells #[.int .i64 0, .slice none 0 0] 38)).heap.size = w.heap.size + 1 from by simp] at this
  have h1 := h0.alloc (.cells #[.int .i64 7] 3)
  have hb1 := hb.alloc (by simp) (.cells #[.int .i64 7] 3)
  refine (to_ _ _ _ _ _).mono ?_
  rintro e w1 ⟨rfl, b1⟩
  replace b1 := below_of (a := ((w.alloc (.cells #[.int .i64 0, .slice none 0 0] 38)).alloc (.cells #[.int .i64 7] 3))) b1 rfl
  replace hr := hr.below b1
  replace h1 := h1.ext b1
  replace hb1 := hb1.trans (b1.mono hb1.size)
  clear b1 h0 hb
  go_wp2_with (refine wpList_store_row rfl 38 _ _ rfl w.heap.size #[.int .i64 2, .slice (some ⟨w.heap.size + 1, 0, none⟩) 1 1] rfl rfl 38 _ h1 (by kernel_rfl) rfl (by simp [Value.oneCell']) ?_)
  refine end_cell_tmp (p := 6) (u := 7) (by kernel_rfl) rfl h1.row Try.underlying38 rfl (by kernel_rfl) rfl rfl ⟨below_setRow hb1 (Nat.le_refl _) _, _, _, rfl, (by intro b off h; cases h; omega), ?_⟩
  exact reads_row hr (by intro b off h; cases h; omega)

theorem f15_4_9 (win : Bool) (w : World) : Calls Try.prog 15 #[.int .i64 4, .int .i64 9, .bool win] w (Known w (none)) := by
  have h0 := At.new w 38 #[.int .i64 0, .slice none 0 0]
  have hb := (Below.refl w.heap.size w).alloc (Nat.le_refl _) (.cells #[.int .i64 0, .slice none 0 0] 38)
  go_enter Try.func15, Try.ntmps15
  go_wp2_with (refine wpList_store_row rfl 38 _ _ rfl w.heap.size #[.int .i64 0, .slice none 0 0] rfl rfl 38 _ h0 (by kernel_rfl) rfl (by simp [Value.oneCell']) ?_)
  exact end_cell_tmp (p := 6) (u := 7) (by kernel_rfl) rfl h0.row Try.underlying38 rfl (by kernel_rfl) rfl rfl ⟨below_setRow hb (Nat.le_refl _) _, _, _, _, _, rfl⟩

theorem f15_4_10 (win : Bool) (w : World) : Calls Try.prog 15 #[.int .i64 4, .int .i64 10, .bool win] w (Known w (none)) := by
  have h0 := At.new w 38 #[.int .i64 0, .slice none 0 0]
  have hb := (Below.refl w.heap.size w).alloc (Nat.le_refl _) (.cells #[.int .i64 0, .slice none 0 0] 38)
  go_enter Try.func15, Try.ntmps15
  go_wp2_with (refine wpList_store_row rfl 38 _ _ rfl w.heap.size #[.int .i64 0, .slice none 0 0] rfl rfl 38 _ h0 (by kernel_rfl) rfl (by simp [Value.oneCell']) ?_)
  exact end_cell_tmp (p := 6) (u := 7) (by kernel_rfl) rfl h0.row Try.underlying38 rfl (by kernel_rfl) rfl rfl ⟨below_setRow hb (Nat.le_refl _) _, _, _, _, _, rfl⟩

theorem f15_4_11 (win : Bool) (w : World) : Calls Try.prog 15 #[.int .i64 4, .int .i64 11, .bool win] w (Known w (none)) := by
  have h0 := At.new w 38 #[.int .i64 0, .slice none 0 0]
  have hb := (Below.refl w.heap.size w).alloc (Nat.le_refl _) (.cells #[.int .i64 0, .slice none 0 0] 38)
  go_enter Try.func15, Try.ntmps15
  go_wp2_with (refine wpList_store_row rfl 38 _ _ rfl w.heap.size #[.int .i64 0, .slice none 0 0] rfl rfl 38 _ h0 (by kernel_rfl) rfl (by simp [Value.oneCell']) ?_)
  exact end_cell_tmp (p := 6) (u := 7) (by kernel_rfl) rfl h0.row Try.underlying38 rfl (by kernel_rfl) rfl rfl ⟨below_setRow hb (Nat.le_refl _) _, _, _, _, _, rfl⟩

theorem f15_4_12 (win : Bool) (w : World) : Calls Try.prog 15 #[.int .i64 4, .int .i64 12, .bool win] w (Known w (none)) := by
  have h0 := At.new w 38 #[.int .i64 0, .slice none 0 0]
  have hb := (Below.refl w.heap.size w).alloc (Nat.le_refl _) (.cells #[.int .i64 0, .slice none 0 0] 38)
  go_enter Try.func15, Try.ntmps15
  go_wp2_with (refine wpList_store_row rfl 38 _ _ rfl w.heap.size #[.int .i64 0, .slice none 0 0] rfl rfl 38 _ h0 (by kernel_rfl) rfl (by simp [Value.oneCell']) ?_)
  exact end_cell_tmp (p := 6) (u := 7) (by kernel_rfl) rfl h0.row Try.underlying38 rfl (by kernel_rfl) rfl rfl ⟨below_setRow hb (Nat.le_refl _) _, _, _, _, _, rfl⟩

end Go.Proofs.Ytamemmbcdkhdhaa.Peer
