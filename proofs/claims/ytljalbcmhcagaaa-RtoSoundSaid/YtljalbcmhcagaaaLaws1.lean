/-
  New, answers; what '==' says of two paths; the walks of the laws without loops.
-/
import Derived.Test.YtljalbcmhcagaaaWay10
import Derived.Test.YtljalbcmhcagaaaWay5
import Derived.Test.YtljalbcmhcagaaaMono
import Derived.Laws.StructEq
namespace Go.Proofs.Ytljalbcmhcagaaa.Way
open Go.RowKit Mem
set_option linter.unusedVariables false
set_option linter.unusedSimpArgs false
attribute [local simp] Mono.DepFacts Mono.want Mono.isV Mono.Fin Act.eval Act.put Region.binds

theorem eq23 (x : Wy) (w : World) : (binOp .eql 23 (.agg (cells x)) (.agg (cells x))).run Try.prog w = .ok (.bool true) w := by
  have hS : Try.prog.underlying 23 = some (.struct (Try.prog.fieldsOf 23)) := by kernel_rfl
  have hp : Try.prog.stoodInHeld 23 = false := by kernel_rfl
  have u3 := Try.underlying3
  rw [run_eql_struct, show (10000 : Nat) = 9999 + 1 from rfl, run_equalIn_agg w 9999 23 _ _ hS hp]
  simp only [Program.fieldsOf, Try.underlying23]
  go_simp

/-- A call that answers a path out of a cell. -/
theorem end_cell {fn : Func} {p : Tmp} (h : fn.results = #[.cell p 23]) {a : Act} {w : World} {g : Nat} {y : Wy} {R : Ending → World → Prop} (hp : a.tmps.getD p undef = .pointer (some ⟨g, 0, none⟩)) (hat : At w g y)
    (hd : a.defers = []) (hR : R (.returned (.agg (cells y))) w) : bodyPost Try.prog fn R Exit.ret a w :=
  ⟨hd, _, results_cell_row h _ _ g 23 (cells y) (0, 0) _ hp hat Try.underlying23 rfl (by kernel_rfl), hR⟩

def new7 : Wy := ⟨0, 0, 12, 0, 2048, 65536, 0⟩
theorem new (w : World) : Calls Try.prog 22 #[] w fun e w' => e = .returned (.agg (cells new7)) ∧ Below w.heap.size w w' := by
  have h0 := At.new w none7
  have hb := (Below.refl w.heap.size w).alloc (Nat.le_refl _) (.cells (cells none7) 23)
  go_enter Try.func22, Try.ntmps22
  go_wp2_with (refine wpList_store_row rfl 23 _ _ rfl w.heap.size (cells new7) rfl rfl 23 _ h0 (by kernel_rfl) rfl (cells_one _) ?_)
  exact end_cell (p := 0) (by kernel_rfl) rfl h0.row rfl ⟨rfl, below_setRow hb (Nat.le_refl _) _⟩

theorem measure_new : measureW new7 8 = ⟨8, 4, 24, 0, 2048, 65536, 0⟩ ∧ measureE new7 8 = 0 := ⟨by rfl, by rfl⟩
theorem below_of {a b : World} {k : Nat} (h : Below a.heap.size a b) (hk : a.heap.size = k) : Below k a b := hk ▸ h
theorem answers (w : World) : Calls Try.prog 11 #[] w fun e w' => e = .returned (.bool true) ∧ Below w.heap.size w w' := by
  go_enter Try.func11, Try.ntmps11
  go_wp2_with fail
  refine (new w).mono ?_
  rintro e w1 ⟨rfl, b1⟩
  go_wp2_with fail
  refine (measure new7 8 _).mono ?_
  rintro e w2 ⟨rfl, b2⟩
  rw [measure_new.1, measure_new.2]
  have hb := Frame.ext b1 b2
  clear b1 b2
  go_wp2
  go_ret
  exact ⟨rfl, hb.alloc hb.size _⟩

set_option maxRecDepth 100000 in
set_option maxHeartbeats 3200000 in
theorem measures (x : Wy) (n : Int) (w : World) (hn : -9223372036854775808 ≤ n ∧ n ≤ 9223372036854775807) : Calls Try.prog 3 #[.agg (cells x), .int .i64 n] w fun e w' => e = .returned (.bool true) ∧ Below w.heap.size w w' := by
  have ha := At.new w x
  have hb := (Below.refl w.heap.size w).alloc (Nat.le_refl _) (.cells (cells x) 23)
  have hs : (w.alloc (.cells (cells x) 23)).heap.size = w.heap.size + 1 := by simp
  go_enter Try.func3, Try.ntmps3
  go_wp2_with fail
  refine (measure x n _).mono ?_
  rintro e w1 ⟨rfl, b1⟩
  replace b1 := below_of (a := (w.alloc (.cells (cells x) 23))) b1 hs
  have hx1 := ha.below b1 (by omega)
  have hw1 : w.heap.size + 1 ≤ w1.heap.size := by have := b1.size; omega
  have hb1 := hb.trans (b1.mono (by omega))
  clear b1 hs ha hb
  have hx1a := hx1.alloc (.cells (cells (measureW x n)) 23)
  have hy0_1a := At.new w1 (measureW x n)
  have hb1a := hb1.alloc (by omega) (.cells (cells (measureW x n)) 23)
  go_wp2_with (refine wpList_load_row rfl 23 _ rfl w.heap.size rfl 23 (cells x) (0, 0) _ hx1a Try.underlying23 rfl (by kernel_rfl) ?_)
  have hs : (w1.alloc (.cells (cells (measureW x n)) 23)).heap.size = w1.heap.size + 1 := by simp
  refine (measureR x n _).mono ?_
  rintro e w2 ⟨rfl, b2⟩
  replace b2 := below_of (a := (w1.alloc (.cells (cells (measureW x n)) 23))) b2 hs
  have hx2 := hx1a.below b2 (by omega)
  have hy0_2 := hy0_1a.below b2 (by omega)
  have hw2 : w1.heap.size + 1 ≤ w2.heap.size := by have := b2.size; omega
  have hb2 := hb1a.trans (b2.mono (by omega))
  clear b2 hs hx1a hb1a hy0_1a
  have hx2a := hx2.alloc (.cells (cells (measureW x n)) 23)
  have hy0_2a := hy0_2.alloc (.cells (cells (measureW x n)) 23)
  have hy1_2a := At.new w2 (measureW x n)
  have hb2a := hb2.alloc (by omega) (.cells (cells (measureW x n)) 23)
  go_wp2_with fail
  have hs : (w2.alloc (.cells (cells (measureW x n)) 23)).heap.size = w2.heap.size + 1 := by simp
  obtain ⟨W, hW⟩ : ∃ W, W = (w2.alloc (.cells (cells (measureW x n)) 23)) := ⟨_, rfl⟩
  replace hW : W = w2.alloc (.cells #[.int .i64 (measureW x n).s, .int .i64 (measureW x n).v, .int .i64 (measureW x n).r, .int .i64 (measureW x n).e, .int .i64 (measureW x n).c, .int .i64 (measureW x n).h, .int .i64 (measureW x n).a] 23) := hW
  rw [← hW]
  replace hx2a : At W w.heap.size x := by rw [hW]; exact hx2a
  replace hy0_2a : At W w1.heap.size (measureW x n) := by rw [hW]; exact hy0_2a
  replace hy1_2a : At W w2.heap.size (measureW x n) := by rw [hW]; exact hy1_2a
  replace hb2a : Below w.heap.size w W := by rw [hW]; exact hb2a
  clear hW hs hx1 hx2 hb1 hb2
  refine Mono.wp_region_mono [some 21, some 22, some 23, some 24, some 25, some 26, some 27, some 28, some 29, some 30, some 31, some 32, some 33, some 34, some 35, some 36, some 37, some 38, some 4] [Mono.isV (.bool true), Mono.isV (.bool true), Mono.isV (.agg (cells x)), Mono.isV (.bool (okB x)), Mono.isV (.agg (cells x)), Mono.isV (.bool (okB x)), Mono.isV (.bool true), Mono.isV (.bool true), Mono.isV (.bool true), Mono.isV (.agg (cells (measureW x n))), Mono.isV (.agg (cells (measureW x n))), Mono.isV (.bool true), Mono.isV (.bool true), Mono.isV (.bool true), Mono.isV (.int .i64 (measureE x n)), Mono.isV (.int .i64 (measureE x n)), Mono.isV (.bool true), Mono.isV (.bool true), Mono.isV (.bool true)] (by kernel_rfl) (by kernel_rfl) ?_ ?_
  · simp only [Mono.OpGoals, and_true]
    refine ⟨?_, ?_, ?_, ?_, ?_, ?_, ?_, ?_, ?_, ?_, ?_, ?_, ?_, ?_, ?_, ?_, ?_, ?_, ?_⟩
    all_goals
      intro a u hbu hsu hdu
      simp at hdu hsu
      obtain ⟨c0, c1, c2, c3, c4, c5, c6⟩ := (hx2a.below hbu hx2a.lt).cells7
      obtain ⟨d0, d1, d2, d3, d4, d5, d6⟩ := (hy0_2a.below hbu hy0_2a.lt).cells7
      obtain ⟨e0, e1, e2, e3, e4, e5, e6⟩ := (hy1_2a.below hbu hy1_2a.lt).cells7
      have q := eq23 (measureW x n) u
      simp [*]
      go_wp2_with (first
        | (go_at_call 11; refine (answers _).mono ?_; rintro e w1 ⟨rfl, hb1⟩)
        | (go_at_call 12; refine (sound _ _).mono ?_; rintro e w1 ⟨rfl, hb1⟩)
        | (go_at_call 13; refine (wayOK _ _).mono ?_; rintro e w1 ⟨rfl, hb1⟩))
    all_goals first | exact Below.refl _ _ | exact ⟨rfl, by assumption⟩ | exact ⟨trivial, Below.refl _ _⟩ | trace_state
  · intro u hu
    simp
    intros
    go_wp2
    go_ret
    exact ⟨rfl, Frame.ext hb2a hu⟩

set_option maxRecDepth 100000 in
set_option maxHeartbeats 3200000 in
theorem losses (x : Wy) (w : World) : Calls Try.prog 5 #[.agg (cells x)] w fun e w' => e = .returned (.bool true) ∧ Below w.heap.size w w' := by
  have ha := At.new w x
  have hb := (Below.refl w.heap.size w).alloc (Nat.le_refl _) (.cells (cells x) 23)
  have hs : (w.alloc (.cells (cells x) 23)).heap.size = w.heap.size + 1 := by simp
  go_enter Try.func5, Try.ntmps5
  go_wp2_with fail
  refine (late x _).mono ?_
  rintro e w1 ⟨rfl, b1⟩
  replace b1 := below_of (a := (w.alloc (.cells (cells x) 23))) b1 hs
  have hx1 := ha.below b1 (by omega)
  have hw1 : w.heap.size + 1 ≤ w1.heap.size := by have := b1.size; omega
  have hb1 := hb.trans (b1.mono (by omega))
  clear b1 hs ha hb
  have hx1a := hx1.alloc (.cells (cells (lateW x)) 23)
  have hy0_1a := At.new w1 (lateW x)
  have hb1a := hb1.alloc (by omega) (.cells (cells (lateW x)) 23)
  go_wp2_with (refine wpList_load_row rfl 23 _ rfl w.heap.size rfl 23 (cells x) (0, 0) _ hx1a Try.underlying23 rfl (by kernel_rfl) ?_)
  have hs : (w1.alloc (.cells (cells (lateW x)) 23)).heap.size = w1.heap.size + 1 := by simp
  refine (lateR x _).mono ?_
  rintro e w2 ⟨rfl, b2⟩
  replace b2 := below_of (a := (w1.alloc (.cells (cells (lateW x)) 23))) b2 hs
  have hx2 := hx1a.below b2 (by omega)
  have hy0_2 := hy0_1a.below b2 (by omega)
  have hw2 : w1.heap.size + 1 ≤ w2.heap.size := by have := b2.size; omega
  have hb2 := hb1a.trans (b2.mono (by omega))
  clear b2 hs hx1a hb1a hy0_1a
  have hx2a := hx2.alloc (.cells (cells (lateW x)) 23)
  have hy0_2a := hy0_2.alloc (.cells (cells (lateW x)) 23)
  have hy1_2a := At.new w2 (lateW x)
  have hb2a := hb2.alloc (by omega) (.cells (cells (lateW x)) 23)
  go_wp2_with (refine wpList_load_row rfl 23 _ rfl w.heap.size rfl 23 (cells x) (0, 0) _ hx2a Try.underlying23 rfl (by kernel_rfl) ?_)
  have hs : (w2.alloc (.cells (cells (lateW x)) 23)).heap.size = w2.heap.size + 1 := by simp
  refine (fast x _).mono ?_
  rintro e w3 ⟨rfl, b3⟩
  replace b3 := below_of (a := (w2.alloc (.cells (cells (lateW x)) 23))) b3 hs
  have hx3 := hx2a.below b3 (by omega)
  have hy0_3 := hy0_2a.below b3 (by omega)
  have hy1_3 := hy1_2a.below b3 (by omega)
  have hw3 : w2.heap.size + 1 ≤ w3.heap.size := by have := b3.size; omega
  have hb3 := hb2a.trans (b3.mono (by omega))
  clear b3 hs hx2a hb2a hy0_2a hy1_2a
  have hx3a := hx3.alloc (.cells (cells (fastW x)) 23)
  have hy0_3a := hy0_3.alloc (.cells (cells (fastW x)) 23)
  have hy1_3a := hy1_3.alloc (.cells (cells (fastW x)) 23)
  have hy2_3a := At.new w3 (fastW x)
  have hb3a := hb3.alloc (by omega) (.cells (cells (fastW x)) 23)
  go_wp2_with (refine wpList_load_row rfl 23 _ rfl w.heap.size rfl 23 (cells x) (0, 0) _ hx3a Try.underlying23 rfl (by kernel_rfl) ?_)
  have hs : (w3.alloc (.cells (cells (fastW x)) 23)).heap.size = w3.heap.size + 1 := by simp
  refine (fastR x _).mono ?_
  rintro e w4 ⟨rfl, b4⟩
  replace b4 := below_of (a := (w3.alloc (.cells (cells (fastW x)) 23))) b4 hs
  have hx4 := hx3a.below b4 (by omega)
  have hy0_4 := hy0_3a.below b4 (by omega)
  have hy1_4 := hy1_3a.below b4 (by omega)
  have hy2_4 := hy2_3a.below b4 (by omega)
  have hw4 : w3.heap.size + 1 ≤ w4.heap.size := by have := b4.size; omega
  have hb4 := hb3a.trans (b4.mono (by omega))
  clear b4 hs hx3a hb3a hy0_3a hy1_3a hy2_3a
  have hx4a := hx4.alloc (.cells (cells (fastW x)) 23)
  have hy0_4a := hy0_4.alloc (.cells (cells (fastW x)) 23)
  have hy1_4a := hy1_4.alloc (.cells (cells (fastW x)) 23)
  have hy2_4a := hy2_4.alloc (.cells (cells (fastW x)) 23)
  have hy3_4a := At.new w4 (fastW x)
  have hb4a := hb4.alloc (by omega) (.cells (cells (fastW x)) 23)
  go_wp2_with fail
  have hs : (w4.alloc (.cells (cells (fastW x)) 23)).heap.size = w4.heap.size + 1 := by simp
  clear hs
  refine (answers _).mono ?_
  rintro e w5 ⟨rfl, b5⟩
  replace b5 := below_of (a := (w4.alloc (.cells (cells (fastW x)) 23))) b5 rfl
  have hy0_5 := hy0_4a.below b5 hy0_4a.lt
  have hy1_5 := hy1_4a.below b5 hy1_4a.lt
  have hy2_5 := hy2_4a.below b5 hy2_4a.lt
  have hy3_5 := hy3_4a.below b5 hy3_4a.lt
  have hb5 := hb4a.trans (b5.mono hb4a.size)
  have q1 := eq23 (lateW x) w5
  have q2 := eq23 (fastW x) w5
  clear b5 hx4 hb4 hy0_4 hy1_4 hy2_4 hx4a hy0_4a hy1_4a hy2_4a hy3_4a hb4a
  go_wp2_with (first
    | (refine wpl_wanted (by rfl) ?_; refine wpList_load_row rfl 23 (.tmp 3) rfl w1.heap.size rfl 23 _ _ _ hy0_5 Try.underlying23 rfl (by kernel_rfl) ?_)
    | (refine wpl_wanted (by rfl) ?_; refine wpList_load_row rfl 23 (.tmp 5) rfl w2.heap.size rfl 23 _ _ _ hy1_5 Try.underlying23 rfl (by kernel_rfl) ?_)
    | (refine wpl_wanted (by rfl) ?_; refine wpList_load_row rfl 23 (.tmp 7) rfl w3.heap.size rfl 23 _ _ _ hy2_5 Try.underlying23 rfl (by kernel_rfl) ?_)
    | (refine wpl_wanted (by rfl) ?_; refine wpList_load_row rfl 23 (.tmp 9) rfl w4.heap.size rfl 23 _ _ _ hy3_5 Try.underlying23 rfl (by kernel_rfl) ?_))
  go_ret
  exact ⟨rfl, hb5⟩

set_option maxRecDepth 100000 in
set_option maxHeartbeats 3200000 in
theorem acks (x : Wy) (n f : Int) (full : Bool) (w : World) (hn : -9223372036854775808 ≤ n ∧ n ≤ 9223372036854775807) (hf : -9223372036854775808 ≤ f ∧ f ≤ 9223372036854775807) : Calls Try.prog 6 #[.agg (cells x), .int .i64 n, .int .i64 f, .bool full] w fun e w' => e = .returned (.bool true) ∧ Below w.heap.size w w' := by
  have ha := At.new w x
  have hb := (Below.refl w.heap.size w).alloc (Nat.le_refl _) (.cells (cells x) 23)
  have hs : (w.alloc (.cells (cells x) 23)).heap.size = w.heap.size + 1 := by simp
  go_enter Try.func6, Try.ntmps6
  go_wp2_with fail
  refine (acked x n full _).mono ?_
  rintro e w1 ⟨rfl, b1⟩
  replace b1 := below_of (a := (w.alloc (.cells (cells x) 23))) b1 hs
  have hx1 := ha.below b1 (by omega)
  have hw1 : w.heap.size + 1 ≤ w1.heap.size := by have := b1.size; omega
  have hb1 := hb.trans (b1.mono (by omega))
  clear b1 hs ha hb
  have hx1a := hx1.alloc (.cells (cells (ackedW x n full)) 23)
  have hy0_1a := At.new w1 (ackedW x n full)
  have hb1a := hb1.alloc (by omega) (.cells (cells (ackedW x n full)) 23)
  go_wp2_with (refine wpList_load_row rfl 23 _ rfl w.heap.size rfl 23 (cells x) (0, 0) _ hx1a Try.underlying23 rfl (by kernel_rfl) ?_)
  have hs : (w1.alloc (.cells (cells (ackedW x n full)) 23)).heap.size = w1.heap.size + 1 := by simp
  refine (ackedR x n full _ hn).mono ?_
  rintro e w2 ⟨rfl, b2⟩
  replace b2 := below_of (a := (w1.alloc (.cells (cells (ackedW x n full)) 23))) b2 hs
  have hx2 := hx1a.below b2 (by omega)
  have hy0_2 := hy0_1a.below b2 (by omega)
  have hw2 : w1.heap.size + 1 ≤ w2.heap.size := by have := b2.size; omega
  have hb2 := hb1a.trans (b2.mono (by omega))
  clear b2 hs hx1a hb1a hy0_1a
  have hx2a := hx2.alloc (.cells (cells (ackedW x n full)) 23)
  have hy0_2a := hy0_2.alloc (.cells (cells (ackedW x n full)) 23)
  have hy1_2a := At.new w2 (ackedW x n full)
  have hb2a := hb2.alloc (by omega) (.cells (cells (ackedW x n full)) 23)
  go_wp2_with fail
  have hs : (w2.alloc (.cells (cells (ackedW x n full)) 23)).heap.size = w2.heap.size + 1 := by simp
  obtain ⟨W, hW⟩ : ∃ W, W = (w2.alloc (.cells (cells (ackedW x n full)) 23)) := ⟨_, rfl⟩
  replace hW : W = w2.alloc (.cells #[.int .i64 (ackedW x n full).s, .int .i64 (ackedW x n full).v, .int .i64 (ackedW x n full).r, .int .i64 (ackedW x n full).e, .int .i64 (ackedW x n full).c, .int .i64 (ackedW x n full).h, .int .i64 (ackedW x n full).a] 23) := hW
  rw [← hW]
  replace hx2a : At W w.heap.size x := by rw [hW]; exact hx2a
  replace hy0_2a : At W w1.heap.size (ackedW x n full) := by rw [hW]; exact hy0_2a
  replace hy1_2a : At W w2.heap.size (ackedW x n full) := by rw [hW]; exact hy1_2a
  replace hb2a : Below w.heap.size w W := by rw [hW]; exact hb2a
  clear hW hs hx1 hx2 hb1 hb2
  refine Mono.wp_region_mono [some 27, some 28, some 29, some 30, some 31, some 32, some 33, some 34, some 35, some 36, some 37, some 38, some 39, some 40, some 41, some 42, some 43, some 44, some 45, some 46, some 8] [Mono.isV (.bool true), Mono.isV (.bool true), Mono.isV (.agg (cells (ackedW x n full))), Mono.isV (.agg (cells (ackedW x n full))), Mono.isV (.bool true), Mono.isV (.bool true), Mono.isV (.bool true), Mono.isV (.int .i64 (ackedE x n)), Mono.isV (.int .i64 (ackedE x n)), Mono.isV (.bool true), Mono.isV (.bool true), Mono.isV (.bool true), Mono.isV (.agg (cells x)), Mono.isV (.int .i64 f), Mono.isV (.int .i64 (roomF x f)), Mono.isV (.agg (cells x)), Mono.isV (.int .i64 f), Mono.isV (.int .i64 (roomF x f)), Mono.isV (.bool true), Mono.isV (.bool true), Mono.isV (.bool true)] (by kernel_rfl) (by kernel_rfl) ?_ ?_
  · simp only [Mono.OpGoals, and_true]
    refine ⟨?_, ?_, ?_, ?_, ?_, ?_, ?_, ?_, ?_, ?_, ?_, ?_, ?_, ?_, ?_, ?_, ?_, ?_, ?_, ?_, ?_⟩
    all_goals
      intro a u hbu hsu hdu
      simp at hdu hsu
      obtain ⟨c0, c1, c2, c3, c4, c5, c6⟩ := (hx2a.below hbu hx2a.lt).cells7
      obtain ⟨d0, d1, d2, d3, d4, d5, d6⟩ := (hy0_2a.below hbu hy0_2a.lt).cells7
      obtain ⟨e0, e1, e2, e3, e4, e5, e6⟩ := (hy1_2a.below hbu hy1_2a.lt).cells7
      have q := eq23 (ackedW x n full) u
      simp [*]
      go_wp2_with (first
        | (go_at_call 11; refine (answers _).mono ?_; rintro e w1 ⟨rfl, hb1⟩)
        | (go_at_call 20; refine (roomP _ _ _ hf).mono ?_; rintro e w1 ⟨rfl, hb1⟩)
        | (go_at_call 21; refine (roomR _ _ _ hf).mono ?_; rintro e w1 ⟨rfl, hb1⟩))
    all_goals first | exact Below.refl _ _ | exact ⟨rfl, by assumption⟩ | exact ⟨trivial, Below.refl _ _⟩ | trace_state
  · intro u hu
    simp
    intros
    go_wp2
    go_ret
    exact ⟨rfl, Frame.ext hb2a hu⟩
end Go.Proofs.Ytljalbcmhcagaaa.Way
