/-
  The walks of RtoShrinks and RtoSettles.
-/
import Derived.Test.YtljalbcmhcagaaaLaws2
import Derived.Deep.Cut
namespace Go.Proofs.Ytljalbcmhcagaaa.Way
open Go.RowKit Mem
set_option linter.unusedVariables false
set_option linter.unusedSimpArgs false

set_option maxRecDepth 100000 in
set_option maxHeartbeats 3200000 in
theorem shrinks0 (x : Wy) (n : Int) (full : Bool) (w : World) (hx : okB x = false) : Calls Try.prog 8 #[.agg (cells x), .int .i64 n, .bool full] w fun e w' => e = .returned (.bool true) ∧ Below w.heap.size w w' := by
  have ha := At.new w x
  have hb := (Below.refl w.heap.size w).alloc (Nat.le_refl _) (.cells (cells x) 23)
  have hs : (w.alloc (.cells (cells x) 23)).heap.size = w.heap.size + 1 := by simp
  go_enter Try.func8, Try.ntmps8
  go_wp2_with fail
  refine (answers _).mono ?_
  rintro e w1 ⟨rfl, b1⟩
  replace b1 := below_of (a := (w.alloc (.cells (cells x) 23))) b1 hs
  have hx1 := ha.below b1 (by omega)
  have hb1 := hb.trans (b1.mono (by omega))
  have hw1 : w.heap.size + 1 ≤ w1.heap.size := by have := b1.size; omega
  clear b1 ha hb hs
  go_wp2_with (refine wpl_wanted (by rfl) ?_; refine wpList_load_row rfl 23 (.tmp 3) rfl w.heap.size rfl 23 _ _ _ hx1 Try.underlying23 rfl (by kernel_rfl) ?_)
  refine (wayOK x _).mono ?_
  rintro e w2 ⟨rfl, b2⟩
  rw [hx]
  have hx2 := hx1.below b2 (by omega)
  have hb2 := Frame.ext hb1 b2
  have hw2 : w.heap.size + 1 ≤ w2.heap.size := by have := b2.size; omega
  clear b2 hx1 hb1 hw1
  go_wp2_with fail
  refine (answers _).mono ?_
  rintro e w3 ⟨rfl, b3⟩
  have hb3 := Frame.ext hb2 b3
  clear b3
  go_wp2
  go_ret
  exact ⟨rfl, hb3⟩

/-- What the three calls answer, and what is known of it. -/
def Facts (x L F A : Wy) (E : Int) : Prop := L.c ≤ x.c ∧ x.r ≤ L.r ∧ (F.c ≤ x.c ∨ (x.c < F.c ∧ F.c = 1024)) ∧ (E = 0 ∧ x.c ≤ A.c ∨ E = 1)
theorem facts {x : Wy} {n : Int} {full : Bool} (hx : okB x = true) : Facts x (lated x) (halved x) (ackedW x n full) (ackedE x n) := by
  have hk := (okB_iff x).1 hx
  refine ⟨?_, ?_, ?_, ?_⟩
  · show 512 ≤ x.c; omega
  · show x.r ≤ min (2 * x.r) 64; rw [Int.min_def]; split <;> omega
  · show max (x.c / 2) 1024 ≤ x.c ∨ (x.c < max (x.c / 2) 1024 ∧ max (x.c / 2) 1024 = 1024)
    rw [Int.max_def]; split <;> omega
  · cases hi : inB n 0 65536 with
    | true =>
      rw [(aWtrue hx hi).1, (aWtrue (full := full) hx hi).2]
      unfold inB at hi
      exact .inl ⟨rfl, acked_ge hx (of_decide_eq_true hi)⟩
    | false => rw [(aWfalse (full := full) hx hi).2]; exact .inr rfl

set_option maxRecDepth 100000 in
set_option maxHeartbeats 3200000 in
theorem shrinksB (x L F A : Wy) (E n : Int) (full : Bool) (w : World) (hx : okB x = true) (hE : E = 0 ∧ x.c ≤ A.c ∨ E = 1) (h1 : L.c ≤ x.c) (h2 : x.r ≤ L.r) (h3 : F.c ≤ x.c ∨ (x.c < F.c ∧ F.c = 1024))
    (hL : ∀ w, Calls Try.prog 14 #[.agg (cells x)] w fun e w' => e = .returned (.tuple #[.agg (cells L), .int .i64 0]) ∧ Below w.heap.size w w')
    (hF : ∀ w, Calls Try.prog 16 #[.agg (cells x)] w fun e w' => e = .returned (.tuple #[.agg (cells F), .int .i64 0]) ∧ Below w.heap.size w w')
    (hA : ∀ w, Calls Try.prog 18 #[.agg (cells x), .int .i64 n, .bool full] w fun e w' => e = .returned (.tuple #[.agg (cells A), .int .i64 E]) ∧ Below w.heap.size w w')
    : Calls Try.prog 8 #[.agg (cells x), .int .i64 n, .bool full] w fun e w' => e = .returned (.bool true) ∧ Below w.heap.size w w' := by
  replace hL := Lib.hid hL
  replace hF := Lib.hid hF
  replace hA := Lib.hid hA
  have ha := At.new w x
  have hb := (Below.refl w.heap.size w).alloc (Nat.le_refl _) (.cells (cells x) 23)
  have hs : (w.alloc (.cells (cells x) 23)).heap.size = w.heap.size + 1 := by simp
  go_enter Try.func8, Try.ntmps8
  go_wp2_with fail
  refine (answers _).mono ?_
  rintro e w1 ⟨rfl, b1⟩
  replace b1 := below_of (a := (w.alloc (.cells (cells x) 23))) b1 hs
  have hx1 := ha.below b1 (by omega)
  have hb1 := hb.trans (b1.mono (by omega))
  have hw1 : w.heap.size + 1 ≤ w1.heap.size := by have := b1.size; omega
  clear b1 ha hb hs
  go_wp2_with (refine wpl_wanted (by rfl) ?_; refine wpList_load_row rfl 23 (.tmp 3) rfl w.heap.size rfl 23 _ _ _ hx1 Try.underlying23 rfl (by kernel_rfl) ?_)
  refine (wayOK x _).mono ?_
  rintro e w2 ⟨rfl, b2⟩
  rw [hx]
  have hx2 := hx1.below b2 (by omega)
  have hb2 := Frame.ext hb1 b2
  have hw2 : w.heap.size + 1 ≤ w2.heap.size := by have := b2.size; omega
  clear b2 hx1 hb1 hw1
  go_wp2_with (refine wpList_load_row rfl 23 (.tmp 3) rfl w.heap.size rfl 23 _ _ _ hx2 Try.underlying23 rfl (by kernel_rfl) ?_)
  refine (hL.out _).mono ?_
  rintro e w3 ⟨rfl, b3⟩
  replace b3 := below_of (a := w2) b3 rfl
  have hx3 := hx2.below b3 (hx2.lt)
  have hw3 : w2.heap.size ≤ w3.heap.size := b3.size
  have hb3 := hb2.trans (b3.mono hb2.size)
  clear b3 hx2 hb2 
  have hx3a := hx3.alloc (.cells (cells L) 23)
  have hy0_3a := At.new w3 L
  have hb3a := hb3.alloc hb3.size (.cells (cells L) 23)
  clear hx3 hb3 
  go_wp2_with (refine wpList_load_row rfl 23 (.tmp 3) rfl w.heap.size rfl 23 (cells x) (0, 0) _ hx3a Try.underlying23 rfl (by kernel_rfl) ?_)
  refine (hF.out _).mono ?_
  rintro e w4 ⟨rfl, b4⟩
  replace b4 := below_of (a := (w3.alloc (.cells (cells L) 23))) b4 rfl
  have hx4 := hx3a.below b4 (hx3a.lt)
  have hy0_4 := hy0_3a.below b4 (hy0_3a.lt)
  have hw4 : (w3.alloc (.cells (cells L) 23)).heap.size ≤ w4.heap.size := b4.size
  rw [World.size_alloc] at hw4
  have hb4 := hb3a.trans (b4.mono hb3a.size)
  clear b4 hx3a hb3a hy0_3a
  have hx4a := hx4.alloc (.cells (cells F) 23)
  have hy0_4a := hy0_4.alloc (.cells (cells F) 23)
  have hy1_4a := At.new w4 F
  have hb4a := hb4.alloc hb4.size (.cells (cells F) 23)
  clear hx4 hb4 hy0_4
  go_wp2_with (refine wpList_load_row rfl 23 (.tmp 3) rfl w.heap.size rfl 23 (cells x) (0, 0) _ hx4a Try.underlying23 rfl (by kernel_rfl) ?_)
  refine (hA.out _).mono ?_
  rintro e w5 ⟨rfl, b5⟩
  replace b5 := below_of (a := (w4.alloc (.cells (cells F) 23))) b5 rfl
  have hx5 := hx4a.below b5 (hx4a.lt)
  have hy0_5 := hy0_4a.below b5 (hy0_4a.lt)
  have hy1_5 := hy1_4a.below b5 (hy1_4a.lt)
  have hw5 : (w4.alloc (.cells (cells F) 23)).heap.size ≤ w5.heap.size := b5.size
  rw [World.size_alloc] at hw5
  have hb5 := hb4a.trans (b5.mono hb4a.size)
  clear b5 hx4a hb4a hy0_4a hy1_4a
  have hx5a := hx5.alloc (.cells (cells A) 23)
  have hy0_5a := hy0_5.alloc (.cells (cells A) 23)
  have hy1_5a := hy1_5.alloc (.cells (cells A) 23)
  have hy2_5a := At.new w5 A
  have hb5a := hb5.alloc hb5.size (.cells (cells A) 23)
  clear hx5 hb5 hy0_5 hy1_5
  go_upto_region 6 with fail
  obtain ⟨W, hW⟩ : ∃ W, W = w5.alloc (.cells (cells A) 23) := ⟨_, rfl⟩
  replace hx5a : At W w.heap.size x := by rw [hW]; exact hx5a
  replace hy0_5a : At W w3.heap.size L := by rw [hW]; exact hy0_5a
  replace hy1_5a : At W w4.heap.size F := by rw [hW]; exact hy1_5a
  replace hy2_5a : At W w5.heap.size A := by rw [hW]; exact hy2_5a
  replace hb5a : Below w.heap.size w W := by rw [hW]; exact hb5a
  replace hW : W = w5.alloc (.cells #[.int .i64 A.s, .int .i64 A.v, .int .i64 A.r, .int .i64 A.e, .int .i64 A.c, .int .i64 A.h, .int .i64 A.a] 23) := hW
  rw [← hW]
  clear hW hw2 hw3 hw4 hw5
  have hge := hb5a.size
  obtain ⟨c0, c1, c2, c3, c4, c5, c6⟩ := hx5a.cells7
  obtain ⟨d0, d1, d2, d3, d4, d5, d6⟩ := hy0_5a.cells7
  obtain ⟨e0, e1, e2, e3, e4, e5, e6⟩ := hy1_5a.cells7
  obtain ⟨f0, f1, f2, f3, f4, f5, f6⟩ := hy2_5a.cells7
  replace h1 : ¬ x.c < L.c := by omega
  replace h2 : ¬ L.r < x.r := by omega
  obtain ⟨q, hq⟩ : ∃ q, F.c = q := ⟨_, rfl⟩
  rw [hq] at e4 h3
  replace h3 : (¬ x.c < q) ∨ (x.c < q ∧ q = 1024) := by omega
  have hE : E = 0 ∧ (¬ A.c < x.c) ∨ E = 1 := by omega
  clear hx5a hy0_5a hy1_5a hy2_5a hL hF hA hq
  rcases h3 with h3 | ⟨h3, rfl⟩ <;> rcases hE with ⟨rfl, h5⟩ | rfl
  all_goals
    go_wp2_with fail
    go_loopw [14] (fun i wr => ∃ (k : Nat) (y : Wy), k ≤ 20 ∧ i = .int .i64 k ∧ Lost k y ∧ At wr W.heap.size y ∧ Below w.heap.size w wr) (fun i _ => 20 - (intOf i).toNat)
    case atStart => exact ⟨0, x, by omega, rfl, ⟨hx, by omega, by omega, by omega, by omega⟩, At.new W x, hb5a.alloc hge _⟩
    case round =>
      obtain ⟨k, y, hk, rfl, hl, hat, hbl⟩ := hrel
      by_cases hlt : k < 20
      · go_wp2_with (refine wpList_load_row rfl 23 (.tmp 13) rfl W.heap.size rfl 23 _ _ _ hat Try.underlying23 rfl (by kernel_rfl) ?_)
        refine (lateT y _ hl.1).mono ?_
        rintro e v ⟨rfl, bv⟩
        have hat2 := hat.below bv hat.lt
        have hbl2 := Frame.ext hbl bv
        clear hat hbl bv
        go_wp2_with (refine wpList_store_row rfl 23 (.tmp 13) _ rfl W.heap.size (cells (lated y)) rfl rfl 23 _ hat2 (by kernel_rfl) rfl (cells_one _) ?_)
        exact ⟨⟨k + 1, lated y, by omega, by go_num, lost_step hl, hat2.row, below_setRow hbl2 hge _⟩, by simp [intOf]; omega⟩
      · obtain rfl : k = 20 := by omega
        obtain ⟨l0, l1, l2, l3, l4⟩ := hl
        obtain ⟨c0, c1, c2, c3, c4, c5, c6⟩ := hat.cells7
        rw [(l1 (by omega)).1] at c4
        rw [l4 (by omega)] at c2
        rw [(l2 (by omega)).1] at c5
        clear hat l0 l1 l2 l3 l4
        go_wp2
        go_ret
        exact ⟨rfl, hbl⟩
theorem shrinks (x : Wy) (n : Int) (full : Bool) (w : World) : Calls Try.prog 8 #[.agg (cells x), .int .i64 n, .bool full] w fun e w' => e = .returned (.bool true) ∧ Below w.heap.size w w' := by
  cases hx : okB x with
  | false => exact shrinks0 x n full w hx
  | true =>
    obtain ⟨h1, h2, h3, h4⟩ := facts (n := n) (full := full) hx
    exact shrinksB x _ _ _ _ n full w hx h4 h1 h2 h3 (fun w => lateT x w hx) (fun w => fastT x w hx) (fun w => acked x n full w)

set_option maxRecDepth 100000 in
set_option maxHeartbeats 3200000 in
theorem settles0 (x : Wy) (n : Int) (w : World) (hx : okB x = false) : Calls Try.prog 4 #[.agg (cells x), .int .u8 n] w fun e w' => e = .returned (.bool true) ∧ Below w.heap.size w w' := by
  have ha := At.new w x
  have hb := (Below.refl w.heap.size w).alloc (Nat.le_refl _) (.cells (cells x) 23)
  have hs : (w.alloc (.cells (cells x) 23)).heap.size = w.heap.size + 1 := by simp
  go_enter Try.func4, Try.ntmps4
  go_wp2_with fail
  refine (answers _).mono ?_
  rintro e w1 ⟨rfl, b1⟩
  replace b1 := below_of (a := (w.alloc (.cells (cells x) 23))) b1 hs
  have hx1 := ha.below b1 (by omega)
  have hb1 := hb.trans (b1.mono (by omega))
  have hw1 : w.heap.size + 1 ≤ w1.heap.size := by have := b1.size; omega
  clear b1 ha hb hs
  go_wp2_with (refine wpl_wanted (by rfl) ?_; refine wpList_load_row rfl 23 (.tmp 2) rfl w.heap.size rfl 23 _ _ _ hx1 Try.underlying23 rfl (by kernel_rfl) ?_)
  refine (wayOK x _).mono ?_
  rintro e w2 ⟨rfl, b2⟩
  rw [hx]
  have hx2 := hx1.below b2 (by omega)
  have hb2 := Frame.ext hb1 b2
  have hw2 : w.heap.size + 1 ≤ w2.heap.size := by have := b2.size; omega
  clear b2 hx1 hb1 hw1
  go_wp2_with fail
  refine (answers _).mono ?_
  rintro e w3 ⟨rfl, b3⟩
  have hb3 := Frame.ext hb2 b3
  clear b3
  go_wp2
  go_ret
  exact ⟨rfl, hb3⟩

set_option maxRecDepth 100000 in
set_option maxHeartbeats 3200000 in
theorem settles1 (x : Wy) (n : Int) (w : World) (hx : okB x = true) (h1 : 100000 < x.s) : Calls Try.prog 4 #[.agg (cells x), .int .u8 n] w fun e w' => e = .returned (.bool true) ∧ Below w.heap.size w w' := by
  have ha := At.new w x
  have hb := (Below.refl w.heap.size w).alloc (Nat.le_refl _) (.cells (cells x) 23)
  have hs : (w.alloc (.cells (cells x) 23)).heap.size = w.heap.size + 1 := by simp
  go_enter Try.func4, Try.ntmps4
  go_wp2_with fail
  refine (answers _).mono ?_
  rintro e w1 ⟨rfl, b1⟩
  replace b1 := below_of (a := (w.alloc (.cells (cells x) 23))) b1 hs
  have hx1 := ha.below b1 (by omega)
  have hb1 := hb.trans (b1.mono (by omega))
  have hw1 : w.heap.size + 1 ≤ w1.heap.size := by have := b1.size; omega
  clear b1 ha hb hs
  go_wp2_with (refine wpl_wanted (by rfl) ?_; refine wpList_load_row rfl 23 (.tmp 2) rfl w.heap.size rfl 23 _ _ _ hx1 Try.underlying23 rfl (by kernel_rfl) ?_)
  refine (wayOK x _).mono ?_
  rintro e w2 ⟨rfl, b2⟩
  rw [hx]
  have hx2 := hx1.below b2 (by omega)
  have hb2 := Frame.ext hb1 b2
  have hw2 : w.heap.size + 1 ≤ w2.heap.size := by have := b2.size; omega
  clear b2 hx1 hb1 hw1
  obtain ⟨c0, c1, c2, c3, c4, c5, c6⟩ := hx2.cells7
  go_wp2_with fail
  refine (answers _).mono ?_
  rintro e w3 ⟨rfl, b3⟩
  have hb3 := Frame.ext hb2 b3
  clear b3
  go_wp2
  go_ret
  exact ⟨rfl, hb3⟩

set_option maxRecDepth 100000 in
set_option maxHeartbeats 3200000 in
theorem settles2 (x : Wy) (n : Int) (w : World) (hx : okB x = true) (h1 : ¬ 100000 < x.s) (h2 : 100000 < x.v) : Calls Try.prog 4 #[.agg (cells x), .int .u8 n] w fun e w' => e = .returned (.bool true) ∧ Below w.heap.size w w' := by
  have ha := At.new w x
  have hb := (Below.refl w.heap.size w).alloc (Nat.le_refl _) (.cells (cells x) 23)
  have hs : (w.alloc (.cells (cells x) 23)).heap.size = w.heap.size + 1 := by simp
  go_enter Try.func4, Try.ntmps4
  go_wp2_with fail
  refine (answers _).mono ?_
  rintro e w1 ⟨rfl, b1⟩
  replace b1 := below_of (a := (w.alloc (.cells (cells x) 23))) b1 hs
  have hx1 := ha.below b1 (by omega)
  have hb1 := hb.trans (b1.mono (by omega))
  have hw1 : w.heap.size + 1 ≤ w1.heap.size := by have := b1.size; omega
  clear b1 ha hb hs
  go_wp2_with (refine wpl_wanted (by rfl) ?_; refine wpList_load_row rfl 23 (.tmp 2) rfl w.heap.size rfl 23 _ _ _ hx1 Try.underlying23 rfl (by kernel_rfl) ?_)
  refine (wayOK x _).mono ?_
  rintro e w2 ⟨rfl, b2⟩
  rw [hx]
  have hx2 := hx1.below b2 (by omega)
  have hb2 := Frame.ext hb1 b2
  have hw2 : w.heap.size + 1 ≤ w2.heap.size := by have := b2.size; omega
  clear b2 hx1 hb1 hw1
  obtain ⟨c0, c1, c2, c3, c4, c5, c6⟩ := hx2.cells7
  go_wp2_with fail
  refine (answers _).mono ?_
  rintro e w3 ⟨rfl, b3⟩
  have hb3 := Frame.ext hb2 b3
  clear b3
  go_wp2
  go_ret
  exact ⟨rfl, hb3⟩

set_option maxRecDepth 100000 in
set_option maxHeartbeats 3200000 in
theorem settlesB (x : Wy) (n : Int) (w : World) (hn : 0 ≤ n ∧ n ≤ 255) (hx : okB x = true) (h1 : ¬ 100000 < x.s) (h2 : ¬ 100000 < x.v) : Calls Try.prog 4 #[.agg (cells x), .int .u8 n] w fun e w' => e = .returned (.bool true) ∧ Below w.heap.size w w' := by
  have hin : inB n 0 1099511627776 = true := inB_true (by omega)
  have HIN := Lib.hid hin
  clear hin
  have ha := At.new w x
  have hb := (Below.refl w.heap.size w).alloc (Nat.le_refl _) (.cells (cells x) 23)
  have hs : (w.alloc (.cells (cells x) 23)).heap.size = w.heap.size + 1 := by simp
  go_enter Try.func4, Try.ntmps4
  go_wp2_with fail
  refine (answers _).mono ?_
  rintro e w1 ⟨rfl, b1⟩
  replace b1 := below_of (a := (w.alloc (.cells (cells x) 23))) b1 hs
  have hx1 := ha.below b1 (by omega)
  have hb1 := hb.trans (b1.mono (by omega))
  have hw1 : w.heap.size + 1 ≤ w1.heap.size := by have := b1.size; omega
  clear b1 ha hb hs
  go_wp2_with (refine wpl_wanted (by rfl) ?_; refine wpList_load_row rfl 23 (.tmp 2) rfl w.heap.size rfl 23 _ _ _ hx1 Try.underlying23 rfl (by kernel_rfl) ?_)
  refine (wayOK x _).mono ?_
  rintro e w2 ⟨rfl, b2⟩
  rw [hx]
  have hx2 := hx1.below b2 (by omega)
  have hb2 := Frame.ext hb1 b2
  have hw2 : w.heap.size + 1 ≤ w2.heap.size := by have := b2.size; omega
  clear b2 hx1 hb1 hw1
  obtain ⟨c0, c1, c2, c3, c4, c5, c6⟩ := hx2.cells7
  go_wp2_with fail
  go_loopw [6] (fun i wr => ∃ (k : Nat) (y : Wy), k ≤ 400 ∧ i = .int .i64 k ∧ okB y = true ∧ Near n (bnd k).1 (bnd k).2 y ∧ (1 ≤ k → y.e = 0) ∧ At wr w.heap.size y ∧ Below w.heap.size w wr) (fun i _ => 400 - (intOf i).toNat)
  case atStart =>
    have hxx := (okB_iff x).1 hx
    exact ⟨0, x, by omega, rfl, hx, ⟨by show x.s - n ≤ 100000; omega, by show n - x.s ≤ 100000; omega, by show x.v ≤ 100000; omega⟩, by omega, hx2, hb2⟩
  case round =>
    clear hx2 hb2 c0 c1 c2 c3 c4 c5 c6 hw2
    obtain ⟨k, y, hk, rfl, ho, hnr, he, hat, hbl⟩ := hrel
    by_cases hlt : k < 400
    · go_wp2_with (refine wpList_load_row rfl 23 (.tmp 2) rfl w.heap.size rfl 23 _ _ _ hat Try.underlying23 rfl (by kernel_rfl) ?_)
      refine (measureT y n _ ho HIN.out).mono ?_
      rintro e v ⟨rfl, bv⟩
      have hat2 := hat.below bv hat.lt
      have hbl2 := Frame.ext hbl bv
      clear hat hbl bv
      have hnr2 := Lib.hid (near_step (n := n) ho hn.1 hnr)
      have ho2 := Lib.hid (measured_ok (n := n) ho ⟨hn.1, by omega⟩)
      clear ho hnr he
      go_wp2_with (refine wpList_store_row rfl 23 (.tmp 2) _ rfl w.heap.size (cells (measured y n)) rfl rfl 23 _ hat2 (by kernel_rfl) rfl (cells_one _) ?_)
      exact ⟨⟨k + 1, measured y n, by omega, by go_num, ho2.out, hnr2.out, fun _ => measured_e y n, hat2.row, below_setRow hbl2 (Nat.le_refl _) _⟩, by simp [intOf]; omega⟩
    · obtain rfl : k = 400 := by omega
      obtain ⟨n1, n2, n3⟩ := hnr
      have hB := bnd400
      have hyy := (okB_iff y).1 ho
      obtain ⟨c0, c1, c2, c3, c4, c5, c6⟩ := hat.cells7
      rw [he (by omega)] at c3
      have m1 : y.s - n ≤ 8 := by omega
      have m2 : -(y.s - n) ≤ 8 := by omega
      have m3 : y.v ≤ 24 := by omega
      clear hB n1 n2 n3 he ho hat
      by_cases hneg : y.s - n < 0
      all_goals
        go_wp2
        go_ret
        exact ⟨by first | rfl | go_num, hbl⟩
theorem settles (x : Wy) (n : Int) (w : World) (hn : 0 ≤ n ∧ n ≤ 255) : Calls Try.prog 4 #[.agg (cells x), .int .u8 n] w fun e w' => e = .returned (.bool true) ∧ Below w.heap.size w w' := by
  cases hx : okB x with
  | false => exact settles0 x n w hx
  | true =>
    by_cases h1 : 100000 < x.s
    · exact settles1 x n w hx h1
    · by_cases h2 : 100000 < x.v
      · exact settles2 x n w hx h1 h2
      · exact settlesB x n w hn hx h1 h2
end Go.Proofs.Ytljalbcmhcagaaa.Way
