/-
  Contracts: the reference's Measure and Acked, both Rooms, New, answers.
-/
import Derived.Test.YtljalbcmhcagaaaPlain
import Derived.Lib.Hide
import Derived.Test.YtljalbcmhcagaaaWay3
import Derived.Test.YtljalbcmhcagaaaWay7
namespace Go.Proofs.Ytljalbcmhcagaaa.Way
open Go.RowKit Mem
set_option linter.unusedVariables false
set_option linter.unusedSimpArgs false

theorem At.otherD {u : World} {g k : Nat} {j : Nat} {v : Value} {x : Wy} (h : At u g x) (hn : g ≠ k) : At (u.setCell ⟨k, j, none⟩ v) g x := by
  unfold At
  rw [Below.heap_setCell _ _ _ _ hn]; exact h
set_option maxRecDepth 100000 in
set_option maxHeartbeats 3200000 in
theorem measureRbad (x : Wy) (n : Int) (w : World) (hx : okB x = false) : Calls Try.prog 10 #[.agg (cells x), .int .i64 n] w fun e w' => e = .returned (.tuple #[.agg (cells none7), .int .i64 2]) ∧ Below w.heap.size w w' := by
  have hb : Below w.heap.size w ((w.alloc (.cells (cells x) 23)).alloc (.cells (cells none7) 23)) := ((Below.refl _ _).alloc (Nat.le_refl _) _).alloc (by simp) _
  have ha := (At.new w x).alloc (.cells (cells none7) 23)
  have hno := At.new (w.alloc (.cells (cells x) 23)) none7
  rw [show (w.alloc (.cells (cells x) 23)).heap.size = w.heap.size + 1 from by simp] at hno
  have hs : ((w.alloc (.cells (cells x) 23)).alloc (.cells (cells none7) 23)).heap.size = w.heap.size + 2 := by simp
  go_enter Try.func10, Try.ntmps10
  go_wp2_with fail
  refine (wayOK x _).mono ?_
  rintro e w1 ⟨rfl, b1⟩
  rw [show okB x = false from by simpa using hx]
  replace b1 : Below ((w.alloc (.cells (cells x) 23)).alloc (.cells (cells none7) 23)).heap.size ((w.alloc (.cells (cells x) 23)).alloc (.cells (cells none7) 23)) w1 := b1
  rw [hs] at b1
  have h1 := ha.below b1 (by omega)
  have h2 := hno.below b1 (by omega)
  have hw : w.heap.size + 2 ≤ w1.heap.size := by have := b1.size; omega
  have hb1 := hb.trans (b1.mono (by omega))
  clear hb ha hno b1
  go_wp2_with (refine wpList_store_row rfl 23 _ _ rfl (w.heap.size + 1) (cells (none7)) rfl rfl 23 _ h2 (by kernel_rfl) rfl (cells_one _) ?_)
  exact end_way (p := 4) (u := 5) (c := .int .i64 2) (by kernel_rfl) rfl h2.row rfl rfl ⟨rfl, below_setRow hb1 (by omega) _⟩

set_option maxRecDepth 100000 in
set_option maxHeartbeats 3200000 in
theorem measureRarg0 (x : Wy) (n : Int) (w : World) (hx : okB x = true) (hn : n < 0) : Calls Try.prog 10 #[.agg (cells x), .int .i64 n] w fun e w' => e = .returned (.tuple #[.agg (cells none7), .int .i64 1]) ∧ Below w.heap.size w w' := by
  have hb : Below w.heap.size w ((w.alloc (.cells (cells x) 23)).alloc (.cells (cells none7) 23)) := ((Below.refl _ _).alloc (Nat.le_refl _) _).alloc (by simp) _
  have ha := (At.new w x).alloc (.cells (cells none7) 23)
  have hno := At.new (w.alloc (.cells (cells x) 23)) none7
  rw [show (w.alloc (.cells (cells x) 23)).heap.size = w.heap.size + 1 from by simp] at hno
  have hs : ((w.alloc (.cells (cells x) 23)).alloc (.cells (cells none7) 23)).heap.size = w.heap.size + 2 := by simp
  go_enter Try.func10, Try.ntmps10
  go_wp2_with fail
  refine (wayOK x _).mono ?_
  rintro e w1 ⟨rfl, b1⟩
  rw [show okB x = true from by simpa using hx]
  replace b1 : Below ((w.alloc (.cells (cells x) 23)).alloc (.cells (cells none7) 23)).heap.size ((w.alloc (.cells (cells x) 23)).alloc (.cells (cells none7) 23)) w1 := b1
  rw [hs] at b1
  have h1 := ha.below b1 (by omega)
  have h2 := hno.below b1 (by omega)
  have hw : w.heap.size + 2 ≤ w1.heap.size := by have := b1.size; omega
  have hb1 := hb.trans (b1.mono (by omega))
  clear hb ha hno b1
  go_wp2_with (refine wpList_store_row rfl 23 _ _ rfl (w.heap.size + 1) (cells (none7)) rfl rfl 23 _ h2 (by kernel_rfl) rfl (cells_one _) ?_)
  exact end_way (p := 4) (u := 5) (c := .int .i64 1) (by kernel_rfl) rfl h2.row rfl rfl ⟨rfl, below_setRow hb1 (by omega) _⟩

set_option maxRecDepth 100000 in
set_option maxHeartbeats 3200000 in
theorem measureRarg1 (x : Wy) (n : Int) (w : World) (hx : okB x = true) (hn : 1099511627776 < n) (hd : decide (n < 0) = false) : Calls Try.prog 10 #[.agg (cells x), .int .i64 n] w fun e w' => e = .returned (.tuple #[.agg (cells none7), .int .i64 1]) ∧ Below w.heap.size w w' := by
  have hb : Below w.heap.size w ((w.alloc (.cells (cells x) 23)).alloc (.cells (cells none7) 23)) := ((Below.refl _ _).alloc (Nat.le_refl _) _).alloc (by simp) _
  have ha := (At.new w x).alloc (.cells (cells none7) 23)
  have hno := At.new (w.alloc (.cells (cells x) 23)) none7
  rw [show (w.alloc (.cells (cells x) 23)).heap.size = w.heap.size + 1 from by simp] at hno
  have hs : ((w.alloc (.cells (cells x) 23)).alloc (.cells (cells none7) 23)).heap.size = w.heap.size + 2 := by simp
  go_enter Try.func10, Try.ntmps10
  go_wp2_with fail
  refine (wayOK x _).mono ?_
  rintro e w1 ⟨rfl, b1⟩
  rw [show okB x = true from by simpa using hx]
  replace b1 : Below ((w.alloc (.cells (cells x) 23)).alloc (.cells (cells none7) 23)).heap.size ((w.alloc (.cells (cells x) 23)).alloc (.cells (cells none7) 23)) w1 := b1
  rw [hs] at b1
  have h1 := ha.below b1 (by omega)
  have h2 := hno.below b1 (by omega)
  have hw : w.heap.size + 2 ≤ w1.heap.size := by have := b1.size; omega
  have hb1 := hb.trans (b1.mono (by omega))
  clear hb ha hno b1
  go_wp2_with (refine wpList_store_row rfl 23 _ _ rfl (w.heap.size + 1) (cells (none7)) rfl rfl 23 _ h2 (by kernel_rfl) rfl (cells_one _) ?_)
  exact end_way (p := 4) (u := 5) (c := .int .i64 1) (by kernel_rfl) rfl h2.row rfl rfl ⟨rfl, below_setRow hb1 (by omega) _⟩

set_option maxRecDepth 100000 in
set_option maxHeartbeats 3200000 in
theorem ackedRarg0 (x : Wy) (n : Int) (full : Bool) (w : World) (hx : okB x = true) (hn : n < 0) : Calls Try.prog 19 #[.agg (cells x), .int .i64 n, .bool full] w fun e w' => e = .returned (.tuple #[.agg (cells none7), .int .i64 1]) ∧ Below w.heap.size w w' := by
  have hb : Below w.heap.size w ((w.alloc (.cells (cells x) 23)).alloc (.cells (cells none7) 23)) := ((Below.refl _ _).alloc (Nat.le_refl _) _).alloc (by simp) _
  have ha := (At.new w x).alloc (.cells (cells none7) 23)
  have hno := At.new (w.alloc (.cells (cells x) 23)) none7
  rw [show (w.alloc (.cells (cells x) 23)).heap.size = w.heap.size + 1 from by simp] at hno
  have hs : ((w.alloc (.cells (cells x) 23)).alloc (.cells (cells none7) 23)).heap.size = w.heap.size + 2 := by simp
  go_enter Try.func19, Try.ntmps19
  go_wp2_with fail
  refine (wayOK x _).mono ?_
  rintro e w1 ⟨rfl, b1⟩
  rw [show okB x = true from by simpa using hx]
  replace b1 : Below ((w.alloc (.cells (cells x) 23)).alloc (.cells (cells none7) 23)).heap.size ((w.alloc (.cells (cells x) 23)).alloc (.cells (cells none7) 23)) w1 := b1
  rw [hs] at b1
  have h1 := ha.below b1 (by omega)
  have h2 := hno.below b1 (by omega)
  have hw : w.heap.size + 2 ≤ w1.heap.size := by have := b1.size; omega
  have hb1 := hb.trans (b1.mono (by omega))
  clear hb ha hno b1
  go_wp2_with (refine wpList_store_row rfl 23 _ _ rfl (w.heap.size + 1) (cells (none7)) rfl rfl 23 _ h2 (by kernel_rfl) rfl (cells_one _) ?_)
  exact end_way (p := 6) (u := 7) (c := .int .i64 1) (by kernel_rfl) rfl h2.row rfl rfl ⟨rfl, below_setRow hb1 (by omega) _⟩

set_option maxRecDepth 100000 in
set_option maxHeartbeats 3200000 in
theorem ackedRarg1 (x : Wy) (n : Int) (full : Bool) (w : World) (hx : okB x = true) (hn : 65536 < n) (hd : decide (n < 0) = false) : Calls Try.prog 19 #[.agg (cells x), .int .i64 n, .bool full] w fun e w' => e = .returned (.tuple #[.agg (cells none7), .int .i64 1]) ∧ Below w.heap.size w w' := by
  have hb : Below w.heap.size w ((w.alloc (.cells (cells x) 23)).alloc (.cells (cells none7) 23)) := ((Below.refl _ _).alloc (Nat.le_refl _) _).alloc (by simp) _
  have ha := (At.new w x).alloc (.cells (cells none7) 23)
  have hno := At.new (w.alloc (.cells (cells x) 23)) none7
  rw [show (w.alloc (.cells (cells x) 23)).heap.size = w.heap.size + 1 from by simp] at hno
  have hs : ((w.alloc (.cells (cells x) 23)).alloc (.cells (cells none7) 23)).heap.size = w.heap.size + 2 := by simp
  go_enter Try.func19, Try.ntmps19
  go_wp2_with fail
  refine (wayOK x _).mono ?_
  rintro e w1 ⟨rfl, b1⟩
  rw [show okB x = true from by simpa using hx]
  replace b1 : Below ((w.alloc (.cells (cells x) 23)).alloc (.cells (cells none7) 23)).heap.size ((w.alloc (.cells (cells x) 23)).alloc (.cells (cells none7) 23)) w1 := b1
  rw [hs] at b1
  have h1 := ha.below b1 (by omega)
  have h2 := hno.below b1 (by omega)
  have hw : w.heap.size + 2 ≤ w1.heap.size := by have := b1.size; omega
  have hb1 := hb.trans (b1.mono (by omega))
  clear hb ha hno b1
  go_wp2_with (refine wpList_store_row rfl 23 _ _ rfl (w.heap.size + 1) (cells (none7)) rfl rfl 23 _ h2 (by kernel_rfl) rfl (cells_one _) ?_)
  exact end_way (p := 6) (u := 7) (c := .int .i64 1) (by kernel_rfl) rfl h2.row rfl rfl ⟨rfl, below_setRow hb1 (by omega) _⟩

set_option maxRecDepth 100000 in
set_option maxHeartbeats 3200000 in
theorem ackedRbad (x : Wy) (n : Int) (full : Bool) (w : World) (hx : okB x = false) : Calls Try.prog 19 #[.agg (cells x), .int .i64 n, .bool full] w fun e w' => e = .returned (.tuple #[.agg (cells none7), .int .i64 2]) ∧ Below w.heap.size w w' := by
  have hb : Below w.heap.size w ((w.alloc (.cells (cells x) 23)).alloc (.cells (cells none7) 23)) := ((Below.refl _ _).alloc (Nat.le_refl _) _).alloc (by simp) _
  have ha := (At.new w x).alloc (.cells (cells none7) 23)
  have hno := At.new (w.alloc (.cells (cells x) 23)) none7
  rw [show (w.alloc (.cells (cells x) 23)).heap.size = w.heap.size + 1 from by simp] at hno
  have hs : ((w.alloc (.cells (cells x) 23)).alloc (.cells (cells none7) 23)).heap.size = w.heap.size + 2 := by simp
  go_enter Try.func19, Try.ntmps19
  go_wp2_with fail
  refine (wayOK x _).mono ?_
  rintro e w1 ⟨rfl, b1⟩
  rw [show okB x = false from by simpa using hx]
  replace b1 : Below ((w.alloc (.cells (cells x) 23)).alloc (.cells (cells none7) 23)).heap.size ((w.alloc (.cells (cells x) 23)).alloc (.cells (cells none7) 23)) w1 := b1
  rw [hs] at b1
  have h1 := ha.below b1 (by omega)
  have h2 := hno.below b1 (by omega)
  have hw : w.heap.size + 2 ≤ w1.heap.size := by have := b1.size; omega
  have hb1 := hb.trans (b1.mono (by omega))
  clear hb ha hno b1
  go_wp2_with (refine wpList_store_row rfl 23 _ _ rfl (w.heap.size + 1) (cells (none7)) rfl rfl 23 _ h2 (by kernel_rfl) rfl (cells_one _) ?_)
  exact end_way (p := 6) (u := 7) (c := .int .i64 2) (by kernel_rfl) rfl h2.row rfl rfl ⟨rfl, below_setRow hb1 (by omega) _⟩

set_option maxRecDepth 100000 in
set_option maxHeartbeats 3200000 in
theorem measureRa (x : Wy) (n : Int) (w : World) (hx : okB x = true) (hn : 0 ≤ n ∧ n ≤ 1099511627776) (hs0 : x.s = 0) (hv0 : x.v = 0) : Calls Try.prog 10 #[.agg (cells x), .int .i64 n] w fun e w' => e = .returned (.tuple #[.agg (cells (timed x n (n / 2))), .int .i64 0]) ∧ Below w.heap.size w w' := by
  have HS0 := Lib.hid hs0
  have HV0 := Lib.hid hv0
  clear hs0 hv0
  have hb : Below w.heap.size w ((w.alloc (.cells (cells x) 23)).alloc (.cells (cells none7) 23)) := ((Below.refl _ _).alloc (Nat.le_refl _) _).alloc (by simp) _
  have ha := (At.new w x).alloc (.cells (cells none7) 23)
  have hno := At.new (w.alloc (.cells (cells x) 23)) none7
  rw [show (w.alloc (.cells (cells x) 23)).heap.size = w.heap.size + 1 from by simp] at hno
  have hs : ((w.alloc (.cells (cells x) 23)).alloc (.cells (cells none7) 23)).heap.size = w.heap.size + 2 := by simp
  go_enter Try.func10, Try.ntmps10
  go_wp2_with fail
  refine (wayOK x _).mono ?_
  rintro e w1 ⟨rfl, b1⟩
  rw [show okB x = true from by simpa using hx]
  replace b1 : Below ((w.alloc (.cells (cells x) 23)).alloc (.cells (cells none7) 23)).heap.size ((w.alloc (.cells (cells x) 23)).alloc (.cells (cells none7) 23)) w1 := b1
  rw [hs] at b1
  have h1 := ha.below b1 (by omega)
  have h2 := hno.below b1 (by omega)
  have hw : w.heap.size + 2 ≤ w1.heap.size := by have := b1.size; omega
  have hb1 := hb.trans (b1.mono (by omega))
  clear hb ha hno b1
  obtain ⟨c0, c1, c2, c3, c4, c5, c6⟩ := h1.cells7
  obtain ⟨z0, z1, z2, z3, z4, z5, z6⟩ := h1.free7
  try dsimp only at c0 c1 c2 c3 c4 c5 c6
  rw [HS0.out] at c0
  rw [HV0.out] at c1
  go_wp2_with fail
  refine (clip _ _ _ _).mono ?_
  rintro e u1 ⟨rfl, hu1⟩
  generalize hRu1 : clp _ _ _ = Ru1
  have HRu1 : Hid _ := hRu1
  clear hRu1
  have hA1 : At u1 w.heap.size { x with s := n, v := n / 2 } := by rw [hu1]; exact (h1.set0).set1
  have hB1 : At u1 (w.heap.size + 1) none7 := by rw [hu1]; exact (h2.otherD (by omega)).otherD (by omega)
  have hC1 : Below w.heap.size w u1 := by rw [hu1]; exact (hb1.setCell (Nat.le_refl _) _).setCell (Nat.le_refl _) _
  clear hu1 h1 h2 hb1 c0 c1 c2 c3 c4 c5 c6 z0 z1 z2 z3 z4 z5 z6
  obtain ⟨c0, c1, c2, c3, c4, c5, c6⟩ := hA1.cells7
  obtain ⟨z0, z1, z2, z3, z4, z5, z6⟩ := hA1.free7
  try dsimp only at c0 c1 c2 c3 c4 c5 c6
  have hB3 : At ((u1.setCell ⟨w.heap.size, 2, none⟩ (.int .i64 Ru1)).setCell ⟨w.heap.size, 3, none⟩ (.int .i64 0)) (w.heap.size + 1) none7 := (hB1.otherD (by omega)).otherD (by omega)
  have hC3 : Below w.heap.size w ((u1.setCell ⟨w.heap.size, 2, none⟩ (.int .i64 Ru1)).setCell ⟨w.heap.size, 3, none⟩ (.int .i64 0)) := (hC1.setCell (Nat.le_refl _) _).setCell (Nat.le_refl _) _
  go_wp2_with (refine wpList_store_row rfl 23 _ _ rfl (w.heap.size + 1) (cells (⟨n, n / 2, Ru1, 0, x.c, x.h, x.a⟩ : Wy)) rfl rfl 23 _ hB3 (by kernel_rfl) rfl (cells_one _) ?_)
  refine end_way (p := 4) (u := 5) (y := ⟨n, n / 2, Ru1, 0, x.c, x.h, x.a⟩) (c := .int .i64 0) (by kernel_rfl) rfl (At.row hB3) rfl rfl ⟨?_, below_setRow hC3 (by omega) _⟩
  refine congrArg (fun y => Ending.returned (.tuple #[.agg (cells y), .int .i64 0])) ?_
  have := HRu1.out
  rw [← this]
  unfold timed
  congr 1 <;> (try simp only [clp, Int.max_def, Int.min_def]) <;> (repeat' split) <;> omega

set_option maxRecDepth 100000 in
set_option maxHeartbeats 3200000 in
theorem measureRb (x : Wy) (n : Int) (w : World) (hx : okB x = true) (hn : 0 ≤ n ∧ n ≤ 1099511627776) (h0 : ¬ (x.s = 0 ∧ x.v = 0)) : Calls Try.prog 10 #[.agg (cells x), .int .i64 n] w fun e w' => e = .returned (.tuple #[.agg (cells (timed x ((7 * x.s + n) / 8) ((3 * x.v + max (x.s - n) (n - x.s)) / 4))), .int .i64 0]) ∧ Below w.heap.size w w' := by
  have hxx := (okB_iff x).1 hx
  obtain ⟨V, hV⟩ : ∃ V, (3 * x.v + max (x.s - n) (n - x.s)) / 4 = V := ⟨_, rfl⟩
  obtain ⟨S, hS⟩ : ∃ S, (7 * x.s + n) / 8 = S := ⟨_, rfl⟩
  rw [hV, hS]
  have hv2 : 0 ≤ V ∧ V ≤ 1099511627776 := by rw [← hV]; simp only [Int.max_def]; split <;> omega
  have hs2 : 0 ≤ S ∧ S ≤ 1099511627776 := by omega
  have HV : Hid ((3 * x.v + max (x.s - n) (n - x.s)) / 4 = V) := hV
  have HS : Hid ((7 * x.s + n) / 8 = S) := hS
  clear hV hS
  have hcs : (x.s - n < 0 ∧ (x.s == 0) = false ∧ ((0 : Int) ≤ 0)) ∨ (x.s - n < 0 ∧ (x.s == 0) = true ∧ (x.v == 0) = false ∧ ((0 : Int) ≤ 0)) ∨ (¬ x.s - n < 0 ∧ (x.s == 0) = false ∧ ((0 : Int) ≤ 0)) ∨ (¬ x.s - n < 0 ∧ (x.s == 0) = true ∧ (x.v == 0) = false ∧ ((0 : Int) ≤ 0)) := by
    by_cases e1 : x.s = 0 <;> by_cases e2 : x.v = 0 <;> by_cases e3 : x.s - n < 0 <;> simp_all
  clear h0
  rcases hcs with ⟨hm, hq, hq'⟩ | ⟨hm, hq, hr, hq'⟩ | ⟨hm, hq, hq'⟩ | ⟨hm, hq, hr, hq'⟩
  all_goals
    have HQ := Lib.hid hq'
    clear hq'
    have hb : Below w.heap.size w ((w.alloc (.cells (cells x) 23)).alloc (.cells (cells none7) 23)) := ((Below.refl _ _).alloc (Nat.le_refl _) _).alloc (by simp) _
    have ha := (At.new w x).alloc (.cells (cells none7) 23)
    have hno := At.new (w.alloc (.cells (cells x) 23)) none7
    rw [show (w.alloc (.cells (cells x) 23)).heap.size = w.heap.size + 1 from by simp] at hno
    have hs : ((w.alloc (.cells (cells x) 23)).alloc (.cells (cells none7) 23)).heap.size = w.heap.size + 2 := by simp
    go_enter Try.func10, Try.ntmps10
    go_wp2_with fail
    refine (wayOK x _).mono ?_
    rintro e w1 ⟨rfl, b1⟩
    rw [show okB x = true from by simpa using hx]
    replace b1 : Below ((w.alloc (.cells (cells x) 23)).alloc (.cells (cells none7) 23)).heap.size ((w.alloc (.cells (cells x) 23)).alloc (.cells (cells none7) 23)) w1 := b1
    rw [hs] at b1
    have h1 := ha.below b1 (by omega)
    have h2 := hno.below b1 (by omega)
    have hw : w.heap.size + 2 ≤ w1.heap.size := by have := b1.size; omega
    have hb1 := hb.trans (b1.mono (by omega))
    clear hb ha hno b1
    obtain ⟨c0, c1, c2, c3, c4, c5, c6⟩ := h1.cells7
    obtain ⟨z0, z1, z2, z3, z4, z5, z6⟩ := h1.free7
    try dsimp only at c0 c1 c2 c3 c4 c5 c6
    go_wp2_with fail
    refine (clip _ _ _ _).mono ?_
    rintro e u1 ⟨rfl, hu1⟩
    generalize hRu1 : clp _ _ _ = Ru1
    have HRu1 : Hid _ := hRu1
    clear hRu1
    obtain ⟨v', s', hA1, hv', hs'⟩ : ∃ v' s', At u1 w.heap.size { x with v := v', s := s' } ∧ v' = V ∧ s' = S := ⟨_, _, by rw [hu1]; exact (h1.set1).set0, by rw [← HV.out]; simp only [Int.max_def]; split <;> omega, by have := HS.out; omega⟩
    have hR1 : Ru1 = clp (S + 4 * V) 4 64 := by rw [← HRu1.out]; congr 1; have := HV.out; have := HS.out; simp only [Int.max_def] at *; split at * <;> omega
    have HR1 : Hid (clp (S + 4 * V) 4 64 = Ru1) := hR1.symm
    clear HRu1 hR1
    have HRu1 := HR1
    have hB1 : At u1 (w.heap.size + 1) none7 := by rw [hu1]; exact (h2.otherD (by omega)).otherD (by omega)
    have hC1 : Below w.heap.size w u1 := by rw [hu1]; exact (hb1.setCell (Nat.le_refl _) _).setCell (Nat.le_refl _) _
    subst hv' hs'
    clear hu1 h1 h2 hb1 HV HS HR1 hm hq HQ c0 c1 c2 c3 c4 c5 c6 z0 z1 z2 z3 z4 z5 z6
    obtain ⟨c0, c1, c2, c3, c4, c5, c6⟩ := hA1.cells7
    obtain ⟨z0, z1, z2, z3, z4, z5, z6⟩ := hA1.free7
    try dsimp only at c0 c1 c2 c3 c4 c5 c6
    have hB3 : At ((u1.setCell ⟨w.heap.size, 2, none⟩ (.int .i64 Ru1)).setCell ⟨w.heap.size, 3, none⟩ (.int .i64 0)) (w.heap.size + 1) none7 := (hB1.otherD (by omega)).otherD (by omega)
    have hC3 : Below w.heap.size w ((u1.setCell ⟨w.heap.size, 2, none⟩ (.int .i64 Ru1)).setCell ⟨w.heap.size, 3, none⟩ (.int .i64 0)) := (hC1.setCell (Nat.le_refl _) _).setCell (Nat.le_refl _) _
    go_wp2_with (refine wpList_store_row rfl 23 _ _ rfl (w.heap.size + 1) (cells (⟨s', v', Ru1, 0, x.c, x.h, x.a⟩ : Wy)) rfl rfl 23 _ hB3 (by kernel_rfl) rfl (cells_one _) ?_)
    refine end_way (p := 4) (u := 5) (y := ⟨s', v', Ru1, 0, x.c, x.h, x.a⟩) (c := .int .i64 0) (by kernel_rfl) rfl (At.row hB3) rfl rfl ⟨?_, below_setRow hC3 (by omega) _⟩
    refine congrArg (fun y => Ending.returned (.tuple #[.agg (cells y), .int .i64 0])) ?_
    have := HRu1.out
    rw [← this]
    unfold timed
    congr 1 <;> (try simp only [clp, Int.max_def, Int.min_def]) <;> (repeat' split) <;> omega

end Go.Proofs.Ytljalbcmhcagaaa.Way
