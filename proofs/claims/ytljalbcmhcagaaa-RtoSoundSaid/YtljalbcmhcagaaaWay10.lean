/-
  Contracts: the reference's Acked, both Rooms, New, answers.
-/
import Derived.Test.YtljalbcmhcagaaaWay8
import Derived.Test.YtljalbcmhcagaaaWay9
import Derived.Deep.RegionWith
namespace Go.Proofs.Ytljalbcmhcagaaa.Way
open Go.RowKit Mem
set_option linter.unusedVariables false
set_option linter.unusedSimpArgs false

set_option maxRecDepth 100000 in
set_option maxHeartbeats 3200000 in
theorem ackedRn0 (x : Wy) (full : Bool) (w : World) (hx : okB x = true) : Calls Try.prog 19 #[.agg (cells x), .int .i64 0, .bool full] w fun e w' => e = .returned (.tuple #[.agg (cells x), .int .i64 0]) ∧ Below w.heap.size w w' := by
  have hb : Below w.heap.size w ((w.alloc (.cells (cells x) 23)).alloc (.cells (cells none7) 23)) := ((Below.refl _ _).alloc (Nat.le_refl _) _).alloc (by simp) _
  have ha := (At.new w x).alloc (.cells (cells none7) 23)
  have hno := At.new (w.alloc (.cells (cells x) 23)) none7
  rw [show (w.alloc (.cells (cells x) 23)).heap.size = w.heap.size + 1 from by simp] at hno
  have hs : ((w.alloc (.cells (cells x) 23)).alloc (.cells (cells none7) 23)).heap.size = w.heap.size + 2 := by simp
  go_enter Try.func19, Try.ntmps19
  go_wp2_with fail
  refine (wayOK x _).mono ?_
  rintro e w1 ⟨rfl, b1⟩
  rw [show okB x = true from by simpa using hx]
  replace b1 : Below ((w.alloc (.cells (cells x) 23)).alloc (.cells (cells none7) 23)).heap.size ((w.alloc (.cells (cells x) 23)).alloc (.cells (cells none7) 23)) w1 := b1
  rw [hs] at b1
  have h1 := ha.below b1 (by omega)
  have h2 := hno.below b1 (by omega)
  have hw : w.heap.size + 2 ≤ w1.heap.size := by have := b1.size; omega
  have hb1 := hb.trans (b1.mono (by omega))
  clear hb ha hno b1
  obtain ⟨c0, c1, c2, c3, c4, c5, c6⟩ := h1.cells7
  obtain ⟨z0, z1, z2, z3, z4, z5, z6⟩ := h1.free7
  try dsimp only at c0 c1 c2 c3 c4 c5 c6
  go_wp2_with (refine wpList_store_row rfl 23 _ _ rfl (w.heap.size + 1) (cells (x)) rfl rfl 23 _ h2 (by kernel_rfl) rfl (cells_one _) ?_)
  exact end_way (p := 6) (u := 7) (c := .int .i64 0) (by kernel_rfl) rfl h2.row rfl rfl ⟨rfl, below_setRow hb1 (by omega) _⟩

set_option maxRecDepth 100000 in
set_option maxHeartbeats 3200000 in
theorem ackedRn1 (x : Wy) (n : Int) (w : World) (hx : okB x = true) (hn : 0 ≤ n ∧ n ≤ 65536) (hz : (n == 0) = false) : Calls Try.prog 19 #[.agg (cells x), .int .i64 n, .bool false] w fun e w' => e = .returned (.tuple #[.agg (cells x), .int .i64 0]) ∧ Below w.heap.size w w' := by
  have hb : Below w.heap.size w ((w.alloc (.cells (cells x) 23)).alloc (.cells (cells none7) 23)) := ((Below.refl _ _).alloc (Nat.le_refl _) _).alloc (by simp) _
  have ha := (At.new w x).alloc (.cells (cells none7) 23)
  have hno := At.new (w.alloc (.cells (cells x) 23)) none7
  rw [show (w.alloc (.cells (cells x) 23)).heap.size = w.heap.size + 1 from by simp] at hno
  have hs : ((w.alloc (.cells (cells x) 23)).alloc (.cells (cells none7) 23)).heap.size = w.heap.size + 2 := by simp
  go_enter Try.func19, Try.ntmps19
  go_wp2_with fail
  refine (wayOK x _).mono ?_
  rintro e w1 ⟨rfl, b1⟩
  rw [show okB x = true from by simpa using hx]
  replace b1 : Below ((w.alloc (.cells (cells x) 23)).alloc (.cells (cells none7) 23)).heap.size ((w.alloc (.cells (cells x) 23)).alloc (.cells (cells none7) 23)) w1 := b1
  rw [hs] at b1
  have h1 := ha.below b1 (by omega)
  have h2 := hno.below b1 (by omega)
  have hw : w.heap.size + 2 ≤ w1.heap.size := by have := b1.size; omega
  have hb1 := hb.trans (b1.mono (by omega))
  clear hb ha hno b1
  obtain ⟨c0, c1, c2, c3, c4, c5, c6⟩ := h1.cells7
  obtain ⟨z0, z1, z2, z3, z4, z5, z6⟩ := h1.free7
  try dsimp only at c0 c1 c2 c3 c4 c5 c6
  go_wp2_with (refine wpList_store_row rfl 23 _ _ rfl (w.heap.size + 1) (cells (x)) rfl rfl 23 _ h2 (by kernel_rfl) rfl (cells_one _) ?_)
  exact end_way (p := 6) (u := 7) (c := .int .i64 0) (by kernel_rfl) rfl h2.row rfl rfl ⟨rfl, below_setRow hb1 (by omega) _⟩

set_option maxRecDepth 100000 in
set_option maxHeartbeats 3200000 in
theorem ackedRc (x : Wy) (n : Int) (w : World) (hx : okB x = true) (hn : 0 ≤ n ∧ n ≤ 65536) (hz : (n == 0) = false) (hc : x.c ≤ x.h) : Calls Try.prog 19 #[.agg (cells x), .int .i64 n, .bool true] w fun e w' => e = .returned (.tuple #[.agg (cells ({ x with c := min (x.c + min n 512) 65536 })), .int .i64 0]) ∧ Below w.heap.size w w' := by
  have hxx := (okB_iff x).1 hx
  have hcl : 0 ≤ clp n 0 512 ∧ clp n 0 512 ≤ 512 := by unfold clp; (repeat' split) <;> omega
  have hb : Below w.heap.size w ((w.alloc (.cells (cells x) 23)).alloc (.cells (cells none7) 23)) := ((Below.refl _ _).alloc (Nat.le_refl _) _).alloc (by simp) _
  have ha := (At.new w x).alloc (.cells (cells none7) 23)
  have hno := At.new (w.alloc (.cells (cells x) 23)) none7
  rw [show (w.alloc (.cells (cells x) 23)).heap.size = w.heap.size + 1 from by simp] at hno
  have hs : ((w.alloc (.cells (cells x) 23)).alloc (.cells (cells none7) 23)).heap.size = w.heap.size + 2 := by simp
  go_enter Try.func19, Try.ntmps19
  go_wp2_with fail
  refine (wayOK x _).mono ?_
  rintro e w1 ⟨rfl, b1⟩
  rw [show okB x = true from by simpa using hx]
  replace b1 : Below ((w.alloc (.cells (cells x) 23)).alloc (.cells (cells none7) 23)).heap.size ((w.alloc (.cells (cells x) 23)).alloc (.cells (cells none7) 23)) w1 := b1
  rw [hs] at b1
  have h1 := ha.below b1 (by omega)
  have h2 := hno.below b1 (by omega)
  have hw : w.heap.size + 2 ≤ w1.heap.size := by have := b1.size; omega
  have hb1 := hb.trans (b1.mono (by omega))
  clear hb ha hno b1
  obtain ⟨c0, c1, c2, c3, c4, c5, c6⟩ := h1.cells7
  obtain ⟨z0, z1, z2, z3, z4, z5, z6⟩ := h1.free7
  try dsimp only at c0 c1 c2 c3 c4 c5 c6
  go_wp2_with fail
  go_region_with (go_at_call 27; refine (clip _ _ _ _).mono ?_; rintro e w9 ⟨rfl, rfl⟩)
  all_goals
    go_wp2_with fail
    refine (clip _ _ _ _).mono ?_
    rintro e u1 ⟨rfl, hu1⟩
    generalize hR : clp (x.c + clp n 0 512) 0 65536 = R
    have HR := Lib.hid hR
    clear hR
    have hA1 : At u1 w.heap.size { x with c := x.c + clp n 0 512 } := by rw [hu1]; exact h1.set4
    have hB1 : At u1 (w.heap.size + 1) none7 := by rw [hu1]; exact (h2.otherD (by omega))
    have hC1 : Below w.heap.size w u1 := by rw [hu1]; repeat (first | exact hb1 | refine Below.drew ?_ | refine Below.setCell (p := ⟨w.heap.size, _, none⟩) ?_ (Nat.le_refl _) _)
    clear hu1 h1 h2 hb1 c0 c1 c2 c3 c4 c5 c6 z0 z1 z2 z3 z4 z5 z6
    obtain ⟨c0, c1, c2, c3, c4, c5, c6⟩ := hA1.cells7
    obtain ⟨z0, z1, z2, z3, z4, z5, z6⟩ := hA1.free7
    try dsimp only at c0 c1 c2 c3 c4 c5 c6
    have hB3 : At (u1.setCell ⟨w.heap.size, 4, none⟩ (.int .i64 R)) (w.heap.size + 1) none7 := (hB1.otherD (by omega))
    have hC3 : Below w.heap.size w (u1.setCell ⟨w.heap.size, 4, none⟩ (.int .i64 R)) := (hC1.setCell (Nat.le_refl _) _)
    go_wp2_with (refine wpList_store_row rfl 23 _ _ rfl (w.heap.size + 1) (cells (⟨x.s, x.v, x.r, x.e, R, x.h, x.a⟩ : Wy)) rfl rfl 23 _ hB3 (by kernel_rfl) rfl (cells_one _) ?_)
    refine end_way (p := 6) (u := 7) (y := ⟨x.s, x.v, x.r, x.e, R, x.h, x.a⟩) (c := .int .i64 0) (by kernel_rfl) rfl (At.row hB3) rfl rfl ⟨?_, below_setRow hC3 (by omega) _⟩
    refine congrArg (fun y => Ending.returned (.tuple #[.agg (cells y), .int .i64 0])) ?_
    have := HR.out
    rw [← this]
    congr 1 <;> (try simp only [clp, Int.max_def, Int.min_def]) <;> (repeat' split) <;> omega

set_option maxRecDepth 100000 in
set_option maxHeartbeats 3200000 in
theorem ackedRd (x : Wy) (n : Int) (w : World) (hx : okB x = true) (hn : 0 ≤ n ∧ n ≤ 65536) (hz : (n == 0) = false) (hc : ¬ x.c ≤ x.h) (hd : min (x.a + n) 65536 ≥ x.c) : Calls Try.prog 19 #[.agg (cells x), .int .i64 n, .bool true] w fun e w' => e = .returned (.tuple #[.agg (cells ({ x with a := 0, c := min (x.c + 512) 65536 })), .int .i64 0]) ∧ Below w.heap.size w w' := by
  have hxx := (okB_iff x).1 hx
  obtain ⟨A, hA⟩ : ∃ A, clp (x.a + n) 0 65536 = A := ⟨_, rfl⟩
  have hAb : 0 ≤ A ∧ A ≤ 65536 := by rw [← hA]; unfold clp; (repeat' split) <;> omega
  have hAt : x.c ≤ A := by
    rw [← hA]; unfold clp; simp only [Int.min_def] at hd; (repeat' split) <;> (repeat' split at hd) <;> omega
  have HA := Lib.hid hA
  have HD := Lib.hid hd
  clear hA hd
  have hb : Below w.heap.size w ((w.alloc (.cells (cells x) 23)).alloc (.cells (cells none7) 23)) := ((Below.refl _ _).alloc (Nat.le_refl _) _).alloc (by simp) _
  have ha := (At.new w x).alloc (.cells (cells none7) 23)
  have hno := At.new (w.alloc (.cells (cells x) 23)) none7
  rw [show (w.alloc (.cells (cells x) 23)).heap.size = w.heap.size + 1 from by simp] at hno
  have hs : ((w.alloc (.cells (cells x) 23)).alloc (.cells (cells none7) 23)).heap.size = w.heap.size + 2 := by simp
  go_enter Try.func19, Try.ntmps19
  go_wp2_with fail
  refine (wayOK x _).mono ?_
  rintro e w1 ⟨rfl, b1⟩
  rw [show okB x = true from by simpa using hx]
  replace b1 : Below ((w.alloc (.cells (cells x) 23)).alloc (.cells (cells none7) 23)).heap.size ((w.alloc (.cells (cells x) 23)).alloc (.cells (cells none7) 23)) w1 := b1
  rw [hs] at b1
  have h1 := ha.below b1 (by omega)
  have h2 := hno.below b1 (by omega)
  have hw : w.heap.size + 2 ≤ w1.heap.size := by have := b1.size; omega
  have hb1 := hb.trans (b1.mono (by omega))
  clear hb ha hno b1
  obtain ⟨c0, c1, c2, c3, c4, c5, c6⟩ := h1.cells7
  obtain ⟨z0, z1, z2, z3, z4, z5, z6⟩ := h1.free7
  try dsimp only at c0 c1 c2 c3 c4 c5 c6
  go_wp2_with fail
  refine (clip _ _ _ _).mono ?_
  rintro e u0 ⟨rfl, hu0⟩
  rw [HA.out]
  rw [hu0]
  clear hu0
  go_wp2_with fail
  refine (clip _ _ _ _).mono ?_
  rintro e u1 ⟨rfl, hu1⟩
  generalize hR : clp _ 0 65536 = R
  have HR := Lib.hid hR
  clear hR
  have hA1 : At u1 w.heap.size { x with a := 0, c := x.c + 512 } := by rw [hu1]; exact ((h1.set6).set6).set4
  have hB1 : At u1 (w.heap.size + 1) none7 := by rw [hu1]; exact ((h2.otherD (by omega)).otherD (by omega)).otherD (by omega)
  have hC1 : Below w.heap.size w u1 := by rw [hu1]; exact ((hb1.setCell (Nat.le_refl _) _).setCell (Nat.le_refl _) _).setCell (Nat.le_refl _) _
  clear hu1 h1 h2 hb1 c0 c1 c2 c3 c4 c5 c6 z0 z1 z2 z3 z4 z5 z6
  obtain ⟨c0, c1, c2, c3, c4, c5, c6⟩ := hA1.cells7
  obtain ⟨z0, z1, z2, z3, z4, z5, z6⟩ := hA1.free7
  try dsimp only at c0 c1 c2 c3 c4 c5 c6
  have hB3 : At (u1.setCell ⟨w.heap.size, 4, none⟩ (.int .i64 R)) (w.heap.size + 1) none7 := (hB1.otherD (by omega))
  have hC3 : Below w.heap.size w (u1.setCell ⟨w.heap.size, 4, none⟩ (.int .i64 R)) := (hC1.setCell (Nat.le_refl _) _)
  go_wp2_with (refine wpList_store_row rfl 23 _ _ rfl (w.heap.size + 1) (cells (⟨x.s, x.v, x.r, x.e, R, x.h, 0⟩ : Wy)) rfl rfl 23 _ hB3 (by kernel_rfl) rfl (cells_one _) ?_)
  refine end_way (p := 6) (u := 7) (y := ⟨x.s, x.v, x.r, x.e, R, x.h, 0⟩) (c := .int .i64 0) (by kernel_rfl) rfl (At.row hB3) rfl rfl ⟨?_, below_setRow hC3 (by omega) _⟩
  refine congrArg (fun y => Ending.returned (.tuple #[.agg (cells y), .int .i64 0])) ?_
  have := HR.out
  rw [← this]
  congr 1 <;> (try simp only [clp, Int.max_def, Int.min_def]) <;> (repeat' split) <;> omega

set_option maxRecDepth 100000 in
set_option maxHeartbeats 3200000 in
theorem ackedRe (x : Wy) (n : Int) (w : World) (hx : okB x = true) (hn : 0 ≤ n ∧ n ≤ 65536) (hz : (n == 0) = false) (hc : ¬ x.c ≤ x.h) (hd : ¬ min (x.a + n) 65536 ≥ x.c) : Calls Try.prog 19 #[.agg (cells x), .int .i64 n, .bool true] w fun e w' => e = .returned (.tuple #[.agg (cells ({ x with a := min (x.a + n) 65536, c := min x.c 65536 })), .int .i64 0]) ∧ Below w.heap.size w w' := by
  have hxx := (okB_iff x).1 hx
  obtain ⟨A, hA⟩ : ∃ A, clp (x.a + n) 0 65536 = A := ⟨_, rfl⟩
  have hAb : 0 ≤ A ∧ A ≤ 65536 := by rw [← hA]; unfold clp; (repeat' split) <;> omega
  have hAt : A < x.c := by
    rw [← hA]; unfold clp; simp only [Int.min_def] at hd; (repeat' split) <;> (repeat' split at hd) <;> omega
  have HA := Lib.hid hA
  have HD := Lib.hid hd
  clear hA hd
  have hb : Below w.heap.size w ((w.alloc (.cells (cells x) 23)).alloc (.cells (cells none7) 23)) := ((Below.refl _ _).alloc (Nat.le_refl _) _).alloc (by simp) _
  have ha := (At.new w x).alloc (.cells (cells none7) 23)
  have hno := At.new (w.alloc (.cells (cells x) 23)) none7
  rw [show (w.alloc (.cells (cells x) 23)).heap.size = w.heap.size + 1 from by simp] at hno
  have hs : ((w.alloc (.cells (cells x) 23)).alloc (.cells (cells none7) 23)).heap.size = w.heap.size + 2 := by simp
  go_enter Try.func19, Try.ntmps19
  go_wp2_with fail
  refine (wayOK x _).mono ?_
  rintro e w1 ⟨rfl, b1⟩
  rw [show okB x = true from by simpa using hx]
  replace b1 : Below ((w.alloc (.cells (cells x) 23)).alloc (.cells (cells none7) 23)).heap.size ((w.alloc (.cells (cells x) 23)).alloc (.cells (cells none7) 23)) w1 := b1
  rw [hs] at b1
  have h1 := ha.below b1 (by omega)
  have h2 := hno.below b1 (by omega)
  have hw : w.heap.size + 2 ≤ w1.heap.size := by have := b1.size; omega
  have hb1 := hb.trans (b1.mono (by omega))
  clear hb ha hno b1
  obtain ⟨c0, c1, c2, c3, c4, c5, c6⟩ := h1.cells7
  obtain ⟨z0, z1, z2, z3, z4, z5, z6⟩ := h1.free7
  try dsimp only at c0 c1 c2 c3 c4 c5 c6
  go_wp2_with fail
  refine (clip _ _ _ _).mono ?_
  rintro e u0 ⟨rfl, hu0⟩
  rw [HA.out]
  rw [hu0]
  clear hu0
  go_wp2_with fail
  refine (clip _ _ _ _).mono ?_
  rintro e u1 ⟨rfl, hu1⟩
  generalize hR : clp _ 0 65536 = R
  have HR := Lib.hid hR
  clear hR
  have hA1 : At u1 w.heap.size { x with a := A } := by rw [hu1]; exact (h1.set6)
  have hB1 : At u1 (w.heap.size + 1) none7 := by rw [hu1]; exact (h2.otherD (by omega))
  have hC1 : Below w.heap.size w u1 := by rw [hu1]; exact (hb1.setCell (Nat.le_refl _) _)
  clear hu1 h1 h2 hb1 c0 c1 c2 c3 c4 c5 c6 z0 z1 z2 z3 z4 z5 z6
  obtain ⟨c0, c1, c2, c3, c4, c5, c6⟩ := hA1.cells7
  obtain ⟨z0, z1, z2, z3, z4, z5, z6⟩ := hA1.free7
  try dsimp only at c0 c1 c2 c3 c4 c5 c6
  have hB3 : At (u1.setCell ⟨w.heap.size, 4, none⟩ (.int .i64 R)) (w.heap.size + 1) none7 := (hB1.otherD (by omega))
  have hC3 : Below w.heap.size w (u1.setCell ⟨w.heap.size, 4, none⟩ (.int .i64 R)) := (hC1.setCell (Nat.le_refl _) _)
  go_wp2_with (refine wpList_store_row rfl 23 _ _ rfl (w.heap.size + 1) (cells (⟨x.s, x.v, x.r, x.e, R, x.h, A⟩ : Wy)) rfl rfl 23 _ hB3 (by kernel_rfl) rfl (cells_one _) ?_)
  refine end_way (p := 6) (u := 7) (y := ⟨x.s, x.v, x.r, x.e, R, x.h, A⟩) (c := .int .i64 0) (by kernel_rfl) rfl (At.row hB3) rfl rfl ⟨?_, below_setRow hC3 (by omega) _⟩
  refine congrArg (fun y => Ending.returned (.tuple #[.agg (cells y), .int .i64 0])) ?_
  have h5 := HR.out
  have h6 := HA.out
  rw [← h5, ← h6]
  congr 1 <;> (try simp only [clp, Int.max_def, Int.min_def]) <;> (repeat' split) <;> omega

theorem ackedR (x : Wy) (n : Int) (full : Bool) (w : World) (hn : -9223372036854775808 ≤ n ∧ n ≤ 9223372036854775807) : Calls Try.prog 19 #[.agg (cells x), .int .i64 n, .bool full] w fun e w' => e = .returned (.tuple #[.agg (cells (ackedW x n full)), .int .i64 (ackedE x n)]) ∧ Below w.heap.size w w' := by
  unfold ackedW ackedE
  cases hx : okB x with
  | false => exact ackedRbad x n full w hx
  | true =>
    cases hi : inB n 0 65536 with
    | false =>
      unfold inB at hi
      have hi := of_decide_eq_false hi
      by_cases h : n < 0
      · exact ackedRarg0 x n full w hx h
      · exact ackedRarg1 x n full w hx (by omega) (decide_eq_false h)
    | true =>
      unfold inB at hi
      have hi := of_decide_eq_true hi
      show Calls Try.prog 19 #[.agg (cells x), .int .i64 n, .bool full] w fun e w' => e = .returned (.tuple #[.agg (cells (ackedF x n full)), .int .i64 0]) ∧ Below w.heap.size w w'
      unfold ackedF
      by_cases hz : n = 0
      · subst hz; rw [if_pos (.inl rfl)]; exact ackedRn0 x full w hx
      · have hz' : (n == 0) = false := by simp [hz]
        cases full with
        | false => rw [if_pos (.inr rfl)]; exact ackedRn1 x n w hx hi hz'
        | true =>
          rw [if_neg (by simp [hz])]
          by_cases hc : x.c ≤ x.h
          · rw [if_pos hc]; exact ackedRc x n w hx hi hz' hc
          · rw [if_neg hc]
            by_cases hd : min (x.a + n) 65536 ≥ x.c
            · rw [if_pos hd]; exact ackedRd x n w hx hi hz' hc hd
            · rw [if_neg hd]; exact ackedRe x n w hx hi hz' hc hd
theorem measureR (x : Wy) (n : Int) (w : World) : Calls Try.prog 10 #[.agg (cells x), .int .i64 n] w fun e w' => e = .returned (.tuple #[.agg (cells (measureW x n)), .int .i64 (measureE x n)]) ∧ Below w.heap.size w w' := by
  unfold measureW measureE
  cases hx : okB x with
  | false => exact measureRbad x n w hx
  | true =>
    cases hi : inB n 0 1099511627776 with
    | false =>
      unfold inB at hi
      have hi := of_decide_eq_false hi
      by_cases h : n < 0
      · exact measureRarg0 x n w hx h
      · exact measureRarg1 x n w hx (by omega) (decide_eq_false h)
    | true =>
      unfold inB at hi
      have hi := of_decide_eq_true hi
      show Calls Try.prog 10 #[.agg (cells x), .int .i64 n] w fun e w' => e = .returned (.tuple #[.agg (cells (measured x n)), .int .i64 0]) ∧ Below w.heap.size w w'
      unfold measured
      by_cases h : x.s = 0 ∧ x.v = 0
      · rw [if_pos h]; exact measureRa x n w hx hi h.1 h.2
      · rw [if_neg h]; exact measureRb x n w hx hi h

/-- How much room there is. -/
def roomF (x : Wy) (f : Int) : Int := if okB x = true ∧ 0 ≤ f then max (x.c - f) 0 else 0
set_option maxRecDepth 100000 in
set_option maxHeartbeats 3200000 in
theorem roomPBad (x : Wy) (f : Int) (w : World) (hx : okB x = false) : Calls Try.prog 20 #[.agg (cells x), .int .i64 f] w fun e w' => e = .returned (.int .i64 0) ∧ Below w.heap.size w w' := by
  have hb : Below w.heap.size w (w.alloc (.cells (cells x) 23)) := (Below.refl _ _).alloc (Nat.le_refl _) _
  have ha := At.new w x
  have hs : (w.alloc (.cells (cells x) 23)).heap.size = w.heap.size + 1 := by simp
  go_enter Try.func20, Try.ntmps20
  go_wp2_with fail
  refine (sound x _).mono ?_
  rintro e w1 ⟨rfl, b1⟩
  rw [show okB x = false from by simpa using hx]
  replace b1 : Below (w.alloc (.cells (cells x) 23)).heap.size (w.alloc (.cells (cells x) 23)) w1 := b1
  rw [hs] at b1
  have h1 := ha.below b1 (by omega)
  have hb1 := hb.trans (b1.mono (by omega))
  clear hb ha b1
  go_wp2
  go_ret
  exact ⟨rfl, hb1⟩
set_option maxRecDepth 100000 in
set_option maxHeartbeats 3200000 in
theorem roomPNeg (x : Wy) (f : Int) (w : World) (hx : okB x = true) (hf : f < 0) : Calls Try.prog 20 #[.agg (cells x), .int .i64 f] w fun e w' => e = .returned (.int .i64 0) ∧ Below w.heap.size w w' := by
  have hb : Below w.heap.size w (w.alloc (.cells (cells x) 23)) := (Below.refl _ _).alloc (Nat.le_refl _) _
  have ha := At.new w x
  have hs : (w.alloc (.cells (cells x) 23)).heap.size = w.heap.size + 1 := by simp
  go_enter Try.func20, Try.ntmps20
  go_wp2_with fail
  refine (sound x _).mono ?_
  rintro e w1 ⟨rfl, b1⟩
  rw [show okB x = true from by simpa using hx]
  replace b1 : Below (w.alloc (.cells (cells x) 23)).heap.size (w.alloc (.cells (cells x) 23)) w1 := b1
  rw [hs] at b1
  have h1 := ha.below b1 (by omega)
  have hb1 := hb.trans (b1.mono (by omega))
  clear hb ha b1
  go_wp2
  go_ret
  exact ⟨rfl, hb1⟩
set_option maxRecDepth 100000 in
set_option maxHeartbeats 3200000 in
theorem roomPFine (x : Wy) (f : Int) (w : World) (hx : okB x = true) (hf : 0 ≤ f ∧ f ≤ 9223372036854775807) (hd : decide (f < 0) = false) : Calls Try.prog 20 #[.agg (cells x), .int .i64 f] w fun e w' => e = .returned (.int .i64 (max (x.c - f) 0)) ∧ Below w.heap.size w w' := by
  have hxx := (okB_iff x).1 hx
  have hb : Below w.heap.size w (w.alloc (.cells (cells x) 23)) := (Below.refl _ _).alloc (Nat.le_refl _) _
  have ha := At.new w x
  have hs : (w.alloc (.cells (cells x) 23)).heap.size = w.heap.size + 1 := by simp
  go_enter Try.func20, Try.ntmps20
  go_wp2_with fail
  refine (sound x _).mono ?_
  rintro e w1 ⟨rfl, b1⟩
  rw [show okB x = true from by simpa using hx]
  replace b1 : Below (w.alloc (.cells (cells x) 23)).heap.size (w.alloc (.cells (cells x) 23)) w1 := b1
  rw [hs] at b1
  have h1 := ha.below b1 (by omega)
  have hb1 := hb.trans (b1.mono (by omega))
  clear hb ha b1
  obtain ⟨c0, c1, c2, c3, c4, c5, c6⟩ := h1.cells7
  obtain ⟨z0, z1, z2, z3, z4, z5, z6⟩ := h1.free7
  try dsimp only at c0 c1 c2 c3 c4 c5 c6
  by_cases hm : x.c < f
  all_goals
    go_wp2
    all_goals
      go_ret
      refine ⟨congrArg (fun n => Ending.returned (Value.int .i64 n)) ?_, hb1⟩
      simp only [Int.max_def]; (repeat' split) <;> omega
theorem roomP (x : Wy) (f : Int) (w : World) (hf : -9223372036854775808 ≤ f ∧ f ≤ 9223372036854775807) : Calls Try.prog 20 #[.agg (cells x), .int .i64 f] w fun e w' => e = .returned (.int .i64 (roomF x f)) ∧ Below w.heap.size w w' := by
  unfold roomF
  cases hx : okB x with
  | false => rw [if_neg (by simp)]; exact roomPBad x f w hx
  | true =>
    by_cases h : 0 ≤ f
    · rw [if_pos ⟨rfl, h⟩]; exact roomPFine x f w hx ⟨h, hf.2⟩ (decide_eq_false (by omega))
    · rw [if_neg (fun h' => h h'.2)]; exact roomPNeg x f w hx (by omega)
set_option maxRecDepth 100000 in
set_option maxHeartbeats 3200000 in
theorem roomRBad (x : Wy) (f : Int) (w : World) (hx : okB x = false) : Calls Try.prog 21 #[.agg (cells x), .int .i64 f] w fun e w' => e = .returned (.int .i64 0) ∧ Below w.heap.size w w' := by
  have hb : Below w.heap.size w (w.alloc (.cells (cells x) 23)) := (Below.refl _ _).alloc (Nat.le_refl _) _
  have ha := At.new w x
  have hs : (w.alloc (.cells (cells x) 23)).heap.size = w.heap.size + 1 := by simp
  go_enter Try.func21, Try.ntmps21
  go_wp2_with fail
  refine (wayOK x _).mono ?_
  rintro e w1 ⟨rfl, b1⟩
  rw [show okB x = false from by simpa using hx]
  replace b1 : Below (w.alloc (.cells (cells x) 23)).heap.size (w.alloc (.cells (cells x) 23)) w1 := b1
  rw [hs] at b1
  have h1 := ha.below b1 (by omega)
  have hb1 := hb.trans (b1.mono (by omega))
  clear hb ha b1
  go_wp2
  go_ret
  exact ⟨rfl, hb1⟩
set_option maxRecDepth 100000 in
set_option maxHeartbeats 3200000 in
theorem roomRNeg (x : Wy) (f : Int) (w : World) (hx : okB x = true) (hf : f < 0) : Calls Try.prog 21 #[.agg (cells x), .int .i64 f] w fun e w' => e = .returned (.int .i64 0) ∧ Below w.heap.size w w' := by
  have hb : Below w.heap.size w (w.alloc (.cells (cells x) 23)) := (Below.refl _ _).alloc (Nat.le_refl _) _
  have ha := At.new w x
  have hs : (w.alloc (.cells (cells x) 23)).heap.size = w.heap.size + 1 := by simp
  go_enter Try.func21, Try.ntmps21
  go_wp2_with fail
  refine (wayOK x _).mono ?_
  rintro e w1 ⟨rfl, b1⟩
  rw [show okB x = true from by simpa using hx]
  replace b1 : Below (w.alloc (.cells (cells x) 23)).heap.size (w.alloc (.cells (cells x) 23)) w1 := b1
  rw [hs] at b1
  have h1 := ha.below b1 (by omega)
  have hb1 := hb.trans (b1.mono (by omega))
  clear hb ha b1
  go_wp2
  go_ret
  exact ⟨rfl, hb1⟩
set_option maxRecDepth 100000 in
set_option maxHeartbeats 3200000 in
theorem roomRFine (x : Wy) (f : Int) (w : World) (hx : okB x = true) (hf : 0 ≤ f ∧ f ≤ 9223372036854775807) (hd : decide (f < 0) = false) : Calls Try.prog 21 #[.agg (cells x), .int .i64 f] w fun e w' => e = .returned (.int .i64 (max (x.c - f) 0)) ∧ Below w.heap.size w w' := by
  have hxx := (okB_iff x).1 hx
  have hb : Below w.heap.size w (w.alloc (.cells (cells x) 23)) := (Below.refl _ _).alloc (Nat.le_refl _) _
  have ha := At.new w x
  have hs : (w.alloc (.cells (cells x) 23)).heap.size = w.heap.size + 1 := by simp
  go_enter Try.func21, Try.ntmps21
  go_wp2_with fail
  refine (wayOK x _).mono ?_
  rintro e w1 ⟨rfl, b1⟩
  rw [show okB x = true from by simpa using hx]
  replace b1 : Below (w.alloc (.cells (cells x) 23)).heap.size (w.alloc (.cells (cells x) 23)) w1 := b1
  rw [hs] at b1
  have h1 := ha.below b1 (by omega)
  have hb1 := hb.trans (b1.mono (by omega))
  clear hb ha b1
  obtain ⟨c0, c1, c2, c3, c4, c5, c6⟩ := h1.cells7
  obtain ⟨z0, z1, z2, z3, z4, z5, z6⟩ := h1.free7
  try dsimp only at c0 c1 c2 c3 c4 c5 c6
  by_cases hm : x.c < f
  all_goals
    go_wp2
    all_goals
      go_ret
      refine ⟨congrArg (fun n => Ending.returned (Value.int .i64 n)) ?_, hb1⟩
      simp only [Int.max_def]; (repeat' split) <;> omega
theorem roomR (x : Wy) (f : Int) (w : World) (hf : -9223372036854775808 ≤ f ∧ f ≤ 9223372036854775807) : Calls Try.prog 21 #[.agg (cells x), .int .i64 f] w fun e w' => e = .returned (.int .i64 (roomF x f)) ∧ Below w.heap.size w w' := by
  unfold roomF
  cases hx : okB x with
  | false => rw [if_neg (by simp)]; exact roomRBad x f w hx
  | true =>
    by_cases h : 0 ≤ f
    · rw [if_pos ⟨rfl, h⟩]; exact roomRFine x f w hx ⟨h, hf.2⟩ (decide_eq_false (by omega))
    · rw [if_neg (fun h' => h h'.2)]; exact roomRNeg x f w hx (by omega)
end Go.Proofs.Ytljalbcmhcagaaa.Way
