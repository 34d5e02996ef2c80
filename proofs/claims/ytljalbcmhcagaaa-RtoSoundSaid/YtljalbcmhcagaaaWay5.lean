/-
  Contracts: Late and Fast, and the reference's.
-/
import Derived.Test.YtljalbcmhcagaaaWay4
import Derived.Test.YtljalbcmhcagaaaWay3
namespace Go.Proofs.Ytljalbcmhcagaaa.Way
open Go.RowKit Mem
set_option linter.unusedVariables false
set_option linter.unusedSimpArgs false

def lateW (x : Wy) : Wy := if okB x then lated x else none7
def fastW (x : Wy) : Wy := if okB x then halved x else none7
def lateE (x : Wy) : Int := if okB x then 0 else 2

set_option maxRecDepth 100000 in
set_option maxHeartbeats 1600000 in
theorem late (x : Wy) (w : World) : Calls Try.prog 14 #[.agg (cells x)] w fun e w' => e = .returned (.tuple #[.agg (cells (lateW x)), .int .i64 (lateE x)]) ∧ Below w.heap.size w w' := by
  have hb : Below w.heap.size w ((w.alloc (.cells (cells x) 23)).alloc (.cells (cells none7) 23)) := ((Below.refl _ _).alloc (Nat.le_refl _) _).alloc (by simp) _
  have ha := (At.new w x).alloc (.cells (cells none7) 23)
  have hn := At.new (w.alloc (.cells (cells x) 23)) none7
  rw [show (w.alloc (.cells (cells x) 23)).heap.size = w.heap.size + 1 from by simp] at hn
  have hs : ((w.alloc (.cells (cells x) 23)).alloc (.cells (cells none7) 23)).heap.size = w.heap.size + 2 := by simp
  unfold lateW lateE
  by_cases hx : okB x = true
  · simp only [hx, if_true, if_false, Bool.false_eq_true]
    go_enter Try.func14, Try.ntmps14
    go_wp2_with fail
    refine (changed28 x _ hx).mono ?_
    rintro e w1 ⟨rfl, b1⟩
    replace b1 : Below ((w.alloc (.cells (cells x) 23)).alloc (.cells (cells none7) 23)).heap.size ((w.alloc (.cells (cells x) 23)).alloc (.cells (cells none7) 23)) w1 := b1
    rw [hs] at b1
    have h1 := ha.below b1 (by omega)
    have h2 := hn.below b1 (by omega)
    have hw : w.heap.size + 2 ≤ w1.heap.size := by have := b1.size; omega
    have hb1 := hb.trans (b1.mono (by omega))
    clear hb ha hn b1
    go_wp2_with (refine wpList_store_row rfl 23 _ _ rfl (w.heap.size + 1) (cells (lated x)) rfl rfl 23 _ h2 (by kernel_rfl) rfl (cells_one _) ?_)
    exact end_way (p := 2) (u := 3) (c := .int .i64 0) (by kernel_rfl) rfl h2.row rfl rfl ⟨rfl, below_setRow hb1 (by omega) _⟩
  · simp only [hx, if_true, if_false, Bool.false_eq_true]
    go_enter Try.func14, Try.ntmps14
    go_wp2_with fail
    refine (changedBad x true _ _ (by simpa using hx)).mono ?_
    rintro e w1 ⟨rfl, b1⟩
    replace b1 : Below ((w.alloc (.cells (cells x) 23)).alloc (.cells (cells none7) 23)).heap.size ((w.alloc (.cells (cells x) 23)).alloc (.cells (cells none7) 23)) w1 := b1
    rw [hs] at b1
    have h1 := ha.below b1 (by omega)
    have h2 := hn.below b1 (by omega)
    have hw : w.heap.size + 2 ≤ w1.heap.size := by have := b1.size; omega
    have hb1 := hb.trans (b1.mono (by omega))
    clear hb ha hn b1
    go_wp2_with (refine wpList_store_row rfl 23 _ _ rfl (w.heap.size + 1) (cells (none7)) rfl rfl 23 _ h2 (by kernel_rfl) rfl (cells_one _) ?_)
    exact end_way (p := 2) (u := 3) (c := .int .i64 2) (by kernel_rfl) rfl h2.row rfl rfl ⟨rfl, below_setRow hb1 (by omega) _⟩

set_option maxRecDepth 100000 in
set_option maxHeartbeats 1600000 in
theorem fast (x : Wy) (w : World) : Calls Try.prog 16 #[.agg (cells x)] w fun e w' => e = .returned (.tuple #[.agg (cells (fastW x)), .int .i64 (lateE x)]) ∧ Below w.heap.size w w' := by
  have hb : Below w.heap.size w ((w.alloc (.cells (cells x) 23)).alloc (.cells (cells none7) 23)) := ((Below.refl _ _).alloc (Nat.le_refl _) _).alloc (by simp) _
  have ha := (At.new w x).alloc (.cells (cells none7) 23)
  have hn := At.new (w.alloc (.cells (cells x) 23)) none7
  rw [show (w.alloc (.cells (cells x) 23)).heap.size = w.heap.size + 1 from by simp] at hn
  have hs : ((w.alloc (.cells (cells x) 23)).alloc (.cells (cells none7) 23)).heap.size = w.heap.size + 2 := by simp
  unfold fastW lateE
  by_cases hx : okB x = true
  · simp only [hx, if_true, if_false, Bool.false_eq_true]
    go_enter Try.func16, Try.ntmps16
    go_wp2_with fail
    refine (changed29 x _ hx).mono ?_
    rintro e w1 ⟨rfl, b1⟩
    replace b1 : Below ((w.alloc (.cells (cells x) 23)).alloc (.cells (cells none7) 23)).heap.size ((w.alloc (.cells (cells x) 23)).alloc (.cells (cells none7) 23)) w1 := b1
    rw [hs] at b1
    have h1 := ha.below b1 (by omega)
    have h2 := hn.below b1 (by omega)
    have hw : w.heap.size + 2 ≤ w1.heap.size := by have := b1.size; omega
    have hb1 := hb.trans (b1.mono (by omega))
    clear hb ha hn b1
    go_wp2_with (refine wpList_store_row rfl 23 _ _ rfl (w.heap.size + 1) (cells (halved x)) rfl rfl 23 _ h2 (by kernel_rfl) rfl (cells_one _) ?_)
    exact end_way (p := 2) (u := 3) (c := .int .i64 0) (by kernel_rfl) rfl h2.row rfl rfl ⟨rfl, below_setRow hb1 (by omega) _⟩
  · simp only [hx, if_true, if_false, Bool.false_eq_true]
    go_enter Try.func16, Try.ntmps16
    go_wp2_with fail
    refine (changedBad x true _ _ (by simpa using hx)).mono ?_
    rintro e w1 ⟨rfl, b1⟩
    replace b1 : Below ((w.alloc (.cells (cells x) 23)).alloc (.cells (cells none7) 23)).heap.size ((w.alloc (.cells (cells x) 23)).alloc (.cells (cells none7) 23)) w1 := b1
    rw [hs] at b1
    have h1 := ha.below b1 (by omega)
    have h2 := hn.below b1 (by omega)
    have hw : w.heap.size + 2 ≤ w1.heap.size := by have := b1.size; omega
    have hb1 := hb.trans (b1.mono (by omega))
    clear hb ha hn b1
    go_wp2_with (refine wpList_store_row rfl 23 _ _ rfl (w.heap.size + 1) (cells (none7)) rfl rfl 23 _ h2 (by kernel_rfl) rfl (cells_one _) ?_)
    exact end_way (p := 2) (u := 3) (c := .int .i64 2) (by kernel_rfl) rfl h2.row rfl rfl ⟨rfl, below_setRow hb1 (by omega) _⟩

theorem At.other {u : World} {g k : Nat} {j : Nat} {v : Value} {x : Wy} (h : At u g x) (hn : g ≠ k) : At (u.setCell ⟨k, j, none⟩ v) g x := by
  unfold At
  rw [Below.heap_setCell _ _ _ _ hn]; exact h
set_option maxRecDepth 100000 in
set_option maxHeartbeats 3200000 in
theorem fastR (x : Wy) (w : World) : Calls Try.prog 17 #[.agg (cells x)] w fun e w' => e = .returned (.tuple #[.agg (cells (fastW x)), .int .i64 (lateE x)]) ∧ Below w.heap.size w w' := by
  have hb : Below w.heap.size w ((w.alloc (.cells (cells x) 23)).alloc (.cells (cells none7) 23)) := ((Below.refl _ _).alloc (Nat.le_refl _) _).alloc (by simp) _
  have ha := (At.new w x).alloc (.cells (cells none7) 23)
  have hn := At.new (w.alloc (.cells (cells x) 23)) none7
  rw [show (w.alloc (.cells (cells x) 23)).heap.size = w.heap.size + 1 from by simp] at hn
  have hs : ((w.alloc (.cells (cells x) 23)).alloc (.cells (cells none7) 23)).heap.size = w.heap.size + 2 := by simp
  unfold fastW lateE
  by_cases hx : okB x = true
  · simp only [hx, if_true]
    have hxx := (okB_iff x).1 hx
    go_enter Try.func17, Try.ntmps17
    go_wp2_with fail
    refine (wayOK x _).mono ?_
    rintro e w1 ⟨rfl, b1⟩
    rw [hx]
    replace b1 : Below ((w.alloc (.cells (cells x) 23)).alloc (.cells (cells none7) 23)).heap.size ((w.alloc (.cells (cells x) 23)).alloc (.cells (cells none7) 23)) w1 := b1
    rw [hs] at b1
    have h1 := ha.below b1 (by omega)
    have h2 := hn.below b1 (by omega)
    have hw : w.heap.size + 2 ≤ w1.heap.size := by have := b1.size; omega
    have hb1 := hb.trans (b1.mono (by omega))
    clear hb ha hn b1
    obtain ⟨c0, c1, c2, c3, c4, c5, c6⟩ := h1.cells7
    obtain ⟨z0, z1, z2, z3, z4, z5, z6⟩ := h1.free7
    have hB : At (World.setCell (World.setCell (World.setCell w1 ⟨w.heap.size, 5, none⟩ (.int .i64 (clp (x.c / 2) 1024 65536))) ⟨w.heap.size, 4, none⟩ (.int .i64 (clp (x.c / 2) 1024 65536))) ⟨w.heap.size, 6, none⟩ (.int .i64 (0))) (w.heap.size + 1) none7 := (At.other (At.other (At.other h2 (j := 5) (by omega)) (j := 4) (by omega)) (j := 6) (by omega))
    have hC : Below w.heap.size w (World.setCell (World.setCell (World.setCell w1 ⟨w.heap.size, 5, none⟩ (.int .i64 (clp (x.c / 2) 1024 65536))) ⟨w.heap.size, 4, none⟩ (.int .i64 (clp (x.c / 2) 1024 65536))) ⟨w.heap.size, 6, none⟩ (.int .i64 (0))) := (Below.setCell (Below.setCell (Below.setCell hb1 (p := ⟨w.heap.size, 5, none⟩) (Nat.le_refl _) _) (p := ⟨w.heap.size, 4, none⟩) (Nat.le_refl _) _) (p := ⟨w.heap.size, 6, none⟩) (Nat.le_refl _) _)
    clear h1 h2 hb1
    go_wp2_with (first | (go_at_call 27; refine (clip _ _ _ _).mono ?_; rintro e w9 ⟨rfl, rfl⟩) | (refine wpList_store_row rfl 23 _ _ rfl (w.heap.size + 1) (cells (⟨x.s, x.v, x.r, x.e, clp (x.c / 2) 1024 65536, clp (x.c / 2) 1024 65536, 0⟩ : Wy)) rfl rfl 23 _ hB (by kernel_rfl) rfl (cells_one _) ?_))
    refine end_way (p := 2) (u := 3) (y := ⟨x.s, x.v, x.r, x.e, clp (x.c / 2) 1024 65536, clp (x.c / 2) 1024 65536, 0⟩) (c := .int .i64 0) (by kernel_rfl) rfl (At.row hB) rfl rfl ⟨?_, below_setRow hC (by omega) _⟩
    refine congrArg (fun y => Ending.returned (.tuple #[.agg (cells y), .int .i64 0])) ?_
    unfold halved
    congr 1 <;> (try unfold clp) <;> (try simp only [Int.max_def, Int.min_def]) <;> (repeat' split) <;> omega
  · simp only [hx, if_false, Bool.false_eq_true]
    go_enter Try.func17, Try.ntmps17
    go_wp2_with fail
    refine (wayOK x _).mono ?_
    rintro e w1 ⟨rfl, b1⟩
    rw [show okB x = false from by simpa using hx]
    replace b1 : Below ((w.alloc (.cells (cells x) 23)).alloc (.cells (cells none7) 23)).heap.size ((w.alloc (.cells (cells x) 23)).alloc (.cells (cells none7) 23)) w1 := b1
    rw [hs] at b1
    have h1 := ha.below b1 (by omega)
    have h2 := hn.below b1 (by omega)
    have hw : w.heap.size + 2 ≤ w1.heap.size := by have := b1.size; omega
    have hb1 := hb.trans (b1.mono (by omega))
    clear hb ha hn b1
    go_wp2_with (refine wpList_store_row rfl 23 _ _ rfl (w.heap.size + 1) (cells none7) rfl rfl 23 _ h2 (by kernel_rfl) rfl (cells_one _) ?_)
    exact end_way (p := 2) (u := 3) (c := .int .i64 2) (by kernel_rfl) rfl h2.row rfl rfl ⟨rfl, below_setRow hb1 (by omega) _⟩

set_option maxRecDepth 100000 in
set_option maxHeartbeats 3200000 in
theorem lateR (x : Wy) (w : World) : Calls Try.prog 15 #[.agg (cells x)] w fun e w' => e = .returned (.tuple #[.agg (cells (lateW x)), .int .i64 (lateE x)]) ∧ Below w.heap.size w w' := by
  have hb : Below w.heap.size w ((w.alloc (.cells (cells x) 23)).alloc (.cells (cells none7) 23)) := ((Below.refl _ _).alloc (Nat.le_refl _) _).alloc (by simp) _
  have ha := (At.new w x).alloc (.cells (cells none7) 23)
  have hn := At.new (w.alloc (.cells (cells x) 23)) none7
  rw [show (w.alloc (.cells (cells x) 23)).heap.size = w.heap.size + 1 from by simp] at hn
  have hs : ((w.alloc (.cells (cells x) 23)).alloc (.cells (cells none7) 23)).heap.size = w.heap.size + 2 := by simp
  unfold lateW lateE
  by_cases hx : okB x = true
  · simp only [hx, if_true]
    have hxx := (okB_iff x).1 hx
    obtain ⟨R, hR⟩ : ∃ R, clp (2 * x.r) 4 64 = R := ⟨_, rfl⟩
    obtain ⟨H, hH⟩ : ∃ H, clp (x.c / 2) 1024 65536 = H := ⟨_, rfl⟩
    obtain ⟨E, hE⟩ : ∃ E, clp (x.e + 1) 0 1048576 = E := ⟨_, rfl⟩
    have HY : Hid ((⟨x.s, x.v, R, E, 512, H, 0⟩ : Wy) = lated x) := by
      unfold Hid lated
      rw [← hR, ← hH, ← hE]
      congr 1 <;> (try unfold clp) <;> (try simp only [Int.max_def, Int.min_def]) <;> (repeat' split) <;> omega
    go_enter Try.func15, Try.ntmps15
    go_wp2_with fail
    refine (wayOK x _).mono ?_
    rintro e w1 ⟨rfl, b1⟩
    rw [hx]
    replace b1 : Below ((w.alloc (.cells (cells x) 23)).alloc (.cells (cells none7) 23)).heap.size ((w.alloc (.cells (cells x) 23)).alloc (.cells (cells none7) 23)) w1 := b1
    rw [hs] at b1
    have h1 := ha.below b1 (by omega)
    have h2 := hn.below b1 (by omega)
    have hw : w.heap.size + 2 ≤ w1.heap.size := by have := b1.size; omega
    have hb1 := hb.trans (b1.mono (by omega))
    clear hb ha hn b1
    obtain ⟨c0, c1, c2, c3, c4, c5, c6⟩ := h1.cells7
    obtain ⟨z0, z1, z2, z3, z4, z5, z6⟩ := h1.free7
    go_wp2_with fail
    refine (clip _ _ _ _).mono ?_
    rintro e w9 ⟨rfl, rfl⟩
    rw [hR]
    go_wp2_with fail
    refine (clip _ _ _ _).mono ?_
    rintro e u1 ⟨rfl, hu1⟩
    rw [hH]
    have hA1 : At u1 w.heap.size { x with r := R } := by rw [hu1]; exact h1.set2
    have hB1 : At u1 (w.heap.size + 1) none7 := by rw [hu1]; exact h2.other (by omega)
    have hC1 : Below w.heap.size w u1 := by rw [hu1]; exact hb1.setCell (Nat.le_refl _) _
    clear hu1 h1 h2 hb1 c0 c1 c2 c3 c4 c5 c6 z0 z1 z2 z3 z4 z5 z6
    obtain ⟨c0, c1, c2, c3, c4, c5, c6⟩ := hA1.cells7
    obtain ⟨z0, z1, z2, z3, z4, z5, z6⟩ := hA1.free7
    dsimp only at c0 c1 c2 c3 c4 c5 c6
    go_wp2_with fail
    refine (clip _ _ _ _).mono ?_
    rintro e u2 ⟨rfl, hu2⟩
    rw [hE]
    have hA2 : At u2 w.heap.size { x with r := R, h := H, c := 512, a := 0 } := by rw [hu2]; exact ((hA1.set5).set4).set6
    have hB2 : At u2 (w.heap.size + 1) none7 := by rw [hu2]; exact ((hB1.other (by omega)).other (by omega)).other (by omega)
    have hC2 : Below w.heap.size w u2 := by rw [hu2]; exact ((hC1.setCell (Nat.le_refl _) _).setCell (Nat.le_refl _) _).setCell (Nat.le_refl _) _
    clear hu2 hA1 hB1 hC1 c0 c1 c2 c3 c4 c5 c6 z0 z1 z2 z3 z4 z5 z6 hR hH hE
    obtain ⟨c0, c1, c2, c3, c4, c5, c6⟩ := hA2.cells7
    obtain ⟨z0, z1, z2, z3, z4, z5, z6⟩ := hA2.free7
    dsimp only at c0 c1 c2 c3 c4 c5 c6
    have hB3 : At (u2.setCell ⟨w.heap.size, 3, none⟩ (.int .i64 E)) (w.heap.size + 1) none7 := hB2.other (by omega)
    have hC3 : Below w.heap.size w (u2.setCell ⟨w.heap.size, 3, none⟩ (.int .i64 E)) := hC2.setCell (Nat.le_refl _) _
    go_wp2_with (refine wpList_store_row rfl 23 _ _ rfl (w.heap.size + 1) (cells (⟨x.s, x.v, R, E, 512, H, 0⟩ : Wy)) rfl rfl 23 _ hB3 (by kernel_rfl) rfl (cells_one _) ?_)
    refine end_way (p := 2) (u := 3) (y := ⟨x.s, x.v, R, E, 512, H, 0⟩) (c := .int .i64 0) (by kernel_rfl) rfl (At.row hB3) rfl rfl ⟨?_, below_setRow hC3 (by omega) _⟩
    exact congrArg (fun y => Ending.returned (.tuple #[.agg (cells y), .int .i64 0])) HY.out
  · simp only [hx, if_false, Bool.false_eq_true]
    go_enter Try.func15, Try.ntmps15
    go_wp2_with fail
    refine (wayOK x _).mono ?_
    rintro e w1 ⟨rfl, b1⟩
    rw [show okB x = false from by simpa using hx]
    replace b1 : Below ((w.alloc (.cells (cells x) 23)).alloc (.cells (cells none7) 23)).heap.size ((w.alloc (.cells (cells x) 23)).alloc (.cells (cells none7) 23)) w1 := b1
    rw [hs] at b1
    have h1 := ha.below b1 (by omega)
    have h2 := hn.below b1 (by omega)
    have hw : w.heap.size + 2 ≤ w1.heap.size := by have := b1.size; omega
    have hb1 := hb.trans (b1.mono (by omega))
    clear hb ha hn b1
    go_wp2_with (refine wpList_store_row rfl 23 _ _ rfl (w.heap.size + 1) (cells none7) rfl rfl 23 _ h2 (by kernel_rfl) rfl (cells_one _) ?_)
    exact end_way (p := 2) (u := 3) (c := .int .i64 2) (by kernel_rfl) rfl h2.row rfl rfl ⟨rfl, below_setRow hb1 (by omega) _⟩
end Go.Proofs.Ytljalbcmhcagaaa.Way
