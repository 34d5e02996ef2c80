/-
  A path in memory; the contracts of what changes it.
-/
import Derived.Test.YtljalbcmhcagaaaWay2
import Derived.Laws.CopyOwn
namespace Go.Proofs.Ytljalbcmhcagaaa.Way
open Go.RowKit Mem
set_option linter.unusedVariables false

/-- The path x lies in the block g. -/
def At (u : World) (g : Nat) (x : Wy) : Prop := u.heap[g]? = some (.cells (cells x) 23 (0, 0))
theorem cells_one (x : Wy) : (cells x).all (·.oneCell') = true := by simp [Value.oneCell']
theorem At.cell {u : World} {g : Nat} {x : Wy} (h : At u g x) (j : Nat) : u.cell? ⟨g, j, none⟩ = (cells x)[j]? := cell_of_row u g j _ 23 (0, 0) h
theorem At.free {u : World} {g : Nat} {x : Wy} (h : At u g x) (j : Nat) : u.frozen? ⟨g, j, none⟩ = false := by
  simp [World.frozen?, show u.heap[g]? = _ from h]
theorem At.cells7 {u : World} {g : Nat} {x : Wy} (h : At u g x) : u.cell? ⟨g, 0, none⟩ = some (.int .i64 x.s) ∧ u.cell? ⟨g, 1, none⟩ = some (.int .i64 x.v) ∧ u.cell? ⟨g, 2, none⟩ = some (.int .i64 x.r) ∧ u.cell? ⟨g, 3, none⟩ = some (.int .i64 x.e) ∧ u.cell? ⟨g, 4, none⟩ = some (.int .i64 x.c) ∧ u.cell? ⟨g, 5, none⟩ = some (.int .i64 x.h) ∧ u.cell? ⟨g, 6, none⟩ = some (.int .i64 x.a) :=
  ⟨h.cell 0, h.cell 1, h.cell 2, h.cell 3, h.cell 4, h.cell 5, h.cell 6⟩
theorem At.free7 {u : World} {g : Nat} {x : Wy} (h : At u g x) : u.frozen? ⟨g, 0, none⟩ = false ∧ u.frozen? ⟨g, 1, none⟩ = false ∧ u.frozen? ⟨g, 2, none⟩ = false ∧ u.frozen? ⟨g, 3, none⟩ = false ∧ u.frozen? ⟨g, 4, none⟩ = false ∧ u.frozen? ⟨g, 5, none⟩ = false ∧ u.frozen? ⟨g, 6, none⟩ = false :=
  ⟨h.free 0, h.free 1, h.free 2, h.free 3, h.free 4, h.free 5, h.free 6⟩
/-- One field set. -/
theorem At.set {u : World} {g : Nat} {x y : Wy} {j : Nat} {v : Value} (h : At u g x) (e : (cells x).set! j v = cells y) : At (u.setCell ⟨g, j, none⟩ v) g y := by
  unfold At
  rw [setCell_eq_setRow _ _ _ _ _ _ _ h, setRow_heap _ _ _ _ _ _ h]
  exact congrArg (fun c => some (Obj.cells c 23 (0, 0))) e

theorem At.set0 {u : World} {g : Nat} {x : Wy} {n : Int} (h : At u g x) : At (u.setCell ⟨g, 0, none⟩ (.int .i64 n)) g { x with s := n } := h.set rfl
theorem At.set1 {u : World} {g : Nat} {x : Wy} {n : Int} (h : At u g x) : At (u.setCell ⟨g, 1, none⟩ (.int .i64 n)) g { x with v := n } := h.set rfl
theorem At.set2 {u : World} {g : Nat} {x : Wy} {n : Int} (h : At u g x) : At (u.setCell ⟨g, 2, none⟩ (.int .i64 n)) g { x with r := n } := h.set rfl
theorem At.set3 {u : World} {g : Nat} {x : Wy} {n : Int} (h : At u g x) : At (u.setCell ⟨g, 3, none⟩ (.int .i64 n)) g { x with e := n } := h.set rfl
theorem At.set4 {u : World} {g : Nat} {x : Wy} {n : Int} (h : At u g x) : At (u.setCell ⟨g, 4, none⟩ (.int .i64 n)) g { x with c := n } := h.set rfl
theorem At.set5 {u : World} {g : Nat} {x : Wy} {n : Int} (h : At u g x) : At (u.setCell ⟨g, 5, none⟩ (.int .i64 n)) g { x with h := n } := h.set rfl
theorem At.set6 {u : World} {g : Nat} {x : Wy} {n : Int} (h : At u g x) : At (u.setCell ⟨g, 6, none⟩ (.int .i64 n)) g { x with a := n } := h.set rfl
theorem At.of {u : World} {g : Nat} {x y : Wy} (h : At u g y) (e : y = x) : At u g x := e ▸ h
theorem At.drew {u : World} {g : Nat} {x : Wy} (h : At u g x) : At u.drew g x := h
theorem grown_refl (u : World) (r : Option Nat) : u.grownBy u r := ⟨rfl, rfl, rfl, Nat.le_refl _, fun _ _ _ => rfl⟩
theorem grown_setCell {u u' : World} {g j : Nat} {v : Value} (h : u.grownBy u' (some g)) : u.grownBy (u'.setCell ⟨g, j, none⟩ v) (some g) :=
  ⟨h.os, h.tape, h.output, by simpa [World.setCell] using h.size, fun k hk hn => (Below.heap_setCell _ _ _ _ (fun e => hn (by rw [e]))).trans (h.block k hk hn)⟩
theorem grown_drew {u u' : World} {r : Option Nat} (h : u.grownBy u' r) : u.grownBy u'.drew r := ⟨h.os, h.tape, h.output, h.size, h.block⟩
theorem grown_trans {a b c : World} {r : Option Nat} (h : a.grownBy b r) (k : b.grownBy c r) : a.grownBy c r :=
  ⟨k.os.trans h.os, k.tape.trans h.tape, k.output.trans h.output, Nat.le_trans h.size k.size, fun i hi hn => (k.block i (Nat.lt_of_lt_of_le hi h.size) hn).trans (h.block i hi hn)⟩

def halved (x : Wy) : Wy := { x with h := max (x.c / 2) 1024, c := max (x.c / 2) 1024, a := 0 }
set_option maxRecDepth 100000 in
set_option maxHeartbeats 3200000 in
theorem halve (u : World) (g : Nat) (x : Wy) (h0 : At u g x) (hx : 512 ≤ x.c ∧ x.c ≤ 65536) :
    Calls Try.prog 29 #[.pointer (some ⟨g, 0, none⟩)] u fun e u' => (∃ v, e = .returned v) ∧ At u' g (halved x) ∧ u.grownBy u' (some g) := by
  obtain ⟨c0, c1, c2, c3, c4, c5, c6⟩ := h0.cells7
  obtain ⟨z0, z1, z2, z3, z4, z5, z6⟩ := h0.free7
  go_enter Try.func29, Try.ntmps29
  go_wp2
  all_goals
    go_end0
    refine ⟨⟨_, rfl⟩, At.of (((h0.set5).set4).set6) ?_, grown_setCell (grown_setCell (grown_setCell (grown_refl _ _)))⟩
    unfold halved
    congr 1 <;> (try simp only [Int.max_def]) <;> (repeat' split) <;> omega

/-- What late acknowledgement makes of a path. -/
def lated (x : Wy) : Wy := { x with h := max (x.c / 2) 1024, c := 512, a := 0, r := min (2 * x.r) 64, e := min (x.e + 1) 1048576 }
set_option maxRecDepth 100000 in
set_option maxHeartbeats 3200000 in
theorem late1 (u : World) (g : Nat) (x : Wy) (h : At u g x) (hx : okB x = true) :
    Calls Try.prog 28 #[.pointer (some ⟨g, 0, none⟩)] u fun e u' => (∃ v, e = .returned v) ∧ At u' g (lated x) ∧ u.grownBy u' (some g) := by
  have hx := (okB_iff x).1 hx
  go_enter Try.func28, Try.ntmps28
  go_wp2_with fail
  refine (halve u g x h (by omega)).mono ?_
  rintro e u1 ⟨⟨v, rfl⟩, h1, g1⟩
  obtain ⟨c0, c1, c2, c3, c4, c5, c6⟩ := h1.cells7
  obtain ⟨z0, z1, z2, z3, z4, z5, z6⟩ := h1.free7
  have e2 : (halved x).r = x.r := rfl
  have e3 : (halved x).e = x.e := rfl
  rw [e2] at c2
  rw [e3] at c3
  clear h
  go_wp2
  all_goals
    go_end0
    refine ⟨⟨_, rfl⟩, At.of (((h1.set2).set4).set3) ?_, grown_setCell (grown_setCell (grown_setCell g1))⟩
    unfold lated halved
    congr 1 <;> (try simp only [Int.min_def]) <;> (repeat' split) <;> omega

/-- A path with nothing known. -/
def none7 : Wy := ⟨0, 0, 0, 0, 0, 0, 0⟩
/-- A world in which only new blocks, and blocks from B on, have turned. -/
theorem below_grown {B : Nat} {a w w' : World} {g : Nat} (h : Below B a w) (hg : w.grownBy w' (some g)) (hB : B ≤ w.heap.size) (hr : B ≤ g) : Below B a w' := h.grown hg hB (fun k e => by cases e; exact hr)

/-- A call that answers a path and a number: the path from its cell. -/
theorem end_way {fn : Func} {p u : Tmp} (h : fn.results = #[.cell p 23, .tmp u]) {a : Act} {w : World} {g : Nat} {y : Wy} {c : Value} {R : Ending → World → Prop} (hp : a.tmps.getD p undef = .pointer (some ⟨g, 0, none⟩)) (hat : At w g y)
    (hu : a.tmps.getD u undef = c) (hd : a.defers = []) (hR : R (.returned (.tuple #[.agg (cells y), c])) w) : bodyPost Try.prog fn R Exit.ret a w := by
  refine ⟨hd, _, ?_, hR⟩
  rw [results_cell_tmp h, hp, hu]
  simp only [asAddr]
  rw [show (Sem.run Try.prog (pure (⟨g, 0, none⟩ : Addr)) w) = .ok ⟨g, 0, none⟩ w from rfl]
  show ((loadVar 23 ⟨g, 0, none⟩).run Try.prog w).andThen _ = _
  rw [run_loadVar_row w g 23 23 _ (0, 0) _ hat Try.underlying23 rfl (by kernel_rfl)]
  rfl
theorem At.row {u : World} {g : Nat} {x y : Wy} (h : At u g x) : At (u.setRow g (cells y)) g y := setRow_heap _ _ _ _ _ _ h
theorem At.below {u u' : World} {g : Nat} {x : Wy} {B : Nat} (h : At u g x) (hb : Below B u u') (hg : g < B) : At u' g x := by
  unfold At
  rw [hb.block _ hg]; exact h
theorem At.lt {u : World} {g : Nat} {x : Wy} (h : At u g x) : g < u.heap.size := (Array.getElem?_eq_some_iff.1 h).1
theorem At.grown {u u' : World} {g k : Nat} {x : Wy} (h : At u g x) (hg : u.grownBy u' (some k)) (hn : g ≠ k) : At u' g x := by
  unfold At
  rw [hg.block _ h.lt (by simpa using hn)]; exact h
theorem At.alloc {u : World} {g : Nat} {x : Wy} (h : At u g x) (o : Obj) : At (u.alloc o) g x := by
  unfold At
  rw [Below.heap_alloc _ _ _ h.lt]; exact h
theorem At.new (u : World) (x : Wy) : At (u.alloc (.cells (cells x) 23)) u.heap.size x := Array.getElem?_push_size

set_option maxRecDepth 100000 in
set_option maxHeartbeats 1600000 in
theorem changedBad (x : Wy) (fine : Bool) (F : Value) (w : World) (hx : okB x = false) : Calls Try.prog 24 #[.agg (cells x), .bool fine, F] w fun e w' => e = .returned (.tuple #[.agg (cells none7), .int .i64 2]) ∧ Below w.heap.size w w' := by
  have hb : Below w.heap.size w ((w.alloc (.cells (cells x) 23)).alloc (.cells (cells none7) 23)) := ((Below.refl _ _).alloc (Nat.le_refl _) _).alloc (by simp) _
  have ha := (At.new w x).alloc (.cells (cells none7) 23)
  have hn := At.new (w.alloc (.cells (cells x) 23)) none7
  rw [show (w.alloc (.cells (cells x) 23)).heap.size = w.heap.size + 1 from by simp] at hn
  have hs : ((w.alloc (.cells (cells x) 23)).alloc (.cells (cells none7) 23)).heap.size = w.heap.size + 2 := by simp
  go_enter Try.func24, Try.ntmps24
  go_wp2_with fail
  refine (sound _ _).mono ?_
  rintro e w1 ⟨rfl, b1⟩
  rw [hx]
  replace b1 : Below ((w.alloc (.cells (cells x) 23)).alloc (.cells (cells none7) 23)).heap.size ((w.alloc (.cells (cells x) 23)).alloc (.cells (cells none7) 23)) w1 := b1
  rw [hs] at b1
  have h2 := hn.below b1 (by omega)
  have hw : w.heap.size + 2 ≤ w1.heap.size := by have := b1.size; omega
  have hb1 := hb.trans (b1.mono (by omega))
  clear hb ha hn b1
  go_wp2_with (refine wpList_store_row rfl 23 _ _ rfl (w.heap.size + 1) (cells none7) rfl rfl 23 _ h2 (by kernel_rfl) rfl (cells_one _) ?_)
  exact end_way (p := 6) (u := 7) (c := .int .i64 2) (by kernel_rfl) rfl h2.row rfl rfl ⟨rfl, below_setRow hb1 (by omega) _⟩

set_option maxRecDepth 100000 in
set_option maxHeartbeats 1600000 in
theorem changedArg (x : Wy) (F : Value) (w : World) (hx : okB x = true) : Calls Try.prog 24 #[.agg (cells x), .bool false, F] w fun e w' => e = .returned (.tuple #[.agg (cells none7), .int .i64 1]) ∧ Below w.heap.size w w' := by
  have hb : Below w.heap.size w ((w.alloc (.cells (cells x) 23)).alloc (.cells (cells none7) 23)) := ((Below.refl _ _).alloc (Nat.le_refl _) _).alloc (by simp) _
  have ha := (At.new w x).alloc (.cells (cells none7) 23)
  have hn := At.new (w.alloc (.cells (cells x) 23)) none7
  rw [show (w.alloc (.cells (cells x) 23)).heap.size = w.heap.size + 1 from by simp] at hn
  have hs : ((w.alloc (.cells (cells x) 23)).alloc (.cells (cells none7) 23)).heap.size = w.heap.size + 2 := by simp
  go_enter Try.func24, Try.ntmps24
  go_wp2_with fail
  refine (sound _ _).mono ?_
  rintro e w1 ⟨rfl, b1⟩
  rw [hx]
  replace b1 : Below ((w.alloc (.cells (cells x) 23)).alloc (.cells (cells none7) 23)).heap.size ((w.alloc (.cells (cells x) 23)).alloc (.cells (cells none7) 23)) w1 := b1
  rw [hs] at b1
  have h2 := hn.below b1 (by omega)
  have hw : w.heap.size + 2 ≤ w1.heap.size := by have := b1.size; omega
  have hb1 := hb.trans (b1.mono (by omega))
  clear hb ha hn b1
  go_wp2_with (refine wpList_store_row rfl 23 _ _ rfl (w.heap.size + 1) (cells none7) rfl rfl 23 _ h2 (by kernel_rfl) rfl (cells_one _) ?_)
  exact end_way (p := 6) (u := 7) (c := .int .i64 1) (by kernel_rfl) rfl h2.row rfl rfl ⟨rfl, below_setRow hb1 (by omega) _⟩

set_option maxRecDepth 100000 in
set_option maxHeartbeats 1600000 in
theorem changed28 (x : Wy) (w : World) (hx : okB x = true) : Calls Try.prog 24 #[.agg (cells x), .bool true, .func (.func 28) #[] #[]] w fun e w' => e = .returned (.tuple #[.agg (cells (lated x)), .int .i64 0]) ∧ Below w.heap.size w w' := by
  have hb : Below w.heap.size w ((w.alloc (.cells (cells x) 23)).alloc (.cells (cells none7) 23)) := ((Below.refl _ _).alloc (Nat.le_refl _) _).alloc (by simp) _
  have ha := (At.new w x).alloc (.cells (cells none7) 23)
  have hn := At.new (w.alloc (.cells (cells x) 23)) none7
  rw [show (w.alloc (.cells (cells x) 23)).heap.size = w.heap.size + 1 from by simp] at hn
  have hs : ((w.alloc (.cells (cells x) 23)).alloc (.cells (cells none7) 23)).heap.size = w.heap.size + 2 := by simp
  go_enter Try.func24, Try.ntmps24
  go_wp2_with fail
  refine (sound _ _).mono ?_
  rintro e w1 ⟨rfl, b1⟩
  rw [hx]
  replace b1 : Below ((w.alloc (.cells (cells x) 23)).alloc (.cells (cells none7) 23)).heap.size ((w.alloc (.cells (cells x) 23)).alloc (.cells (cells none7) 23)) w1 := b1
  rw [hs] at b1
  have h1 := ha.below b1 (by omega)
  have h2 := hn.below b1 (by omega)
  have hw : w.heap.size + 2 ≤ w1.heap.size := by have := b1.size; omega
  have hb1 := hb.trans (b1.mono (by omega))
  clear hb ha hn b1
  go_wp2_with fail
  refine (late1 _ _ x h1 hx).mono ?_
  rintro e u ⟨⟨v, rfl⟩, h3, g3⟩
  have h4 := h2.grown g3 (by omega)
  have hb3 := below_grown hb1 g3 (by omega) (Nat.le_refl _)
  clear h1 h2 g3 hb1
  go_wp2_with (first | (refine wpList_load_row rfl 23 _ rfl w.heap.size rfl 23 _ _ _ h3 Try.underlying23 rfl (by kernel_rfl) ?_) | (refine wpList_store_row rfl 23 _ _ rfl (w.heap.size + 1) (cells (lated x)) rfl rfl 23 _ h4 (by kernel_rfl) rfl (cells_one _) ?_))
  exact end_way (p := 6) (u := 7) (c := .int .i64 0) (by kernel_rfl) rfl h4.row rfl rfl ⟨rfl, below_setRow hb3 (by omega) _⟩

set_option maxRecDepth 100000 in
set_option maxHeartbeats 1600000 in
theorem changed29 (x : Wy) (w : World) (hx : okB x = true) : Calls Try.prog 24 #[.agg (cells x), .bool true, .func (.func 29) #[] #[]] w fun e w' => e = .returned (.tuple #[.agg (cells (halved x)), .int .i64 0]) ∧ Below w.heap.size w w' := by
  have hb : Below w.heap.size w ((w.alloc (.cells (cells x) 23)).alloc (.cells (cells none7) 23)) := ((Below.refl _ _).alloc (Nat.le_refl _) _).alloc (by simp) _
  have ha := (At.new w x).alloc (.cells (cells none7) 23)
  have hn := At.new (w.alloc (.cells (cells x) 23)) none7
  rw [show (w.alloc (.cells (cells x) 23)).heap.size = w.heap.size + 1 from by simp] at hn
  have hs : ((w.alloc (.cells (cells x) 23)).alloc (.cells (cells none7) 23)).heap.size = w.heap.size + 2 := by simp
  go_enter Try.func24, Try.ntmps24
  go_wp2_with fail
  refine (sound _ _).mono ?_
  rintro e w1 ⟨rfl, b1⟩
  rw [hx]
  replace b1 : Below ((w.alloc (.cells (cells x) 23)).alloc (.cells (cells none7) 23)).heap.size ((w.alloc (.cells (cells x) 23)).alloc (.cells (cells none7) 23)) w1 := b1
  rw [hs] at b1
  have h1 := ha.below b1 (by omega)
  have h2 := hn.below b1 (by omega)
  have hw : w.heap.size + 2 ≤ w1.heap.size := by have := b1.size; omega
  have hb1 := hb.trans (b1.mono (by omega))
  clear hb ha hn b1
  go_wp2_with fail
  refine (halve _ _ x h1 (by have := (okB_iff x).1 hx; omega)).mono ?_
  rintro e u ⟨⟨v, rfl⟩, h3, g3⟩
  have h4 := h2.grown g3 (by omega)
  have hb3 := below_grown hb1 g3 (by omega) (Nat.le_refl _)
  clear h1 h2 g3 hb1
  go_wp2_with (first | (refine wpList_load_row rfl 23 _ rfl w.heap.size rfl 23 _ _ _ h3 Try.underlying23 rfl (by kernel_rfl) ?_) | (refine wpList_store_row rfl 23 _ _ rfl (w.heap.size + 1) (cells (halved x)) rfl rfl 23 _ h4 (by kernel_rfl) rfl (cells_one _) ?_))
  exact end_way (p := 6) (u := 7) (c := .int .i64 0) (by kernel_rfl) rfl h4.row rfl rfl ⟨rfl, below_setRow hb3 (by omega) _⟩
end Go.Proofs.Ytljalbcmhcagaaa.Way
