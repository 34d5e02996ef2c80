/-
  BLOCKS OF CELLS IN MEMORY: a block g that holds the row cs; what stays of it; how a call ends that answers out of such a block. No program is looked into here.
-/
import Derived.Test.YtjfponhdlfhmbaaMem
import Derived.Laws.Tables
import Derived.Laws.StructEq
import Derived.Laws.CopyOwn
namespace Go.Proofs.Ytjfponhdlfhmbaa.Cells
open Go.RowKit
set_option linter.unusedVariables false

/-- The block g holds the cells cs, of the type ty. -/
def At (u : World) (g : Nat) (ty : TypeId) (cs : Array Value) : Prop := u.heap[g]? = some (.cells cs ty (0, 0))
section
variable {u u' : World} {g k : Nat} {ty : TypeId} {cs ds : Array Value}
theorem At.cell (h : At u g ty cs) (j : Nat) : u.cell? ⟨g, j, none⟩ = cs[j]? := cell_of_row u g j _ ty (0, 0) h
theorem At.free (h : At u g ty cs) (j : Nat) : u.frozen? ⟨g, j, none⟩ = false := by simp [World.frozen?, show u.heap[g]? = _ from h]
theorem At.lt (h : At u g ty cs) : g < u.heap.size := (Array.getElem?_eq_some_iff.1 h).1
theorem At.below {B : Nat} (h : At u g ty cs) (hb : Below B u u') (hg : g < B) : At u' g ty cs := by unfold At; rw [hb.block _ hg]; exact h
theorem At.ext (h : At u g ty cs) (hb : Below u.heap.size u u') : At u' g ty cs := h.below hb h.lt
theorem At.grown (h : At u g ty cs) (hg : u.grownBy u' (some k)) (hn : g ≠ k) : At u' g ty cs := by unfold At; rw [hg.block _ h.lt (by simpa using hn)]; exact h
theorem At.alloc (h : At u g ty cs) (o : Obj) : At (u.alloc o) g ty cs := by unfold At; rw [Below.heap_alloc _ _ _ h.lt]; exact h
theorem At.drew (h : At u g ty cs) : At u.drew g ty cs := h
theorem At.new (u : World) (ty : TypeId) (cs : Array Value) : At (u.alloc (.cells cs ty)) u.heap.size ty cs := Array.getElem?_push_size
theorem At.new1 (u : World) (o : Obj) (ty : TypeId) (cs : Array Value) : At ((u.alloc o).alloc (.cells cs ty)) (u.heap.size + 1) ty cs := by
  have := At.new (u.alloc o) ty cs
  rwa [show (u.alloc o).heap.size = u.heap.size + 1 from by simp] at this
theorem At.new2 (u : World) (o o' : Obj) (ty : TypeId) (cs : Array Value) : At (((u.alloc o).alloc o').alloc (.cells cs ty)) (u.heap.size + 1 + 1) ty cs := by
  have := At.new ((u.alloc o).alloc o') ty cs
  rwa [show ((u.alloc o).alloc o').heap.size = u.heap.size + 1 + 1 from by simp] at this
theorem At.new3 (u : World) (o o' o'' : Obj) (ty : TypeId) (cs : Array Value) : At ((((u.alloc o).alloc o').alloc o'').alloc (.cells cs ty)) (u.heap.size + 1 + 1 + 1) ty cs := by
  have := At.new (((u.alloc o).alloc o').alloc o'') ty cs
  rwa [show (((u.alloc o).alloc o').alloc o'').heap.size = u.heap.size + 1 + 1 + 1 from by simp] at this
theorem At.row (h : At u g ty cs) : At (u.setRow g ds) g ty ds := setRow_heap _ _ _ _ _ _ h
theorem At.row_other (h : At u g ty cs) (hn : g ≠ k) : At (u.setRow k ds) g ty cs := by unfold At; rw [setRow_other _ _ _ _ hn]; exact h
theorem At.set {j : Nat} {v : Value} (h : At u g ty cs) (e : cs.set! j v = ds) : At (u.setCell ⟨g, j, none⟩ v) g ty ds := by
  unfold At
  rw [setCell_eq_setRow _ _ _ _ _ _ _ h, setRow_heap _ _ _ _ _ _ h]
  exact congrArg (fun c => some (Obj.cells c ty (0, 0))) e
theorem At.other {j : Nat} {v : Value} (h : At u g ty cs) (hn : g ≠ k) : At (u.setCell ⟨k, j, none⟩ v) g ty cs := by unfold At; rw [Below.heap_setCell _ _ _ _ hn]; exact h
theorem At.of (h : At u g ty cs) (e : cs = ds) : At u g ty ds := e ▸ h
end

theorem grown_refl (u : World) (r : Option Nat) : u.grownBy u r := ⟨rfl, rfl, rfl, Nat.le_refl _, fun _ _ _ => rfl⟩
theorem grown_setCell {u u' : World} {g j : Nat} {v : Value} (h : u.grownBy u' (some g)) : u.grownBy (u'.setCell ⟨g, j, none⟩ v) (some g) :=
  ⟨h.os, h.tape, h.output, by simpa [World.setCell] using h.size, fun k hk hn => (Below.heap_setCell _ _ _ _ (fun e => hn (by rw [e]))).trans (h.block k hk hn)⟩
theorem grown_drew {u u' : World} {r : Option Nat} (h : u.grownBy u' r) : u.grownBy u'.drew r := ⟨h.os, h.tape, h.output, h.size, h.block⟩
theorem grown_trans {a b c : World} {r : Option Nat} (h : a.grownBy b r) (k : b.grownBy c r) : a.grownBy c r :=
  ⟨k.os.trans h.os, k.tape.trans h.tape, k.output.trans h.output, Nat.le_trans h.size k.size, fun i hi hn => (k.block i (Nat.lt_of_lt_of_le hi h.size) hn).trans (h.block i hi hn)⟩
theorem grown_below {a b : World} (r : Option Nat) (h : Below a.heap.size a b) : a.grownBy b r := ⟨h.os, h.tape, h.output, h.size, fun k hk _ => h.block k hk⟩
/-- A world in which only new blocks, and blocks from B on, have turned. -/
theorem below_grown {B : Nat} {a w w' : World} {g : Nat} (h : Below B a w) (hg : w.grownBy w' (some g)) (hB : B ≤ w.heap.size) (hr : B ≤ g) : Below B a w' := h.grown hg hB (fun k e => by cases e; exact hr)
theorem below_of {a b : World} {k : Nat} (h : Below a.heap.size a b) (hk : a.heap.size = k) : Below k a b := hk ▸ h

section
variable {P : Program} {fn : Func} {p u : Tmp} {a : Act} {w : World} {g : Nat} {ty : TypeId} {d : TypeDesc} {cs : Array Value} {c : Value} {R : Ending → World → Prop}
/-- A call that answers a struct out of its cell. -/
theorem end_cell (h : fn.results = #[.cell p ty]) (hp : a.tmps.getD p undef = .pointer (some ⟨g, 0, none⟩)) (hat : At w g ty cs)
    (hu : P.underlying ty = some d) (hd : (match d with | .struct _ | .array _ _ => true | _ => false) = true) (hi : (P.info? ty).map (·.size) = some cs.size)
    (hdf : a.defers = []) (hR : R (.returned (.agg cs)) w) : bodyPost P fn R Exit.ret a w :=
  ⟨hdf, _, results_cell_row h _ _ g ty cs (0, 0) _ hp hat hu hd hi, hR⟩
/-- A call that answers a struct out of its cell, and one value more. -/
theorem end_cell_tmp (h : fn.results = #[.cell p ty, .tmp u]) (hp : a.tmps.getD p undef = .pointer (some ⟨g, 0, none⟩)) (hat : At w g ty cs)
    (hu : P.underlying ty = some d) (hd : (match d with | .struct _ | .array _ _ => true | _ => false) = true) (hi : (P.info? ty).map (·.size) = some cs.size)
    (hc : a.tmps.getD u undef = c) (hdf : a.defers = []) (hR : R (.returned (.tuple #[.agg cs, c])) w) : bodyPost P fn R Exit.ret a w := by
  refine ⟨hdf, _, ?_, hR⟩
  rw [results_cell_tmp h, hp, hc]
  simp only [asAddr]
  rw [show (Sem.run P (pure (⟨g, 0, none⟩ : Addr)) w) = .ok ⟨g, 0, none⟩ w from rfl]
  show ((loadVar ty ⟨g, 0, none⟩).run P w).andThen _ = _
  rw [run_loadVar_row w g ty ty _ (0, 0) _ hat hu hd hi]
  rfl
end
end Go.Proofs.Ytjfponhdlfhmbaa.Cells
