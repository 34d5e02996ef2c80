/-
  The reference's table in memory.
-/
import Derived.Test.YtamemmbcdkhdhaaStep5
import Derived.Great.BuildSlice
import Derived.Deep.Cut
namespace Go.Proofs.Ytamemmbcdkhdhaa.Peer
open Go.RowKit Mem Cells
set_option linter.unusedVariables false
set_option linter.unusedSimpArgs false

abbrev TRow := Int × Int × Int × Int × List Int
def objOf (r : TRow) : Obj := .cells (r.2.2.2.2.map (Value.int .i64)).toArray 3
def allocs (w : World) (l : List Obj) : World := l.foldl World.alloc w
theorem size_allocs (w : World) (l : List Obj) : (allocs w l).heap.size = w.heap.size + l.length := by
  induction l generalizing w with
  | nil => rfl
  | cons o l ih => show (allocs (w.alloc o) l).heap.size = _; rw [ih]; simp; omega
theorem heap_allocs (w : World) (l : List Obj) (i : Nat) (h : i < l.length) : (allocs w l).heap[w.heap.size + i]? = l[i]? := by
  induction l generalizing w i with
  | nil => simp at h
  | cons o l ih =>
    show (allocs (w.alloc o) l).heap[w.heap.size + i]? = _
    cases i with
    | zero =>
      have key : ∀ (l : List Obj) (v : World) (j : Nat), j < v.heap.size → (allocs v l).heap[j]? = v.heap[j]? := by
        intro l
        induction l with
        | nil => intro v j _; rfl
        | cons o l ih => intro v j hj; show (allocs (v.alloc o) l).heap[j]? = _; rw [ih _ _ (by simp; omega), Below.heap_alloc _ _ _ hj]
      rw [key _ _ _ (by simp)]
      exact Array.getElem?_push_size
    | succ i =>
      have := ih (w.alloc o) i (by simpa using h)
      rw [show (w.alloc o).heap.size + i = w.heap.size + (i + 1) from by simp; omega] at this
      simpa using this
theorem below_allocs (w : World) (l : List Obj) : Below w.heap.size w (allocs w l) := by
  have key : ∀ (l : List Obj) (v : World), Below w.heap.size w v → Below w.heap.size w (allocs v l) := by
    intro l
    induction l with
    | nil => intro v h; exact h
    | cons o l ih => intro v h; exact ih _ (h.alloc h.size o)
  exact key l w (Below.refl _ _)
/-- The world with i of the table's lists. -/
def tb (w : World) (i : Nat) : World := allocs w ((rows.take i).map objOf)
theorem size_tb (w : World) (i : Nat) (h : i ≤ 35) : (tb w i).heap.size = w.heap.size + i := by
  unfold tb
  rw [size_allocs, List.length_map, List.length_take]
  have : rows.length = 35 := by decide +kernel
  omega
theorem tb_succ (w : World) (i : Nat) (r : TRow) (h : rows[i]? = some r) : (tb w i).alloc (objOf r) = tb w (i + 1) := by
  unfold tb
  rw [List.take_add_one, h]
  simp [allocs]
def rowCells (B : Nat) (i : Nat) (r : TRow) : List Value := [.int .i64 r.1, .int .i64 r.2.1, .int .i64 r.2.2.1, .int .i64 r.2.2.2.1, .slice (some ⟨B + i, 0, none⟩) r.2.2.2.2.length r.2.2.2.2.length]
def bigList (B : Nat) : Nat → List TRow → List Value
  | _, [] => []
  | i, r :: l => rowCells B i r ++ bigList B (i + 1) l
def bigCells (B : Nat) : Array Value := (bigList B 0 rows).toArray

theorem wpl_val {P : Program} {ops : Array Oper} {rest : List Oper} {o : Oper} {a : Act} {w : World} {Q : Exit → Act → World → Prop} (hg : o.guard = none) (v : Value)
    (hr : (execOp a.eval o).run P w = .ok (.value v) w) (h : wpList P ops Q rest (a.put o.dst v) w) : wpList P ops Q (o :: rest) a w :=
  wpList_plain hg fun _ hK => by
    unfold Oper.wp
    rw [hr]
    exact hK _ _ h
theorem end_tmp {P : Program} {fn : Func} {R : Ending → World → Prop} {a : Act} {w : World} {t : Tmp} {v : Value} (h : fn.results = #[.tmp t]) (hv : a.tmps.getD t undef = v) (hd : a.defers = []) (hR : R (.returned v) w) : bodyPost P fn R Exit.ret a w :=
  bodyPost_ret (results_tmp h _ _ _) hd (by rw [hv]; exact hR)
theorem build_at {ops : Array Oper} {rest : List Oper} {o : Oper} {a : Act} {w : World} {Q : Exit → Act → World → Prop} (hg : o.guard = none) (t : TypeId) (parts : Array (Nat × Operand)) (ho : o.op = .build t parts)
    (cells : Array Value) (hf : Try.prog.built t (parts.map fun (i, x) => (i, a.eval x)).toList = some cells) (d : Option Tmp) (hd : o.dst = d)
    (h : wpList Try.prog ops Q rest (a.put d (.agg cells)) w) : wpList Try.prog ops Q (o :: rest) a w := by
  refine wpList_build hg t parts ho (by rw [hf]; rfl) ?_
  rw [hf, hd]
  exact h
theorem info46 : (Try.prog.info? 46).map (fun i => (i.zero, i.size)) = some (some (.agg #[.int .i64 0, .int .i64 0, .int .i64 0, .int .i64 0, .slice none 0 0]), 5) := by kernel_rfl

set_option maxRecDepth 100000 in
set_option maxHeartbeats 3200000 in
theorem rows_ (w : World) : Calls Try.prog 19 #[] w fun e w' => e = .returned (.slice (some ⟨w.heap.size + 35, 0, none⟩) 35 35) ∧ w' = (tb w 35).alloc (.cells (bigCells w.heap.size) 46) := by
  obtain ⟨ie, hie, hz, hsz⟩ : ∃ ie, Try.prog.info? 46 = some ie ∧ ie.zero = some (.agg #[.int .i64 0, .int .i64 0, .int .i64 0, .int .i64 0, .slice none 0 0]) ∧ ie.size = 5 := by
    have := info46
    cases h : Try.prog.info? 46 with
    | none => rw [h] at this; cases this
    | some ie => rw [h] at this; simp at this; exact ⟨ie, rfl, this⟩
  have HZ := Lib.hid hz
  have HS := Lib.hid hsz
  have HI := Lib.hid hie
  clear hz hsz hie
  go_enter Try.func19, Try.ntmps19
  change Code.wp _ _ _ _ (tb w 0)
  go_upto_region 1 with fail
  go_step
  refine wpList_buildFlatAt rfl 22 3 1 _ rfl .i64 [1] (w.heap.size + 0) (size_tb w 0 (by decide)) (some 1) rfl Try.underlying22 (by kernel_rfl) (by kernel_rfl) rfl (by decide) (by decide) rfl ?_
  rw [show (tb w 0).alloc (.cells ([1].map (Value.int .i64)).toArray 3) = tb w 1 from tb_succ w 0 (0, 1, 0, 1, [1]) rfl]
  refine build_at rfl 46 _ rfl #[.int .i64 0, .int .i64 1, .int .i64 0, .int .i64 1, .slice (some ⟨w.heap.size + 0, 0, none⟩) 1 1] (by kernel_rfl) (some 2) rfl ?_
  refine wpList_buildFlatAt rfl 22 3 2 _ rfl .i64 [3, 4] (w.heap.size + 1) (size_tb w 1 (by decide)) (some 3) rfl Try.underlying22 (by kernel_rfl) (by kernel_rfl) rfl (by decide) (by decide) rfl ?_
  rw [show (tb w 1).alloc (.cells ([3, 4].map (Value.int .i64)).toArray 3) = tb w 2 from tb_succ w 1 (0, 2, 0, 6, [3, 4]) rfl]
  refine build_at rfl 46 _ rfl #[.int .i64 0, .int .i64 2, .int .i64 0, .int .i64 6, .slice (some ⟨w.heap.size + 1, 0, none⟩) 2 2] (by kernel_rfl) (some 4) rfl ?_
  refine wpList_buildFlatAt rfl 22 3 1 _ rfl .i64 [2] (w.heap.size + 2) (size_tb w 2 (by decide)) (some 5) rfl Try.underlying22 (by kernel_rfl) (by kernel_rfl) rfl (by decide) (by decide) rfl ?_
  rw [show (tb w 2).alloc (.cells ([2].map (Value.int .i64)).toArray 3) = tb w 3 from tb_succ w 2 (1, 3, 0, 2, [2]) rfl]
  refine build_at rfl 46 _ rfl #[.int .i64 1, .int .i64 3, .int .i64 0, .int .i64 2, .slice (some ⟨w.heap.size + 2, 0, none⟩) 1 1] (by kernel_rfl) (some 6) rfl ?_
  refine wpList_buildFlatAt rfl 22 3 1 _ rfl .i64 [11] (w.heap.size + 3) (size_tb w 3 (by decide)) (some 7) rfl Try.underlying22 (by kernel_rfl) (by kernel_rfl) rfl (by decide) (by decide) rfl ?_
  rw [show (tb w 3).alloc (.cells ([11].map (Value.int .i64)).toArray 3) = tb w 4 from tb_succ w 3 (1, 4, 0, 0, [11]) rfl]
  refine build_at rfl 46 _ rfl #[.int .i64 1, .int .i64 4, .int .i64 0, .int .i64 0, .slice (some ⟨w.heap.size + 3, 0, none⟩) 1 1] (by kernel_rfl) (some 8) rfl ?_
  refine wpList_buildFlatAt rfl 22 3 1 _ rfl .i64 [11] (w.heap.size + 4) (size_tb w 4 (by decide)) (some 9) rfl Try.underlying22 (by kernel_rfl) (by kernel_rfl) rfl (by decide) (by decide) rfl ?_
  rw [show (tb w 4).alloc (.cells ([11].map (Value.int .i64)).toArray 3) = tb w 5 from tb_succ w 4 (1, 5, 0, 0, [11]) rfl]
  refine build_at rfl 46 _ rfl #[.int .i64 1, .int .i64 5, .int .i64 0, .int .i64 0, .slice (some ⟨w.heap.size + 4, 0, none⟩) 1 1] (by kernel_rfl) (some 10) rfl ?_
  refine wpList_buildFlatAt rfl 22 3 1 _ rfl .i64 [3] (w.heap.size + 5) (size_tb w 5 (by decide)) (some 11) rfl Try.underlying22 (by kernel_rfl) (by kernel_rfl) rfl (by decide) (by decide) rfl ?_
  rw [show (tb w 5).alloc (.cells ([3].map (Value.int .i64)).toArray 3) = tb w 6 from tb_succ w 5 (1, 2, 0, 3, [3]) rfl]
  refine build_at rfl 46 _ rfl #[.int .i64 1, .int .i64 2, .int .i64 0, .int .i64 3, .slice (some ⟨w.heap.size + 5, 0, none⟩) 1 1] (by kernel_rfl) (some 12) rfl ?_
  refine wpList_buildFlatAt rfl 22 3 1 _ rfl .i64 [10] (w.heap.size + 6) (size_tb w 6 (by decide)) (some 13) rfl Try.underlying22 (by kernel_rfl) (by kernel_rfl) rfl (by decide) (by decide) rfl ?_
  rw [show (tb w 6).alloc (.cells ([10].map (Value.int .i64)).toArray 3) = tb w 7 from tb_succ w 6 (2, 6, 0, 5, [10]) rfl]
  refine build_at rfl 46 _ rfl #[.int .i64 2, .int .i64 6, .int .i64 0, .int .i64 5, .slice (some ⟨w.heap.size + 6, 0, none⟩) 1 1] (by kernel_rfl) (some 14) rfl ?_
  refine wpList_buildFlatAt rfl 22 3 3 _ rfl .i64 [3, 6, 4] (w.heap.size + 7) (size_tb w 7 (by decide)) (some 15) rfl Try.underlying22 (by kernel_rfl) (by kernel_rfl) rfl (by decide) (by decide) rfl ?_
  rw [show (tb w 7).alloc (.cells ([3, 6, 4].map (Value.int .i64)).toArray 3) = tb w 8 from tb_succ w 7 (2, 2, 1, 6, [3, 6, 4]) rfl]
  refine build_at rfl 46 _ rfl #[.int .i64 2, .int .i64 2, .int .i64 1, .int .i64 6, .slice (some ⟨w.heap.size + 7, 0, none⟩) 3 3] (by kernel_rfl) (some 16) rfl ?_
  refine wpList_buildFlatAt rfl 22 3 1 _ rfl .i64 [3] (w.heap.size + 8) (size_tb w 8 (by decide)) (some 17) rfl Try.underlying22 (by kernel_rfl) (by kernel_rfl) rfl (by decide) (by decide) rfl ?_
  rw [show (tb w 8).alloc (.cells ([3].map (Value.int .i64)).toArray 3) = tb w 9 from tb_succ w 8 (2, 2, 2, 4, [3]) rfl]
  refine build_at rfl 46 _ rfl #[.int .i64 2, .int .i64 2, .int .i64 2, .int .i64 4, .slice (some ⟨w.heap.size + 8, 0, none⟩) 1 1] (by kernel_rfl) (some 18) rfl ?_
  refine wpList_buildFlatAt rfl 22 3 1 _ rfl .i64 [11] (w.heap.size + 9) (size_tb w 9 (by decide)) (some 19) rfl Try.underlying22 (by kernel_rfl) (by kernel_rfl) rfl (by decide) (by decide) rfl ?_
  rw [show (tb w 9).alloc (.cells ([11].map (Value.int .i64)).toArray 3) = tb w 10 from tb_succ w 9 (2, 7, 0, 0, [11]) rfl]
  refine build_at rfl 46 _ rfl #[.int .i64 2, .int .i64 7, .int .i64 0, .int .i64 0, .slice (some ⟨w.heap.size + 9, 0, none⟩) 1 1] (by kernel_rfl) (some 20) rfl ?_
  refine wpList_buildFlatAt rfl 22 3 2 _ rfl .i64 [6, 11] (w.heap.size + 10) (size_tb w 10 (by decide)) (some 21) rfl Try.underlying22 (by kernel_rfl) (by kernel_rfl) rfl (by decide) (by decide) rfl ?_
  rw [show (tb w 10).alloc (.cells ([6, 11].map (Value.int .i64)).toArray 3) = tb w 11 from tb_succ w 10 (2, 5, 0, 0, [6, 11]) rfl]
  refine build_at rfl 46 _ rfl #[.int .i64 2, .int .i64 5, .int .i64 0, .int .i64 0, .slice (some ⟨w.heap.size + 10, 0, none⟩) 2 2] (by kernel_rfl) (some 22) rfl ?_
  refine wpList_buildFlatAt rfl 22 3 3 _ rfl .i64 [2, 6, 4] (w.heap.size + 11) (size_tb w 11 (by decide)) (some 23) rfl Try.underlying22 (by kernel_rfl) (by kernel_rfl) rfl (by decide) (by decide) rfl ?_
  rw [show (tb w 11).alloc (.cells ([2, 6, 4].map (Value.int .i64)).toArray 3) = tb w 12 from tb_succ w 11 (3, 3, 1, 6, [2, 6, 4]) rfl]
  refine build_at rfl 46 _ rfl #[.int .i64 3, .int .i64 3, .int .i64 1, .int .i64 6, .slice (some ⟨w.heap.size + 11, 0, none⟩) 3 3] (by kernel_rfl) (some 24) rfl ?_
  refine wpList_buildFlatAt rfl 22 3 1 _ rfl .i64 [2] (w.heap.size + 12) (size_tb w 12 (by decide)) (some 25) rfl Try.underlying22 (by kernel_rfl) (by kernel_rfl) rfl (by decide) (by decide) rfl ?_
  rw [show (tb w 12).alloc (.cells ([2].map (Value.int .i64)).toArray 3) = tb w 13 from tb_succ w 12 (3, 3, 2, 4, [2]) rfl]
  refine build_at rfl 46 _ rfl #[.int .i64 3, .int .i64 3, .int .i64 2, .int .i64 4, .slice (some ⟨w.heap.size + 12, 0, none⟩) 1 1] (by kernel_rfl) (some 26) rfl ?_
  refine wpList_buildFlatAt rfl 22 3 1 _ rfl .i64 [4] (w.heap.size + 13) (size_tb w 13 (by decide)) (some 27) rfl Try.underlying22 (by kernel_rfl) (by kernel_rfl) rfl (by decide) (by decide) rfl ?_
  rw [show (tb w 13).alloc (.cells ([4].map (Value.int .i64)).toArray 3) = tb w 14 from tb_succ w 13 (3, 4, 0, 6, [4]) rfl]
  refine build_at rfl 46 _ rfl #[.int .i64 3, .int .i64 4, .int .i64 0, .int .i64 6, .slice (some ⟨w.heap.size + 13, 0, none⟩) 1 1] (by kernel_rfl) (some 28) rfl ?_
  refine wpList_buildFlatAt rfl 22 3 1 _ rfl .i64 [7] (w.heap.size + 14) (size_tb w 14 (by decide)) (some 29) rfl Try.underlying22 (by kernel_rfl) (by kernel_rfl) rfl (by decide) (by decide) rfl ?_
  rw [show (tb w 14).alloc (.cells ([7].map (Value.int .i64)).toArray 3) = tb w 15 from tb_succ w 14 (3, 8, 0, 1, [7]) rfl]
  refine build_at rfl 46 _ rfl #[.int .i64 3, .int .i64 8, .int .i64 0, .int .i64 1, .slice (some ⟨w.heap.size + 14, 0, none⟩) 1 1] (by kernel_rfl) (some 30) rfl ?_
  refine wpList_buildFlatAt rfl 22 3 1 _ rfl .i64 [5] (w.heap.size + 15) (size_tb w 15 (by decide)) (some 31) rfl Try.underlying22 (by kernel_rfl) (by kernel_rfl) rfl (by decide) (by decide) rfl ?_
  rw [show (tb w 15).alloc (.cells ([5].map (Value.int .i64)).toArray 3) = tb w 16 from tb_succ w 15 (3, 2, 0, 3, [5]) rfl]
  refine build_at rfl 46 _ rfl #[.int .i64 3, .int .i64 2, .int .i64 0, .int .i64 3, .slice (some ⟨w.heap.size + 15, 0, none⟩) 1 1] (by kernel_rfl) (some 32) rfl ?_
  refine wpList_buildFlatAt rfl 22 3 3 _ rfl .i64 [6, 7, 11] (w.heap.size + 16) (size_tb w 16 (by decide)) (some 33) rfl Try.underlying22 (by kernel_rfl) (by kernel_rfl) rfl (by decide) (by decide) rfl ?_
  rw [show (tb w 16).alloc (.cells ([6, 7, 11].map (Value.int .i64)).toArray 3) = tb w 17 from tb_succ w 16 (3, 5, 0, 0, [6, 7, 11]) rfl]
  refine build_at rfl 46 _ rfl #[.int .i64 3, .int .i64 5, .int .i64 0, .int .i64 0, .slice (some ⟨w.heap.size + 16, 0, none⟩) 3 3] (by kernel_rfl) (some 34) rfl ?_
  refine wpList_buildFlatAt rfl 22 3 1 _ rfl .i64 [4] (w.heap.size + 17) (size_tb w 17 (by decide)) (some 35) rfl Try.underlying22 (by kernel_rfl) (by kernel_rfl) rfl (by decide) (by decide) rfl ?_
  rw [show (tb w 17).alloc (.cells ([4].map (Value.int .i64)).toArray 3) = tb w 18 from tb_succ w 17 (4, 7, 0, 6, [4]) rfl]
  refine build_at rfl 46 _ rfl #[.int .i64 4, .int .i64 7, .int .i64 0, .int .i64 6, .slice (some ⟨w.heap.size + 17, 0, none⟩) 1 1] (by kernel_rfl) (some 36) rfl ?_
  refine wpList_buildFlatAt rfl 22 3 2 _ rfl .i64 [7, 10] (w.heap.size + 18) (size_tb w 18 (by decide)) (some 37) rfl Try.underlying22 (by kernel_rfl) (by kernel_rfl) rfl (by decide) (by decide) rfl ?_
  rw [show (tb w 18).alloc (.cells ([7, 10].map (Value.int .i64)).toArray 3) = tb w 19 from tb_succ w 18 (4, 6, 0, 5, [7, 10]) rfl]
  refine build_at rfl 46 _ rfl #[.int .i64 4, .int .i64 6, .int .i64 0, .int .i64 5, .slice (some ⟨w.heap.size + 18, 0, none⟩) 2 2] (by kernel_rfl) (some 38) rfl ?_
  refine wpList_buildFlatAt rfl 22 3 1 _ rfl .i64 [7] (w.heap.size + 19) (size_tb w 19 (by decide)) (some 39) rfl Try.underlying22 (by kernel_rfl) (by kernel_rfl) rfl (by decide) (by decide) rfl ?_
  rw [show (tb w 19).alloc (.cells ([7].map (Value.int .i64)).toArray 3) = tb w 20 from tb_succ w 19 (4, 8, 0, 2, [7]) rfl]
  refine build_at rfl 46 _ rfl #[.int .i64 4, .int .i64 8, .int .i64 0, .int .i64 2, .slice (some ⟨w.heap.size + 19, 0, none⟩) 1 1] (by kernel_rfl) (some 40) rfl ?_
  refine wpList_buildFlatAt rfl 22 3 1 _ rfl .i64 [5] (w.heap.size + 20) (size_tb w 20 (by decide)) (some 41) rfl Try.underlying22 (by kernel_rfl) (by kernel_rfl) rfl (by decide) (by decide) rfl ?_
  rw [show (tb w 20).alloc (.cells ([5].map (Value.int .i64)).toArray 3) = tb w 21 from tb_succ w 20 (4, 2, 0, 4, [5]) rfl]
  refine build_at rfl 46 _ rfl #[.int .i64 4, .int .i64 2, .int .i64 0, .int .i64 4, .slice (some ⟨w.heap.size + 20, 0, none⟩) 1 1] (by kernel_rfl) (some 42) rfl ?_
  refine wpList_buildFlatAt rfl 22 3 3 _ rfl .i64 [6, 7, 11] (w.heap.size + 21) (size_tb w 21 (by decide)) (some 43) rfl Try.underlying22 (by kernel_rfl) (by kernel_rfl) rfl (by decide) (by decide) rfl ?_
  rw [show (tb w 21).alloc (.cells ([6, 7, 11].map (Value.int .i64)).toArray 3) = tb w 22 from tb_succ w 21 (4, 5, 0, 0, [6, 7, 11]) rfl]
  refine build_at rfl 46 _ rfl #[.int .i64 4, .int .i64 5, .int .i64 0, .int .i64 0, .slice (some ⟨w.heap.size + 21, 0, none⟩) 3 3] (by kernel_rfl) (some 44) rfl ?_
  refine wpList_buildFlatAt rfl 22 3 1 _ rfl .i64 [5] (w.heap.size + 22) (size_tb w 22 (by decide)) (some 45) rfl Try.underlying22 (by kernel_rfl) (by kernel_rfl) rfl (by decide) (by decide) rfl ?_
  rw [show (tb w 22).alloc (.cells ([5].map (Value.int .i64)).toArray 3) = tb w 23 from tb_succ w 22 (5, 2, 0, 5, [5]) rfl]
  refine build_at rfl 46 _ rfl #[.int .i64 5, .int .i64 2, .int .i64 0, .int .i64 5, .slice (some ⟨w.heap.size + 22, 0, none⟩) 1 1] (by kernel_rfl) (some 46) rfl ?_
  refine wpList_buildFlatAt rfl 22 3 1 _ rfl .i64 [5] (w.heap.size + 23) (size_tb w 23 (by decide)) (some 47) rfl Try.underlying22 (by kernel_rfl) (by kernel_rfl) rfl (by decide) (by decide) rfl ?_
  rw [show (tb w 23).alloc (.cells ([5].map (Value.int .i64)).toArray 3) = tb w 24 from tb_succ w 23 (6, 2, 0, 6, [5]) rfl]
  refine build_at rfl 46 _ rfl #[.int .i64 6, .int .i64 2, .int .i64 0, .int .i64 6, .slice (some ⟨w.heap.size + 23, 0, none⟩) 1 1] (by kernel_rfl) (some 48) rfl ?_
  refine wpList_buildFlatAt rfl 22 3 1 _ rfl .i64 [8] (w.heap.size + 24) (size_tb w 24 (by decide)) (some 49) rfl Try.underlying22 (by kernel_rfl) (by kernel_rfl) rfl (by decide) (by decide) rfl ?_
  rw [show (tb w 24).alloc (.cells ([8].map (Value.int .i64)).toArray 3) = tb w 25 from tb_succ w 24 (5, 9, 0, 7, [8]) rfl]
  refine build_at rfl 46 _ rfl #[.int .i64 5, .int .i64 9, .int .i64 0, .int .i64 7, .slice (some ⟨w.heap.size + 24, 0, none⟩) 1 1] (by kernel_rfl) (some 50) rfl ?_
  refine wpList_buildFlatAt rfl 22 3 1 _ rfl .i64 [8] (w.heap.size + 25) (size_tb w 25 (by decide)) (some 51) rfl Try.underlying22 (by kernel_rfl) (by kernel_rfl) rfl (by decide) (by decide) rfl ?_
  rw [show (tb w 25).alloc (.cells ([8].map (Value.int .i64)).toArray 3) = tb w 26 from tb_succ w 25 (6, 9, 0, 7, [8]) rfl]
  refine build_at rfl 46 _ rfl #[.int .i64 6, .int .i64 9, .int .i64 0, .int .i64 7, .slice (some ⟨w.heap.size + 25, 0, none⟩) 1 1] (by kernel_rfl) (some 52) rfl ?_
  refine wpList_buildFlatAt rfl 22 3 3 _ rfl .i64 [9, 6, 11] (w.heap.size + 26) (size_tb w 26 (by decide)) (some 53) rfl Try.underlying22 (by kernel_rfl) (by kernel_rfl) rfl (by decide) (by decide) rfl ?_
  rw [show (tb w 26).alloc (.cells ([9, 6, 11].map (Value.int .i64)).toArray 3) = tb w 27 from tb_succ w 26 (5, 10, 0, 0, [9, 6, 11]) rfl]
  refine build_at rfl 46 _ rfl #[.int .i64 5, .int .i64 10, .int .i64 0, .int .i64 0, .slice (some ⟨w.heap.size + 26, 0, none⟩) 3 3] (by kernel_rfl) (some 54) rfl ?_
  refine wpList_buildFlatAt rfl 22 3 3 _ rfl .i64 [9, 7, 11] (w.heap.size + 27) (size_tb w 27 (by decide)) (some 55) rfl Try.underlying22 (by kernel_rfl) (by kernel_rfl) rfl (by decide) (by decide) rfl ?_
  rw [show (tb w 27).alloc (.cells ([9, 7, 11].map (Value.int .i64)).toArray 3) = tb w 28 from tb_succ w 27 (6, 11, 0, 0, [9, 7, 11]) rfl]
  refine build_at rfl 46 _ rfl #[.int .i64 6, .int .i64 11, .int .i64 0, .int .i64 0, .slice (some ⟨w.heap.size + 27, 0, none⟩) 3 3] (by kernel_rfl) (some 56) rfl ?_
  refine wpList_buildFlatAt rfl 22 3 1 _ rfl .i64 [11] (w.heap.size + 28) (size_tb w 28 (by decide)) (some 57) rfl Try.underlying22 (by kernel_rfl) (by kernel_rfl) rfl (by decide) (by decide) rfl ?_
  rw [show (tb w 28).alloc (.cells ([11].map (Value.int .i64)).toArray 3) = tb w 29 from tb_succ w 28 (5, 7, 0, 0, [11]) rfl]
  refine build_at rfl 46 _ rfl #[.int .i64 5, .int .i64 7, .int .i64 0, .int .i64 0, .slice (some ⟨w.heap.size + 28, 0, none⟩) 1 1] (by kernel_rfl) (some 58) rfl ?_
  refine wpList_buildFlatAt rfl 22 3 1 _ rfl .i64 [11] (w.heap.size + 29) (size_tb w 29 (by decide)) (some 59) rfl Try.underlying22 (by kernel_rfl) (by kernel_rfl) rfl (by decide) (by decide) rfl ?_
  rw [show (tb w 29).alloc (.cells ([11].map (Value.int .i64)).toArray 3) = tb w 30 from tb_succ w 29 (6, 8, 0, 0, [11]) rfl]
  refine build_at rfl 46 _ rfl #[.int .i64 6, .int .i64 8, .int .i64 0, .int .i64 0, .slice (some ⟨w.heap.size + 29, 0, none⟩) 1 1] (by kernel_rfl) (some 60) rfl ?_
  refine wpList_buildFlatAt rfl 22 3 3 _ rfl .i64 [6, 7, 11] (w.heap.size + 30) (size_tb w 30 (by decide)) (some 61) rfl Try.underlying22 (by kernel_rfl) (by kernel_rfl) rfl (by decide) (by decide) rfl ?_
  rw [show (tb w 30).alloc (.cells ([6, 7, 11].map (Value.int .i64)).toArray 3) = tb w 31 from tb_succ w 30 (7, 12, 0, 0, [6, 7, 11]) rfl]
  refine build_at rfl 46 _ rfl #[.int .i64 7, .int .i64 12, .int .i64 0, .int .i64 0, .slice (some ⟨w.heap.size + 30, 0, none⟩) 3 3] (by kernel_rfl) (some 62) rfl ?_
  refine wpList_buildFlatAt rfl 22 3 3 _ rfl .i64 [6, 7, 11] (w.heap.size + 31) (size_tb w 31 (by decide)) (some 63) rfl Try.underlying22 (by kernel_rfl) (by kernel_rfl) rfl (by decide) (by decide) rfl ?_
  rw [show (tb w 31).alloc (.cells ([6, 7, 11].map (Value.int .i64)).toArray 3) = tb w 32 from tb_succ w 31 (7, 5, 0, 0, [6, 7, 11]) rfl]
  refine build_at rfl 46 _ rfl #[.int .i64 7, .int .i64 5, .int .i64 0, .int .i64 0, .slice (some ⟨w.heap.size + 31, 0, none⟩) 3 3] (by kernel_rfl) (some 64) rfl ?_
  refine wpList_buildFlatAt rfl 22 3 1 _ rfl .i64 [11] (w.heap.size + 32) (size_tb w 32 (by decide)) (some 65) rfl Try.underlying22 (by kernel_rfl) (by kernel_rfl) rfl (by decide) (by decide) rfl ?_
  rw [show (tb w 32).alloc (.cells ([11].map (Value.int .i64)).toArray 3) = tb w 33 from tb_succ w 32 (7, 7, 0, 0, [11]) rfl]
  refine build_at rfl 46 _ rfl #[.int .i64 7, .int .i64 7, .int .i64 0, .int .i64 0, .slice (some ⟨w.heap.size + 32, 0, none⟩) 1 1] (by kernel_rfl) (some 66) rfl ?_
  refine wpList_buildFlatAt rfl 22 3 1 _ rfl .i64 [11] (w.heap.size + 33) (size_tb w 33 (by decide)) (some 67) rfl Try.underlying22 (by kernel_rfl) (by kernel_rfl) rfl (by decide) (by decide) rfl ?_
  rw [show (tb w 33).alloc (.cells ([11].map (Value.int .i64)).toArray 3) = tb w 34 from tb_succ w 33 (7, 8, 0, 0, [11]) rfl]
  refine build_at rfl 46 _ rfl #[.int .i64 7, .int .i64 8, .int .i64 0, .int .i64 0, .slice (some ⟨w.heap.size + 33, 0, none⟩) 1 1] (by kernel_rfl) (some 68) rfl ?_
  refine wpList_buildFlatAt rfl 22 3 1 _ rfl .i64 [5] (w.heap.size + 34) (size_tb w 34 (by decide)) (some 69) rfl Try.underlying22 (by kernel_rfl) (by kernel_rfl) rfl (by decide) (by decide) rfl ?_
  rw [show (tb w 34).alloc (.cells ([5].map (Value.int .i64)).toArray 3) = tb w 35 from tb_succ w 34 (7, 2, 0, 7, [5]) rfl]
  refine build_at rfl 46 _ rfl #[.int .i64 7, .int .i64 2, .int .i64 0, .int .i64 7, .slice (some ⟨w.heap.size + 34, 0, none⟩) 1 1] (by kernel_rfl) (some 70) rfl ?_
  refine wpList_buildSlice rfl 43 46 35 _ rfl (bigCells w.heap.size) ie _ Try.underlying43 HI.out HZ.out (by rw [HS.out]; decide) (by rw [HS.out]; decide) (by rw [HS.out]; kernel_rfl) ?_
  rw [size_tb w 35 (by decide)]
  refine wpl_val rfl (.slice (some ⟨w.heap.size + 35, 0, none⟩) 35 35) (by kernel_rfl) ?_
  refine wpList_nil ?_
  rename_i K hK
  refine hK _ _ ?_
  refine wp_ret ?_
  exact end_tmp (t := 0) (v := .slice (some ⟨w.heap.size + 35, 0, none⟩) 35 35) rfl (by kernel_rfl) (by kernel_rfl) ⟨rfl, rfl⟩

theorem lt35 {i : Nat} (h : i < 35) : i = 0 ∨ i = 1 ∨ i = 2 ∨ i = 3 ∨ i = 4 ∨ i = 5 ∨ i = 6 ∨ i = 7 ∨ i = 8 ∨ i = 9 ∨ i = 10 ∨ i = 11 ∨ i = 12 ∨ i = 13 ∨ i = 14 ∨ i = 15 ∨ i = 16 ∨ i = 17 ∨ i = 18 ∨ i = 19 ∨ i = 20 ∨ i = 21 ∨ i = 22 ∨ i = 23 ∨ i = 24 ∨ i = 25 ∨ i = 26 ∨ i = 27 ∨ i = 28 ∨ i = 29 ∨ i = 30 ∨ i = 31 ∨ i = 32 ∨ i = 33 ∨ i = 34 := by omega
theorem big_cell (B i j : Nat) (hi : i < 35) (hj : j < 5) : (bigCells B)[i * 5 + j]? = (rowCells B i (rows[i]'(by have : rows.length = 35 := by decide +kernel
                                                                                                                  omega)))[j]? := by
  have hj' : j = 0 ∨ j = 1 ∨ j = 2 ∨ j = 3 ∨ j = 4 := by omega
  rcases lt35 hi with rfl | rfl | rfl | rfl | rfl | rfl | rfl | rfl | rfl | rfl | rfl | rfl | rfl | rfl | rfl | rfl | rfl | rfl | rfl | rfl | rfl | rfl | rfl | rfl | rfl | rfl | rfl | rfl | rfl | rfl | rfl | rfl | rfl | rfl | rfl <;> rcases hj' with rfl | rfl | rfl | rfl | rfl <;> rfl
theorem rows_len : rows.length = 35 := by decide +kernel
def rowAt (i : Nat) : TRow := rows.getD i (0, 0, 0, 0, [])
theorem rowAt_eq {i : Nat} (h : i < 35) : rowAt i = rows[i]'(by rw [rows_len]; exact h) := by unfold rowAt; rw [List.getD_eq_getElem?_getD, List.getElem?_eq_getElem (by rw [rows_len]; exact h)]; rfl
/-- The table in memory, its head in the block g. -/
def Tab (W : World) (g : Nat) (lo : Nat) : Prop := g < W.heap.size ∧ ∀ i, i < 35 → W.cell? ⟨g, i * 5, none⟩ = some (.int .i64 (rowAt i).1) ∧ W.cell? ⟨g, i * 5 + 1, none⟩ = some (.int .i64 (rowAt i).2.1) ∧ W.cell? ⟨g, i * 5 + 2, none⟩ = some (.int .i64 (rowAt i).2.2.1) ∧
  W.cell? ⟨g, i * 5 + 3, none⟩ = some (.int .i64 (rowAt i).2.2.2.1) ∧ ∃ q, q + i = q + i ∧ W.cell? ⟨g, i * 5 + 4, none⟩ = some (.slice (some ⟨lo + i, 0, none⟩) (rowAt i).2.2.2.2.length (rowAt i).2.2.2.2.length) ∧ lo + i < W.heap.size ∧ Reads .i64 W (.slice (some ⟨lo + i, 0, none⟩) (rowAt i).2.2.2.2.length (rowAt i).2.2.2.2.length) (rowAt i).2.2.2.2
theorem Tab.ext {W W' : World} {g lo : Nat} (h : Tab W g lo) (hb : Below W.heap.size W W') : Tab W' g lo := by
  refine ⟨Nat.lt_of_lt_of_le h.1 hb.size, fun i hi => ?_⟩
  obtain ⟨h0, h1, h2, h3, q, _, h4, h5, h6⟩ := h.2 i hi
  exact ⟨(hb.cell (p := ⟨g, i * 5, none⟩) h.1).trans h0, (hb.cell (p := ⟨g, i * 5 + 1, none⟩) h.1).trans h1, (hb.cell (p := ⟨g, i * 5 + 2, none⟩) h.1).trans h2, (hb.cell (p := ⟨g, i * 5 + 3, none⟩) h.1).trans h3, q, rfl, (hb.cell (p := ⟨g, i * 5 + 4, none⟩) h.1).trans h4, Nat.lt_of_lt_of_le h5 hb.size, h6.below hb⟩
theorem rowsT (w : World) : Calls Try.prog 19 #[] w fun e w' => e = .returned (.slice (some ⟨w.heap.size + 35, 0, none⟩) 35 35) ∧ Tab w' (w.heap.size + 35) w.heap.size ∧ Below w.heap.size w w' := by
  refine (rows_ w).mono ?_
  rintro e w' ⟨rfl, rfl⟩
  have hsz := size_tb w 35 (by decide)
  have hg : ((tb w 35).alloc (.cells (bigCells w.heap.size) 46)).heap[w.heap.size + 35]? = some (.cells (bigCells w.heap.size) 46 (0, 0)) := by
    rw [← hsz]; exact Array.getElem?_push_size
  have hs2 : ((tb w 35).alloc (.cells (bigCells w.heap.size) 46)).heap.size = w.heap.size + 36 := by rw [World.size_alloc, hsz]
  have hbt : Below w.heap.size w (tb w 35) := below_allocs _ _
  refine ⟨rfl, ⟨by omega, fun i hi => ?_⟩, hbt.alloc (by omega) _⟩
  have hc : ∀ j, ((tb w 35).alloc (.cells (bigCells w.heap.size) 46)).cell? ⟨w.heap.size + 35, j, none⟩ = (bigCells w.heap.size)[j]? := fun j => cell_of_row _ _ _ _ 46 (0, 0) hg
  have hb := fun j (hj : j < 5) => (hc (i * 5 + j)).trans (big_cell w.heap.size i j hi hj)
  have b0 := hb 0 (by decide)
  have b1 := hb 1 (by decide)
  have b2 := hb 2 (by decide)
  have b3 := hb 3 (by decide)
  have b4 := hb 4 (by decide)
  rw [← rowAt_eq hi] at b0 b1 b2 b3 b4
  have hblk : ((tb w 35).alloc (.cells (bigCells w.heap.size) 46)).heap[w.heap.size + i]? = some (objOf (rowAt i)) := by
    rw [Below.heap_alloc _ _ _ (by omega)]
    show (allocs w ((rows.take 35).map objOf)).heap[w.heap.size + i]? = _
    rw [heap_allocs _ _ _ (by rw [List.length_map, List.length_take, rows_len]; omega), List.getElem?_map, List.getElem?_take_of_lt (by omega), rowAt_eq hi, List.getElem?_eq_getElem (by rw [rows_len]; exact hi)]
    rfl
  have hlen : (rowAt i).2.2.2.2.length ≤ 3 := by
    have : ∀ r ∈ rows, r.2.2.2.2.length ≤ 3 := by decide +kernel
    rw [rowAt_eq hi]; exact this _ (List.getElem_mem _)
  refine ⟨b0, b1, b2, b3, 0, rfl, b4, by omega, _, _, rfl, Nat.le_refl _, by unfold maxLen; omega, (fun h => by cases h), fun _ => ⟨_, _, rfl, by omega, fun k hk => ?_⟩⟩
  rw [cell_of_row _ _ _ _ 3 (0, 0) hblk]
  simp [hk]
end Go.Proofs.Ytamemmbcdkhdhaa.Peer
