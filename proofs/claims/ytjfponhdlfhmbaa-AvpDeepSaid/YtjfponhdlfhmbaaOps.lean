/-
  OPERATIONS WITH THE WORLD BEHIND THEM UNNAMED: a store into a block that is known whole; a struct put behind a list of the call's own. No program is looked into here.
-/
import Derived.Test.YtjfponhdlfhmbaaCells
import Derived.Test.YtjfponhdlfhmbaaMemS
import Derived.Deep.MidRow
import Derived.StillTailTactics
namespace Go.Proofs.Ytjfponhdlfhmbaa.Ops
open Go.RowKit Mem Cells
set_option linter.unusedVariables false

section
variable {P : Program} {w : World} {ops : Array Oper} {rest : List Oper} {o : Oper} {a : Act} {Q : Exit → Act → World → Prop}
theorem cells_one {v : Value} (h : v.oneCell' = true) : v.cells = #[v] := by cases v <;> first | rfl | cases h

/-- A store into one cell of a block that is known whole. -/
theorem wpl_storeC (hgd : o.guard = none) (ty : TypeId) (x y : Operand) (ho : o.op = .store ty x y) (hd : o.dst = none) (g j : Nat) (T : TypeId) (cs ds : Array Value) (v : Value)
    (hx : a.eval x = .pointer (some ⟨g, j, none⟩)) (hy : a.eval y = v) (hat : At w g T cs) (hj : j < cs.size) (hi : (P.info? ty).map (·.size) = some 1) (h1 : v.oneCell' = true) (e : cs.set! j v = ds)
    (h : ∀ w', At w' g T ds → w.grownBy w' (some g) → wpList P ops Q rest a w') : wpList P ops Q (o :: rest) a w := by
  refine wpList_plain hgd fun K hK => ?_
  have hc := hat.cell j
  rw [Array.getElem?_eq_getElem hj] at hc
  have hf := hat.free j
  have hrun : (storeVar ty ⟨g, j, none⟩ v).run P w = .ok () (w.setCell ⟨g, j, none⟩ v) := by
    cases hq : P.info? ty with
    | none => simp [hq] at hi
    | some i =>
      have hs : i.size = 1 := by simpa [hq] using hi
      have ha : (⟨g, j, none⟩ : Addr).add 0 = ⟨g, j, none⟩ := by unfold Addr.add; split <;> simp_all
      simp [storeVar, sizeOf, typeInfo, hq, cells_one h1, hs, storeCells, ha, run_store P w _ v _ h1, hc, hf]
  unfold Oper.wp execOp
  simp only [ho, hx, hy, Instr.storeAt, Instr.sureAddr, Sem.run_bind, Sem.run_pure, Result.andThen_ok, hrun]
  refine hK _ _ ?_
  rw [hd]
  exact h _ (hat.set e) (grown_setCell (grown_refl w _))
/-- A store of a whole row. -/
theorem wpl_storeR (hgd : o.guard = none) (ty : TypeId) (x y : Operand) (ho : o.op = .store ty x y) (hd : o.dst = none) (g : Nat) (T : TypeId) (cs ds : Array Value)
    (hx : a.eval x = .pointer (some ⟨g, 0, none⟩)) (hy : a.eval y = .agg ds) (hat : At w g T cs) (hi : (P.info? ty).map (·.size) = some ds.size) (hs : cs.size = ds.size) (h1 : ds.all (·.oneCell') = true)
    (h : ∀ w', At w' g T ds → w.grownBy w' (some g) → wpList P ops Q rest a w') : wpList P ops Q (o :: rest) a w := by
  refine wpList_store_row hgd ty x y ho g ds hx hy T cs hat hi hs h1 ?_
  rw [hd]
  exact h _ hat.row ⟨rfl, rfl, rfl, by simp, fun q _ hq => setRow_other _ _ _ _ (fun e => hq (by rw [e]))⟩
/-- A new cell of a type, zero. -/
theorem wpl_allocAt (hgd : o.guard = none) (T : TypeId) (ho : o.op = .alloc T) (cs : Array Value) (hz : ((P.info? T).bind (·.zero)).map (·.cells) = some cs)
    (h : ∀ w', At w' w.heap.size T cs → Below w.heap.size w w' → w'.heap.size = w.heap.size + 1 → wpList P ops Q rest (a.put o.dst (.pointer (some ⟨w.heap.size, 0, none⟩))) w') : wpList P ops Q (o :: rest) a w := by
  refine wpList_plain hgd fun K hK => ?_
  cases hi : P.info? T with
  | none => simp [hi] at hz
  | some i =>
    cases hzz : i.zero with
    | none => simp [hi, hzz] at hz
    | some z =>
      have hc : z.cells = cs := by simpa [hi, hzz] using hz
      have hrun : (Instr.alloc T true (.tuple #[])).run P w = .ok (.pointer (some ⟨w.heap.size, 0, none⟩)) (w.alloc (.cells cs T)) := by
        simp [Instr.alloc, zeroValue, typeInfo, hi, hzz, newVar, newRow, hc]
      unfold Oper.wp execOp
      simp only [ho, Sem.run_bind, hrun, Result.andThen_ok]
      exact hK _ _ (h _ (At.new w T cs) ((Below.refl _ _).alloc (Nat.le_refl _) _) (by simp))
/-- A value goes into a new block. -/
theorem wpl_boxAt (hgd : o.guard = none) (T : TypeId) (x : Operand) (ho : o.op = .box T x) (cs : Array Value) (hx : (a.eval x).cells = cs)
    (h : ∀ w', At w' w.heap.size T cs → Below w.heap.size w w' → w'.heap.size = w.heap.size + 1 → wpList P ops Q rest (a.put o.dst (.pointer (some ⟨w.heap.size, 0, none⟩))) w') : wpList P ops Q (o :: rest) a w := by
  refine wpList_plain hgd fun K hK => ?_
  have hrun : (Instr.box T (a.eval x)).run P w = .ok (.pointer (some ⟨w.heap.size, 0, none⟩)) (w.alloc (.cells cs T)) := by
    simp [Instr.box, newVar, newRow, hx]
  unfold Oper.wp execOp
  simp only [ho, Sem.run_bind, hrun, Result.andThen_ok]
  exact hK _ _ (h _ (At.new w T cs) ((Below.refl _ _).alloc (Nat.le_refl _) _) (by simp))
/-- An empty slice of the call's own ('[]byte{}'). -/
theorem wpl_empty (hgd : o.guard = none) (S e : TypeId) (ho : o.op = .buildSlice S 0 #[]) (k : IntKind) (hrun : ∀ w : World, (Instr.buildSlice S 0 #[]).run P w = .ok (.slice (some ⟨w.heap.size, 0, none⟩) 0 0) (w.alloc (.cells #[] e)))
    (h : ∀ w', Row k e w.heap.size w' (.slice (some ⟨w.heap.size, 0, none⟩) 0 0) [] → Below w.heap.size w w' → w'.heap.size = w.heap.size + 1 → wpList P ops Q rest (a.put o.dst (.slice (some ⟨w.heap.size, 0, none⟩) 0 0)) w') : wpList P ops Q (o :: rest) a w := by
  refine wpList_plain hgd fun K hK => ?_
  unfold Oper.wp execOp
  have hp : (#[] : Array (Nat × Operand)).map (fun (i, x) => (i, a.eval x)) = #[] := by simp
  simp only [ho, hp, Sem.run_bind, hrun w, Result.andThen_ok]
  exact hK _ _ (h _ (Row.alloc_nil k e w (Nat.le_refl _)) ((Below.refl _ _).alloc (Nat.le_refl _) _) (by simp))
/-- A struct out of the middle of a row. -/
theorem wpl_loadE (hgd : o.guard = none) (T : TypeId) (x : Operand) (ho : o.op = .load T x) (b off : Nat) (hx : a.eval x = .pointer (some ⟨b, off, none⟩)) (cs : Array Value) (d : TypeDesc) (hc : w.rangeAt b off cs.toList)
    (hu : P.underlying T = some d) (hd : d.isRow = true) (hi : (P.info? T).map (·.size) = some cs.size)
    (h : wpList P ops Q rest (a.put o.dst (.agg cs)) w) : wpList P ops Q (o :: rest) a w := by
  refine wpList_load_mid hgd T x ho b off hx cs.toList d hc hu hd (by simpa using hi) ?_
  simpa using h
/-- A struct out of a block that is known whole. -/
theorem wpl_loadAt (hgd : o.guard = none) (T : TypeId) (x : Operand) (ho : o.op = .load T x) (g : Nat) (T' : TypeId) (cs : Array Value) (hat : At w g T' cs) (d : TypeDesc)
    (hu : P.underlying T = some d) (hd : d.isRow = true) (hi : (P.info? T).map (·.size) = some cs.size) (hx : a.eval x = .pointer (some ⟨g, 0, none⟩))
    (h : wpList P ops Q rest (a.put o.dst (.agg cs)) w) : wpList P ops Q (o :: rest) a w :=
  wpl_loadE hgd T x ho g 0 hx cs d (fun j v hv => by rw [Nat.zero_add, hat.cell j]; simpa using hv) hu hd hi h
end
/-- What reads as cells from a place on stays where memory below a bound does. -/
theorem range_below {w w' : World} {B b off : Nat} {cs : List Value} (h : w.rangeAt b off cs) (hb : Below B w w') (hlt : b < B) : w'.rangeAt b off cs := fun j v hv => by
  have := h j v hv
  rwa [← hb.cell (p := ⟨b, off + j, none⟩) hlt] at this
theorem range_at {w : World} {g : Nat} {T : TypeId} {cs : Array Value} (h : At w g T cs) : w.rangeAt g 0 cs.toList := fun j v hv => by
  rw [Nat.zero_add, h.cell j]
  simpa using hv
/-- The same load in a region that only reads. -/
theorem wpStill_loadE {P : Program} {w : World} {ops : Array Oper} {rest : List Oper} {o : Oper} {a : Act} {Q : Act → Prop} (hgd : o.guard = none) (T : TypeId) (x : Operand) (ho : o.op = .load T x) (b off : Nat) (cs : Array Value) (d : TypeDesc) (hc : w.rangeAt b off cs.toList)
    (hu : P.underlying T = some d) (hd : d.isRow = true) (hi : (P.info? T).map (·.size) = some cs.size) (hx : a.eval x = .pointer (some ⟨b, off, none⟩))
    (h : wpStill P ops w Q rest (a.put o.dst (.agg cs))) : wpStill P ops w Q (o :: rest) a := by
  refine wpStill_step fun K hK => ?_
  simp only [Region.wanted, hgd, if_true]
  unfold Oper.still execOp
  have hr := run_loadVar_mid w b off T cs.toList d hc hu hd (by simpa using hi)
  simp only [ho, hx, Instr.loadAt, Instr.sureAddr, Sem.run_bind, Sem.run_pure, Result.andThen_ok, hr, Oper.stillUpon_value]
  refine hK _ ?_
  simpa using h
end Go.Proofs.Ytjfponhdlfhmbaa.Ops
