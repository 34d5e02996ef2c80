/-
  STILL REGIONS THAT HOLD A STRUCT'S LOAD, AND THE STORE OF THE SAME STRUCT BACK INTO ITS OWN CELL: such a store turns nothing. No program is looked into here.
-/
import Derived.Test.YtjfponhdlfhmbaaCells
import Derived.StillTailTactics
namespace Go.Proofs.Ytjfponhdlfhmbaa.Cells
open Go.RowKit
set_option linter.unusedVariables false
theorem setRow_same {u : World} {g : Nat} {ty : TypeId} {cs : Array Value} (h : At u g ty cs) : u.setRow g cs = u := by
  have hh : u.heap[g]? = some (.cells cs ty (0, 0)) := h
  have e1 := setRow_heap u g cs cs ty (0, 0) hh
  have : (u.setRow g cs).heap = u.heap := by
    apply Array.ext_getElem?
    intro i
    by_cases hi : i = g
    · subst hi; rw [e1, hh]
    · exact setRow_other _ _ _ _ hi
  have e : u.setRow g cs = { u with heap := (u.setRow g cs).heap } := rfl
  rw [e, this]
section
variable {P : Program} {ops : Array Oper} {rest : List Oper} {o : Oper} {a : Act} {w : World} {Q : Act → Prop}
theorem wpStill_load_row (hgd : o.guard = none) (ty : TypeId) (x : Operand) (ho : o.op = .load ty x)
    (g : Nat) (hx : a.eval x = .pointer (some ⟨g, 0, none⟩)) (t : TypeId) (cs : Array Value) (fr : Nat × Nat) (d : TypeDesc) (hg : w.heap[g]? = some (.cells cs t fr))
    (hu : P.underlying ty = some d) (hd : (match d with | .struct _ | .array _ _ => true | _ => false) = true) (hi : (P.info? ty).map (·.size) = some cs.size)
    (h : wpStill P ops w Q rest (a.put o.dst (.agg cs))) : wpStill P ops w Q (o :: rest) a := by
  refine wpStill_step fun K hK => ?_
  simp only [Region.wanted, hgd, if_true]
  unfold Oper.still execOp
  simp only [ho, hx, Instr.loadAt, Instr.sureAddr, Sem.run_bind, Sem.run_pure, Result.andThen_ok, run_loadVar_row w g t ty cs fr d hg hu hd hi, Oper.stillUpon_value]
  exact hK _ h
theorem wpStill_store_row (hgd : o.guard = none) (ty : TypeId) (x y : Operand) (ho : o.op = .store ty x y)
    (g : Nat) (cells : Array Value) (hx : a.eval x = .pointer (some ⟨g, 0, none⟩)) (hy : a.eval y = .agg cells)
    (t : TypeId) (hg : At w g t cells) (hi : (P.info? ty).map (·.size) = some cells.size) (h1 : cells.all (·.oneCell') = true)
    (h : wpStill P ops w Q rest (a.put o.dst undef)) : wpStill P ops w Q (o :: rest) a := by
  refine wpStill_step fun K hK => ?_
  simp only [Region.wanted, hgd, if_true]
  unfold Oper.still execOp
  simp only [ho, hx, hy, Instr.storeAt, Instr.sureAddr, Sem.run_bind, Sem.run_pure, Result.andThen_ok, run_storeVar_row w g t ty cells cells hg hi rfl h1, setRow_same hg, Oper.stillUpon_skip]
  exact hK _ h
end
end Go.Proofs.Ytjfponhdlfhmbaa.Cells
