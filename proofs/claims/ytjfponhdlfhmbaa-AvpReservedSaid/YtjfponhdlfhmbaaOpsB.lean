/-
  A store into a row of numbers of the call's own, the world behind it unnamed. No program is looked into here.
-/
import Derived.Test.YtjfponhdlfhmbaaOps
namespace Go.Proofs.Ytjfponhdlfhmbaa.Ops
open Go.RowKit Mem Cells
set_option linter.unusedVariables false
section
variable {P : Program} {w : World} {ops : Array Oper} {rest : List Oper} {o : Oper} {a : Act} {Q : Exit → Act → World → Prop}
/-- A store into a row of numbers of the call's own. -/
theorem wpl_storeB (hgd : o.guard = none) (ty : TypeId) (x y : Operand) (ho : o.op = .store ty x y) (hd : o.dst = none) (k : IntKind) (B e g n c j : Nat) (xs : List Int) (z : Int)
    (hx : a.eval x = .pointer (some ⟨g, j, none⟩)) (hy : a.eval y = .int k z) (hrow : Row k e B w (.slice (some ⟨g, 0, none⟩) n c) xs) (hn : n = xs.length) (hj : j < xs.length) (hi : (P.info? ty).map (·.size) = some 1)
    (h : ∀ w', Row k e B w' (.slice (some ⟨g, 0, none⟩) n c) (xs.set j z) → w.grownBy w' (some g) → wpList P ops Q rest a w') : wpList P ops Q (o :: rest) a w := by
  subst hn
  refine wpList_plain hgd fun K hK => ?_
  obtain ⟨hc, hf⟩ := hrow.cell j hj
  have hrun : (storeVar ty ⟨g, j, none⟩ (.int k z)).run P w = .ok () (w.setCell ⟨g, j, none⟩ (.int k z)) := by
    cases hq : P.info? ty with
    | none => simp [hq] at hi
    | some i =>
      have hs : i.size = 1 := by simpa [hq] using hi
      have ha : (⟨g, j, none⟩ : Addr).add 0 = ⟨g, j, none⟩ := by unfold Addr.add; split <;> simp_all
      have h1 : (Value.int k z).oneCell' = true := rfl
      simp [storeVar, sizeOf, typeInfo, hq, cells_one h1, hs, storeCells, ha, run_store P w _ _ _ h1, hc, hf]
  unfold Oper.wp execOp
  simp only [ho, hx, hy, Instr.storeAt, Instr.sureAddr, Sem.run_bind, Sem.run_pure, Result.andThen_ok, hrun]
  refine hK _ _ ?_
  rw [hd]
  exact h _ (by have := hrow.store j z; simpa using this) (grown_setCell (grown_refl w _))
end
end Go.Proofs.Ytjfponhdlfhmbaa.Ops
