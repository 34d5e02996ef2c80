/-
  Lists of pieces of the call's own, whose bytes are rows of the call's own (OwnQ); append of one piece in a round of a range over a function. No walk.
-/
import Derived.Test.YteiiifonejkjbaaChunk2
import Derived.Test.YteiiifonejkjbaaPcs
import Derived.Test.YteiiifonejkjbaaBlks
namespace Go.Proofs.Yteiiifonejkjbaa.Pcs
open Go.RowKit Go.Shelf Mem Cells Ops
set_option linter.unusedVariables false
set_option linter.unusedSimpArgs false

def OwnQ (B : Nat) (w : World) (v : Value) (al : List A) : Prop :=
  ∃ zs : List (A × Value), zs.map Prod.fst = al ∧ w.ownsRow B 45 7 v al.length (flat zs) ∧ ∀ z ∈ zs, Row .u8 5 B w z.2 z.1.data
theorem OwnQ.nil (B : Nat) (w : World) : OwnQ B w (.slice none 0 0) [] := ⟨[], rfl, World.ownsRow_nil _ _ _ _, fun z hz => (by cases hz)⟩
theorem OwnQ.kept {B : Nat} {w w' : World} {v : Value} {al : List A} {r : Option Nat} (h : OwnQ B w v al) (hg : w.grownBy w' r) (hr : ∀ q, r = some q → ∀ T cs, (T = 45 ∨ T = 5) → B ≤ q → ¬ At w q T cs) : OwnQ B w' v al := by
  obtain ⟨zs, h1, h2, h3⟩ := h
  refine ⟨zs, h1, h2.kept hg ?_, fun z hz => (h3 z hz).kept hg ?_⟩
  · cases hv : v.ownBlock with
    | none => exact .inl rfl
    | some g =>
      obtain ⟨cur, hc⟩ := own_at h2 hv
      exact .inr (fun e => hr g e.symm 45 cur (.inl rfl) (h2.lt g hv).1 hc)
  · cases hv : z.2.ownBlock with
    | none => exact .inl rfl
    | some g =>
      obtain ⟨cur, hc⟩ := own_at (h3 z hz) hv
      exact .inr (fun e => hr g e.symm 5 cur (.inr rfl) ((h3 z hz).lt g hv).1 hc)
theorem OwnQ.below {B : Nat} {w w' : World} {v : Value} {al : List A} (h : OwnQ B w v al) (hb : Below w.heap.size w w') : OwnQ B w' v al :=
  h.kept (grown_below none hb) (fun q e => by cases e)
/-- A block ahead of B turns. -/
theorem OwnQ.ahead {B g : Nat} {w w' : World} {v : Value} {al : List A} (h : OwnQ B w v al) (hg : w.grownBy w' (some g)) (hgB : g < B) : OwnQ B w' v al :=
  h.kept hg (fun q e T cs _ hq _ => by cases e; omega)
/-- What is no cells turns. -/
theorem OwnQ.from {B : Nat} {w w' : World} {v : Value} {al : List A} {r : Option Nat} (h : OwnQ B w v al) (hg : w.grownBy w' r) (hr : ∀ q, r = some q → ∃ o : Obj, w.heap[q]? = some o ∧ o.isCells = false) : OwnQ B w' v al :=
  h.kept hg (fun q e T cs _ _ hat => by
    obtain ⟨o, ho, hc⟩ := hr q e
    have h2 : w.heap[q]? = some (.cells cs T (0, 0)) := hat
    rw [h2] at ho
    cases ho
    cases hc)
theorem OwnQ.mono {B B' : Nat} {w : World} {v : Value} {al : List A} (h : OwnQ B w v al) (hB : B' ≤ B) : OwnQ B' w v al := by
  obtain ⟨zs, h1, h2, h3⟩ := h
  refine ⟨zs, h1, ⟨h2.1, ?_⟩, fun z hz => (h3 z hz).mono hB⟩
  rcases h2.2 with hn | ⟨g, cap, cur, rfl, hbb, rest⟩
  · exact .inl hn
  · exact .inr ⟨g, cap, cur, rfl, by omega, rest⟩
theorem OwnQ.ownD {B : Nat} {w : World} {v : Value} {al : List A} (h : OwnQ B w v al) : OwnD B 45 B w v al := by
  obtain ⟨zs, h1, h2, h3⟩ := h
  refine ⟨zs, h1, fun z hz => ⟨(h3 z hz).reads, fun _ q hq e => ?_⟩, h2, fun z hz _ q hq => ((h3 z hz).lt q hq).1⟩
  obtain ⟨cur, hc⟩ := own_at h2 hq
  obtain ⟨cur', hc'⟩ := own_at (h3 z hz) e
  exact at_ne hc hc' (by decide) rfl
theorem OwnQ.shape {B : Nat} {w : World} {v : Value} {al : List A} (h : OwnQ B w v al) : ∃ p c, v = .slice p al.length c ∧ al.length ≤ c ∧ c ≤ maxLen := h.ownD.ownL.reads.shape

theorem info45 : (Try.prog.info? 45).map (fun i => (i.zero, i.size, i.bytes)) = some (some (.agg #[.int .u32 0, .int .u16 0, .int .u16 0, .bool false, .bool false, .bool false, .slice none 0 0]), 7, 40) := by kernel_rfl
theorem build35 (A : A) (d : Value) (w : World) : (Instr.buildSlice 35 1 #[(0, .agg (row A d).toArray)]).run Try.prog w = .ok (.slice (some ⟨w.heap.size, 0, none⟩) 1 1) (w.alloc (.cells (row A d).toArray 45)) := by
  kernel_rfl

theorem run_pushQ {w : World} {B : Nat} {v : Value} {al : List A} (h : OwnQ B w v al) (A : A) (d : Value) (hd : Row .u8 5 B w d A.data) (hB : B ≤ w.heap.size) (hn : al.length ≤ 99999) :
    ∃ v' w', (Builtin.append_ #[35, 35] 35 #[v, .slice (some ⟨w.heap.size, 0, none⟩) 1 1]).run Try.prog (w.alloc (.cells (row A d).toArray 45)) = .ok v' w' ∧ OwnQ B w' v' (al ++ [A]) ∧ w.grownBy w' v.ownBlock := by
  obtain ⟨i, hi, hz0, hz1, hz2⟩ := info_parts info45
  obtain ⟨zs, h1, h2, h3⟩ := id h
  have hal := (Below.refl w.heap.size w).alloc (Nat.le_refl _) (.cells (row A d).toArray 45)
  have h2' := (OwnQ.below h hal)
  obtain ⟨ys, e1, e2, e3⟩ := h2'
  have hat := At.new w 45 (row A d).toArray
  have hd' := Row.below hd hal
  have hone : ∀ u ∈ flat [(A, d)], u.oneCell' = true := flat_one' (w := w) (fun z hz => by rw [List.mem_singleton] at hz; subst hz; exact hd.reads)
  obtain ⟨v', w', hr, k2, k3, k4⟩ := run_append_own (P := Try.prog) (w.alloc (.cells (row A d).toArray 45)) B 35 35 45 i _ 7 40 Try.underlying35 hi hz0 hz1 hz2 rfl (by omega) v al.length (flat ys) e2 ⟨w.heap.size, 0, none⟩ 1 1 (flat [(A, d)]) rfl
    (fun j u hj => by rw [add_none, Nat.zero_add, hat.cell j, ← hj, flat_one]; simp) hone (by simp [maxLen]; omega) (by omega) (by simp; omega)
  refine ⟨v', w', hr, ⟨ys ++ [(A, d)], by rw [List.map_append, e1]; rfl, ?_, ?_⟩, grown_trans (grown_below _ hal) k3⟩
  · rw [flat_append, List.length_append]
    exact k2
  · intro z hz
    have key : ∀ z : Pcs.A × Value, Row .u8 5 B (w.alloc (.cells (row A d).toArray 45)) z.2 z.1.data → Row .u8 5 B w' z.2 z.1.data := fun z hz => hz.kept k3 (own_ne2 hz e2 (by decide))
    rcases List.mem_append.1 hz with hz | hz
    · exact key z (e3 z hz)
    · rw [List.mem_singleton] at hz
      subst hz
      exact key _ hd'

section
variable {P : Program} {w : World} {ops : Array Oper} {rest : List Oper} {o o1 o2 : Oper} {a : Act} {Q : Exit → Act → World → Prop} {l n : Nat}
theorem wpListIn_valW (hgd : o.guard = none) (r : Value) (w' : World) (hnd : ∀ c, o.op ≠ .defer c) (hrun : (execOp a.eval o).run P w = .ok (.value r) w')
    (h : wpListIn (Fence.wide.inRound l) n P ops Q rest (a.put o.dst r) w') : wpListIn (Fence.wide.inRound l) n P ops Q (o :: rest) a w := by
  refine wpListIn_plain hgd fun K hK => ?_
  unfold Oper.wpIn
  refine ⟨fun f hf => trivial, ?_⟩
  rw [Oper.semAt_plain _ _ _ hnd, hrun]
  exact hK _ _ h
/-- One piece more, behind a list of the call's own, in a round. -/
theorem wpListIn_pushQ (d1 : Nat) (x s : Operand) (g1 : o1.guard = none) (ho1 : o1.op = .buildSlice 35 1 #[(0, x)]) (hd1 : o1.dst = some d1) (g2 : o2.guard = none) (ho2 : o2.op = .call { callee := .builtin .append, args := #[s, .tmp d1], argTypes := #[35, 35] }) (ht2 : o2.type = 35)
    (A : A) (d : Value) (hx : a.eval x = .agg (row A d).toArray) (B : Nat) (v : Value) (al : List Pcs.A) (hs : ∀ u, (a.put (some d1) u).eval s = v) (hdv : ∀ u, (a.put (some d1) u).eval (.tmp d1) = u) (hown : OwnQ B w v al)
    (hd : Row .u8 5 B w d A.data) (hB : B ≤ w.heap.size) (hn : al.length ≤ 99999)
    (h : ∀ v' w', OwnQ B w' v' (al ++ [A]) → w.grownBy w' v.ownBlock → wpListIn (Fence.wide.inRound l) n Try.prog ops Q rest ((a.put (some d1) (.slice (some ⟨w.heap.size, 0, none⟩) 1 1)).put o2.dst v') w') : wpListIn (Fence.wide.inRound l) n Try.prog ops Q (o1 :: o2 :: rest) a w := by
  obtain ⟨v', w', hr, hq, hg⟩ := run_pushQ hown A d hd hB hn
  refine wpListIn_valW g1 (.slice (some ⟨w.heap.size, 0, none⟩) 1 1) (w.alloc (.cells (row A d).toArray 45)) (by rw [ho1]; intro c hc; cases hc) ?_ ?_
  · have hp : (#[(0, x)] : Array (Nat × Operand)).map (fun (i, x) => (i, a.eval x)) = #[(0, .agg (row A d).toArray)] := by simp [hx]
    unfold execOp
    simp only [ho1, hp, Sem.run_bind, build35, Result.andThen_ok]
    rfl
  · rw [hd1]
    refine wpListIn_valW g2 v' w' (by rw [ho2]; intro c hc; cases hc) ?_ (h v' w' hq hg)
    unfold execOp
    simp only [ho2, ht2, resolve, invoke, builtin, Sem.run_bind, Sem.run_pure, Result.andThen_ok, List.map_toArray, List.map_cons, List.map_nil, hs, hdv, hr]
theorem wpListIn_skipW (hgd : o.guard = none) (w' : World) (hnd : ∀ c, o.op ≠ .defer c) (hrun : (execOp a.eval o).run P w = .ok .skip w')
    (h : wpListIn (Fence.wide.inRound l) n P ops Q rest (a.put o.dst undef) w') : wpListIn (Fence.wide.inRound l) n P ops Q (o :: rest) a w := by
  refine wpListIn_plain hgd fun K hK => ?_
  unfold Oper.wpIn
  refine ⟨fun f hf => trivial, ?_⟩
  rw [Oper.semAt_plain _ _ _ hnd, hrun]
  exact hK _ _ h
/-- A store of a cell, in a round. -/
theorem wpListIn_storeC (hgd : o.guard = none) (ty : TypeId) (x y : Operand) (ho : o.op = .store ty x y) (hd : o.dst = none) (g j : Nat) (T : TypeId) (cs ds : Array Value) (v : Value)
    (hx : a.eval x = .pointer (some ⟨g, j, none⟩)) (hy : a.eval y = v) (hat : At w g T cs) (hj : j < cs.size) (hi : (P.info? ty).map (·.size) = some 1) (h1 : v.oneCell' = true) (e : cs.set! j v = ds)
    (h : ∀ w', At w' g T ds → w.grownBy w' (some g) → wpListIn (Fence.wide.inRound l) n P ops Q rest a w') : wpListIn (Fence.wide.inRound l) n P ops Q (o :: rest) a w := by
  have hc := hat.cell j
  rw [Array.getElem?_eq_getElem hj] at hc
  have hf := hat.free j
  have hrun : (storeVar ty ⟨g, j, none⟩ v).run P w = .ok () (w.setCell ⟨g, j, none⟩ v) := by
    cases hq : P.info? ty with
    | none => simp [hq] at hi
    | some i =>
      have hs : i.size = 1 := by simpa [hq] using hi
      have ha : (⟨g, j, none⟩ : Addr).add 0 = ⟨g, j, none⟩ := by unfold Addr.add; split <;> simp_all
      simp [storeVar, sizeOf, typeInfo, hq, cells_one h1, hs, storeCells, ha, run_store P w _ v _ h1, hc, hf]
  refine wpListIn_skipW hgd (w.setCell ⟨g, j, none⟩ v) (by rw [ho]; intro c hc; cases hc) ?_ ?_
  · unfold execOp
    simp only [ho, hx, hy, Instr.storeAt, Instr.sureAddr, Sem.run_bind, Sem.run_pure, Result.andThen_ok, hrun]
  · rw [hd]
    exact h _ (hat.set e) (grown_setCell (grown_refl w _))
end
end Go.Proofs.Yteiiifonejkjbaa.Pcs
