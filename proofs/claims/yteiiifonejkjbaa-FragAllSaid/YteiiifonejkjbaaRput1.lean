/-
  Drawn regions with an append and a store behind it: what is known behind them (MidG, FinG). No walk.
-/
import Derived.Test.YteiiifonejkjbaaRput0
namespace Go.Proofs.Yteiiifonejkjbaa.Rb
open Go.RowKit Mem Cells Ops Pcs Go.Maps Go.Proofs.Yteiiifonejkjbaa.Open Go.Proofs.Yteiiifonejkjbaa.Bx
set_option linter.unusedVariables false
set_option linter.unusedSimpArgs false

section
variable {P : Program} {w : World} {o : Oper} {a : Act} {K : Act → World → Prop} {Q : Exit → Act → World → Prop}
theorem wp_storeC (ty : TypeId) (x y : Operand) (ho : o.op = .store ty x y) (hd : o.dst = none) (g j : Nat) (T : TypeId) (cs ds : Array Value) (v : Value)
    (hx : a.eval x = .pointer (some ⟨g, j, none⟩)) (hy : a.eval y = v) (hat : At w g T cs) (hj : j < cs.size) (hi : (P.info? ty).map (·.size) = some 1) (h1 : v.oneCell' = true) (e : cs.set! j v = ds)
    (h : ∀ w', At w' g T ds → w.grownBy w' (some g) → K a w') : o.wp P a w K Q := by
  have hc := hat.cell j
  rw [Array.getElem?_eq_getElem hj] at hc
  have hf := hat.free j
  have hrun : (storeVar ty ⟨g, j, none⟩ v).run P w = .ok () (w.setCell ⟨g, j, none⟩ v) := by
    cases hq : P.info? ty with
    | none => simp [hq] at hi
    | some i =>
      have hs : i.size = 1 := by simpa [hq] using hi
      have ha : (⟨g, j, none⟩ : Addr).add 0 = ⟨g, j, none⟩ := by unfold Addr.add; split <;> simp_all
      simp [storeVar, sizeOf, typeInfo, hq, cells_one h1, hs, storeCells, ha, run_store P w _ v _ h1, hc, hf]
  unfold Oper.wp execOp
  simp only [ho, hx, hy, Instr.storeAt, Instr.sureAddr, Sem.run_bind, Sem.run_pure, Result.andThen_ok, hrun]
  have := h _ (hat.set e) (grown_setCell (grown_refl w _))
  have e0 : a.put o.dst undef = a := by rw [hd]; rfl
  show K (a.put o.dst undef) _
  rw [e0]
  exact this
theorem wp_appendV (t : TypeId) (s x : Operand) (ho : o.op = .call { callee := .builtin .append, args := #[s, x], argTypes := #[t, t] }) (vs vx r : Value) (w' : World) (hs : a.eval s = vs) (hx : a.eval x = vx)
    (hrun : (Builtin.append_ #[t, t] o.type #[vs, vx]).run P w = .ok r w') (h : K (a.put o.dst r) w') : o.wp P a w K Q := by
  unfold Oper.wp execOp
  simp only [ho, resolve, invoke, builtin, Sem.run_bind, Sem.run_pure, Result.andThen_ok, List.map_toArray, List.map_cons, List.map_nil, hs, hx, hrun]
  exact h
end
/-- Behind the append. -/
structure MidG (w0 : World) (g : Nat) (row0 : Array Value) (v0 : Value) (L : Value → World → Prop) (v : Value) (x : World) : Prop where
  grown : w0.grownBy x v0.ownBlock
  row : At x g 56 row0
  list : L v x
  one : v.oneCell' = true
/-- Behind the store. -/
def FinG (w0 : World) (g j : Nat) (row0 : Array Value) (v0 : Value) (L : Value → World → Prop) (v : Value) (x : World) : Prop := ∃ y, MidG w0 g row0 v0 L v y ∧ y.grownBy x (some g) ∧ At x g 56 (row0.set! j v)
def oneQ (p : A) (d : Value) : Mono.Prp := ⟨fun v u => ∃ q, v = .slice (some ⟨q, 0, none⟩) 1 1 ∧ At u q 45 (row p d).toArray, fun _ _ _ ⟨q, e, h⟩ hb => ⟨q, e, h.ext hb⟩⟩
def oneT (y : T) (d : Value) : Mono.Prp := ⟨fun v u => ∃ q, v = .slice (some ⟨q, 0, none⟩) 1 1 ∧ At u q 85 (rowT y d).toArray, fun _ _ _ ⟨q, e, h⟩ hb => ⟨q, e, h.ext hb⟩⟩
theorem build54 (y : T) (d : Value) (w : World) : (Instr.buildSlice 54 1 #[(0, .agg (rowT y d).toArray)]).run Try.prog w = .ok (.slice (some ⟨w.heap.size, 0, none⟩) 1 1) (w.alloc (.cells (rowT y d).toArray 85)) := by
  kernel_rfl
section
variable {w0 w : World} {Z g : Nat} {vh vt : Value} {x : S}
theorem RB.midQ (h : RB Z w0 g vh vt x) (hb : Below w0.heap.size w0 w) {p : A} {d : Value} {q : Nat} (hat : At w q 45 (Pcs.row p d).toArray) (hd : Row .u8 5 Z w d p.data) (hZ : Z ≤ w0.heap.size) :
    ∃ v y, (Builtin.append_ #[35, 35] 35 #[vh, .slice (some ⟨q, 0, none⟩) 1 1]).run Try.prog w = .ok v y ∧ MidG w0 g (rbA vh vt x.next) vh (fun v y => OwnQ Z y v (x.held ++ [p])) v y := by
  have hq := h.held.below hb
  have hr := h.row.ext hb
  have hl := h.ok.1.1
  obtain ⟨v, y, hrun, ho, hg, _⟩ := run_appendQ hq ⟨q, 0, none⟩ [(p, d)] (m := 1) (c := 1) rfl (fun j u hj => by rw [add_none, Nat.zero_add, hat.cell j, ← hj, flat_one]; simp) (fun z hz => by rw [List.mem_singleton] at hz; subst hz; exact hd) (Nat.le_trans hZ hb.size) (by omega)
  obtain ⟨zs, e1, e2, e3⟩ := hq
  refine ⟨v, y, hrun, grown_trans (grown_below _ hb) hg, hr.kept' hg (fun e => own_ne e2 hr (by decide) e), ho, ?_⟩
  obtain ⟨p', c', e, _⟩ := ho.shape
  rw [e]; rfl
theorem RB.midT (h : RB Z w0 g vh vt x) (hb : Below w0.heap.size w0 w) {p : T} {d : Value} {q : Nat} (hat : At w q 85 (rowT p d).toArray) (hd : Row .u8 5 Z w d p.data) (hZ : Z ≤ w0.heap.size) (hl : x.wait.length ≤ 999990) :
    ∃ v y, (Builtin.append_ #[54, 54] 54 #[vt, .slice (some ⟨q, 0, none⟩) 1 1]).run Try.prog w = .ok v y ∧ MidG w0 g (rbA vh vt x.next) vt (fun v y => OwnT Z y v (x.wait ++ [p])) v y := by
  have hq := h.wait.below hb
  have hr := h.row.ext hb
  obtain ⟨v, y, hrun, ho, hg, _⟩ := run_appendT hq ⟨q, 0, none⟩ [(p, d)] (m := 1) (c := 1) rfl (fun j u hj => by rw [add_none, Nat.zero_add, hat.cell j, ← hj, flatT_one]; simp) (fun z hz => by rw [List.mem_singleton] at hz; subst hz; exact hd) (Nat.le_trans hZ hb.size) (by omega)
  obtain ⟨zs, e1, e2, e3⟩ := hq
  refine ⟨v, y, hrun, grown_trans (grown_below _ hb) hg, hr.kept' hg (fun e => own_ne e2 hr (by decide) e), ho, ?_⟩
  obtain ⟨p', c', e, _⟩ := ho.shape
  rw [e]; rfl
theorem below_none {a b : World} (h : a.grownBy b none) : Below a.heap.size a b := ⟨h.os, h.tape, h.output, h.size, fun k hk => h.block k hk (by simp)⟩
theorem FinG.heldB (h : RB Z w0 g vh vt x) {p : A} {v : Value} (hf : FinG w0 g 0 (rbA vh vt x.next) vh (fun v y => OwnQ Z y v (x.held ++ [p])) v w) (hok : S.ok { x with held := x.held ++ [p] }) : RB Z w g v vt { x with held := x.held ++ [p] } ∧ ButX (RX Z w0) w0 w := by
  obtain ⟨y, hm, hg, hat⟩ := hf
  obtain ⟨zs, e1, e2, e3⟩ := id h.held
  have ht : OwnT Z y vt x.wait := h.wait.kept hm.grown (fun q e T cs hT _ hq => by
    obtain ⟨cur, hc⟩ := own_at e2 e
    exact at_ne hq hc (by rcases hT with rfl | rfl <;> decide) rfl)
  have hb : ButX (RX Z w0) w0 y := rx_own (ButX.refl _ _) hm.grown e2 (.inr (.inl rfl)) (Nat.le_refl _)
  exact ⟨⟨hat, hm.list.other hg hm.row (by decide) (by decide), ht.other hg hm.row (by decide) (by decide), h.le, hok⟩, rx_step hb hg hm.row (.inl rfl) h.le⟩
theorem FinG.waitB (h : RB Z w0 g vh vt x) {p : T} {v : Value} (hf : FinG w0 g 1 (rbA vh vt x.next) vt (fun v y => OwnT Z y v (x.wait ++ [p])) v w) (hok : S.ok { x with wait := x.wait ++ [p] }) : RB Z w g vh v { x with wait := x.wait ++ [p] } ∧ ButX (RX Z w0) w0 w := by
  obtain ⟨y, hm, hg, hat⟩ := hf
  obtain ⟨zs, e1, e2, e3⟩ := id h.wait
  have ht : OwnQ Z y vh x.held := h.held.kept hm.grown (fun q e T cs hT _ hq => by
    obtain ⟨cur, hc⟩ := own_at e2 e
    exact at_ne hq hc (by rcases hT with rfl | rfl <;> decide) rfl)
  have hb : ButX (RX Z w0) w0 y := rx_own (ButX.refl _ _) hm.grown e2 (.inr (.inr rfl)) (Nat.le_refl _)
  exact ⟨⟨hat, ht.other hg hm.row (by decide) (by decide), hm.list.other hg hm.row (by decide) (by decide), h.le, hok⟩, rx_step hb hg hm.row (.inl rfl) h.le⟩
end
end Go.Proofs.Yteiiifonejkjbaa.Rb
