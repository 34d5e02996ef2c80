/-
  'm[k]++' as a drawn region: what is known of the world by which operations have run. No walk.
-/
import Derived.Test.YtjfmahodbdianaaDoorCount0
import Derived.Test.YtjfmahodbdianaaDoorTpls
namespace Go.Proofs.YtjfmahodbdianaaDoor.Rule
open Go.RowKit Mem Cells Ops Go.Maps
set_option linter.unusedVariables false
set_option linter.unusedSimpArgs false

/-- 0: the map, 1: the key, 2: the look-up, 3: one more, 4: the entry, 5: its stamp, 6: the store. -/
def JC (w1 w2 w3 : World) (l : Array Bool) (u : World) : Prop :=
  (l.getD 3 false = true → l.getD 2 false = true) ∧ (l.getD 6 false = true → l.getD 3 false = true ∧ l.getD 4 false = true) ∧ u = if l.getD 6 false = true then w3 else if l.getD 4 false = true then w2 else w1
theorem JC.all {w1 w2 w3 u : World} {l : Array Bool} (h : JC w1 w2 w3 l u) (p : World → Prop) (h1 : p w1) (h2 : p w2) (h3 : p w3) : p u := by
  obtain ⟨_, _, rfl⟩ := h
  split
  · exact h3
  split
  · exact h2
  · exact h1
theorem JC.pure {w1 w2 w3 u : World} {l : Array Bool} {j : Nat} (h : JC w1 w2 w3 l u) (h4 : j ≠ 4) (h6 : j ≠ 6) (h3 : j = 3 → l.getD 2 false = true) (hsz : l.size = 7) (hj : j < 7) : JC w1 w2 w3 (l.setIfInBounds j true) u := by
  obtain ⟨a1, a2, a3⟩ := h
  refine ⟨?_, ?_, ?_⟩
  · by_cases e : j = 3
    · subst e
      rw [MonoJ.getD_set_ne (i := 2) (by decide)]
      exact fun _ => h3 rfl
    · rw [MonoJ.getD_set_ne (i := 3) e]
      intro h
      by_cases e2 : j = 2
      · subst e2; exact MonoJ.getD_set_same (by omega)
      · rw [MonoJ.getD_set_ne (i := 2) e2]; exact a1 h
  · rw [MonoJ.getD_set_ne (i := 6) h6, MonoJ.getD_set_ne (i := 4) h4]
    intro h
    by_cases e : j = 3
    · subst e; exact ⟨MonoJ.getD_set_same (by omega), (a2 h).2⟩
    · rw [MonoJ.getD_set_ne (i := 3) e]; exact a2 h
  · rw [MonoJ.getD_set_ne (i := 6) h6, MonoJ.getD_set_ne (i := 4) h4]
    exact a3
theorem JC.early {w1 w2 w3 u : World} {l : Array Bool} (h : JC w1 w2 w3 l u) (h3 : l.getD 3 false = false) : u = w1 ∨ u = w2 := by
  obtain ⟨_, a2, rfl⟩ := h
  have h6 : l.getD 6 false = false := by
    cases e : l.getD 6 false with
    | false => rfl
    | true => rw [(a2 e).1] at h3; cases h3
  rw [h6]
  rw [if_neg (by decide)]
  split
  · exact .inr rfl
  · exact .inl rfl
theorem JC.not3 {w1 w2 w3 u : World} {l : Array Bool} (h : JC w1 w2 w3 l u) (h2 : l.getD 2 false = false) : l.getD 3 false = false := by
  cases e : l.getD 3 false with
  | false => rfl
  | true => rw [h.1 e] at h2; cases h2
theorem JC.entry {w1 w2 w3 u : World} {l : Array Bool} (h : JC w1 w2 w3 l u) (h4 : l.getD 4 false = false) (hsz : l.size = 7) : u = w1 ∧ JC w1 w2 w3 (l.setIfInBounds 4 true) w2 := by
  obtain ⟨a1, a2, rfl⟩ := h
  have h6 : l.getD 6 false = false := by
    cases e : l.getD 6 false with
    | false => rfl
    | true => rw [(a2 e).2] at h4; cases h4
  refine ⟨by rw [h6, h4]; rfl, ?_, ?_, ?_⟩
  · rw [MonoJ.getD_set_ne (i := 3) (by decide), MonoJ.getD_set_ne (i := 2) (by decide)]; exact a1
  · rw [MonoJ.getD_set_ne (i := 6) (by decide), h6]; exact fun h => by cases h
  · rw [MonoJ.getD_set_ne (i := 6) (by decide), h6, MonoJ.getD_set_same (j := 4) (by omega)]; rfl
theorem JC.store {w1 w2 w3 u : World} {l : Array Bool} (h : JC w1 w2 w3 l u) (h6 : l.getD 6 false = false) (h3 : l.getD 3 false = true) (h4 : l.getD 4 false = true) (hsz : l.size = 7) : u = w2 ∧ JC w1 w2 w3 (l.setIfInBounds 6 true) w3 := by
  obtain ⟨a1, a2, rfl⟩ := h
  refine ⟨by rw [h6, h4]; rfl, ?_, ?_, ?_⟩
  · rw [MonoJ.getD_set_ne (i := 3) (by decide), MonoJ.getD_set_ne (i := 2) (by decide)]; exact a1
  · rw [MonoJ.getD_set_ne (i := 3) (by decide), MonoJ.getD_set_ne (i := 4) (by decide)]; exact fun _ => ⟨h3, h4⟩
  · rw [MonoJ.getD_set_same (j := 6) (by omega)]; rfl
section
variable {P : Program} {w : World} {o : Oper} {a : Act} {K : Act → World → Prop} {Q : Exit → Act → World → Prop}
theorem wp_move' (x : Operand) (ho : o.op = .move x) (v : Value) (hx : a.eval x = v) (h : K (a.put o.dst v) w) : o.wp P a w K Q := by
  subst hx
  unfold Oper.wp execOp
  simp only [ho, Sem.run_pure]
  exact h
theorem wp_val' (r : Value) (hrun : (execOp a.eval o).run P w = .ok (.value r) w) (h : K (a.put o.dst r) w) : o.wp P a w K Q := by
  unfold Oper.wp
  simp only [hrun]
  exact h
theorem wp_valW' (r : Value) (w' : World) (hrun : (execOp a.eval o).run P w = .ok (.value r) w') (h : K (a.put o.dst r) w') : o.wp P a w K Q := by
  unfold Oper.wp
  simp only [hrun]
  exact h
theorem wp_load' (T : TypeId) (x : Operand) (ho : o.op = .load T x) (g : Nat) (T' : TypeId) (cs : Array Value) (hat : At w g T' cs) (d : TypeDesc)
    (hu : P.underlying T = some d) (hd : d.isRow = true) (hi : (P.info? T).map (·.size) = some cs.size) (hx : a.eval x = .pointer (some ⟨g, 0, none⟩)) (h : K (a.put o.dst (.agg cs)) w) : o.wp P a w K Q := by
  have hr := run_loadVar_mid w g 0 T cs.toList d (Ops.range_at hat) hu hd (by simpa using hi)
  unfold Oper.wp execOp
  simp only [ho, hx, Instr.loadAt, Instr.sureAddr, Sem.run_bind, Sem.run_pure, Result.andThen_ok, hr]
  show K _ w
  simpa using h
theorem wp_lookup' (t : TypeId) (x y : Operand) (ho : o.op = .lookup t x y false) (vx vy r : Value) (hx : a.eval x = vx) (hy : a.eval y = vy) (hrun : (Instr.lookup t vx vy false).run P w = .ok r w) (h : K (a.put o.dst r) w) : o.wp P a w K Q := by
  unfold Oper.wp execOp
  simp only [ho, hx, hy, Sem.run_bind, hrun, Result.andThen_ok]
  exact h
theorem wp_entry' (t : TypeId) (x y : Operand) (ho : o.op = .mapEntry t x y) (vx vy r : Value) (w' : World) (hx : a.eval x = vx) (hy : a.eval y = vy) (hrun : (Instr.mapEntry t vx vy).run P w = .ok r w') (h : K (a.put o.dst r) w') : o.wp P a w K Q := by
  unfold Oper.wp execOp
  simp only [ho, hx, hy, Sem.run_bind, hrun, Result.andThen_ok]
  exact h
theorem wp_entryStore' (t : TypeId) (x y z : Operand) (ho : o.op = .entryStore t x y z) (vx vy vz : Value) (w' : World) (hx : a.eval x = vx) (hy : a.eval y = vy) (hz : a.eval z = vz) (hrun : (Instr.entryStore t vx vy vz).run P w = .ok () w') (h : K (a.put o.dst undef) w') : o.wp P a w K Q := by
  unfold Oper.wp execOp
  simp only [ho, hx, hy, hz, Sem.run_bind, hrun, Result.andThen_ok]
  exact h
end
end Go.Proofs.YtjfmahodbdianaaDoor.Rule
