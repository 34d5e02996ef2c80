/-
  LAWS AT Oper.wp (for drawn regions whose operations are shown once each). No program is looked into here.
-/
import Derived.Test.YtjfponhdlfhmbaaMem
namespace Go.Proofs.Ytjfponhdlfhmbaa.Mem
open Go.RowKit
set_option linter.unusedVariables false
section
variable {P : Program} {w : World} {o : Oper} {a : Act} {K : Act → World → Prop} {Q : Exit → Act → World → Prop}
theorem wp_appendO (s x : Operand) (t : TypeId) (ho : o.op = .call { callee := .builtin .append, args := #[s, x], argTypes := #[t, t] })
    (k : IntKind) (B e bytes : Nat) (i : TypeInfo) (z : Value) (ht : P.underlying t = some (.slice e)) (hi : P.info? e = some i) (hz : i.zero = some z) (hsize : i.size = 1) (hby : i.bytes = bytes) (hzs : z.cells.size = 1)
    (v u : Value) (xs ys : List Int) (hs : a.eval s = v) (hx : a.eval x = u) (hown : Row k e B w v xs) (hr : Reads k w u ys) (hne : 0 < ys.length)
    (h63 : xs.length + ys.length ≤ maxLen) (hbytes : (xs.length + ys.length) * bytes ≤ 140737488355328) (hbase : B ≤ w.heap.size)
    (h : ∀ v' w', Row k e B w' v' (xs ++ ys) → w.grownBy w' v.ownBlock → K (a.put o.dst v') w') : o.wp P a w K Q := by
  obtain ⟨p, c, rfl, h1, h2, h3, h4⟩ := hr
  obtain ⟨b, off, hp, _, hc⟩ := h4 hne
  subst hp
  have hnews : ∀ j q, (ys.map (Value.int k))[j]? = some q → w.cell? ((⟨b, off, none⟩ : Addr).add j) = some q := by
    intro j q hj
    have hjl : j < ys.length := by
      rcases Nat.lt_or_ge j ys.length with h | h
      · exact h
      · simp [List.getElem?_eq_none (show (ys.map (Value.int k)).length ≤ j by simpa using h)] at hj
    rw [add_none, hc j hjl]
    simp [List.getElem?_eq_getElem hjl] at hj
    subst hj
    simp [List.getD, List.getElem?_eq_getElem hjl]
  have h1c : ∀ q ∈ ys.map (Value.int k), q.oneCell' = true := by
    intro q hq
    obtain ⟨_, _, rfl⟩ := List.mem_map.1 hq
    rfl
  obtain ⟨v', w', hr, k2, k3, k4⟩ := run_append_own (P := P) w B t o.type e i z 1 bytes ht hi hz hsize hby hzs (by omega) v xs.length _ hown ⟨b, off, none⟩ ys.length c (ys.map (Value.int k)) (by simp) hnews h1c h63 hbytes hbase
  unfold Oper.wp execOp
  simp only [ho, resolve, invoke, builtin, Sem.run_bind, Sem.run_pure, Result.andThen_ok, List.map_toArray, List.map_cons, List.map_nil, hs, hx, hr]
  exact h v' w' (by simpa [Row] using k2) k3
theorem wp_build (S n : Nat) (x : Operand) (ho : o.op = .buildSlice S n #[(0, x)]) (v r : Value) (w' : World) (hx : a.eval x = v) (hrun : (Instr.buildSlice S n #[(0, v)]).run P w = .ok r w') (h : K (a.put o.dst r) w') : o.wp P a w K Q := by
  have hp : (#[(0, x)] : Array (Nat × Operand)).map (fun (i, x) => (i, a.eval x)) = #[(0, v)] := by simp [hx]
  unfold Oper.wp execOp
  simp only [ho, hp, Sem.run_bind, hrun, Result.andThen_ok]
  exact h
theorem wp_loadV (T : TypeId) (x : Operand) (ho : o.op = .load T x) (v r : Value) (hx : a.eval x = v) (hrun : (Instr.loadAt T v).run P w = .ok r w) (h : K (a.put o.dst r) w) : o.wp P a w K Q := by
  unfold Oper.wp execOp
  simp only [ho, hx, Sem.run_bind, hrun, Result.andThen_ok]
  exact h
theorem wp_val (r : Value) (w' : World) (hrun : (execOp a.eval o).run P w = .ok (.value r) w') (h : K (a.put o.dst r) w') : o.wp P a w K Q := by
  unfold Oper.wp
  rw [hrun]
  exact h
theorem wp_callF (f : Nat) (xs : Array Operand) (ts : Array TypeId) (ho : o.op = .call { callee := .value (.func f), args := xs, argTypes := ts }) (vs : Array Value) (hrun : (execOp a.eval o).run P w = .ok (.enter f vs) w) (h : Calls P f vs w fun e w' => ∃ v, e = .returned v ∧ K (a.put o.dst v) w') : o.wp P a w K Q := by
  unfold Oper.wp
  rw [hrun]
  simp only [Oper.upon]
  exact Calls.mono h (fun e w'' ⟨v, he, hk⟩ => by subst he; exact hk)
end
end Go.Proofs.Ytjfponhdlfhmbaa.Mem
