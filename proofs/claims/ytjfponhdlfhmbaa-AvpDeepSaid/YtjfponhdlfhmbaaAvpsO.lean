/-
  Lists of attributes: an element of one that came in; one element put behind a list of the call's own.
-/
import Derived.Test.YtjfponhdlfhmbaaAvps
import Derived.Test.YtjfponhdlfhmbaaOps
import Derived.Test.YtjfponhdlfhmbaaGet2
namespace Go.Proofs.Ytjfponhdlfhmbaa.Avps
open Go.RowKit Mem Cells
set_option linter.unusedVariables false

theorem ReadsL.shape {w : World} {v : Value} {al : List A} (h : ReadsL w v al) : ∃ p c, v = .slice p al.length c ∧ al.length ≤ c ∧ c ≤ maxLen := by
  obtain ⟨p, c, zs, rfl, h1, h2, _⟩ := h
  exact ⟨p, c, rfl, h1, h2⟩
theorem ReadsL.elem {w : World} {v : Value} {al : List A} (h : ReadsL w v al) (i : Nat) (hi : i < al.length) :
    ∃ x, al[i]? = some x ∧ x ∈ al ∧ ∃ b off c p n, v = .slice (some ⟨b, off, none⟩) al.length c ∧ al.length ≤ c ∧ c ≤ maxLen ∧ b < w.heap.size ∧ w.rangeAt b (off + i * 5) (row x (.slice p x.data.length n)) ∧ Reads .u8 w (.slice p x.data.length n) x.data := by
  obtain ⟨p, c, zs, rfl, h1, h2, h3, h4, h5, h6⟩ := h
  obtain ⟨b, off, rfl, hlt, hc⟩ := h6 (by omega)
  have hzl : zs.length = al.length := by rw [← h4, List.length_map]
  have hz : zs[i]? = some zs[i] := List.getElem?_eq_getElem (by omega)
  have ha : zs[i].1 = al[i] := by simp [← h4]
  have hr := h5 zs[i] (List.getElem_mem _)
  rw [ha] at hr
  obtain ⟨pd, nd, e, _⟩ := id hr
  refine ⟨al[i], List.getElem?_eq_getElem hi, List.getElem_mem _, b, off, c, pd, nd, rfl, h1, h2, hlt, fun j u hj => ?_, e ▸ hr⟩
  rw [← e, ← ha] at hj
  have hj5 : j < 5 := by
    rcases Nat.lt_or_ge j 5 with h | h
    · exact h
    · rw [List.getElem?_eq_none (by simp [row]; omega)] at hj; cases hj
  rw [Nat.add_assoc, hc (i * 5 + j) (by omega), flat_get zs i zs[i] hz j hj5, hj]

section
variable {P : Program} {w : World} {ops : Array Oper} {rest : List Oper} {o o1 o2 : Oper} {a : Act} {Q : Exit → Act → World → Prop}
/-- One attribute more, behind a list of the call's own. -/
theorem wpl_push (S e bytes d1 : Nat) (x s : Operand) (g1 : o1.guard = none) (ho1 : o1.op = .buildSlice S 1 #[(0, x)]) (hd1 : o1.dst = some d1) (g2 : o2.guard = none) (ho2 : o2.op = .call { callee := .builtin .append, args := #[s, .tmp d1], argTypes := #[S, S] })
    (A : A) (d : Value) (hx : a.eval x = .agg (row A d).toArray) (hrun : ∀ w : World, (Instr.buildSlice S 1 #[(0, .agg (row A d).toArray)]).run P w = .ok (.slice (some ⟨w.heap.size, 0, none⟩) 1 1) (w.alloc (.cells (row A d).toArray e)))
    (B : Nat) (i : TypeInfo) (z : Value) (ht : P.underlying S = some (.slice e)) (hi : P.info? e = some i) (hz : i.zero = some z) (hsize : i.size = 5) (hby : i.bytes = bytes) (hzs : z.cells.size = 5)
    (v : Value) (al : List Avps.A) (hs : ∀ u, (a.put (some d1) u).eval s = v) (hdv : ∀ u, (a.put (some d1) u).eval (.tmp d1) = u) (hown : OwnL e B w v al)
    (hd : Reads .u8 w d A.data) (hap : Apart v (A, d)) (h63 : al.length + 1 ≤ maxLen) (hbytes : (al.length + 1) * bytes ≤ 140737488355328) (hbase : B ≤ w.heap.size)
    (h : ∀ v' w', OwnL e B w' v' (al ++ [A]) → w.grownBy w' v.ownBlock → wpList P ops Q rest ((a.put (some d1) (.slice (some ⟨w.heap.size, 0, none⟩) 1 1)).put o2.dst v') w') : wpList P ops Q (o1 :: o2 :: rest) a w := by
  refine wpList_plain g1 fun K hK => ?_
  unfold Oper.wp execOp
  have hp : (#[(0, x)] : Array (Nat × Operand)).map (fun (i, x) => (i, a.eval x)) = #[(0, .agg (row A d).toArray)] := by simp [hx]
  simp only [ho1, hp, Sem.run_bind, hrun w, Result.andThen_ok]
  refine hK _ _ ?_
  rw [hd1]
  have hal := (Below.refl w.heap.size w).alloc (Nat.le_refl _) (.cells (row A d).toArray e)
  have hat := At.new w e (row A d).toArray
  refine wpl_appendL g2 s (.tmp d1) S ho2 B e bytes i z ht hi hz hsize hby hzs v ⟨w.heap.size, 0, none⟩ 1 al [(A, d)] (hs _) (hdv _) (hown.below hal) ?_ ?_ h63 hbytes (by simp; omega) ?_
  · intro j u hj
    rw [add_none, Nat.zero_add, hat.cell j, ← hj, flat_one]
    simp
  · intro y hy
    rw [List.mem_singleton] at hy
    subst hy
    exact ⟨hd.below hal, hap⟩
  · intro v' w' h1 h2
    exact h v' w' h1 (grown_trans (grown_below _ hal) h2)
end
end Go.Proofs.Ytjfponhdlfhmbaa.Avps
namespace Go.Proofs.Ytjfponhdlfhmbaa.Avp
open Go.RowKit Mem Cells Avps
theorem build22 (A : A) (d : Value) (w : World) : (Instr.buildSlice 22 1 #[(0, .agg (row A d).toArray)]).run Try.prog w = .ok (.slice (some ⟨w.heap.size, 0, none⟩) 1 1) (w.alloc (.cells (row A d).toArray 41)) := by
  kernel_rfl
end Go.Proofs.Ytjfponhdlfhmbaa.Avp
