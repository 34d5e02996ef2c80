/-
  One element of a list of attributes of the call's own is written anew.
-/
import Derived.Test.YtjfmahodbdianaaDoorOwnD
import Derived.Laws.CopyRow
namespace Go.Proofs.YtjfmahodbdianaaDoor.Avps
open Go.RowKit Mem Cells Ops
set_option linter.unusedVariables false
theorem flat_take (zs : List (A × Value)) (i : Nat) : (flat zs).take (i * 5) = flat (zs.take i) := by
  induction zs generalizing i with
  | nil => simp [flat]
  | cons z zs ih =>
    cases i with
    | zero => simp [flat]
    | succ i =>
      have e : flat (z :: zs) = row z.1 z.2 ++ flat zs := by simp [flat]
      rw [e, show (i + 1) * 5 = 5 + i * 5 by omega, List.take_append, List.take_succ_cons]
      have e2 : flat (z :: zs.take i) = row z.1 z.2 ++ flat (zs.take i) := by simp [flat]
      rw [e2, ← ih i, List.take_of_length_le (by simp [row])]
      simp [row]
theorem flat_drop (zs : List (A × Value)) (i : Nat) : (flat zs).drop (i * 5) = flat (zs.drop i) := by
  have h1 : flat zs = flat (zs.take i) ++ flat (zs.drop i) := by rw [← flat_append, List.take_append_drop]
  have h2 := flat_take zs i
  have h3 := List.take_append_drop (i * 5) (flat zs)
  rw [h2] at h3
  exact List.append_cancel_left (h3.trans h1)
theorem flat_set (zs : List (A × Value)) (i : Nat) (z : A × Value) (hi : i < zs.length) : flat (zs.set i z) = (flat zs).take (i * 5) ++ row z.1 z.2 ++ (flat zs).drop (i * 5 + 5) := by
  rw [List.set_eq_take_append_cons_drop, if_pos hi, flat_append, flat_take, show i * 5 + 5 = (i + 1) * 5 by omega, flat_drop]
  simp [flat]
theorem OwnD.block {D T B : Nat} {w : World} {v : Value} {al : List A} (h : OwnD D T B w v al) (h0 : 0 < al.length) : ∃ g c, v = .slice (some ⟨g, 0, none⟩) al.length c ∧ al.length ≤ c ∧ c ≤ maxLen ∧ B ≤ g ∧ g < w.heap.size := by
  obtain ⟨zs, _, _, h3, _⟩ := h
  have hlt := h3.lt
  obtain ⟨_, ⟨rfl, hn⟩ | ⟨g, cap, cur, rfl, hb, hg, hle, hm, _⟩⟩ := h3
  · omega
  · exact ⟨g, cap, rfl, hle, hm, hb, (hlt g rfl).2⟩
theorem OwnD.elem {D T B g c : Nat} {w : World} {n : Nat} {al : List A} (h : OwnD D T B w (.slice (some ⟨g, 0, none⟩) n c) al) (i : Nat) (hi : i < al.length) :
    ∃ x p m, al[i]? = some x ∧ x ∈ al ∧ w.rangeAt g (i * 5) (row x (.slice p x.data.length m)) ∧ Reads .u8 w (.slice p x.data.length m) x.data ∧ Apart (.slice (some ⟨g, 0, none⟩) n c) (x, .slice p x.data.length m) ∧ From D (x, .slice p x.data.length m) := by
  obtain ⟨zs, h1, h2, h3, h4⟩ := h
  have hcells := h3.cells (g := g) rfl
  have hzl : zs.length = al.length := by rw [← h1, List.length_map]
  have hz : zs[i]? = some zs[i] := List.getElem?_eq_getElem (by omega)
  have ha : zs[i].1 = al[i] := by simp [← h1]
  have hm := List.getElem_mem (l := zs) (n := i) (by omega)
  obtain ⟨r1, r2⟩ := h2 _ hm
  have r3 := h4 _ hm
  obtain ⟨p, m, e, _⟩ := id r1
  have ez : zs[i] = (al[i], .slice p al[i].data.length m) := by
    rw [ha] at e
    exact Prod.ext ha e
  rw [ez] at r1 r2 r3
  refine ⟨al[i], p, m, List.getElem?_eq_getElem hi, List.getElem_mem _, fun j u hj => ?_, r1, r2, r3⟩
  have hj5 : j < 5 := by
    have := (List.getElem?_eq_some_iff.1 hj).1
    simpa [row] using this
  have hf := flat_get zs i zs[i] hz j hj5
  rw [ez] at hf
  have := hcells (i * 5 + j) u (by rw [hf]; exact hj)
  rw [add_none, Nat.zero_add] at this
  exact this
section
variable {P : Program} {w : World} {ops : Array Oper} {rest : List Oper} {o : Oper} {a : Act} {Q : Exit → Act → World → Prop}
theorem wpl_storeL (hgd : o.guard = none) (ty : TypeId) (x y : Operand) (ho : o.op = .store ty x y) (hdst : o.dst = none) (D T B g n c i : Nat) (al : List A) (z : A) (d : Value)
    (hx : a.eval x = .pointer (some ⟨g, i * 5, none⟩)) (hy : a.eval y = .agg (row z d).toArray) (hown : OwnD D T B w (.slice (some ⟨g, 0, none⟩) n c) al) (hi : i < al.length)
    (hd : Reads .u8 w d z.data) (hap : Apart (.slice (some ⟨g, 0, none⟩) n c) (z, d)) (hfr : From D (z, d)) (hinfo : (P.info? ty).map (·.size) = some 5)
    (h : ∀ w', OwnD D T B w' (.slice (some ⟨g, 0, none⟩) n c) (al.set i z) → w.grownBy w' (some g) → wpList P ops Q rest a w') : wpList P ops Q (o :: rest) a w := by
  obtain ⟨zs, h1, h2, h3, h4⟩ := hown
  have hzl : zs.length = al.length := by rw [← h1, List.length_map]
  have one := row_one (a := z) (reads_one hd)
  obtain ⟨hfl, ⟨e, _⟩ | ⟨g', cap, cur, e, hb, hg, hle, hm, hcs, hct⟩⟩ := h3
  · cases e
  cases e
  have hst := run_storeCells_at P g (i * 5) T (row z d) 0 cur w hg (by simp [row]; omega) one
  refine wpList_plain hgd fun K hK => ?_
  have hrun : (Instr.storeAt ty (.pointer (some ⟨g, i * 5, none⟩)) (.agg (row z d).toArray)).run P w = .ok () (w.setRow g (cur.toList.take (i * 5 + 0) ++ row z d ++ cur.toList.drop (i * 5 + 0 + (row z d).length)).toArray) := by
    cases hq : P.info? ty with
    | none => simp [hq] at hinfo
    | some q =>
      have hs : q.size = 5 := by simpa [hq] using hinfo
      simp only [Instr.storeAt, Instr.sureAddr, Sem.run_bind, Sem.run_pure, Result.andThen_ok]
      simp [storeVar, sizeOf, typeInfo, hq, Value.cells, hs, row] at hst ⊢
      exact hst
  unfold Oper.wp execOp
  simp only [ho, hx, hy, Sem.run_bind, hrun, Result.andThen_ok]
  have hl : (row z d).length = 5 := rfl
  have hset : (cur.toList.take (i * 5 + 0) ++ row z d ++ cur.toList.drop (i * 5 + 0 + (row z d).length)).take (al.length * 5) = flat (zs.set i (z, d)) := by
    rw [flat_set zs i (z, d) (by omega), ← hct, hl, Nat.add_zero, List.take_append, List.take_append, List.take_take, List.drop_take]
    have e1 : (cur.toList.take (i * 5)).length = i * 5 := by rw [List.length_take, Array.length_toList]; omega
    rw [List.length_append, e1, hl, Nat.min_eq_right (by omega), List.take_of_length_le (l := row z d) (by rw [hl]; omega), List.take_take, Nat.min_eq_left (by omega)]
  obtain ⟨cs, hcs2⟩ : ∃ cs, (cur.toList.take (i * 5 + 0) ++ row z d ++ cur.toList.drop (i * 5 + 0 + (row z d).length)) = cs := ⟨_, rfl⟩
  rw [hcs2] at hset ⊢
  have hcl : cs.length = cur.size := by rw [← hcs2]; simp [row]; omega
  have hgr : w.grownBy (w.setRow g cs.toArray) (some g) := ⟨rfl, rfl, rfl, by simp, fun q _ hq => setRow_other _ _ _ _ (fun e => hq (by rw [e]))⟩
  have hres := h (w.setRow g cs.toArray) ⟨zs.set i (z, d), by rw [List.map_set, h1], fun y hy => ?_, ⟨by rw [flat_length, List.length_set, List.length_set, hzl], .inr ⟨g, c, cs.toArray, by rw [List.length_set], hb, setRow_heap w g cur _ T _ hg, by rw [List.length_set]; omega, hm, by simpa using hcl.trans hcs, ?_⟩⟩, fun y hy => ?_⟩ hgr
  · refine hK _ _ ?_
    rw [hdst]
    exact hres
  · rcases List.mem_or_eq_of_mem_set hy with hy | rfl
    · exact ⟨reads_grown (h2 y hy).1 hgr (fun h0 q hq => by cases hq; exact (h2 y hy).2 h0 g rfl), (h2 y hy).2⟩
    · exact ⟨reads_grown hd hgr (fun h0 q hq => by cases hq; exact hap h0 g rfl), hap⟩
  · rw [List.length_set]
    exact hset
  · rcases List.mem_or_eq_of_mem_set hy with hy | rfl
    · exact h4 y hy
    · exact hfr
end
end Go.Proofs.YtjfmahodbdianaaDoor.Avps
