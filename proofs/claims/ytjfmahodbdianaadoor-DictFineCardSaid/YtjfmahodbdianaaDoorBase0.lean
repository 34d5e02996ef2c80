/-
  Lists of rules of the call's own: append, and lists that are written out. No walk.
-/
import Derived.Test.YtjfmahodbdianaaDoorSound1
namespace Go.Proofs.YtjfmahodbdianaaDoor.Rule
open Go.RowKit Mem Cells Ops Go.Maps
set_option linter.unusedVariables false
set_option linter.unusedSimpArgs false

def flatR (rs : List R) : List Value := rs.flatMap fun r => (rowR r).toList
theorem rowR_len (r : R) : (rowR r).toList.length = 6 := rfl
theorem flatR_length (rs : List R) : (flatR rs).length = rs.length * 6 := by
  induction rs with
  | nil => rfl
  | cons z rs ih =>
    have e : flatR (z :: rs) = (rowR z).toList ++ flatR rs := rfl
    rw [e, List.length_append, ih, List.length_cons, rowR_len]
    omega
theorem flatR_get (rs : List R) (i : Nat) (r : R) (h : rs[i]? = some r) (j : Nat) (hj : j < 6) : (flatR rs)[i * 6 + j]? = (rowR r).toList[j]? := by
  induction rs generalizing i with
  | nil => simp at h
  | cons y rs ih =>
    have e : flatR (y :: rs) = (rowR y).toList ++ flatR rs := rfl
    rw [e]
    cases i with
    | zero =>
      simp only [List.getElem?_cons_zero, Option.some.injEq] at h
      subst h
      rw [List.getElem?_append_left (by rw [rowR_len]; omega)]
      simp
    | succ i =>
      rw [List.getElem?_append_right (by rw [rowR_len]; omega), rowR_len, show (i + 1) * 6 + j - 6 = i * 6 + j from by omega]
      exact ih i (by simpa using h)
theorem flatR_one (rs : List R) : ∀ u ∈ flatR rs, u.oneCell' = true := by
  intro u hu
  obtain ⟨r, _, h⟩ := List.mem_flatMap.1 hu
  simp [rowR] at h
  rcases h with rfl | rfl | rfl | rfl | rfl | rfl <;> rfl
/-- The slice v is the call's own, and holds these rules. -/
def OwnR (T B : Nat) (w : World) (v : Value) (rs : List R) : Prop := w.ownsRow B T 6 v rs.length (flatR rs)
theorem OwnR.nil (T B : Nat) (w : World) : OwnR T B w (.slice none 0 0) [] := World.ownsRow_nil _ _ _ _
theorem OwnR.lt {T B : Nat} {w : World} {v : Value} {rs : List R} (h : OwnR T B w v rs) (k : Nat) (hk : v.ownBlock = some k) : B ≤ k ∧ k < w.heap.size := World.ownsRow.lt h k hk
theorem OwnR.below {T B : Nat} {w w' : World} {v : Value} {rs : List R} (h : OwnR T B w v rs) (hb : Below w.heap.size w w') : OwnR T B w' v rs := by
  refine ⟨h.1, ?_⟩
  rcases h.2 with hn | ⟨g, cap, cur, rfl, hbb, hgg, rest⟩
  · exact .inl hn
  · refine .inr ⟨g, cap, cur, rfl, hbb, ?_, rest⟩
    rw [hb.block g (Array.getElem?_eq_some_iff.1 hgg).1]
    exact hgg
theorem OwnR.mono {T B B' : Nat} {w : World} {v : Value} {rs : List R} (h : OwnR T B w v rs) (hB : B' ≤ B) : OwnR T B' w v rs := by
  refine ⟨h.1, ?_⟩
  rcases h.2 with hn | ⟨g, cap, cur, rfl, hbb, rest⟩
  · exact .inl hn
  · exact .inr ⟨g, cap, cur, rfl, by omega, rest⟩
theorem OwnR.reads {T B : Nat} {w : World} {v : Value} {rs : List R} (h : OwnR T B w v rs) : ReadsR w v rs := by
  have hcells := fun g hg => World.ownsRow.cells h (g := g) hg
  have hlt := World.ownsRow.lt h
  obtain ⟨h0, ⟨rfl, hn⟩ | ⟨g, cap, cur, rfl, hb, hg, hle, hm, _⟩⟩ := h
  · exact ⟨none, 0, by rw [hn], by omega, by simp, fun _ => rfl, fun h => by omega⟩
  · refine ⟨_, cap, rfl, hle, hm, (fun h => by cases h), fun hp => ⟨g, 0, rfl, (hlt g rfl).2, fun i r hr j v hv => ?_⟩⟩
    have hj : j < 6 := by
      have := (List.getElem?_eq_some_iff.1 hv).1
      rwa [rowR_len] at this
    have := hcells g rfl (i * 6 + j) v (by rw [flatR_get rs i r hr j hj]; exact hv)
    rw [add_none] at this
    rw [show 0 + i * 6 + j = 0 + (i * 6 + j) from by omega]
    exact this
theorem ownR_of_at {T B g : Nat} {w : World} (rs : List R) (h : At w g T (flatR rs).toArray) (hB : B ≤ g) (hl : rs.length ≤ maxLen) : OwnR T B w (.slice (some ⟨g, 0, none⟩) rs.length rs.length) rs :=
  ⟨flatR_length rs, .inr ⟨g, rs.length, _, rfl, hB, h, Nat.le_refl _, hl, by simp [flatR_length], by
    rw [List.take_of_length_le (by simp [flatR_length])]⟩⟩
section
variable {P : Program} {w : World} {ops : Array Oper} {rest : List Oper} {o : Oper} {a : Act} {Q : Exit → Act → World → Prop}
theorem wpl_appendR (hgd : o.guard = none) (s x : Operand) (t : TypeId) (ho : o.op = .call { callee := .builtin .append, args := #[s, x], argTypes := #[t, t] })
    (B e bytes : Nat) (i : TypeInfo) (z : Value) (ht : P.underlying t = some (.slice e)) (hi : P.info? e = some i) (hz : i.zero = some z) (hsize : i.size = 6) (hby : i.bytes = bytes) (hzs : z.cells.size = 6)
    (v u : Value) (xs ys : List R) (hs : a.eval s = v) (hx : a.eval x = u) (hown : OwnR e B w v xs) (hr : ReadsR w u ys) (hne : 0 < ys.length)
    (h63 : xs.length + ys.length ≤ maxLen) (hbytes : (xs.length + ys.length) * bytes ≤ 140737488355328) (hbase : B ≤ w.heap.size)
    (h : ∀ v' w', OwnR e B w' v' (xs ++ ys) → w.grownBy w' v.ownBlock → wpList P ops Q rest (a.put o.dst v') w') : wpList P ops Q (o :: rest) a w := by
  obtain ⟨p, c, rfl, h1, h2, h3, h4⟩ := hr
  obtain ⟨b, off, rfl, hlt, hc⟩ := h4 hne
  refine wpList_append_own w hgd s x t ho B e i z 6 bytes ht hi hz hsize hby hzs (by omega) v xs.length _ hs hown ⟨b, off, none⟩ ys.length c (flatR ys) hx (flatR_length ys) ?_ (flatR_one ys) h63 hbytes hbase ?_
  · intro j q hj
    have hjl := (List.getElem?_eq_some_iff.1 hj).1
    rw [flatR_length] at hjl
    have hi6 : j / 6 < ys.length := by omega
    have hy : ys[j / 6]? = some ys[j / 6] := List.getElem?_eq_getElem hi6
    have e1 := flatR_get ys (j / 6) _ hy (j % 6) (by omega)
    rw [show j / 6 * 6 + j % 6 = j by omega, hj] at e1
    have := hc (j / 6) _ hy (j % 6) q e1.symm
    rw [add_none, show off + j = off + j / 6 * 6 + j % 6 by omega]
    exact this
  · intro v' w' h5 h6 _
    refine h v' w' ?_ h6
    unfold OwnR
    rw [List.length_append, show flatR (xs ++ ys) = flatR xs ++ flatR ys by simp [flatR]]
    exact h5
/-- A list that is written out. -/
theorem wpl_buildS (hgd : o.guard = none) (S n : Nat) (parts : Array (Nat × Operand)) (ho : o.op = .buildSlice S n parts) (vs : Array (Nat × Value)) (hx : parts.map (fun (i, x) => (i, a.eval x)) = vs) (e : TypeId) (cells : Array Value)
    (hrun : ∀ w : World, (Instr.buildSlice S n vs).run P w = .ok (.slice (some ⟨w.heap.size, 0, none⟩) n n) (w.alloc (.cells cells e)))
    (h : ∀ w', At w' w.heap.size e cells → Below w.heap.size w w' → w'.heap.size = w.heap.size + 1 → wpList P ops Q rest (a.put o.dst (.slice (some ⟨w.heap.size, 0, none⟩) n n)) w') : wpList P ops Q (o :: rest) a w := by
  refine wpList_plain hgd fun K' hK => ?_
  unfold Oper.wp execOp
  simp only [ho, hx, Sem.run_bind, hrun w, Result.andThen_ok]
  exact hK _ _ (h _ (At.new w e cells) ((Below.refl _ _).alloc (Nat.le_refl _) _) (by simp))
end
/-- The rules of a command's request. -/
def base3 : List R := [⟨264, 0, 10, true, 1, 1⟩, ⟨296, 0, 10, true, 1, 1⟩, ⟨278, 0, 4, true, 0, 1⟩]
def base4 : List R := [⟨283, 0, 10, true, 1, 1⟩, ⟨293, 0, 10, true, 0, 1⟩, ⟨282, 0, 10, true, 0, 56⟩, ⟨9100, 0, 1, true, 1, 1⟩]
def baseR (c : Int) : List R := if c = 257 ∨ c = 280 ∨ c = 282 then base3 else if c = 9300 then base3 ++ base4 else []
theorem base_ok (c : Int) : ∀ r ∈ baseR c, r.ok := by
  intro r hr
  have h : r ∈ base3 ++ base4 := by
    unfold baseR at hr
    split at hr
    · exact List.mem_append_left _ hr
    split at hr
    · exact hr
    · cases hr
  simp [base3, base4] at h
  rcases h with rfl | rfl | rfl | rfl | rfl | rfl | rfl <;> (unfold R.ok i64; decide)
instance (rs : List R) (i : Nat) (r : R) : Decidable (¬ bad r ∧ ¬ dup rs i r) := inferInstance
theorem fine_of (rs : List R) (h : (rs.zipIdx.all fun x => decide (¬ bad x.1 ∧ ¬ dup rs x.2 x.1)) = true) : fine rs := by
  intro i r hi
  have := List.all_eq_true.1 h (r, i) (by rw [List.mem_iff_getElem?]; exact ⟨i, by simp [hi]⟩)
  exact of_decide_eq_true this
theorem base_sound (c : Int) : sound (baseR c) := by
  unfold baseR
  split
  · exact ⟨by decide, fine_of _ (by decide)⟩
  split
  · exact ⟨by decide, fine_of _ (by decide)⟩
  · exact ⟨by decide, fine_of _ (by decide)⟩
theorem info40 : ∃ i z, Tryd.prog.info? 37 = some i ∧ i.zero = some z ∧ i.size = 6 ∧ i.bytes = 40 ∧ z.cells.size = 6 := by
  have h : (Tryd.prog.info? 37).map (fun i => (i.zero.map (fun z => z.cells.size), i.size, i.bytes)) = some (some 6, 6, 40) := by kernel_rfl
  cases hi : Tryd.prog.info? 37 with
  | none => rw [hi] at h; cases h
  | some i =>
    rw [hi] at h
    simp at h
    obtain ⟨⟨z, hz, hzs⟩, h2, h3⟩ := h
    exact ⟨i, z, rfl, hz, h2, h3, hzs⟩
end Go.Proofs.YtjfmahodbdianaaDoor.Rule
