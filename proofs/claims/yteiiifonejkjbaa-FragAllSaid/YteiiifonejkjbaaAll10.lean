/-
  Memory, for FragAll: an element of a list of pieces of the call's own, or its number, is written; a list of messages behind another one; Cut whose pieces are the call's own.
-/
import Derived.Test.YteiiifonejkjbaaAllP
import Derived.Laws.CopyRow
import Derived.Laws.OwnMore
namespace Go.Proofs.Yteiiifonejkjbaa.Fa
open Go.RowKit Mem Cells Ops Pcs Go.Maps Go.Proofs.Yteiiifonejkjbaa.Open Go.Proofs.Yteiiifonejkjbaa.Bx Go.Proofs.Yteiiifonejkjbaa.Rb Chunk
set_option linter.unusedVariables false
set_option linter.unusedSimpArgs false

theorem flat_take (zs : List (A × Value)) (i : Nat) : (flat zs).take (i * 7) = flat (zs.take i) := by
  induction zs generalizing i with
  | nil => simp [flat]
  | cons z zs ih =>
    cases i with
    | zero => simp [flat]
    | succ i =>
      have e : flat (z :: zs) = row z.1 z.2 ++ flat zs := by simp [flat]
      rw [e, show (i + 1) * 7 = 7 + i * 7 by omega, List.take_append, List.take_succ_cons]
      have e2 : flat (z :: zs.take i) = row z.1 z.2 ++ flat (zs.take i) := by simp [flat]
      rw [e2, ← ih i, List.take_of_length_le (by simp [row])]
      simp [row]
theorem flat_drop (zs : List (A × Value)) (i : Nat) : (flat zs).drop (i * 7) = flat (zs.drop i) := by
  have h1 : flat zs = flat (zs.take i) ++ flat (zs.drop i) := by rw [← flat_append, List.take_append_drop]
  have h2 := flat_take zs i
  have h3 := List.take_append_drop (i * 7) (flat zs)
  rw [h2] at h3
  exact List.append_cancel_left (h3.trans h1)
theorem flat_set (zs : List (A × Value)) (i : Nat) (z : A × Value) (hi : i < zs.length) : flat (zs.set i z) = (flat zs).take (i * 7) ++ row z.1 z.2 ++ (flat zs).drop (i * 7 + 7) := by
  rw [List.set_eq_take_append_cons_drop, if_pos hi, flat_append, flat_take, show i * 7 + 7 = (i + 1) * 7 by omega, flat_drop]
  simp [flat]
theorem flat_setT (zs : List (A × Value)) (i : Nat) (z : A × Value) (hi : zs[i]? = some z) (t : Int) : flat (zs.set i ({ z.1 with tsn := t }, z.2)) = (flat zs).take (i * 7) ++ [.int .u32 t] ++ (flat zs).drop (i * 7 + 1) := by
  have hil := (List.getElem?_eq_some_iff.1 hi).1
  rw [flat_set _ _ _ hil]
  have h1 : (flat zs).drop (i * 7) = row z.1 z.2 ++ (flat zs).drop (i * 7 + 7) := by
    rw [flat_drop, List.drop_eq_getElem_cons hil, show i * 7 + 7 = (i + 1) * 7 by omega, flat_drop]
    have : zs[i] = z := (List.getElem?_eq_some_iff.1 hi).2
    rw [this]
    simp [flat]
  have h2 : (flat zs).drop (i * 7 + 1) = (row z.1 z.2).drop 1 ++ (flat zs).drop (i * 7 + 7) := by
    rw [← List.drop_drop, h1, List.drop_append]
    simp [row]
  rw [h2]
  simp [row]
/-- Cells of a row of the call's own are written. -/
theorem own_put {P : Program} {w : World} {B e k g m c : Nat} {xs : List Value} (h : w.ownsRow B e k (.slice (some ⟨g, 0, none⟩) m c) m xs) (off : Nat) (ys : List Value) (hoff : off + ys.length ≤ xs.length) (h1 : ∀ v ∈ ys, v.oneCell' = true)
    (ty : TypeId) (v : Value) (hv : v.cells = ys.toArray) (hinfo : (P.info? ty).map (·.size) = some ys.length) :
    ∃ w', (Instr.storeAt ty (.pointer (some ⟨g, off, none⟩)) v).run P w = .ok () w' ∧ w'.ownsRow B e k (.slice (some ⟨g, 0, none⟩) m c) m (xs.take off ++ ys ++ xs.drop (off + ys.length)) ∧ w.grownBy w' (some g) := by
  obtain ⟨hl, ⟨e, _⟩ | ⟨g', cap, cur, e, hb, hg, hle, hm, hcs, hct⟩⟩ := h
  · cases e
  cases e
  have hml : m * k ≤ cur.size := by rw [hcs]; exact Nat.mul_le_mul_right _ hle
  have hst := run_storeCells_at P g off _ ys 0 cur w hg (by omega) h1
  rw [Nat.add_zero] at hst
  have hrun : (Instr.storeAt ty (.pointer (some ⟨g, off, none⟩)) v).run P w = .ok () (w.setRow g (cur.toList.take off ++ ys ++ cur.toList.drop (off + ys.length)).toArray) := by
    cases hq : P.info? ty with
    | none => simp [hq] at hinfo
    | some q =>
      have hs : q.size = ys.length := by simpa [hq] using hinfo
      simp only [Instr.storeAt, Instr.sureAddr, Sem.run_bind, Sem.run_pure, Result.andThen_ok]
      simp [storeVar, sizeOf, typeInfo, hq, hs, hv] at hst ⊢
      exact hst
  refine ⟨_, hrun, ⟨?_, .inr ⟨g, c, _, rfl, hb, setRow_heap w g cur _ e _ hg, hle, hm, ?_, ?_⟩⟩, ⟨rfl, rfl, rfl, by simp, fun q _ hq => setRow_other _ _ _ _ (fun e => hq (by rw [e]))⟩⟩
  · rw [List.length_append, List.length_append, List.length_take, List.length_drop]; omega
  · simp
    rw [← hcs]
    omega
  · have e1 : (cur.toList.take off).length = off := by rw [List.length_take, Array.length_toList]; omega
    rw [← hct, List.take_append, List.take_append, List.take_take, List.length_append, e1, Nat.min_eq_right (by omega), List.take_of_length_le (l := ys) (by omega), List.drop_take, List.take_take, Nat.min_eq_left (by omega)]
theorem storeQ_run {w : World} {B g n c i : Nat} {al : List A} (h : OwnQ B w (.slice (some ⟨g, 0, none⟩) n c) al) (hi : i < al.length) (z : A) (d : Value) (hd : Row .u8 5 B w d z.data) :
    ∃ w', (Instr.storeAt 45 (.pointer (some ⟨g, i * 7, none⟩)) (.agg (row z d).toArray)).run Try.prog w = .ok () w' ∧ OwnQ B w' (.slice (some ⟨g, 0, none⟩) n c) (al.set i z) ∧ w.grownBy w' (some g) := by
  obtain ⟨zs, h1, h2, h3⟩ := h
  have hzl : zs.length = al.length := by rw [← h1, List.length_map]
  have hn : n = al.length := by
    rcases h2.2 with ⟨e, _⟩ | ⟨_, _, _, e, _⟩
    · cases e
    · cases e; rfl
  subst hn
  obtain ⟨w', hr, r1, r2⟩ := own_put (P := Try.prog) h2 (i * 7) (row z d) (by rw [flat_length, show (row z d).length = 7 from rfl]; omega) (row_one (reads_one hd.reads)) 45 (.agg (row z d).toArray) rfl (by kernel_rfl)
  refine ⟨w', hr, ⟨zs.set i (z, d), by rw [List.map_set, h1], ?_, ?_⟩, r2⟩
  · rw [flat_set _ _ _ (by omega), List.length_set]
    exact r1
  · intro y hy
    rcases List.mem_or_eq_of_mem_set hy with hy | rfl
    · exact (h3 y hy).kept r2 (own_ne2 (h3 y hy) h2 (by decide))
    · exact hd.kept r2 (own_ne2 hd h2 (by decide))
theorem storeT_run {w : World} {B g n c i : Nat} {al : List A} (h : OwnQ B w (.slice (some ⟨g, 0, none⟩) n c) al) (z : A) (hi : al[i]? = some z) (t : Int) :
    ∃ w', (Instr.storeAt 43 (.pointer (some ⟨g, i * 7, none⟩)) (.int .u32 t)).run Try.prog w = .ok () w' ∧ OwnQ B w' (.slice (some ⟨g, 0, none⟩) n c) (al.set i { z with tsn := t }) ∧ w.grownBy w' (some g) := by
  obtain ⟨zs, h1, h2, h3⟩ := h
  have hzl : zs.length = al.length := by rw [← h1, List.length_map]
  have hil := (List.getElem?_eq_some_iff.1 hi).1
  have hn : n = al.length := by
    rcases h2.2 with ⟨e, _⟩ | ⟨_, _, _, e, _⟩
    · cases e
    · cases e; rfl
  subst hn
  have hz : zs[i]? = some (z, (zs[i]'(by omega)).2) := by
    have : (zs[i]'(by omega)).1 = z := by
      rw [← (List.getElem?_eq_some_iff.1 hi).2]
      simp [← h1]
    rw [List.getElem?_eq_getElem (by omega), ← this]
  obtain ⟨w', hr, r1, r2⟩ := own_put (P := Try.prog) h2 (i * 7) [.int .u32 t] (by rw [flat_length, show ([Value.int .u32 t]).length = 1 from rfl]; omega) (by intro v hv; rw [List.mem_singleton] at hv; subst hv; rfl) 43 (.int .u32 t) rfl (by kernel_rfl)
  refine ⟨w', hr, ⟨zs.set i ({ z with tsn := t }, (zs[i]'(by omega)).2), by rw [List.map_set, h1], ?_, ?_⟩, r2⟩
  · rw [flat_setT _ _ _ hz, List.length_set]
    exact r1
  · intro y hy
    rcases List.mem_or_eq_of_mem_set hy with hy | rfl
    · exact (h3 y hy).kept r2 (own_ne2 (h3 y hy) h2 (by decide))
    · have hm := h3 _ (List.mem_of_getElem? hz)
      exact hm.kept r2 (own_ne2 hm h2 (by decide))
section
variable {P : Program} {w : World} {ops : Array Oper} {rest : List Oper} {o : Oper} {a : Act} {Q : Exit → Act → World → Prop}
/-- A store whose run is known. -/
theorem wpl_storeV (hgd : o.guard = none) (ty : TypeId) (x y : Operand) (ho : o.op = .store ty x y) (hd : o.dst = none) (vx vy : Value) (w' : World) (hx : a.eval x = vx) (hy : a.eval y = vy)
    (hrun : (Instr.storeAt ty vx vy).run P w = .ok () w') (h : wpList P ops Q rest a w') : wpList P ops Q (o :: rest) a w := by
  refine wpList_plain hgd fun K hK => ?_
  unfold Oper.wp execOp
  simp only [ho, hx, hy, Sem.run_bind, hrun, Result.andThen_ok]
  refine hK _ _ ?_
  rw [hd]
  exact h
end
/-- A list of messages behind another one. -/
theorem run_appG {w : World} {B B' : Nat} {v u : Value} {al bl : List G} (h : OwnG B w v al) (h' : OwnG B' w u bl) (hB : B ≤ w.heap.size) (hn : al.length + bl.length ≤ 99999) :
    ∃ v' w', (Builtin.append_ #[49, 49] 49 #[v, u]).run Try.prog w = .ok v' w' ∧ OwnG B w' v' (al ++ bl) ∧ w.grownBy w' v.ownBlock := by
  obtain ⟨i, hi, hz0, hz1, hz2⟩ := info_parts info32
  obtain ⟨ys, e1, e2, e3⟩ := h
  obtain ⟨zs, f1, f2, f3⟩ := h'
  have hyl : ys.length = al.length := by rw [← e1, List.length_map]
  have hzl : zs.length = bl.length := by rw [← f1, List.length_map]
  have hcells := fun g hg => f2.cells (g := g) hg
  rcases f2.2 with ⟨rfl, hb0⟩ | ⟨g, cap, cur, rfl, hbb, hgg, hle, hm, hcs, hct⟩
  · have : bl = [] := List.length_eq_zero_iff.1 hb0
    subst this
    have hrun := run_append_owned_none (P := Try.prog) (w := w) B 49 49 32 i 2 Try.underlying49 hi v al.length (flatG ys) e2
    exact ⟨v, w, hrun, by rw [List.append_nil]; exact ⟨ys, e1, e2, e3⟩, grown_refl w _⟩
  · have hone : ∀ u ∈ flatG zs, u.oneCell' = true := by
      intro u hu
      obtain ⟨z, hz, hu⟩ := List.mem_flatMap.1 hu
      have := reads_one (f3 z hz).reads
      simp only [rowG, List.mem_cons, List.not_mem_nil, or_false] at hu
      rcases hu with rfl | rfl
      · rfl
      · exact this
    obtain ⟨v', w', hr, k2, k3, k4⟩ := run_append_own (P := Try.prog) w B 49 49 32 i _ 2 32 Try.underlying49 hi hz0 hz1 hz2 rfl (by omega) v al.length (flatG ys) e2 ⟨g, 0, none⟩ bl.length cap (flatG zs) (by rw [flatG_length, hzl])
      (fun j u hj => hcells g rfl j u hj) hone (by simp [maxLen]; omega) (by omega) hB
    have key : ∀ z : G × Value, Row .u8 5 0 w z.2 z.1.data → Row .u8 5 0 w' z.2 z.1.data := fun z hz => hz.kept k3 (own_ne2 hz e2 (by decide))
    refine ⟨v', w', hr, ⟨ys ++ zs, by rw [List.map_append, e1, f1], ?_, ?_⟩, k3⟩
    · rw [flatG_append, List.length_append]
      exact k2
    · intro z hz
      rcases List.mem_append.1 hz with hz | hz
      · exact key z (e3 z hz)
      · exact key z (f3 z hz)
/-- Cut whose pieces are the call's own. -/
def CutO (T : Nat) (w : World) (g : Nat) (nx : Nat → Int) (x : C) : Ending → World → Prop := fun e w' => ∃ v, e = .returned (.tuple #[v, .int .i64 (cutF nx x).2.2]) ∧ OwnQ w.heap.size w' v (cutF nx x).1 ∧ At w' g T (nxA (cutF nx x).2.1) ∧ ButX (fun k => k = g) w w'
theorem rcut_own (w : World) (g : Nat) (nx : Nat → Int) (hat : At w g 29 (nxA nx)) (hn : nxOk nx) (x : C) (v : Value) (hr : Reads .u8 w v x.data) (hok : x.ok) :
    Calls Try.prog 12 #[.pointer (some ⟨g, 0, none⟩), .agg #[.int .u16 x.s, v], .bool x.un, .int .i64 x.z] w (CutO 29 w g nx x) := by
  obtain ⟨s, xs, un, z⟩ := x
  obtain ⟨⟨h1, h2⟩, h3, h4, h5⟩ := hok
  simp only at h1 h2 h3 h4 h5 hr ⊢
  by_cases hE : cutE false xs.length s z = 0
  · obtain ⟨k1, k2, ⟨s', rfl, k3, k4⟩, sz, rfl, k5, k6, k7⟩ := cutE_0 h1 hE
    refine (rcut_ok w g nx hat s' k3 v xs.length sz xs un hr rfl k1 k2 k5 k6 (hn s')).mono ?_
    rintro e w' ⟨q, c, k, rfl, e1, e2, e3, e4, e5, e6, e7⟩
    have hc : cutF nx ⟨(s' : Int), xs, un, (sz : Int)⟩ = (PE s' (cutSq un nx s') un xs sz (k + 1), cutNx un nx s', 0) := by
      unfold cutF
      simp only [hE, if_true, k4, k7, cuts_k k5 e1 e2]
    unfold CutO
    rw [hc]
    exact ⟨_, rfl, e5, e6, e7⟩
  · obtain ⟨p, c, rfl, l1, l2, _⟩ := id hr
    refine (rcut_bad w (some ⟨g, 0, none⟩) s z p xs.length c un (by rw [rcutE_eq]; exact hE) (by unfold maxLen at l2; omega) ⟨h1, h2⟩ ⟨h4, h5⟩).mono ?_
    rintro e w' ⟨rfl, hb⟩
    rw [rcutE_eq]
    have hc : cutF nx ⟨s, xs, un, z⟩ = ([], nx, cutE false xs.length s z) := by
      unfold cutF
      simp only [hE, if_false]
    unfold CutO
    rw [hc]
    exact ⟨_, rfl, OwnQ.nil _ _, hat.ext hb, ButX.ofBelow hb⟩
end Go.Proofs.Yteiiifonejkjbaa.Fa
