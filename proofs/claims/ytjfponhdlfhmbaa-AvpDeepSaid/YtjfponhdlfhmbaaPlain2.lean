/-
  Plain laws: bytes that were put are bytes; errors answer nothing; append of a list that came in onto one of the call's own.
-/
import Derived.Test.YtjfponhdlfhmbaaLaws3
import Derived.Test.YtjfponhdlfhmbaaLaws2
namespace Go.Proofs.Ytjfponhdlfhmbaa.Avp
open Go.RowKit Mem Cells Avps Wire Ops
set_option linter.unusedVariables false
set_option linter.unusedSimpArgs false

theorem bytesOf_wf (n : Int) (s k : Nat) : ∀ x ∈ bytesOf n s k, 0 ≤ x ∧ x ≤ 255 := by
  intro x hx
  obtain ⟨j, _, rfl⟩ := List.mem_map.1 hx
  omega
theorem encG_wf (a : A) (ha : a.ok) (r fill : Int) (hr : 0 ≤ r ∧ r ≤ 31) (hf : 0 ≤ fill ∧ fill ≤ 255) : ∀ x ∈ encG r fill a, 0 ≤ x ∧ x ≤ 255 := by
  intro x hx
  unfold encG at hx
  have hfl : 0 ≤ flagN a + r ∧ flagN a + r ≤ 255 := by
    unfold flagN
    cases venB a <;> cases a.must <;> cases a.prot <;> simp <;> omega
  simp only [List.mem_append, List.mem_singleton] at hx
  rcases hx with ((((hx | hx) | hx) | hx) | hx) | hx
  · exact bytesOf_wf _ _ _ x hx
  · rw [hx]; exact hfl
  · exact bytesOf_wf _ _ _ x hx
  · split at hx
    · exact bytesOf_wf _ _ _ x hx
    · cases hx
  · exact ha.2.2 x hx
  · have := (List.mem_replicate.1 hx).2
    rw [this]; exact hf
theorem encAll_wf (al : List A) (h : ∀ a ∈ al, a.ok) (r fill : Int) (hr : 0 ≤ r ∧ r ≤ 31) (hf : 0 ≤ fill ∧ fill ≤ 255) : ∀ x ∈ encAll r fill al, 0 ≤ x ∧ x ≤ 255 := by
  intro x hx
  obtain ⟨a, ha, hx⟩ := List.mem_flatMap.1 hx
  exact encG_wf a (h a ha) r fill hr hf x hx
/-- What was put: it is few enough, and it is got. -/
theorem put_ok {al : List A} {X : List Int} (h : putOf al = (X, 0)) (hok : ∀ a ∈ al, a.ok) : al.length ≤ 64 ∧ X = encAll 0 0 al ∧ X.length ≤ 4096 ∧ (∀ x ∈ X, 0 ≤ x ∧ x ≤ 255) ∧ getOf X = (al, 0, 0) := by
  unfold putOf at h
  split at h
  · cases h
  · rename_i c
    cases h
    have h1 : al.length ≤ 64 := by omega
    have h2 : (encAll 0 0 al).length ≤ 4096 := by omega
    exact ⟨h1, rfl, h2, encAll_wf al hok 0 0 (by omega) (by omega), get_put 0 0 (by omega) al (fun a ha => ⟨hok a ha, Nat.le_trans (enc_data 0 0 a al ha) h2⟩) h1 h2⟩
theorem put_no (al : List A) : (∃ X, putOf al = (X, 0)) ∨ putOf al = ([], 4) := by
  unfold putOf
  split
  · exact .inr rfl
  · exact .inl ⟨_, rfl⟩
theorem getF_err (xs : List Int) : ∀ (f at_ : Nat) (acc : List A) (R : List A) (k e : Int), getF xs f at_ acc = (R, k, e) → e ≠ 0 → R = []
  | 0, at_, acc, R, k, e, h, he => by
    have h' : (acc, (0 : Int), (0 : Int)) = (R, k, e) := h
    cases h'
    exact absurd rfl he
  | f + 1, at_, acc, R, k, e, h, he => by
    unfold getF at h
    split at h
    · cases h; exact absurd rfl he
    split at h
    · cases h; rfl
    split at h
    · exact getF_err xs f _ _ R k e h he
    · simp only [Prod.mk.injEq] at h; exact h.1.symm
theorem getOf_err {xs : List Int} {R : List A} {k e : Int} (h : getOf xs = (R, k, e)) (he : e ≠ 0) : R = [] := by
  unfold getOf at h
  split at h
  · cases h; rfl
  · exact getF_err xs _ _ _ R k e h he
/-- What was got is put, and got again. -/
theorem got_ok {xs : List Int} {L : List A} {k : Int} (hwf : ∀ x ∈ xs, 0 ≤ x ∧ x ≤ 255) (h : getOf xs = (L, k, 0)) : ∃ Z, putOf L = (Z, 0) ∧ Z.length = xs.length ∧ (∀ a ∈ L, a.ok) ∧ ∀ a ∈ L, a.data.length ≤ 4096 := by
  obtain ⟨h1, h2, h3, h4⟩ := put_get xs hwf 0 0 L k h
  refine ⟨encAll 0 0 L, ?_, h2, h4, fun a ha => ?_⟩
  · unfold putOf
    rw [if_neg (by omega)]
  · have := enc_data 0 0 a L ha
    omega
end Go.Proofs.Ytjfponhdlfhmbaa.Avp
namespace Go.Proofs.Ytjfponhdlfhmbaa.Avps
open Go.RowKit Mem Cells
set_option linter.unusedVariables false
section
variable {P : Program} {w : World} {ops : Array Oper} {rest : List Oper} {o : Oper} {a : Act} {Q : Exit → Act → World → Prop}
/-- Append of a list that came in onto a list of the call's own. -/
theorem wpl_appendRL (hgd : o.guard = none) (s x : Operand) (t : TypeId) (ho : o.op = .call { callee := .builtin .append, args := #[s, x], argTypes := #[t, t] })
    (B e bytes : Nat) (i : TypeInfo) (z : Value) (ht : P.underlying t = some (.slice e)) (hi : P.info? e = some i) (hz : i.zero = some z) (hsize : i.size = 5) (hby : i.bytes = bytes) (hzs : z.cells.size = 5)
    (v u : Value) (al bl : List A) (w0 : World) (hs : a.eval s = v) (hx : a.eval x = u) (hown : OwnL e B w v al) (hr : ReadsL w0 u bl) (hb : Below w0.heap.size w0 w) (hB : w0.heap.size ≤ B)
    (h63 : al.length + bl.length ≤ maxLen) (hbytes : (al.length + bl.length) * bytes ≤ 140737488355328) (hbase : B ≤ w.heap.size)
    (h : ∀ v' w', OwnL e B w' v' (al ++ bl) → w.grownBy w' v.ownBlock → wpList P ops Q rest (a.put o.dst v') w') : wpList P ops Q (o :: rest) a w := by
  have hr' := hr
  obtain ⟨p, c, zs, rfl, h1, h2, h3, h4, h5, h6⟩ := hr
  have hzl : zs.length = bl.length := by rw [← h4, List.length_map]
  cases p with
  | none =>
    obtain rfl := h3 rfl
    have hb0 : bl = [] := List.eq_nil_of_length_eq_zero (by omega)
    subst hb0
    obtain ⟨ys, e1, e2, e3⟩ := id hown
    exact wpList_append_own_none hgd s x t ho B e i 5 ht hi v al.length (flat ys) hs e3 hx (h v w (by rw [List.append_nil]; exact hown) ⟨rfl, rfl, rfl, Nat.le_refl _, fun _ _ _ => rfl⟩)
  | some ad =>
    have hx' : a.eval x = .slice (some ad) zs.length c := by rw [hx, hzl]
    rw [← hzl] at h63 hbytes
    refine wpl_appendL hgd s x t ho B e bytes i z ht hi hz hsize hby hzs v ad c al zs hs hx' hown ?_ ?_ h63 hbytes hbase ?_
    · intro j q hj
      have hj' : j < (flat zs).length := (List.getElem?_eq_some_iff.1 hj).1
      rw [flat_length, hzl] at hj'
      obtain ⟨b, off, hp, hlt, hc⟩ := h6 (by omega)
      cases hp
      rw [add_none, hb.cell (p := ⟨b, off + j, none⟩) hlt, hc j hj', hj]
    · intro y hy
      refine ⟨(h5 y hy).below hb, fun h0 q hq e => ?_⟩
      obtain ⟨k, hk1, hk2⟩ := reads_lt (h5 y hy) h0
      have := (hown.lt q hq).1
      rw [hk1] at e
      cases e
      omega
    · intro v' w' k1 k2
      rw [h4] at k1
      exact h v' w' k1 k2
end
end Go.Proofs.Ytjfponhdlfhmbaa.Avps
