/-
  OPENING WHAT CAME IN, WITH THE FORM'S REACH: what a datum weighs, part by part; a slice of bytes, a struct's fields, the elements of a slice. No program is looked into here.
-/
import Derived.Test.YtamemmbcdkhdhaaOpen
import Derived.Test.YtamemmbcdkhdhaaMem
namespace Go.Proofs.Ytamemmbcdkhdhaa.Open
open Go.ChangeShapes Go.WideShapes Go.RowKit Mem
set_option linter.unusedVariables false

section
variable {H : Type} {P : Program}
/-- What a datum weighs is within the form's reach. -/
def Sz (P : Program) (t : TypeId) (d : DataW H) : Prop := (d.weights P t).all (· ≤ reachBytes) = true
theorem sz_each : ∀ {ts : List TypeId} {ds : List (DataW H)}, (DataW.weightsEach P ts ds).all (· ≤ reachBytes) = true → ∀ {j : Nat} {t : TypeId} {d : DataW H}, ts[j]? = some t → ds[j]? = some d → Sz P t d
  | [], _, _, j, t, d, ht, _ => by simp at ht
  | _ :: _, [], _, j, t, d, _, hd => by simp at hd
  | t' :: ts, d' :: ds, h, j, t, d, ht, hd => by
    unfold DataW.weightsEach at h
    rw [List.all_append, Bool.and_eq_true] at h
    cases j with
    | zero =>
      simp at ht hd
      subst ht; subst hd
      exact h.1
    | succ j => exact sz_each h.2 (by simpa using ht) (by simpa using hd)
theorem sz_all {e : TypeId} : ∀ {ds : List (DataW H)}, (DataW.weightsAll P e ds).all (· ≤ reachBytes) = true → ∀ d ∈ ds, Sz P e d
  | [], _, d, hd => by cases hd
  | d' :: ds, h, d, hd => by
    unfold DataW.weightsAll at h
    rw [List.all_append, Bool.and_eq_true] at h
    rcases List.mem_cons.1 hd with rfl | hd
    · exact h.1
    · exact sz_all h.2 d hd
theorem sz_slice {t e : TypeId} {es sp : List (DataW H)} (h : Sz P t (.slice es sp)) (hu : P.underlying t = some (.slice e)) : (es.length + sp.length) * P.bytesOf e ≤ reachBytes ∧ ∀ d ∈ es, Sz P e d := by
  unfold Sz DataW.weights at h
  rw [hu] at h
  simp only [List.all_cons, List.all_append, Bool.and_eq_true, decide_eq_true_eq] at h
  exact ⟨h.1, sz_all h.2.1⟩
theorem sz_agg {t : TypeId} {fs : Array Field} {ps : List (DataW H)} (h : Sz P t (.agg ps)) (hu : P.underlying t = some (.struct fs)) {j : Nat} {f : Field} {d : DataW H} (hf : fs[j]? = some f) (hd : ps[j]? = some d) : Sz P f.type d := by
  unfold Sz DataW.weights at h
  rw [hu] at h
  exact sz_each h (j := j) (by simp [hf]) hd
end

section
variable {H : Type} {enc : TypeId × Value → H} {P : Program} {W : World} {fuel : Nat} {t e : TypeId} {cs : List Value} {x : DataW H × List MemPlace}
/-- A slice of integers. -/
theorem ints {k : IntKind} (ht : P.underlying t = some (.slice e)) (he : P.underlying e = some (.int k)) (hc : P.cellsOf e = 1) (h : DataW.trod enc P W 0 (fun _ => true) true fuel t cs = some x) :
    ∃ p c xs, cs = [.slice p xs.length c] ∧ Reads k W (.slice p xs.length c) xs ∧ (∀ n ∈ xs, (Lit.int k n).wf = true) ∧ (Sz P t x.1 → xs.length * P.bytesOf e ≤ reachBytes) := by
  rcases Go.ChangeShapes.open_ints ht he hc h with ⟨rfl, rfl⟩ | ⟨a, len, cap, zs, rfl, _, hl, hm, hz, rfl, hcell, hwz⟩
  · exact ⟨none, 0, [], rfl, Reads.sub0, (fun n hn => by cases hn), fun _ => by simp⟩
  · simp only [if_true] at hz
    have hlen : (zs.take len).length = len := by rw [List.length_take]; omega
    refine ⟨some a, cap, zs.take len, by rw [hlen], ?_, fun n hn => hwz n (List.mem_of_mem_take hn), fun hs => ?_⟩
    · refine ⟨some a, cap, rfl, by rw [hlen]; exact hl, hm, (fun h => by cases h), fun h0 => ?_⟩
      rw [hlen] at h0 ⊢
      obtain ⟨b, off, s⟩ := a
      have h1 := hcell 0 (by omega)
      have hs : s = none := by
        have := World.cell?_spot h1
        unfold Addr.add at this
        cases s with
        | none => rfl
        | some s => simp at this
      subst hs
      rw [add_none] at h1
      refine ⟨b, off, rfl, ?_, fun i hi => ?_⟩
      · by_cases hb : b < W.heap.size
        · exact hb
        · exfalso
          have : W.heap[b]? = none := by simp; omega
          simp [World.cell?, this] at h1
      · have := hcell i (by omega)
        rw [add_none] at this
        rw [this]
        simp [List.getD, hi]
    · have := (sz_slice hs ht).1
      simp only [lits, List.length_map, List.length_take, List.length_drop] at this
      rw [hlen]
      refine Nat.le_trans (Nat.mul_le_mul_right _ ?_) this
      omega
/-- A struct's field. -/
theorem field {fs : Array Field} (ht : P.underlying t = some (.struct fs)) (h : DataW.trod enc P W 0 (fun _ => true) true fuel t cs = some x) :
    cs.length = P.cellsOf t ∧ ∀ (j : Nat) (f : Field), fs[j]? = some f → ∃ n y, DataW.trod enc P W 0 (fun _ => true) true n f.type ((cs.drop f.offset).take (P.cellsOf f.type)) = some y ∧ (Sz P t x.1 → Sz P f.type y.1) := by
  obtain ⟨xs, n, _, hx, hl, hlen, hf⟩ := DataW.trod_struct ht h
  refine ⟨hl, fun j f hj => ?_⟩
  have hjl : j < fs.size := (Array.getElem?_eq_some_iff.1 hj).1
  have hy : xs[j]? = some (xs[j]'(by omega)) := List.getElem?_eq_getElem (by omega)
  refine ⟨n, xs[j]'(by omega), (hf j f hj).trans hy, fun hs => ?_⟩
  rw [hx] at hs
  exact sz_agg hs ht hj (by simp [hy])
/-- The elements of a slice. -/
theorem elems {k : Nat} (ht : P.underlying t = some (.slice e)) (hk : P.cellsOf e = k) (hk0 : 0 < k) (h : DataW.trod enc P W 0 (fun _ => true) true fuel t cs = some x) :
    ∃ (a : Option Addr) (len cap : Nat), cs = [.slice a len cap] ∧ len ≤ cap ∧ cap ≤ maxLen ∧ (a = none → cap = 0) ∧ (0 < len → ∃ b off, a = some ⟨b, off, none⟩ ∧ b < W.heap.size) ∧ (Sz P t x.1 → len * P.bytesOf e ≤ reachBytes) ∧
      ∀ b off, a = some ⟨b, off, none⟩ → ∀ i, i < len → ∃ cs' n y, cs'.length = k ∧ (∀ j, j < k → W.cell? ⟨b, off + i * k + j, none⟩ = cs'[j]?) ∧ DataW.trod enc P W 0 (fun _ => true) true n e cs' = some y ∧ (Sz P t x.1 → Sz P e y.1) := by
  rcases Deep.open_slice ht h with ⟨rfl, rfl⟩ | ⟨a, len, cap, m, n, D, Pl, rfl, _, hl, hm, hmm, rfl, hx⟩
  · exact ⟨none, 0, 0, rfl, Nat.le_refl _, Nat.zero_le _, fun _ => rfl, fun h => absurd h (Nat.lt_irrefl _), fun _ => by simp, fun _ _ h => by cases h⟩
  · simp only [if_true] at hmm
    subst hmm
    have key : ∀ i, i < len → ∃ cs', cs'.length = k ∧ (∀ j, j < k → W.cell? ((a.add (i * k)).add j) = cs'[j]?) ∧ DataW.trod enc P W 0 (fun _ => true) true n e cs' = some (D i, Pl i) := by
      intro i hi
      obtain ⟨cs', h1, h2⟩ := hx i (by omega)
      rw [hk] at h1
      obtain ⟨_, h3, h4⟩ := World.cells?_some h1
      exact ⟨cs', h3, h4, h2⟩
    refine ⟨some a, len, m, rfl, hl, hm, (fun h => by cases h), fun h0 => ?_, fun hs => ?_, fun b off hab i hi => ?_⟩
    · obtain ⟨cs', h1, h2, _⟩ := key 0 h0
      have h3 := h2 0 hk0
      rw [List.getElem?_eq_getElem (by omega)] at h3
      obtain ⟨b, off, s⟩ := a
      have hs : s = none := by
        have := World.cell?_spot h3
        unfold Addr.add at this
        cases s with
        | none => rfl
        | some s => simp at this
      subst hs
      refine ⟨b, off, rfl, ?_⟩
      rw [add_none, add_none] at h3
      by_cases hb : b < W.heap.size
      · exact hb
      · exfalso
        have : W.heap[b]? = none := by simp; omega
        simp [World.cell?, this] at h3
    · have := (sz_slice hs ht).1
      simp only [List.length_map, List.length_range] at this
      exact Nat.le_trans (Nat.mul_le_mul_right _ (by omega)) this
    · cases hab
      obtain ⟨cs', h1, h2, h3⟩ := key i hi
      refine ⟨cs', n, _, h1, fun j hj => ?_, h3, fun hs => ?_⟩
      · have := h2 j hj
        rwa [add_none, add_none] at this
      · exact (sz_slice hs ht).2 _ (List.mem_map.2 ⟨i, List.mem_range.2 hi, rfl⟩)
end
end Go.Proofs.Ytamemmbcdkhdhaa.Open
