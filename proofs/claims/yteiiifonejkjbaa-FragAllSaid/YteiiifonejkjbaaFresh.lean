/-
  APPEND ONTO A NEW EMPTY SLICE ('append([]byte{}, x...)') LEAVES ALL MEMORY AS IT WAS, and where its value lies. No program is looked into here.
-/
import Derived.Test.YteiiifonejkjbaaTpls
namespace Go.Proofs.Yteiiifonejkjbaa.Mem
open Go.RowKit Cells
set_option linter.unusedVariables false
section
variable {P : Program} {w : World} {o : Oper} {a : Act} {K : Act → World → Prop} {Q : Exit → Act → World → Prop}
theorem wp_append_fresh (s x : Operand) (t : TypeId) (ho : o.op = .call { callee := .builtin .append, args := #[s, x], argTypes := #[t, t] })
    (k : IntKind) (B e bytes g : Nat) (i : TypeInfo) (z : Value) (ht : P.underlying t = some (.slice e)) (hi : P.info? e = some i) (hz : i.zero = some z) (hsize : i.size = 1) (hby : i.bytes = bytes) (hzs : z.cells.size = 1)
    (u : Value) (ys : List Int) (hs : a.eval s = .slice (some ⟨g, 0, none⟩) 0 0) (hx : a.eval x = u) (hat : At w g e #[]) (hr : Reads k w u ys) (hB : B ≤ g)
    (h63 : ys.length ≤ maxLen) (hbytes : ys.length * bytes ≤ 140737488355328)
    (h : ∀ v' w', Row k e B w' v' ys → Below w.heap.size w w' → (∀ q, v'.ownBlock = some q → q = g ∨ w.heap.size ≤ q) → K (a.put o.dst v') w') : o.wp P a w K Q := by
  have hown : Row k e B w (.slice (some ⟨g, 0, none⟩) 0 0) [] := ⟨rfl, .inr ⟨g, 0, #[], rfl, hB, hat, Nat.le_refl _, by decide, rfl, rfl⟩⟩
  have fin : ∀ v' w', (Builtin.append_ #[t, t] o.type #[.slice (some ⟨g, 0, none⟩) 0 0, u]).run P w = .ok v' w' → Row k e B w' v' ys → Below w.heap.size w w' → (∀ q, v'.ownBlock = some q → q = g ∨ w.heap.size ≤ q) → o.wp P a w K Q := by
    intro v' w' hrun h1 h2 h3
    unfold Oper.wp execOp
    simp only [ho, resolve, invoke, builtin, Sem.run_bind, Sem.run_pure, Result.andThen_ok, List.map_toArray, List.map_cons, List.map_nil, hs, hx, hrun]
    exact h v' w' h1 h2 h3
  obtain ⟨p, c, rfl, h1, h2, h3, h4⟩ := hr
  cases p with
  | none =>
    obtain rfl := h3 rfl
    have hy : ys = [] := List.eq_nil_of_length_eq_zero (by omega)
    subst hy
    exact fin _ _ (run_append_owned_none (P := P) (w := w) B t o.type e i 1 ht hi _ 0 [] hown) hown (Below.refl _ _) (fun q hq => by cases hq; exact .inl rfl)
  | some ad =>
    have hl : (ys.map (Value.int k)).length = ys.length * i.size := by rw [hsize]; simp
    have hnews : ∀ j q, (ys.map (Value.int k))[j]? = some q → w.cell? (ad.add j) = some q := by
      intro j q hj
      have hjl : j < ys.length := by
        rcases Nat.lt_or_ge j ys.length with h | h
        · exact h
        · simp [List.getElem?_eq_none (show (ys.map (Value.int k)).length ≤ j by simpa using h)] at hj
      obtain ⟨b, off, hp, _, hc⟩ := h4 (by omega)
      cases hp
      rw [add_none, hc j hjl]
      simp [List.getElem?_eq_getElem hjl] at hj
      subst hj
      simp [List.getD, List.getElem?_eq_getElem hjl]
    have h1c : ∀ q ∈ ys.map (Value.int k), q.oneCell' = true := by
      intro q hq
      obtain ⟨_, _, rfl⟩ := List.mem_map.1 hq
      rfl
    rcases Nat.eq_zero_or_pos ys.length with h0 | h0
    · have hy : ys = [] := List.eq_nil_of_length_eq_zero h0
      subst hy
      have hrun := run_append_room (P := P) w t o.type e i ht hi g 0 0 #[] hat ad 0 c [] (by simp) (fun j q hj => by simp at hj) (fun q hq => by cases hq) (by omega) (by simp)
      have hw : w.setRow g #[] = w := setRow_same hat
      simp only [Nat.zero_mul, List.take_zero, List.drop_zero, List.append_nil, Nat.add_zero, List.length_nil] at hrun
      rw [show (#[] : Array Value).toList.toArray = #[] from rfl] at hrun
      simp only [hw] at hrun
      exact fin _ _ hrun hown (Below.refl _ _) (fun q hq => by cases hq; exact .inl rfl)
    · have hrun := run_append_grow (P := P) w t o.type e i z ht hi hz ⟨g, 0, none⟩ 0 0 [] (by simp) (fun j q hj => by simp at hj) ad ys.length c (ys.map (Value.int k)) hl hnews (by omega)
        (by have := h63; simp only [maxLen] at this; omega) (by rw [hby]; exact growslice_fits (by omega) (by simpa using hbytes))
      obtain ⟨v', w', hr', k2, k3, k4⟩ := run_append_own (P := P) w B t o.type e i z 1 bytes ht hi hz hsize hby hzs (by omega) _ 0 [] hown ad ys.length c (ys.map (Value.int k)) (by rw [hl, hsize]) hnews h1c (by omega) (by simpa using hbytes) (by have := hat.lt; omega)
      have heq := hr'.symm.trans hrun
      simp only [Result.ok.injEq] at heq
      obtain ⟨rfl, rfl⟩ := heq
      refine fin _ _ hr' (by simpa [Row] using k2) (((Below.refl _ _).drew).alloc (Nat.le_refl _) _) (fun q hq => ?_)
      have : w.heap.size = q := Option.some.inj hq
      exact .inr (by omega)
end
end Go.Proofs.Yteiiifonejkjbaa.Mem
