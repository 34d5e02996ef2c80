/-
  A DRAWN REGION 'a, b := f(..)': operations that only read, then (at place c) one call that answers a pair, its move, both extracts, both assigns, in whatever order. Over MonoU. No program is looked into here.
-/
import Derived.Test.YteiiifonejkjbaaTpls
namespace Go.Proofs.Yteiiifonejkjbaa.MonoU
open Go.RowKit Mono
set_option linter.unusedVariables false

/-- What is known: Mid of the world at any time, Pre till the call, Post behind it. -/
structure JC (Mid Pre : World → Prop) (Post : Value → Value → World → Prop) (c : Nat) (l : Array Bool) (u : Nat → Value) (x : World) : Prop where
  mid : Mid x
  pre : l.getD c false = false → Pre x
  post : l.getD c false = true → ∃ v e, u c = .tuple #[v, e] ∧ Post v e x ∧ (l.getD (c + 1) false = true → u (c + 1) = .tuple #[v, e]) ∧ (l.getD (c + 2) false = true → u (c + 2) = v) ∧ (l.getD (c + 3) false = true → u (c + 3) = e) ∧ (l.getD (c + 4) false = true → u (c + 4) = v) ∧ (l.getD (c + 5) false = true → u (c + 5) = e)
  ord : ∀ j, c < j → l.getD j false = true → l.getD c false = true
section
variable {Mid Pre : World → Prop} {Post : Value → Value → World → Prop} {c : Nat} {l : Array Bool} {u : Nat → Value} {x y : World}
theorem upd_eq (u : Nat → Value) (j : Nat) (v : Value) : upd u j v j = v := by simp [upd]
theorem upd_off (u : Nat → Value) {j i : Nat} (v : Value) (h : i ≠ j) : upd u j v i = u i := by simp [upd, h]
theorem JC.start (n : Nat) (u : Nat → Value) (h1 : Mid x) (h2 : Pre x) : JC Mid Pre Post c (Array.replicate n false) u x := by
  have f : ∀ i, (Array.replicate n false).getD i false = false := fun i => by simp [Array.getD_eq_getD_getElem?, Array.getElem?_replicate]; split <;> rfl
  refine ⟨h1, fun _ => h2, fun h => ?_, fun j _ h => ?_⟩
  · rw [f] at h; cases h
  · rw [f] at h; cases h
theorem JC.pure (h : JC Mid Pre Post c l u x) (j : Nat) (v : Value) (hj : j < c) : JC Mid Pre Post c (l.setIfInBounds j true) (upd u j v) x := by
  have key : ∀ i, j ≠ i → (l.setIfInBounds j true).getD i false = l.getD i false := fun i hi => getD_set_ne hi
  refine ⟨h.mid, ?_, ?_, ?_⟩
  · rw [key c (by omega)]; exact h.pre
  · rw [key c (by omega), key (c + 1) (by omega), key (c + 2) (by omega), key (c + 3) (by omega), key (c + 4) (by omega), key (c + 5) (by omega), upd_off u v (show c ≠ j by omega), upd_off u v (show c + 1 ≠ j by omega), upd_off u v (show c + 2 ≠ j by omega), upd_off u v (show c + 3 ≠ j by omega), upd_off u v (show c + 4 ≠ j by omega), upd_off u v (show c + 5 ≠ j by omega)]
    exact h.post
  · intro i hi
    rw [key i (by omega), key c (by omega)]
    exact h.ord i hi
theorem JC.call (h : JC Mid Pre Post c l u x) (hl : c < l.size) (hn : l.getD c false = false) (v e : Value) (h1 : Mid y) (h2 : Post v e y) : JC Mid Pre Post c (l.setIfInBounds c true) (upd u c (.tuple #[v, e])) y := by
  have key : ∀ i, c ≠ i → (l.setIfInBounds c true).getD i false = l.getD i false := fun i hi => getD_set_ne hi
  have hs := getD_set_same (l := l) hl
  have off : ∀ j, c < j → (l.setIfInBounds c true).getD j false = true → False := by
    intro j hj h3
    rw [key j (by omega)] at h3
    rw [h.ord j hj h3] at hn
    cases hn
  refine ⟨h1, ?_, fun _ => ⟨v, e, upd_eq _ _ _, h2, ?_, ?_, ?_, ?_, ?_⟩, fun _ _ _ => hs⟩
  · rw [hs]; intro h; cases h
  all_goals exact fun h3 => (off _ (by omega) h3).elim
theorem JC.step (h : JC Mid Pre Post c l u x) (k : Nat) (z : Value) (hk : 0 < k) (hl : c + k < l.size) (hc : l.getD c false = true)
    (hz : ∀ v e, u c = .tuple #[v, e] → (l.getD (c + 1) false = true → u (c + 1) = .tuple #[v, e]) → (l.getD (c + 2) false = true → u (c + 2) = v) → (l.getD (c + 3) false = true → u (c + 3) = e) → (k = 1 → z = .tuple #[v, e]) ∧ (k = 2 → z = v) ∧ (k = 3 → z = e) ∧ (k = 4 → z = v) ∧ (k = 5 → z = e)) :
    JC Mid Pre Post c (l.setIfInBounds (c + k) true) (upd u (c + k) z) x := by
  have key : ∀ i, c + k ≠ i → (l.setIfInBounds (c + k) true).getD i false = l.getD i false := fun i hi => getD_set_ne hi
  have hs := getD_set_same (l := l) hl
  obtain ⟨v, e, p0, p1, q1, q2, q3, q4, q5⟩ := h.post hc
  obtain ⟨z1, z2, z3, z4, z5⟩ := hz v e p0 q1 q2 q3
  refine ⟨h.mid, ?_, fun _ => ⟨v, e, by rw [upd_off _ _ (by omega)]; exact p0, p1, ?_, ?_, ?_, ?_, ?_⟩, fun j hj h3 => ?_⟩
  · rw [key c (by omega), hc]; intro h; cases h
  · by_cases e1 : k = 1
    · subst e1; intro _; rw [upd_eq]; exact z1 rfl
    · rw [key _ (by omega), upd_off _ _ (by omega)]; exact q1
  · by_cases e1 : k = 2
    · subst e1; intro _; rw [upd_eq]; exact z2 rfl
    · rw [key _ (by omega), upd_off _ _ (by omega)]; exact q2
  · by_cases e1 : k = 3
    · subst e1; intro _; rw [upd_eq]; exact z3 rfl
    · rw [key _ (by omega), upd_off _ _ (by omega)]; exact q3
  · by_cases e1 : k = 4
    · subst e1; intro _; rw [upd_eq]; exact z4 rfl
    · rw [key _ (by omega), upd_off _ _ (by omega)]; exact q4
  · by_cases e1 : k = 5
    · subst e1; intro _; rw [upd_eq]; exact z5 rfl
    · rw [key _ (by omega), upd_off _ _ (by omega)]; exact q5
  · rw [key c (by omega)]; exact hc
end
end Go.Proofs.Yteiiifonejkjbaa.MonoU
