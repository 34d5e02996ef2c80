/-
  Which blocks turn (ButX); blocks of a kind are not those of another. No walk.
-/
import Derived.Test.YteiiifonejkjbaaTpls
import Derived.Lib.Hide
namespace Go.Proofs.Yteiiifonejkjbaa.Pcs
open Go.RowKit Mem Cells Ops
set_option linter.unusedVariables false
set_option linter.unusedSimpArgs false

/-! Which blocks turn. -/
structure ButX (X : Nat → Prop) (w w' : World) : Prop where
  os : w'.os = w.os
  tape : w'.tape = w.tape
  output : w'.output = w.output
  size : w.heap.size ≤ w'.heap.size
  block : ∀ k, k < w.heap.size → ¬ X k → w'.heap[k]? = w.heap[k]?
/-- Whose blocks were X: those, and the ones made since. -/
def more (X : Nat → Prop) (w w' : World) : Nat → Prop := fun k => X k ∨ (w.heap.size ≤ k ∧ k < w'.heap.size)
theorem ButX.refl (X : Nat → Prop) (w : World) : ButX X w w := ⟨rfl, rfl, rfl, Nat.le_refl _, fun _ _ _ => rfl⟩
theorem ButX.trans {X : Nat → Prop} {a b c : World} (h : ButX X a b) (k : ButX (more X a b) b c) : ButX X a c :=
  ⟨k.os.trans h.os, k.tape.trans h.tape, k.output.trans h.output, Nat.le_trans h.size k.size, fun i hi hx => (k.block i (Nat.lt_of_lt_of_le hi h.size) (fun e => e.elim hx (fun e => by omega))).trans (h.block i hi hx)⟩
theorem ButX.mono {X Y : Nat → Prop} {a b : World} (h : ButX X a b) (hX : ∀ k, X k → Y k) : ButX Y a b := ⟨h.os, h.tape, h.output, h.size, fun i hi hn => h.block i hi (fun e => hn (hX i e))⟩
theorem ButX.ofBelow {X : Nat → Prop} {a b : World} (h : Below a.heap.size a b) : ButX X a b := ⟨h.os, h.tape, h.output, h.size, fun i hi _ => h.block i hi⟩
theorem ButX.ofGrown {X : Nat → Prop} {a b : World} {r : Option Nat} (h : a.grownBy b r) (hr : ∀ k, r = some k → X k) : ButX X a b := ⟨h.os, h.tape, h.output, h.size, fun i hi hn => h.block i hi (fun e => hn (hr i e.symm))⟩
theorem ButX.below {X : Nat → Prop} {a b : World} {B : Nat} (h : ButX X a b) (hX : ∀ k, X k → B ≤ k) (hB : B ≤ a.heap.size) : Below B a b := ⟨h.os, h.tape, h.output, h.size, fun i hi => h.block i (by omega) (fun e => by have := hX i e; omega)⟩
theorem more_self {X : Nat → Prop} {a b : World} : ∀ k, X k → more X a b k := fun _ h => .inl h
theorem more_more {X : Nat → Prop} {a b c : World} (h1 : a.heap.size ≤ b.heap.size) (h2 : b.heap.size ≤ c.heap.size) : ∀ k, more (more X a b) b c k → more X a c k := by
  intro k hk
  rcases hk with (h | h) | h
  · exact .inl h
  · exact .inr ⟨h.1, by omega⟩
  · exact .inr ⟨by omega, h.2⟩
theorem more_le {X : Nat → Prop} {a b c : World} (h : b.heap.size ≤ c.heap.size) : ∀ k, more X a b k → more X a c k := by
  intro k hk
  rcases hk with h1 | h1
  · exact .inl h1
  · exact .inr ⟨h1.1, by omega⟩
theorem more_from {X : Nat → Prop} {a b : World} {B : Nat} (hX : ∀ k, X k → B ≤ k) (hB : B ≤ a.heap.size) : ∀ k, more X a b k → B ≤ k := by
  intro k hk
  rcases hk with h | h
  · exact hX k h
  · omega

/-! Blocks of a kind are not those of another kind. -/
theorem own_at {w : World} {B e k n : Nat} {v : Value} {xs : List Value} (h : w.ownsRow B e k v n xs) {g : Nat} (hg : v.ownBlock = some g) : ∃ cur, At w g e cur := by
  rcases h.2 with ⟨rfl, _⟩ | ⟨g', cap, cur, rfl, _, hgg, _⟩
  · cases hg
  · cases hg
    exact ⟨cur, hgg⟩
theorem at_ne {w : World} {g g' T T' : Nat} {cs cs' : Array Value} (h : At w g T cs) (h' : At w g' T' cs') (hT : T ≠ T') : g ≠ g' := by
  intro e
  subst e
  have h1 : w.heap[g]? = some (.cells cs T (0, 0)) := h
  have h2 : w.heap[g]? = some (.cells cs' T' (0, 0)) := h'
  rw [h1] at h2
  simp at h2
  exact hT h2.2
theorem own_ne {w : World} {B e k n : Nat} {v : Value} {xs : List Value} (h : w.ownsRow B e k v n xs) {g T : Nat} {cs : Array Value} (hat : At w g T cs) (hT : e ≠ T) : v.ownBlock ≠ some g := by
  intro hg
  obtain ⟨cur, hc⟩ := own_at h hg
  exact at_ne hc hat hT rfl
theorem own_ne2 {w : World} {B e k n B' e' k' n' : Nat} {v v' : Value} {xs xs' : List Value} (h : w.ownsRow B e k v n xs) (h' : w.ownsRow B' e' k' v' n' xs') (hT : e ≠ e') : v.ownBlock = none ∨ v.ownBlock ≠ v'.ownBlock := by
  cases hg : v'.ownBlock with
  | none => cases hv : v.ownBlock <;> simp
  | some g =>
    obtain ⟨cur, hc⟩ := own_at h' hg
    exact .inr (own_ne h hc hT)

end Go.Proofs.Yteiiifonejkjbaa.Pcs
