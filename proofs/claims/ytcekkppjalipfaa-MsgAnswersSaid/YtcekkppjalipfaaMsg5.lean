/-
  Region 17 of msg.Put: what is known of the world, by which operations have run. Plain.
-/
import Derived.Test.YtcekkppjalipfaaFlags3
import Derived.Test.YtcekkppjalipfaaOpsW
namespace Go.Proofs.Ytcekkppjalipfaa.Avp
open Go.RowKit Mem Cells Avps Wire Ops Go.Maps MonoU
set_option linter.unusedVariables false
set_option linter.unusedSimpArgs false

/-- v holds L; then fl is put behind it; then a number. -/
def JP (w0 : World) (B : Nat) (v : Value) (L : List Int) (fl : Int) (L3 : List Int) (l : Array Bool) (u : Nat → Value) (x : World) : Prop :=
  w0.grownBy x v.ownBlock ∧ (l.getD 8 false = true → l.getD 7 false = true ∧ u 8 = u 7) ∧ (l.getD 7 false = true → l.getD 3 false = true) ∧ (l.getD 3 false = true → l.getD 0 false = true) ∧
  (if l.getD 7 false = true then Row .u8 5 B x (u 7) L3 else if l.getD 3 false = true then Row .u8 5 B x (u 3) (L ++ [fl]) else Row .u8 5 B x v L ∧ (l.getD 2 false = true → Reads .u8 x (u 2) [fl]))
theorem getD_set_mono {l : Array Bool} {i j : Nat} (h : l.getD i false = true) : (l.setIfInBounds j true).getD i false = true := by
  by_cases e : j = i
  · subst e
    have hlt : j < l.size := by
      rcases Nat.lt_or_ge j l.size with h1 | h1
      · exact h1
      · simp [Array.getD_eq_getD_getElem?, Array.getElem?_eq_none h1] at h
    exact MonoU.getD_set_same hlt
  · rw [MonoU.getD_set_ne e]; exact h
theorem JP.pure {w0 : World} {B : Nat} {v : Value} {L : List Int} {fl : Int} {L3 : List Int} {l : Array Bool} {u : Nat → Value} {x : World} (h : JP w0 B v L fl L3 l u x) (j : Nat) (r : Value) (h2 : j ≠ 2) (h3 : j ≠ 3) (h7 : j ≠ 7) (h8 : j ≠ 8) :
    JP w0 B v L fl L3 (l.setIfInBounds j true) (upd u j r) x := by
  obtain ⟨a, b, c, d, e⟩ := h
  have u2 : upd u j r 2 = u 2 := if_neg (Ne.symm h2)
  have u3 : upd u j r 3 = u 3 := if_neg (Ne.symm h3)
  have u7 : upd u j r 7 = u 7 := if_neg (Ne.symm h7)
  have u8 : upd u j r 8 = u 8 := if_neg (Ne.symm h8)
  unfold JP
  rw [MonoU.getD_set_ne h2, MonoU.getD_set_ne h3, MonoU.getD_set_ne h7, MonoU.getD_set_ne h8, u2, u3, u7, u8]
  exact ⟨a, b, c, fun hh => getD_set_mono (d hh), e⟩
theorem JP.build {w0 : World} {B : Nat} {v : Value} {L : List Int} {fl : Int} {L3 : List Int} {l : Array Bool} {u : Nat → Value} {x : World} (h : JP w0 B v L fl L3 l u x) :
    JP w0 B v L fl L3 (l.setIfInBounds 2 true) (upd u 2 (.slice (some ⟨x.heap.size, 0, none⟩) 1 1)) (x.alloc (.cells #[.int .u8 fl] 5)) := by
  obtain ⟨a, b, c, d, e⟩ := h
  have hb := (Below.refl x.heap.size x).alloc (Nat.le_refl _) (.cells #[.int .u8 fl] 5)
  have u2 : upd u 2 (.slice (some ⟨x.heap.size, 0, none⟩) 1 1) 2 = .slice (some ⟨x.heap.size, 0, none⟩) 1 1 := if_pos rfl
  have u3 : upd u 2 (.slice (some ⟨x.heap.size, 0, none⟩) 1 1) 3 = u 3 := if_neg (by decide)
  have u7 : upd u 2 (.slice (some ⟨x.heap.size, 0, none⟩) 1 1) 7 = u 7 := if_neg (by decide)
  have u8 : upd u 2 (.slice (some ⟨x.heap.size, 0, none⟩) 1 1) 8 = u 8 := if_neg (by decide)
  unfold JP
  rw [MonoU.getD_set_ne (i := 8) (by decide), MonoU.getD_set_ne (i := 3) (by decide), MonoU.getD_set_ne (i := 7) (by decide), u2, u3, u7, u8]
  refine ⟨grown_trans a (grown_below _ hb), b, c, fun hh => getD_set_mono (d hh), ?_⟩
  split
  · rename_i h7; rw [if_pos h7] at e; exact e.below hb
  · rename_i h7
    rw [if_neg h7] at e
    split
    · rename_i h3; rw [if_pos h3] at e; exact e.below hb
    · rename_i h3; rw [if_neg h3] at e; exact ⟨e.1.below hb, fun _ => Reads.one _ _ _ _⟩
theorem JP.append {w0 : World} {B : Nat} {v : Value} {L : List Int} {fl : Int} {L3 : List Int} {l : Array Bool} {u : Nat → Value} {x : World} (h : JP w0 B v L fl L3 l u x) (hs : 3 < l.size) (h3 : l.getD 3 false = false) (h0 : l.getD 0 false = true) (h2 : l.getD 2 false = true) :
    Row .u8 5 B x v L ∧ Reads .u8 x (u 2) [fl] ∧ w0.heap.size ≤ x.heap.size ∧ ∀ v' x', Row .u8 5 B x' v' (L ++ [fl]) → x.grownBy x' v.ownBlock → JP w0 B v L fl L3 (l.setIfInBounds 3 true) (upd u 3 v') x' := by
  obtain ⟨a, b, c, d, e⟩ := h
  have h7 : l.getD 7 false = false := by
    cases h : l.getD 7 false with
    | false => rfl
    | true => rw [c h] at h3; cases h3
  have h8 : l.getD 8 false = false := by
    cases h : l.getD 8 false with
    | false => rfl
    | true => rw [(b h).1] at h7; cases h7
  rw [if_neg (by rw [h7]; decide), if_neg (by rw [h3]; decide)] at e
  refine ⟨e.1, e.2 h2, a.size, fun v' x' r1 r2 => ?_⟩
  unfold JP
  rw [MonoU.getD_set_ne (i := 8) (by decide), MonoU.getD_set_ne (i := 7) (by decide), h7, h8, MonoU.getD_set_same hs, if_neg (by decide), if_pos rfl]
  exact ⟨grown_trans a r2, fun h => (by cases h), fun h => (by cases h), fun _ => getD_set_mono h0, r1⟩
theorem JP.call {w0 : World} {B : Nat} {v : Value} {L : List Int} {fl : Int} {L3 : List Int} {l : Array Bool} {u : Nat → Value} {x : World} (h : JP w0 B v L fl L3 l u x) (hs : 7 < l.size) (h7 : l.getD 7 false = false) (h3 : l.getD 3 false = true) :
    Row .u8 5 B x (u 3) (L ++ [fl]) ∧ w0.heap.size ≤ x.heap.size ∧ ∀ v' x', Row .u8 5 B x' v' L3 → Below x.heap.size x x' → JP w0 B v L fl L3 (l.setIfInBounds 7 true) (upd u 7 v') x' := by
  obtain ⟨a, b, c, d, e⟩ := h
  have h8 : l.getD 8 false = false := by
    cases h : l.getD 8 false with
    | false => rfl
    | true => rw [(b h).1] at h7; cases h7
  rw [if_neg (by rw [h7]; decide), if_pos h3] at e
  refine ⟨e, a.size, fun v' x' r1 r2 => ?_⟩
  unfold JP
  rw [MonoU.getD_set_ne (i := 8) (by decide), MonoU.getD_set_ne (i := 3) (by decide), h8, MonoU.getD_set_same hs, if_pos rfl]
  exact ⟨grown_trans a (grown_below _ r2), fun h => (by cases h), fun _ => h3, fun h => getD_set_mono (d h), r1⟩
theorem JP.done {w0 : World} {B : Nat} {v : Value} {L : List Int} {fl : Int} {L3 : List Int} {l : Array Bool} {u : Nat → Value} {x : World} (h : JP w0 B v L fl L3 l u x) (h7 : l.getD 7 false = true) :
    JP w0 B v L fl L3 (l.setIfInBounds 8 true) (upd u 8 (u 7)) x := by
  obtain ⟨a, b, c, d, e⟩ := h
  have u2 : upd u 8 (u 7) 2 = u 2 := if_neg (by decide)
  have u3 : upd u 8 (u 7) 3 = u 3 := if_neg (by decide)
  have u7 : upd u 8 (u 7) 7 = u 7 := if_neg (by decide)
  have u8 : upd u 8 (u 7) 8 = u 7 := if_pos rfl
  unfold JP
  rw [MonoU.getD_set_ne (i := 2) (by decide), MonoU.getD_set_ne (i := 3) (by decide), MonoU.getD_set_ne (i := 7) (by decide), u2, u3, u7, u8]
  exact ⟨a, fun _ => ⟨h7, rfl⟩, c, fun h => getD_set_mono (d h), e⟩
end Go.Proofs.Ytcekkppjalipfaa.Avp
