/-
  Plain laws of the paths: what is sound stays sound; what many times there and back, and many losses, make of a path. No program is looked into here.
-/
import Derived.Test.YtljalbcmhcagaaaWay6
namespace Go.Proofs.Ytljalbcmhcagaaa.Way
open Go.RowKit Mem
set_option linter.unusedVariables false
set_option linter.unusedSimpArgs false

/-- What hearing of bytes makes of a path. -/
def ackedF (x : Wy) (n : Int) (full : Bool) : Wy :=
  if n = 0 ∨ full = false then x
  else if x.c ≤ x.h then { x with c := min (x.c + min n 512) 65536 }
  else if min (x.a + n) 65536 ≥ x.c then { x with a := 0, c := min (x.c + 512) 65536 }
  else { x with a := min (x.a + n) 65536, c := min x.c 65536 }

theorem measured_ok {x : Wy} {n : Int} (hx : okB x = true) (hn : 0 ≤ n ∧ n ≤ 1099511627776) : okB (measured x n) = true := by
  rw [okB_iff] at hx ⊢
  unfold measured timed
  split <;> simp only [Int.max_def, Int.min_def] <;> (repeat' split) <;> omega
theorem halved_ok {x : Wy} (hx : okB x = true) : okB (halved x) = true := by
  rw [okB_iff] at hx ⊢
  unfold halved
  simp only [Int.max_def, Int.min_def] <;> (repeat' split) <;> omega
theorem lated_ok {x : Wy} (hx : okB x = true) : okB (lated x) = true := by
  rw [okB_iff] at hx ⊢
  unfold lated
  simp only [Int.max_def, Int.min_def] <;> (repeat' split) <;> omega
theorem acked_ok {x : Wy} {n : Int} {full : Bool} (hx : okB x = true) (hn : 0 ≤ n ∧ n ≤ 65536) : okB (ackedF x n full) = true := by
  rw [okB_iff] at hx ⊢
  unfold ackedF
  split
  · exact hx
  · split
    · simp only [Int.max_def, Int.min_def]; (repeat' split) <;> omega
    · split
      · simp only [Int.max_def, Int.min_def]; (repeat' split) <;> omega
      · simp only [Int.max_def, Int.min_def]; (repeat' split) <;> omega
theorem acked_ge {x : Wy} {n : Int} {full : Bool} (hx : okB x = true) (hn : 0 ≤ n ∧ n ≤ 65536) : x.c ≤ (ackedF x n full).c := by
  rw [okB_iff] at hx
  unfold ackedF
  split
  · exact Int.le_refl _
  · split
    · simp only [Int.max_def, Int.min_def]; (repeat' split) <;> omega
    · split
      · simp only [Int.max_def, Int.min_def]; (repeat' split) <;> omega
      · simp only [Int.max_def, Int.min_def]; (repeat' split) <;> omega

/-- How far a path is from a time, and what it varies by, at most. -/
def Near (n D V : Int) (x : Wy) : Prop := x.s - n ≤ D ∧ n - x.s ≤ D ∧ x.v ≤ V
theorem near_step {x : Wy} {n D V : Int} (hx : okB x = true) (hn : 0 ≤ n) (h : Near n D V x) : Near n ((7 * D + 7) / 8) (max ((3 * V + D) / 4) (D / 2)) (measured x n) := by
  rw [okB_iff] at hx
  unfold Near at h ⊢
  unfold measured timed
  split
  · simp only [Int.max_def]; (repeat' split) <;> omega
  · simp only [Int.max_def]; (repeat' split) <;> omega
def bnd : Nat → Int × Int
  | 0 => (100000, 100000)
  | k + 1 => ((7 * (bnd k).1 + 7) / 8, max ((3 * (bnd k).2 + (bnd k).1) / 4) ((bnd k).1 / 2))
def bndF : Nat → Int → Int → Bool
  | 0, D, V => decide (D ≤ 8 ∧ V ≤ 24)
  | k + 1, D, V => bndF k ((7 * D + 7) / 8) (max ((3 * V + D) / 4) (D / 2))
theorem bndF_eq (m k : Nat) (h : bndF m (bnd k).1 (bnd k).2 = true) : (bnd (k + m)).1 ≤ 8 ∧ (bnd (k + m)).2 ≤ 24 := by
  induction m generalizing k with
  | zero => exact of_decide_eq_true h
  | succ m ih =>
    have := ih (k + 1) h
    rwa [show k + (m + 1) = k + 1 + m from by omega]
theorem bnd400 : (bnd 400).1 ≤ 8 ∧ (bnd 400).2 ≤ 24 := by
  have := bndF_eq 400 0 (by decide +kernel)
  simpa using this
theorem measured_e (x : Wy) (n : Int) : (measured x n).e = 0 := by unfold measured timed; split <;> rfl

/-- What is known of a path behind k losses. -/
def Lost (k : Nat) (y : Wy) : Prop := okB y = true ∧ (1 ≤ k → y.c = 512 ∧ 8 ≤ y.r) ∧ (2 ≤ k → y.h = 1024 ∧ 16 ≤ y.r) ∧ (3 ≤ k → 32 ≤ y.r) ∧ (4 ≤ k → y.r = 64)
theorem lost_step {k : Nat} {y : Wy} (h : Lost k y) : Lost (k + 1) (lated y) := by
  obtain ⟨h0, h1, h2, h3, h4⟩ := h
  have hk := lated_ok h0
  rw [okB_iff] at h0
  have ec : (lated y).c = 512 := rfl
  have eh : (lated y).h = max (y.c / 2) 1024 := rfl
  have er : (lated y).r = min (2 * y.r) 64 := rfl
  rw [Int.max_def] at eh
  rw [Int.min_def] at er
  refine ⟨hk, fun hk => ⟨ec, ?_⟩, fun hk => ⟨?_, ?_⟩, fun hk => ?_, fun hk => ?_⟩
  · split at er <;> omega
  · have := h1 (by omega); split at eh <;> omega
  · have := h1 (by omega); split at er <;> omega
  · have := h2 (by omega); split at er <;> omega
  · have := h3 (by omega); split at er <;> omega
end Go.Proofs.Ytljalbcmhcagaaa.Way
