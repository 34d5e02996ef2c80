/-
  Bytes 0 behind a sum (plain): what a matrix does to a register.
-/
import Derived.Test.YtfialncobdinnaaDoorLaws1
import Derived.Lib.TrailingZeros
namespace Go.Proofs.YtfialncobdinnaaDoor.Crc
open Go.RowKit Mem
set_option linter.unusedVariables false

def Lin (f : Nat → Nat) : Prop := ∀ a b, f (a ^^^ b) = f a ^^^ f b
theorem Lin.zero {f : Nat → Nat} (h : Lin f) : f 0 = 0 := by
  have := h 0 0
  rw [Nat.xor_self, Nat.xor_self] at this
  exact this
theorem lin_steps (k : Nat) : Lin (steps k) := fun a b => steps_xor k a b
/-- The matrix says what f does to each bit. -/
def Rep (ms : List Nat) (f : Nat → Nat) : Prop := ms.length = 32 ∧ ∀ i, i < 32 → ms.getD i 0 = f (2 ^ i)
/-- The lowest bit, and the rest. -/
theorem low_rest (c : Nat) (h0 : c ≠ 0) (h : c < 4294967296) : Lib.ctz 32 c < 32 ∧ c &&& (c - 1) = c ^^^ 2 ^ Lib.ctz 32 c ∧ c &&& (c - 1) < c := by
  obtain ⟨m, hm, hk⟩ := Lib.ctzFrom_spec 32 c (by omega) h
  have e : Lib.ctz 32 c = Lib.ctzFrom 32 c := by simp [Lib.ctz, h0]
  rw [e]
  obtain ⟨k, hkk⟩ : ∃ k, Lib.ctzFrom 32 c = k := ⟨_, rfl⟩
  rw [hkk] at hm hk ⊢
  have hpos : 0 < 2 ^ k := Nat.two_pow_pos k
  have e1 : c - 1 = 2 ^ k * (2 * m) + (2 ^ k - 1) := by
    rw [hm, Nat.mul_add, Nat.mul_one]; omega
  have b1 : ∀ i, c.testBit i = if i < k then false else (2 * m + 1).testBit (i - k) := by
    intro i
    rw [hm, show 2 ^ k * (2 * m + 1) = 2 ^ k * (2 * m + 1) + 0 from rfl, Nat.testBit_two_pow_mul_add _ hpos]
    simp
  have b2 : ∀ i, (c - 1).testBit i = if i < k then true else (2 * m).testBit (i - k) := by
    intro i
    rw [e1, Nat.testBit_two_pow_mul_add _ (by omega), Nat.testBit_two_pow_sub_one]
    by_cases hi : i < k
    · rw [if_pos hi, if_pos hi]; exact decide_eq_true hi
    · rw [if_neg hi, if_neg hi]
  refine ⟨hk, ?_, ?_⟩
  · apply Nat.eq_of_testBit_eq
    intro i
    rw [Nat.testBit_and, Nat.testBit_xor, b1 i, b2 i, Nat.testBit_two_pow]
    by_cases hi : i < k
    · rw [if_pos hi, if_pos hi]
      simp; omega
    · rw [if_neg hi, if_neg hi]
      by_cases e : k = i
      · subst e
        simp
      · obtain ⟨d, hd⟩ : ∃ d, i - k = d + 1 := ⟨i - k - 1, by omega⟩
        rw [hd, Nat.testBit_succ, Nat.testBit_succ, show (2 * m + 1) / 2 = m by omega, show 2 * m / 2 = m by omega]
        simp [e]
  · have := Nat.and_le_right (n := c) (m := c - 1)
    omega
/-- One round of a look-up of bits. -/
theorem rep_round {ms : List Nat} {f : Nat → Nat} (hr : Rep ms f) (hl : Lin f) (c o : Nat) (h0 : c ≠ 0) (h : c < 4294967296) :
    (o ^^^ ms.getD (Lib.ctz 32 c) 0) ^^^ f (c &&& (c - 1)) = o ^^^ f c := by
  obtain ⟨h1, h2, h3⟩ := low_rest c h0 h
  rw [hr.2 _ h1, h2, hl, Nat.xor_comm (f c), ← Nat.xor_assoc, Nat.xor_assoc o, Nat.xor_self, Nat.xor_zero]
theorem pow_lt {i : Nat} (h : i < 32) : 2 ^ i < 4294967296 := (Nat.pow_lt_pow_right (a := 2) (by decide) h : 2 ^ i < 2 ^ 32)
theorem rep_lt {ms : List Nat} {k : Nat} (hr : Rep ms (steps k)) (i : Nat) : ms.getD i 0 < 4294967296 := by
  by_cases h : i < 32
  · rw [hr.2 i h]; exact steps_lt (pow_lt h)
  · rw [List.getD_eq_getElem?_getD, List.getElem?_eq_none (by have := hr.1; omega)]; decide
/-- The matrix of one step, its first n rows. -/
def firstTo (n : Nat) : List Nat := (List.range 32).map fun i => if i < n then step (2 ^ i) else 0
theorem firstTo_len (n : Nat) : (firstTo n).length = 32 := by simp [firstTo]
theorem firstTo_get (n i : Nat) (h : i < 32) : (firstTo n).getD i 0 = if i < n then step (2 ^ i) else 0 := by
  simp [firstTo, List.getD_eq_getElem?_getD, h]
theorem first_rep : Rep (firstTo 32) (steps 1) := ⟨firstTo_len 32, fun i h => by rw [firstTo_get 32 i h, if_pos h]; rfl⟩
theorem firstTo_one : firstTo 1 = [2197175160, 0, 0, 0, 0, 0, 0, 0, 0, 0, 0, 0, 0, 0, 0, 0, 0, 0, 0, 0, 0, 0, 0, 0, 0, 0, 0, 0, 0, 0, 0, 0] := by decide +kernel
theorem firstTo_set (n : Nat) (h : n < 32) : (firstTo n).set n (step (2 ^ n)) = firstTo (n + 1) := by
  refine List.ext_getElem (by simp [firstTo]) fun i h1 h2 => ?_
  have hi : i < 32 := by simpa [firstTo] using h1
  rw [List.getElem_set]
  simp only [firstTo, List.getElem_map, List.getElem_range]
  by_cases e : n = i
  · subst e; rw [if_pos rfl, if_pos (by omega)]
  · rw [if_neg e]
    by_cases hlt : i < n
    · rw [if_pos hlt, if_pos (by omega)]
    · rw [if_neg hlt, if_neg (by omega)]
/-- The matrix of twice as many steps, its first n rows. -/
def twiceTo (ms : List Nat) (k n : Nat) : List Nat := (List.range 32).map fun i => if i < n then steps k (ms.getD i 0) else 0
theorem twiceTo_zero (ms : List Nat) (k : Nat) : twiceTo ms k 0 = List.replicate 32 0 := by
  refine List.ext_getElem (by simp [twiceTo]) fun i h1 h2 => ?_
  rw [List.getElem_replicate]
  simp [twiceTo]
theorem twiceTo_len (ms : List Nat) (k n : Nat) : (twiceTo ms k n).length = 32 := by simp [twiceTo]
theorem twiceTo_set (ms : List Nat) (k n : Nat) (h : n < 32) : (twiceTo ms k n).set n (steps k (ms.getD n 0)) = twiceTo ms k (n + 1) := by
  refine List.ext_getElem (by simp [twiceTo]) fun i h1 h2 => ?_
  rw [List.getElem_set]
  simp only [twiceTo, List.getElem_map, List.getElem_range]
  by_cases e : n = i
  · subst e; rw [if_pos rfl, if_pos (by omega)]
  · rw [if_neg e]
    by_cases hlt : i < n
    · rw [if_pos hlt, if_pos (by omega)]
    · rw [if_neg hlt, if_neg (by omega)]
theorem twice_rep {ms : List Nat} {k : Nat} (hr : Rep ms (steps k)) : Rep (twiceTo ms k 32) (steps (k + k)) := by
  refine ⟨twiceTo_len ms k 32, fun i h => ?_⟩
  have : (twiceTo ms k 32).getD i 0 = steps k (ms.getD i 0) := by simp [twiceTo, List.getD_eq_getElem?_getD, h]
  rw [this, hr.2 i h, steps_add]
/-- n bytes 0 behind a sum. -/
def zerosN (sum n : Nat) : Nat := 4294967295 - steps (8 * n) (4294967295 - sum)
theorem zerosN_lt (sum n : Nat) : zerosN sum n < 4294967296 := by unfold zerosN; omega
theorem zerosN_zero (sum : Nat) (h : sum < 4294967296) : zerosN sum 0 = sum := by unfold zerosN; simp [steps]; omega
theorem zerosN_add (sum m n : Nat) (h : sum < 4294967296) : zerosN (zerosN sum m) n = zerosN sum (m + n) := by
  unfold zerosN
  have h1 : steps (8 * m) (4294967295 - sum) < 4294967296 := steps_lt (by omega)
  rw [show 4294967295 - (4294967295 - steps (8 * m) (4294967295 - sum)) = steps (8 * m) (4294967295 - sum) by omega, Nat.mul_add, steps_add]
theorem more_zero (sum : Nat) : more sum [0] = zerosN sum 1 := by
  unfold more zerosN reg
  have : text [0] = 0 := by decide
  rw [this, Nat.xor_zero]
  rfl
theorem apart_eq (x y n : Nat) (hx : x < 4294967296) (hy : y < 4294967296) : zerosN x n ^^^ zerosN y n = steps (8 * n) (x ^^^ y) := by
  unfold zerosN
  have h1 : steps (8 * n) (4294967295 - x) < 4294967296 := steps_lt (by omega)
  have h2 : steps (8 * n) (4294967295 - y) < 4294967296 := steps_lt (by omega)
  rw [← not_xor h1, ← not_xor h2, ← not_xor hx, ← not_xor hy]
  have e : ∀ m a b : Nat, (m ^^^ a) ^^^ (m ^^^ b) = a ^^^ b := by
    intro m a b
    rw [Nat.xor_comm m a, Nat.xor_assoc, ← Nat.xor_assoc m, Nat.xor_self, Nat.zero_xor]
  rw [e, ← steps_xor, e]
theorem turned_eq (x y z n : Nat) (hx : x < 4294967296) (hy : y < 4294967296) (hz : z < 4294967296) : zerosN (x ^^^ z) n ^^^ zerosN (y ^^^ z) n = zerosN x n ^^^ zerosN y n := by
  rw [apart_eq _ _ n (xor_lt hx hz) (xor_lt hy hz), apart_eq x y n hx hy]
  congr 1
  rw [Nat.xor_comm y z, Nat.xor_assoc, ← Nat.xor_assoc z, Nat.xor_self, Nat.zero_xor]
theorem apart_zero (x y n : Nat) (hx : x < 4294967296) (hy : y < 4294967296) : (zerosN x n ^^^ zerosN y n = 0) ↔ x = y := by
  rw [apart_eq x y n hx hy]
  constructor
  · intro h
    by_cases e : x ^^^ y = 0
    · have h2 : (x ^^^ y) ^^^ y = 0 ^^^ y := by rw [e]
      rw [Nat.xor_assoc, Nat.xor_self, Nat.xor_zero, Nat.zero_xor] at h2
      exact h2
    · exact absurd h (steps_ne (xor_lt hx hy) e)
  · rintro rfl
    rw [Nat.xor_self]
    exact (lin_steps _).zero
end Go.Proofs.YtfialncobdinnaaDoor.Crc
