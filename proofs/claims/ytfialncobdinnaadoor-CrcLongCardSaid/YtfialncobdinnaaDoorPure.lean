/-
  Plain laws of the sum CRC-32C: one step of its register, many steps, whole texts.
-/
import Derived.Test.YtfialncobdinnaaDoorMem
namespace Go.Proofs.YtfialncobdinnaaDoor.Crc
set_option linter.unusedVariables false

def poly : Nat := 2197175160
/-- One step of the register. -/
def step (c : Nat) : Nat := c / 2 ^^^ (if c % 2 = 1 then poly else 0)
def steps : Nat → Nat → Nat
  | 0, c => c
  | n + 1, c => steps n (step c)

theorem xor_div2 (a b : Nat) : (a ^^^ b) / 2 = a / 2 ^^^ b / 2 := by
  have := Nat.shiftRight_xor_distrib (a := a) (b := b) (i := 1)
  simpa [Nat.shiftRight_eq_div_pow] using this
theorem step_xor (a b : Nat) : step (a ^^^ b) = step a ^^^ step b := by
  unfold step
  rw [xor_div2]
  have h : (a ^^^ b) % 2 = (a % 2 + b % 2) % 2 := by
    have h1 := Nat.testBit_xor a b 0
    simp only [Nat.testBit_zero] at h1
    have h2 := Nat.mod_two_eq_zero_or_one a
    have h3 := Nat.mod_two_eq_zero_or_one b
    have h4 := Nat.mod_two_eq_zero_or_one (a ^^^ b)
    rcases h2 with h2 | h2 <;> rcases h3 with h3 | h3 <;> rcases h4 with h4 | h4 <;> simp [h2, h3, h4] at h1 ⊢
  rcases Nat.mod_two_eq_zero_or_one a with h2 | h2 <;> rcases Nat.mod_two_eq_zero_or_one b with h3 | h3 <;> simp [h, h2, h3] <;> (try ac_rfl)
  rw [show a / 2 ^^^ poly ^^^ (b / 2 ^^^ poly) = a / 2 ^^^ b / 2 ^^^ (poly ^^^ poly) from by ac_rfl, Nat.xor_self, Nat.xor_zero]
theorem steps_xor (n a b : Nat) : steps n (a ^^^ b) = steps n a ^^^ steps n b := by
  induction n generalizing a b with
  | zero => rfl
  | succ n ih => show steps n (step (a ^^^ b)) = _; rw [step_xor, ih]; rfl
theorem step_two (k : Nat) : step (2 * k) = k := by unfold step; simp
theorem steps_add (m n c : Nat) : steps (m + n) c = steps n (steps m c) := by
  induction m generalizing c with
  | zero => simp [steps]
  | succ m ih => rw [Nat.succ_add]; show steps (m + n) (step c) = _; rw [ih]; rfl
theorem steps_pow (n k : Nat) : steps n (2 ^ n * k) = k := by
  induction n generalizing k with
  | zero => simp [steps]
  | succ n ih => show steps n (step (2 ^ (n + 1) * k)) = k; rw [Nat.pow_succ', Nat.mul_assoc, step_two, ih]
theorem step_lt {c : Nat} (h : c < 4294967296) : step c < 4294967296 := by
  unfold step
  refine Nat.xor_lt_two_pow (n := 32) (by omega) ?_
  split <;> decide
theorem steps_lt {n c : Nat} (h : c < 4294967296) : steps n c < 4294967296 := by
  induction n generalizing c with
  | zero => exact h
  | succ n ih => exact ih (step_lt h)
theorem xor_lt {a b : Nat} (ha : a < 4294967296) (hb : b < 4294967296) : a ^^^ b < 4294967296 := Nat.xor_lt_two_pow (n := 32) ha hb

/-- A register that holds something holds something behind a step. -/
theorem step_ne {c : Nat} (h : c < 4294967296) (h0 : c ≠ 0) : step c ≠ 0 := by
  unfold step
  intro e
  split at e
  · rename_i ho
    have e' : c / 2 = poly := by
      have : c / 2 ^^^ poly ^^^ poly = 0 ^^^ poly := by rw [e]
      rwa [Nat.xor_assoc, Nat.xor_self, Nat.xor_zero, Nat.zero_xor] at this
    unfold poly at e'; omega
  · rw [Nat.xor_zero] at e; omega
theorem steps_ne {n c : Nat} (h : c < 4294967296) (h0 : c ≠ 0) : steps n c ≠ 0 := by
  induction n generalizing c with
  | zero => exact h0
  | succ n ih => exact ih (step_lt h) (step_ne h h0)

theorem split16 (c : Nat) : (2 ^ 4 * (c / 16)) ^^^ (c % 16) = c := by
  apply Nat.eq_of_testBit_eq
  intro i
  rw [Nat.testBit_xor, Nat.testBit_two_pow_mul, show 16 = 2 ^ 4 from rfl, Nat.testBit_mod_two_pow, Nat.testBit_div_two_pow]
  by_cases h : i < 4
  · simp [h, show ¬ i ≥ 4 from by omega]
  · simp [h, show i ≥ 4 from by omega]

/-- What four steps do to four bits. -/
def tab : List Nat := (List.range 16).map (steps 4)
theorem tab_get (k : Nat) (h : k < 16) : tab[k]? = some (steps 4 k) := by simp [tab, h]
/-- Four steps at once. -/
theorem four (c : Nat) : c / 16 ^^^ steps 4 (c % 16) = steps 4 c := by
  have := steps_xor 4 (2 ^ 4 * (c / 16)) (c % 16)
  rw [split16, steps_pow] at this
  exact this.symm

/-- A text as one number, its first byte lowest. -/
def text : List Int → Nat
  | [] => 0
  | x :: xs => x.toNat ^^^ 2 ^ 8 * text xs
/-- The register behind a text. -/
def reg (c : Nat) (xs : List Int) : Nat := steps (8 * xs.length) (c ^^^ text xs)
theorem reg_nil (c : Nat) : reg c [] = c := by simp [reg, text, steps]
theorem reg_cons (c : Nat) (x : Int) (xs : List Int) : reg c (x :: xs) = reg (steps 8 (c ^^^ x.toNat)) xs := by
  unfold reg
  rw [show text (x :: xs) = x.toNat ^^^ 2 ^ 8 * text xs from rfl, List.length_cons, Nat.mul_succ, Nat.add_comm, steps_add, ← Nat.xor_assoc, steps_xor 8 (c ^^^ x.toNat), steps_pow]
theorem reg_append (c : Nat) (xs ys : List Int) : reg c (xs ++ ys) = reg (reg c xs) ys := by
  induction xs generalizing c with
  | nil => rw [List.nil_append, reg_nil]
  | cons x xs ih => rw [List.cons_append, reg_cons, reg_cons, ih]
theorem reg_drop (c : Nat) (xs : List Int) (k : Nat) (h : k < xs.length) : reg c (xs.drop k) = reg (steps 8 (c ^^^ (xs.getD k 0).toNat)) (xs.drop (k + 1)) := by
  rw [← reg_cons, List.drop_eq_getElem_cons h]
  simp [h]
theorem reg_lt {c : Nat} {xs : List Int} (hc : c < 4294967296) (hx : ∀ x ∈ xs, 0 ≤ x ∧ x ≤ 255) : reg c xs < 4294967296 := by
  induction xs generalizing c with
  | nil => rw [reg_nil]; exact hc
  | cons x xs ih =>
    rw [reg_cons]
    have := hx x (by simp)
    exact ih (steps_lt (xor_lt hc (by omega))) (fun y hy => hx y (by simp [hy]))

/-- The reference's one bit: byte x, k bits of it taken. -/
theorem bit_step (c x k d : Nat) (h : steps k (c ^^^ x) = d ^^^ x / 2 ^ k) :
    steps (k + 1) (c ^^^ x) = (d / 2 ^^^ (if (x / 2 ^ k ^^^ d) % 2 = 1 then poly else 0)) ^^^ x / 2 ^ (k + 1) := by
  rw [steps_add, h]
  show step (d ^^^ x / 2 ^ k) = _
  unfold step
  rw [xor_div2, Nat.div_div_eq_div_mul, ← Nat.pow_succ, Nat.xor_comm d (x / 2 ^ k)]
  ac_rfl

/-- The register turned round. -/
theorem not_xor {c : Nat} (h : c < 4294967296) : 4294967295 ^^^ c = 4294967295 - c := by
  apply Nat.eq_of_testBit_eq
  intro i
  rw [show 4294967295 - c = 2 ^ 32 - (c + 1) from by omega, Nat.testBit_two_pow_sub_succ h, Nat.testBit_xor, show 4294967295 = 2 ^ 32 - 1 from rfl, Nat.testBit_two_pow_sub_one]
  by_cases hi : i < 32
  · simp [hi]
  · simp [hi]; exact Nat.testBit_lt_two_pow (Nat.lt_of_lt_of_le h (show 4294967296 ≤ 2 ^ i from Nat.pow_le_pow_right (n := 2) (by decide) (show 32 ≤ i by omega)))

/-- One bit of one byte turned is one bit of the text turned. -/
theorem text_set (xs : List Int) (i : Nat) (m : Nat) (h : i < xs.length) : text (xs.set i (((xs.getD i 0).toNat ^^^ m : Nat) : Int)) = text xs ^^^ 2 ^ (8 * i) * m := by
  induction xs generalizing i with
  | nil => simp at h
  | cons x xs ih =>
    cases i with
    | zero => simp [text]; ac_rfl
    | succ i =>
      have h' : i < xs.length := by simpa using h
      have := ih i h'
      simp only [List.set_cons_succ, text, List.getD_cons_succ]
      rw [this]
      have e : ∀ a b : Nat, 2 ^ 8 * (a ^^^ b) = 2 ^ 8 * a ^^^ 2 ^ 8 * b := by
        intro a b
        apply Nat.eq_of_testBit_eq
        intro j
        simp only [Nat.testBit_xor, Nat.testBit_two_pow_mul]
        by_cases hj : j ≥ 8 <;> simp [hj]
      rw [e, Nat.mul_add 8 i 1, Nat.pow_add, Nat.xor_assoc, show 2 ^ 8 * (2 ^ (8 * i) * m) = 2 ^ (8 * i) * 2 ^ (8 * 1) * m from by rw [Nat.mul_one, Nat.mul_left_comm, Nat.mul_assoc]]
end Go.Proofs.YtfialncobdinnaaDoor.Crc
