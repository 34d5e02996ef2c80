/-
  What is known of a path, its seven numbers; the contracts of the tests that it is sound.
-/
import Derived.Test.YtljalbcmhcagaaaMem
namespace Go.Proofs.Ytljalbcmhcagaaa.Way
open Go.RowKit Mem
set_option linter.unusedVariables false

/-- A path: its times, its errors, its windows. -/
structure Wy where
  s : Int
  v : Int
  r : Int
  e : Int
  c : Int
  h : Int
  a : Int
abbrev cells (x : Wy) : Array Value := #[.int .i64 x.s, .int .i64 x.v, .int .i64 x.r, .int .i64 x.e, .int .i64 x.c, .int .i64 x.h, .int .i64 x.a]
/-- A number between two. -/
def inB (n a b : Int) : Bool := decide (a ≤ n ∧ n ≤ b)
theorem inB_true {n a b : Int} (h : a ≤ n ∧ n ≤ b) : inB n a b = true := by unfold inB; exact decide_eq_true h
theorem inB_false {n a b : Int} (h : n < a ∨ b < n) : inB n a b = false := by unfold inB; exact decide_eq_false (by omega)
/-- A sound path. -/
def okB (x : Wy) : Bool := inB x.s 0 1099511627776 && inB x.v 0 1099511627776 && inB x.r 4 64 && inB x.e 0 1048576 && inB x.c 512 65536 && inB x.h 1024 65536 && inB x.a 0 65536
theorem okB_iff (x : Wy) : okB x = true ↔ 0 ≤ x.s ∧ x.s ≤ 1099511627776 ∧ 0 ≤ x.v ∧ x.v ≤ 1099511627776 ∧ 4 ≤ x.r ∧ x.r ≤ 64 ∧ 0 ≤ x.e ∧ x.e ≤ 1048576 ∧ 512 ≤ x.c ∧ x.c ≤ 65536 ∧ 1024 ≤ x.h ∧ x.h ≤ 65536 ∧ 0 ≤ x.a ∧ x.a ≤ 65536 := by
  unfold okB inB
  simp only [Bool.and_eq_true, decide_eq_true_eq]
  constructor <;> (intro h; omega)

theorem inn (n a b : Int) (w : World) : Calls Try.prog 25 #[.int .i64 n, .int .i64 a, .int .i64 b] w fun e w' => e = .returned (.bool (inB n a b)) ∧ w' = w := by
  by_cases h1 : a ≤ n
  · by_cases h2 : n ≤ b
    · rw [inB_true ⟨h1, h2⟩]
      go_enter Try.func25, Try.ntmps25
      go_wp2
      go_ret
      exact ⟨rfl, rfl⟩
    · rw [inB_false (by omega)]
      go_enter Try.func25, Try.ntmps25
      go_wp2
      go_ret
      exact ⟨rfl, rfl⟩
  · rw [inB_false (by omega)]
    go_enter Try.func25, Try.ntmps25
    go_wp2
    go_ret
    exact ⟨rfl, rfl⟩

/-- A number, cut to the next one between two. -/
def clp (n a b : Int) : Int := if n < a then a else if n > b then b else n
theorem clip (n a b : Int) (w : World) : Calls Try.prog 27 #[.int .i64 n, .int .i64 a, .int .i64 b] w fun e w' => e = .returned (.int .i64 (clp n a b)) ∧ w' = w := by
  unfold clp
  by_cases h1 : n < a
  · rw [if_pos h1]
    go_enter Try.func27, Try.ntmps27
    go_wp2
    go_ret
    exact ⟨rfl, rfl⟩
  · rw [if_neg h1]
    by_cases h2 : n > b
    · rw [if_pos h2]
      go_enter Try.func27, Try.ntmps27
      go_wp2
      go_ret
      exact ⟨rfl, rfl⟩
    · rw [if_neg h2]
      go_enter Try.func27, Try.ntmps27
      go_wp2
      go_ret
      exact ⟨rfl, rfl⟩
end Go.Proofs.Ytljalbcmhcagaaa.Way
