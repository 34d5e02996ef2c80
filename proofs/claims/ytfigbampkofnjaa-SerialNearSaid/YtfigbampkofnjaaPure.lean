/-
  The contracts of package serial and of its reference: what each call returns; nothing is written.
-/
import Derived.Test.YtfigbampkofnjaaRows
import Derived.WalkKit
import Derived.WalkLawsBesides
import Derived.WalkSpells
namespace Go.Proofs.Ytfigbampkofnjaa.Ser
open Go.RowKit

/-- Which of two numbers that go round comes first, by the way d from the one to the other: -1, 0 or 1. -/
def ordN (half d : Int) : Int := if d = 0 then 0 else if d < half then -1 else if half < d then 1 else 0
/-- Does one of them? -/
def ordB (half d : Int) : Bool := decide (d ≠ half)
theorem ret2 {k : IntKind} {a b : Int} {c d : Bool} (h1 : a = b) (h2 : c = d) : Ending.returned (.tuple #[.int k a, .bool c]) = .returned (.tuple #[.int k b, .bool d]) := by rw [h1, h2]

theorem u16w (x : Int) : IntKind.u16.wrap x = x % 65536 := by simp [IntKind.wrap, IntKind.signed, IntKind.bits]

theorem within (a b c : Int) (w : World) :
    Calls Try.prog 14 #[.int .u32 a, .int .u32 b, .int .u32 c] w fun e w' => e = .returned (.bool (decide ((c - a) % 4294967296 ≤ (b - a) % 4294967296))) ∧ w = w' := by
  go_enter Try.func14, Try.ntmps14
  go_wp2
  go_ret
  exact ⟨rfl, rfl⟩
theorem refWithin (a b c : Int) (w : World) :
    Calls Try.prog 15 #[.int .u32 a, .int .u32 b, .int .u32 c] w fun e w' => e = .returned (.bool (decide ((c - a) % 4294967296 ≤ (b - a) % 4294967296))) ∧ w = w' := by
  go_enter Try.func15, Try.ntmps15
  go_wp2
  go_ret
  exact ⟨rfl, rfl⟩
theorem answers (w : World) : Calls Try.prog 13 #[] w fun e w' => e = .returned (.bool true) ∧ w = w' := by
  go_enter Try.func13, Try.ntmps13
  go_wp2
  go_ret
  exact ⟨rfl, rfl⟩

theorem order16 (a b : Int) (w : World) :
    Calls Try.prog 9 #[.int .u16 a, .int .u16 b] w fun e w' => e = .returned (.tuple #[.int .i64 (ordN 32768 (IntKind.u16.wrap (b - a))), .bool (ordB 32768 (IntKind.u16.wrap (b - a)))]) ∧ w = w' := by
  go_enter Try.func9, Try.ntmps9
  go_wp2
  all_goals go_ret2
  all_goals refine ⟨ret2 ?_ ?_, rfl⟩
  all_goals (simp_all [ordN, ordB] <;> omega)
theorem order32 (a b : Int) (w : World) :
    Calls Try.prog 11 #[.int .u32 a, .int .u32 b] w fun e w' => e = .returned (.tuple #[.int .i64 (ordN 2147483648 ((b - a) % 4294967296)), .bool (ordB 2147483648 ((b - a) % 4294967296))]) ∧ w = w' := by
  go_enter Try.func11, Try.ntmps11
  go_wp2
  all_goals go_ret2
  all_goals refine ⟨ret2 ?_ ?_, rfl⟩
  all_goals (simp_all [ordN, ordB] <;> omega)
theorem refOrder16 (a b : Int) (ha : 0 ≤ a ∧ a ≤ 65535) (hb : 0 ≤ b ∧ b ≤ 65535) (w : World) :
    Calls Try.prog 10 #[.int .u16 a, .int .u16 b] w fun e w' => e = .returned (.tuple #[.int .i64 (ordN 32768 (IntKind.u16.wrap (b - a))), .bool (ordB 32768 (IntKind.u16.wrap (b - a)))]) ∧ w = w' := by
  go_enter Try.func10, Try.ntmps10
  go_wp2
  all_goals go_ret2
  all_goals refine ⟨ret2 ?_ ?_, rfl⟩
  all_goals simp only [u16w, beq_iff_eq, beq_eq_false_iff_ne, ne_eq] at *
  all_goals first | (simp only [ordN]; (repeat' split) <;> omega) | (simp only [ordB]; first | (symm; apply decide_eq_true; omega) | (symm; apply decide_eq_false; omega))
theorem refOrder32 (a b : Int) (ha : 0 ≤ a ∧ a ≤ 4294967295) (hb : 0 ≤ b ∧ b ≤ 4294967295) (w : World) :
    Calls Try.prog 12 #[.int .u32 a, .int .u32 b] w fun e w' => e = .returned (.tuple #[.int .i64 (ordN 2147483648 ((b - a) % 4294967296)), .bool (ordB 2147483648 ((b - a) % 4294967296))]) ∧ w = w' := by
  go_enter Try.func12, Try.ntmps12
  go_wp2
  all_goals go_ret2
  all_goals refine ⟨ret2 ?_ ?_, rfl⟩
  all_goals simp only [beq_iff_eq, beq_eq_false_iff_ne, ne_eq] at *
  all_goals first | (simp only [ordN]; (repeat' split) <;> omega) | (simp only [ordB]; first | (symm; apply decide_eq_true; omega) | (symm; apply decide_eq_false; omega))
end Go.Proofs.Ytfigbampkofnjaa.Ser
