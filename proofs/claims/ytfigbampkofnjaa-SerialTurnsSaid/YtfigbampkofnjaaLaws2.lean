/-
  The walk of the law SerialTurns: it returns true and writes nothing.
-/
import Derived.Test.YtfigbampkofnjaaPure
namespace Go.Proofs.Ytfigbampkofnjaa.Laws
open Go.RowKit Ser

theorem ordN_le (h d : Int) : -1 ≤ ordN h d ∧ ordN h d ≤ 1 := by
  unfold ordN; repeat' split
  all_goals omega
theorem wrap64_ordN (h d : Int) : wrap64 (-ordN h d) = -ordN h d := by
  have := ordN_le h d
  unfold wrap64; omega
theorem f1 (a b : Int) : ordN 2147483648 ((b - a) % 4294967296) = wrap64 (-ordN 2147483648 ((a - b) % 4294967296)) := by
  rw [wrap64_ordN]
  unfold ordN; repeat' split
  all_goals omega
theorem f2 (a b : Int) : ordB 2147483648 ((b - a) % 4294967296) = ordB 2147483648 ((a - b) % 4294967296) := by
  unfold ordB
  exact decide_eq_decide.2 (by omega)
theorem f3 (a b d : Int) : wrap64 (-ordN 2147483648 ((a - b) % 4294967296)) = ordN 2147483648 ((b + d - (a + d)) % 4294967296) := by
  rw [← f1]
  congr 2; omega
theorem f4 (a b d : Int) : ordB 2147483648 ((a - b) % 4294967296) = ordB 2147483648 ((b + d - (a + d)) % 4294967296) := by
  rw [← f2]
  congr 2; omega
theorem way16 (a b d : Int) : IntKind.u16.wrap (IntKind.u16.wrap ((b + d) % 4294967296) - IntKind.u16.wrap ((a + d) % 4294967296)) = IntKind.u16.wrap (IntKind.u16.wrap b - IntKind.u16.wrap a) := by
  simp only [u16w]; omega
theorem f5 (a b d : Int) : ordN 32768 (IntKind.u16.wrap (IntKind.u16.wrap b - IntKind.u16.wrap a)) =
    ordN 32768 (IntKind.u16.wrap (IntKind.u16.wrap ((b + d) % 4294967296) - IntKind.u16.wrap ((a + d) % 4294967296))) := by rw [way16]
theorem f6 (a b d : Int) : ordB 32768 (IntKind.u16.wrap (IntKind.u16.wrap b - IntKind.u16.wrap a)) =
    ordB 32768 (IntKind.u16.wrap (IntKind.u16.wrap ((b + d) % 4294967296) - IntKind.u16.wrap ((a + d) % 4294967296))) := by rw [way16]
theorem f7 (a b d : Int) (h : ¬ ordB 2147483648 ((b + d - (a + d)) % 4294967296) = true) : ((a - b) % 4294967296 == 2147483648) = true := by
  unfold ordB at h
  simp only [ne_eq, decide_not, Bool.not_eq_true', decide_eq_false_iff_not, Decidable.not_not] at h
  simp only [beq_iff_eq]
  omega
theorem retb {a b : Bool} (h : a = b) : Ending.returned (.bool a) = .returned (.bool b) := by rw [h]

theorem turns (a b d : Int) (w : World) :
    Calls Try.prog 5 #[.int .u32 a, .int .u32 b, .int .u32 d] w fun e w' => e = .returned (.bool true) ∧ w = w' := by
  go_enter Try.func5, Try.ntmps5
  go_wp2_with (first
    | (go_at_call 9; refine (order16 _ _ _).mono ?_; rintro e w' ⟨rfl, rfl⟩)
    | (go_at_call 11; refine (order32 _ _ _).mono ?_; rintro e w' ⟨rfl, rfl⟩)
    | (go_at_call 13; refine (answers _).mono ?_; rintro e w' ⟨rfl, rfl⟩))
  all_goals first
    | (refine absurd (f1 a b) ?_; assumption)
    | (refine absurd (f2 a b) ?_; assumption)
    | (refine absurd (f3 a b d) ?_; assumption)
    | (refine absurd (f4 a b d) ?_; assumption)
    | (refine absurd (f5 a b d) ?_; assumption)
    | (refine absurd (f6 a b d) ?_; assumption)
    | (go_ret; first | exact ⟨rfl, rfl⟩ | exact ⟨retb (f7 a b d ‹_›), rfl⟩)
end Go.Proofs.Ytfigbampkofnjaa.Laws
