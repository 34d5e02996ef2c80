/-
  Contracts: wire.Pad, wire.Padded, and the reference's.
-/
import Derived.Test.YtjfponhdlfhmbaaWire2
import Derived.Test.YtjfponhdlfhmbaaMemZ
namespace Go.Proofs.Ytjfponhdlfhmbaa.Wire
open Go.RowKit Mem
set_option linter.unusedVariables false

/-- How many bytes make a multiple of 4. -/
def padN (n : Int) : Int := if n < 0 then 0 else (-n) % 4
theorem reti {k : IntKind} {a b : Int} (h : a = b) : Ending.returned (.int k a) = .returned (.int k b) := by rw [h]

theorem and3' (n : Int) : bits .and .i64 n 3 = n % 4 := by
  have h127 : (BitVec.ofInt 64 3).toNat = 2 ^ 2 - 1 := by decide
  have key : (BitVec.ofInt 64 n &&& BitVec.ofInt 64 3).toNat = (n % ((2 ^ 64 : Nat) : Int)).toNat % 2 ^ 2 := by
    rw [BitVec.toNat_and, BitVec.toNat_ofInt, h127, Nat.and_two_pow_sub_one_eq_mod]
  show IntKind.i64.wrap ((BitVec.ofInt 64 n &&& BitVec.ofInt 64 3).toNat : Nat) = n % 4
  rw [key, IntKind.wrap_i64]
  omega
theorem and3 (n : Int) : bits .and .i64 (-n) 3 = (-n) % 4 := and3' (-n)
theorem pad (n : Int) (w : World) (h : -9223372036854775808 ≤ n ∧ n ≤ 9223372036854775807) :
    Calls Try.prog 30 #[.int .i64 n] w fun e w' => e = .returned (.int .i64 (padN n)) ∧ w = w' := by
  by_cases h0 : n < 0
  · have hp : padN n = 0 := by unfold padN; rw [if_pos h0]
    rw [hp]
    go_enter Try.func30, Try.ntmps30
    go_wp2
    go_ret
    exact ⟨rfl, rfl⟩
  · have hp : padN n = (-n) % 4 := by unfold padN; rw [if_neg h0]
    have ha := and3 n
    rw [hp]
    go_enter Try.func30, Try.ntmps30
    go_wp2
    go_ret
    exact ⟨rfl, rfl⟩
theorem refPad (n : Int) (w : World) (h : -9223372036854775808 ≤ n ∧ n ≤ 9223372036854775807) :
    Calls Try.prog 16 #[.int .i64 n] w fun e w' => e = .returned (.int .i64 (padN n)) ∧ w = w' := by
  by_cases h0 : n < 0
  · have hp : padN n = 0 := by unfold padN; rw [if_pos h0]
    rw [hp]
    go_enter Try.func16, Try.ntmps16
    go_wp2
    go_ret
    exact ⟨rfl, rfl⟩
  · have hp : padN n = (-n) % 4 := by unfold padN; rw [if_neg h0]
    rw [hp]
    go_enter Try.func16, Try.ntmps16
    go_wp2
    all_goals go_ret
    all_goals refine ⟨reti ?_, rfl⟩
    all_goals simp_all
    all_goals omega

/-- What Padded answers: the bytes, and as many zeros as make a multiple of 4. -/
def paddedOf (xs : List Int) : List Int := xs ++ List.replicate (padN xs.length).toNat 0

theorem padded (v : Value) (xs : List Int) (w : World) (hr : Reads .u8 w v xs) (hb : xs.length ≤ 140737488355300) :
    Calls Try.prog 22 #[v] w fun e w' => ∃ v', e = .returned v' ∧ Row .u8 5 w.heap.size w' v' (paddedOf xs) ∧ Below w.heap.size w w' := by
  obtain ⟨i0, hi, hz0, hz1, hz2⟩ := info_parts info5
  have hp : 0 ≤ padN xs.length ∧ padN xs.length < 4 := by unfold padN; split <;> omega
  obtain ⟨m, hm⟩ : ∃ m : Nat, padN xs.length = m := ⟨(padN xs.length).toNat, by omega⟩
  have hm4 : m < 4 := by omega
  have hq : paddedOf xs = xs ++ List.replicate m 0 := by unfold paddedOf; rw [hm]; simp
  rw [hq]
  clear hq
  have hr' := hr
  obtain ⟨p, c, rfl, h1, h2, h3, h4⟩ := hr
  clear h4 h3
  go_enter Try.func22, Try.ntmps22
  go_wp2_with (first
    | (go_at_call 31; refine (clone _ xs _ hr' (by omega)).mono ?_; rintro e w1 ⟨v1, rfl, hown, hb1⟩)
    | (go_at_call 30; refine (pad _ _ (by omega)).mono ?_; rintro e w' ⟨rfl, rfl⟩)
    | (at_builtin; refine wpl_append_zeros rfl _ _ 23 3 rfl .u8 .i64 w.heap.size 5 1 i0 Try.underlying23 Try.underlying3 hi hz0 hz1 hz2 _ xs rfl hown .i64 _ m rfl rfl ?_ ?_ ?_ ?_))
  · unfold maxLen; omega
  · omega
  · exact hb1.size
  · intro v' w' hv hg
    go_wp2
    go_ret
    exact ⟨_, rfl, hv, hb1.grown hg hb1.size (fun q hq => (hown.lt q hq).1)⟩

/-- A slice's length. -/
def sliceLen : Value → Nat
  | .slice _ n _ => n
  | _ => 0

theorem refPadded (v : Value) (xs : List Int) (w : World) (hr : Reads .u8 w v xs) (hb : xs.length ≤ 140737488355300) :
    Calls Try.prog 24 #[v] w fun e w' => ∃ v', e = .returned v' ∧ Row .u8 5 w.heap.size w' v' (paddedOf xs) ∧ Below w.heap.size w w' := by
  obtain ⟨i0, hi, hz0, hz1, hz2⟩ := info_parts info5
  obtain ⟨m, hm, hm4⟩ : ∃ m : Nat, (-(xs.length : Int)) % 4 = m ∧ m < 4 := ⟨((-(xs.length : Int)) % 4).toNat, by omega, by omega⟩
  have hq : paddedOf xs = xs ++ List.replicate m 0 := by unfold paddedOf padN; rw [if_neg (by omega), hm]; simp
  rw [hq]
  clear hq
  have HM : Hid (-(xs.length : Int) % 4 = m) := hm
  clear hm
  have hown0 : Row .u8 5 w.heap.size (w.alloc (.cells #[] 5)) (.slice (some ⟨w.heap.size, 0, none⟩) 0 0) [] := World.ownsRow_made _ _ _ (Nat.le_refl _) (by simp [maxLen]) rfl
  have hr2 := hr.below ((Below.refl _ _).alloc (Nat.le_refl _) (.cells #[] 5))
  go_enter Try.func24, Try.ntmps24
  go_wp2_with (at_builtin; refine wpl_append rfl _ _ 23 rfl .u8 w.heap.size 5 1 i0 (.int .u8 0) Try.underlying23 hi hz0 hz1 hz2 rfl _ _ [] xs rfl rfl hown0 hr2 ?_ ?_ ?_ ?_)
  · unfold maxLen; simp; omega
  · simp; omega
  · simp
  · intro v1 w1 hown hg
    have hb1 : Below w.heap.size w w1 := ((Below.refl _ _).alloc (Nat.le_refl _) (.cells #[] 5)).grown hg (by simp) (by simp [Value.ownBlock])
    clear hown0 hr2 hr hg
    go_wp2_with fail
    go_loopw [3] (fun u wr => ∃ k : Nat, k ≤ m ∧ Row .u8 5 w.heap.size wr u (xs ++ List.replicate k 0) ∧ Below w.heap.size w wr) (fun u _ => xs.length + m - sliceLen u)
    case atStart => exact ⟨0, by omega, by simpa using hown, hb1⟩
    case round =>
      obtain ⟨k, hk, hown, hb2⟩ := hrel
      obtain ⟨p, c, rfl, _, _, _, _⟩ := hown.reads
      have hl : (xs ++ List.replicate k 0).length = xs.length + k := by simp
      by_cases hlt : k < m
      · have ht : (((xs.length : Int) + k) % 4 != 0) = true := by have := HM.out; rw [bne_iff_ne]; omega
        go_wp2_with (at_builtin; refine wpl_append rfl _ _ 23 rfl .u8 w.heap.size 5 1 i0 (.int .u8 0) Try.underlying23 hi hz0 hz1 hz2 rfl _ _ _ _ rfl rfl (hown.alloc _) (Reads.one .u8 wr _ _) ?_ ?_ ?_ ?_)
        · rw [hl]; unfold maxLen; simp; omega
        · rw [hl]; simp; omega
        · have := hb2.size; simp; omega
        · intro v' w' hv hg
          have hv2 : Row .u8 5 w.heap.size w' v' (xs ++ List.replicate (k + 1) 0) := by rw [List.replicate_succ']; exact hv
          obtain ⟨p', c', hv', _⟩ := hv2.reads
          have hsl : sliceLen v' = xs.length + (k + 1) := by rw [hv']; simp [sliceLen]
          go_wp2
          refine ⟨⟨k + 1, by omega, hv2, ?_⟩, by rw [hsl]; simp [sliceLen]; omega⟩
          exact (hb2.alloc hb2.size _).grown hg (by have := hb2.size; simp; omega) (fun q hq => (hown.lt q (by rw [hl]; exact hq)).1)
      · obtain rfl : k = m := by omega
        have ht : (((xs.length : Int) + k) % 4 != 0) = false := by have := HM.out; rw [bne_eq_false_iff_eq]; omega
        go_wp2
        go_ret
        exact ⟨_, rfl, hown, hb2⟩
end Go.Proofs.Ytjfponhdlfhmbaa.Wire
