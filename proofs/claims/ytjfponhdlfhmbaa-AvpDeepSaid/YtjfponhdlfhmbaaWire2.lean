/-
  Contracts: the law's own 'own'; wire.Put and the reference's Put.
-/
import Derived.Test.YtjfponhdlfhmbaaWire1
namespace Go.Proofs.Ytjfponhdlfhmbaa.Wire
open Go.RowKit Mem
set_option linter.unusedVariables false

/-- The lowest 'size' bytes of n, the highest first: the first k of them. -/
def bytesOf (n : Int) (size k : Nat) : List Int := (List.range k).map fun j => n / 2 ^ (8 * (size - 1 - j)) % 256
theorem bytesOf_succ (n : Int) (size k : Nat) : bytesOf n size (k + 1) = bytesOf n size k ++ [n / 2 ^ (8 * (size - 1 - k)) % 256] := by simp [bytesOf, List.range_succ]
theorem bytesOf_length (n : Int) (size k : Nat) : (bytesOf n size k).length = k := by simp [bytesOf]

/-- What Put answers: the bytes of b, and those of the number behind, if the size is from 1 to 8. -/
def putted (xs : List Int) (n size : Int) : List Int := if 1 ≤ size ∧ size ≤ 8 then xs ++ bytesOf n size.toNat size.toNat else xs

set_option maxHeartbeats 1600000 in
theorem put (v : Value) (xs : List Int) (n size : Int) (w : World) (hn : 0 ≤ n ∧ n ≤ 18446744073709551615) (hr : Reads .u8 w v xs) (hb : xs.length ≤ 140737488355300) :
    Calls Try.prog 19 #[v, .int .u64 n, .int .i64 size] w fun e w' => ∃ v', e = .returned v' ∧ Row .u8 5 w.heap.size w' v' (putted xs n size) ∧ Below w.heap.size w w' := by
  obtain ⟨i0, hi, hz0, hz1, hz2⟩ := info_parts info5
  by_cases h1 : 1 ≤ size ∧ size ≤ 8
  · obtain ⟨s, rfl⟩ := Int.eq_ofNat_of_zero_le (show 0 ≤ size by omega)
    obtain ⟨s1, s8⟩ := h1
    go_enter Try.func19, Try.ntmps19
    go_wp2_with (go_at_call 31; refine (clone v xs _ hr (by omega)).mono ?_; rintro e w1 ⟨v1, rfl, hown, hb1⟩)
    go_loopw [7, 19] (fun u i wr => ∃ k : Nat, k ≤ s ∧ i = .int .i64 k ∧ Row .u8 5 w.heap.size wr u (xs ++ bytesOf n s k) ∧ Below w.heap.size w wr) (fun _ i _ => s - (intOf i).toNat)
    case atStart => exact ⟨0, by omega, rfl, by simpa [bytesOf] using hown, hb1⟩
    case round =>
      obtain ⟨k, hk, rfl, hown, hb2⟩ := hrel
      by_cases hlt : k < s
      · have hl := bytesOf_length n s k
        go_wp2_with (at_builtin; (refine wpl_append rfl _ _ 23 rfl .u8 w.heap.size 5 1 i0 (.int .u8 0) Try.underlying23 hi hz0 hz1 hz2 rfl _ _ _ _ rfl rfl (hown.alloc _) (Reads.one .u8 wr _ _) ?_ ?_ ?_ ?_))
        · rw [List.length_append, hl]; unfold maxLen; simp; omega
        · rw [List.length_append, hl]; simp; omega
        · have := hb2.size; simp; omega
        · intro v' w' hv hg
          go_wp2
          refine ⟨⟨k + 1, by omega, by go_num, by rw [bytesOf_succ]; exact hv, ?_⟩, by simp [intOf]; omega⟩
          exact (hb2.alloc hb2.size _).grown hg (by have := hb2.size; simp; omega) (fun q hq => (hown.lt q hq).1)
      · obtain rfl : k = s := by omega
        go_wp2
        go_ret
        refine ⟨_, rfl, ?_, hb2⟩
        unfold putted
        rw [if_pos ⟨s1, s8⟩]
        exact hown
  · have hp : putted xs n size = xs := by unfold putted; rw [if_neg h1]
    rw [hp]
    clear hp
    by_cases h2 : size < 1
    · go_enter Try.func19, Try.ntmps19
      go_wp2_with (go_at_call 31; refine (clone v xs _ hr (by omega)).mono ?_; rintro e w1 ⟨v1, rfl, hown, hb1⟩)
      go_ret
      exact ⟨_, rfl, hown, hb1⟩
    · go_enter Try.func19, Try.ntmps19
      go_wp2_with (go_at_call 31; refine (clone v xs _ hr (by omega)).mono ?_; rintro e w1 ⟨v1, rfl, hown, hb1⟩)
      go_ret
      exact ⟨_, rfl, hown, hb1⟩

set_option maxHeartbeats 1600000 in
theorem refPut (v : Value) (xs : List Int) (n size : Int) (w : World) (hn : 0 ≤ n ∧ n ≤ 18446744073709551615) (hr : Reads .u8 w v xs) (hb : xs.length ≤ 140737488355300) :
    Calls Try.prog 23 #[v, .int .u64 n, .int .i64 size] w fun e w' => ∃ v', e = .returned v' ∧ Row .u8 5 w.heap.size w' v' (putted xs n size) ∧ Below w.heap.size w w' := by
  obtain ⟨i0, hi, hz0, hz1, hz2⟩ := info_parts info5
  have hown0 : Row .u8 5 w.heap.size (w.alloc (.cells #[] 5)) (.slice (some ⟨w.heap.size, 0, none⟩) 0 0) [] := World.ownsRow_made _ _ _ (Nat.le_refl _) (by simp [maxLen]) rfl
  have hr2 := hr.below ((Below.refl _ _).alloc (Nat.le_refl _) (.cells #[] 5))
  by_cases h1 : 1 ≤ size ∧ size ≤ 8
  · obtain ⟨s, rfl⟩ := Int.eq_ofNat_of_zero_le (show 0 ≤ size by omega)
    obtain ⟨s1, s8⟩ := h1
    go_enter Try.func23, Try.ntmps23
    go_wp2_with (at_builtin; refine wpl_append rfl _ _ 23 rfl .u8 w.heap.size 5 1 i0 (.int .u8 0) Try.underlying23 hi hz0 hz1 hz2 rfl _ _ [] xs rfl rfl hown0 hr2 ?_ ?_ ?_ ?_)
    · unfold maxLen; simp; omega
    · simp; omega
    · simp
    · intro v1 w1 hown hg
      have hb1 : Below w.heap.size w w1 := ((Below.refl _ _).alloc (Nat.le_refl _) (.cells #[] 5)).grown hg (by simp) (by simp [Value.ownBlock])
      clear hown0 hr2 hr hg
      go_wp2
      go_loopw [7, 8] (fun u i wr => ∃ k : Nat, k ≤ s ∧ i = .int .i64 ((s : Int) - 1 - k) ∧ Row .u8 5 w.heap.size wr u (xs ++ bytesOf n s k) ∧ Below w.heap.size w wr) (fun _ i _ => (intOf i + 1).toNat)
      case atStart => exact ⟨0, by omega, by simp, by simpa [bytesOf] using hown, hb1⟩
      case round =>
        obtain ⟨k, hk, rfl, hown, hb2⟩ := hrel
        by_cases hlt : k < s
        · have hl := bytesOf_length n s k
          go_wp2_with (at_builtin; (refine wpl_append rfl _ _ 23 rfl .u8 w.heap.size 5 1 i0 (.int .u8 0) Try.underlying23 hi hz0 hz1 hz2 rfl _ _ _ _ rfl rfl (hown.alloc _) (Reads.one .u8 wr _ _) ?_ ?_ ?_ ?_))
          · rw [List.length_append, hl]; unfold maxLen; simp; omega
          · rw [List.length_append, hl]; simp; omega
          · have := hb2.size; simp; omega
          · intro v' w' hv hg
            go_wp2
            refine ⟨⟨k + 1, by omega, by go_num, by rw [bytesOf_succ]; exact hv, ?_⟩, by simp only [intOf]; omega⟩
            exact (hb2.alloc hb2.size _).grown hg (by have := hb2.size; simp; omega) (fun q hq => (hown.lt q hq).1)
        · obtain rfl : k = s := by omega
          go_wp2
          go_ret
          refine ⟨_, rfl, ?_, hb2⟩
          unfold putted
          rw [if_pos ⟨s1, s8⟩]
          exact hown
  · have hp : putted xs n size = xs := by unfold putted; rw [if_neg h1]
    rw [hp]
    clear hp
    have fin : ∀ v1 w1, Row .u8 5 w.heap.size w1 v1 ([] ++ xs) → (w.alloc (.cells #[] 5)).grownBy w1 (Value.ownBlock (.slice (some ⟨w.heap.size, 0, none⟩) 0 0)) → Row .u8 5 w.heap.size w1 v1 xs ∧ Below w.heap.size w w1 :=
      fun v1 w1 hown hg => ⟨by simpa using hown, ((Below.refl _ _).alloc (Nat.le_refl _) (.cells #[] 5)).grown hg (by simp) (by simp [Value.ownBlock])⟩
    have k1 : ([] : List Int).length + xs.length ≤ maxLen := by unfold maxLen; simp; omega
    have k2 : (([] : List Int).length + xs.length) * 1 ≤ 140737488355328 := by simp; omega
    have k3 : w.heap.size ≤ (w.alloc (.cells #[] 5)).heap.size := by simp
    by_cases h2 : size < 1
    · go_enter Try.func23, Try.ntmps23
      go_wp2_with (at_builtin; refine wpl_append rfl _ _ 23 rfl .u8 w.heap.size 5 1 i0 (.int .u8 0) Try.underlying23 hi hz0 hz1 hz2 rfl _ _ [] xs rfl rfl hown0 hr2 k1 k2 k3 ?_; intro v1 w1 hown hg; clear hown0 hr2)
      go_ret
      exact ⟨_, rfl, fin _ _ hown hg⟩
    · go_enter Try.func23, Try.ntmps23
      go_wp2_with (at_builtin; refine wpl_append rfl _ _ 23 rfl .u8 w.heap.size 5 1 i0 (.int .u8 0) Try.underlying23 hi hz0 hz1 hz2 rfl _ _ [] xs rfl rfl hown0 hr2 k1 k2 k3 ?_; intro v1 w1 hown hg; clear hown0 hr2)
      go_ret
      exact ⟨_, rfl, fin _ _ hown hg⟩
end Go.Proofs.Ytjfponhdlfhmbaa.Wire
