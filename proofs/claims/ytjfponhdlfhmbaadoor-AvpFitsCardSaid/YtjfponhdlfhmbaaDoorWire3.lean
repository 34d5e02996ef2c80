/-
  Contracts: wire.Pad, wire.Padded, and the reference's.
-/
import Derived.Test.YtjfponhdlfhmbaaDoorWire2
import Derived.Test.YtjfponhdlfhmbaaDoorTpls
namespace Go.Proofs.YtjfponhdlfhmbaaDoor.Wire
open Go.RowKit Mem
set_option linter.unusedVariables false

/-- How many bytes make a multiple of 4. -/
def padN (n : Int) : Int := if n < 0 then 0 else (-n) % 4
theorem reti {k : IntKind} {a b : Int} (h : a = b) : Ending.returned (.int k a) = .returned (.int k b) := by rw [h]

theorem and3' (n : Int) : bits .and .i64 n 3 = n % 4 := by
  have h127 : (BitVec.ofInt 64 3).toNat = 2 ^ 2 - 1 := by decide
  have key : (BitVec.ofInt 64 n &&& BitVec.ofInt 64 3).toNat = (n % ((2 ^ 64 : Nat) : Int)).toNat % 2 ^ 2 := by
    rw [BitVec.toNat_and, BitVec.toNat_ofInt, h127, Nat.and_two_pow_sub_one_eq_mod]
  show IntKind.i64.wrap ((BitVec.ofInt 64 n &&& BitVec.ofInt 64 3).toNat : Nat) = n % 4
  rw [key, IntKind.wrap_i64]
  omega
theorem and3 (n : Int) : bits .and .i64 (-n) 3 = (-n) % 4 := and3' (-n)
theorem pad (n : Int) (w : World) (h : -9223372036854775808 ≤ n ∧ n ≤ 9223372036854775807) :
    Calls Tryd.prog 34 #[.int .i64 n] w fun e w' => e = .returned (.int .i64 (padN n)) ∧ w = w' := by
  by_cases h0 : n < 0
  · have hp : padN n = 0 := by unfold padN; rw [if_pos h0]
    rw [hp]
    go_enter Tryd.func34, Tryd.ntmps34
    go_wp2
    go_ret
    exact ⟨rfl, rfl⟩
  · have hp : padN n = (-n) % 4 := by unfold padN; rw [if_neg h0]
    have ha := and3 n
    rw [hp]
    go_enter Tryd.func34, Tryd.ntmps34
    go_wp2
    go_ret
    exact ⟨rfl, rfl⟩
theorem refPad (n : Int) (w : World) (h : -9223372036854775808 ≤ n ∧ n ≤ 9223372036854775807) :
    Calls Tryd.prog 33 #[.int .i64 n] w fun e w' => e = .returned (.int .i64 (padN n)) ∧ w = w' := by
  by_cases h0 : n < 0
  · have hp : padN n = 0 := by unfold padN; rw [if_pos h0]
    rw [hp]
    go_enter Tryd.func33, Tryd.ntmps33
    go_wp2
    go_ret
    exact ⟨rfl, rfl⟩
  · have hp : padN n = (-n) % 4 := by unfold padN; rw [if_neg h0]
    rw [hp]
    go_enter Tryd.func33, Tryd.ntmps33
    go_wp2
    all_goals go_ret
    all_goals refine ⟨reti ?_, rfl⟩
    all_goals simp_all
    all_goals omega

/-- What Padded answers: the bytes, and as many zeros as make a multiple of 4. -/
def paddedOf (xs : List Int) : List Int := xs ++ List.replicate (padN xs.length).toNat 0

theorem padded (v : Value) (xs : List Int) (w : World) (hr : Reads .u8 w v xs) (hb : xs.length ≤ 140737488355300) :
    Calls Tryd.prog 23 #[v] w fun e w' => ∃ v', e = .returned v' ∧ Row .u8 5 w.heap.size w' v' (paddedOf xs) ∧ Below w.heap.size w w' := by
  obtain ⟨i0, hi, hz0, hz1, hz2⟩ := info_parts info5
  have hp : 0 ≤ padN xs.length ∧ padN xs.length < 4 := by unfold padN; split <;> omega
  obtain ⟨m, hm⟩ : ∃ m : Nat, padN xs.length = m := ⟨(padN xs.length).toNat, by omega⟩
  have hm4 : m < 4 := by omega
  have hq : paddedOf xs = xs ++ List.replicate m 0 := by unfold paddedOf; rw [hm]; simp
  rw [hq]
  clear hq
  have hr' := hr
  obtain ⟨p, c, rfl, h1, h2, h3, h4⟩ := hr
  clear h4 h3
  go_enter Tryd.func23, Tryd.ntmps23
  go_wp2_with (first
    | (go_at_call 35; refine (clone _ xs _ hr' (by omega)).mono ?_; rintro e w1 ⟨v1, rfl, hown, hb1⟩)
    | (go_at_call 34; refine (pad _ _ (by omega)).mono ?_; rintro e w' ⟨rfl, rfl⟩)
    | (at_builtin; refine wpl_append_zeros rfl _ _ 22 3 rfl .u8 .i64 w.heap.size 5 1 i0 Tryd.underlying22 Tryd.underlying3 hi hz0 hz1 hz2 _ xs rfl hown .i64 _ m rfl rfl ?_ ?_ ?_ ?_))
  · unfold maxLen; omega
  · omega
  · exact hb1.size
  · intro v' w' hv hg
    go_wp2
    go_ret
    exact ⟨_, rfl, hv, hb1.grown hg hb1.size (fun q hq => (hown.lt q hq).1)⟩

/-- A slice's length. -/
def sliceLen : Value → Nat
  | .slice _ n _ => n
  | _ => 0

end Go.Proofs.YtjfponhdlfhmbaaDoor.Wire
