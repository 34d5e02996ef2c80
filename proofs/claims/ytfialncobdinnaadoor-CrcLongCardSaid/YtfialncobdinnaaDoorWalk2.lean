/-
  Contracts: the reference's More, and both Sums.
-/
import Derived.Test.YtfialncobdinnaaDoorWalk1
namespace Go.Proofs.YtfialncobdinnaaDoor.Crc
open Go.RowKit Mem
set_option linter.unusedVariables false

theorem and1 {a : Nat} (ha : a < 4294967296) : bits BinOp.and IntKind.u32 (a : Int) 1 = ((a % 2 : Nat) : Int) := by
  have := u32_and_nat a 1 ha (by decide)
  rw [show ((1 : Nat) : Int) = 1 from rfl] at this
  rw [this, Nat.and_one_is_mod]

set_option maxRecDepth 100000 in
set_option maxHeartbeats 3200000 in
theorem moreR (n : Nat) (v : Value) (xs : List Int) (w : World) (hn : n < 4294967296) (hr : Reads .u8 w v xs) (hx : ∀ x ∈ xs, 0 ≤ x ∧ x ≤ 255) (hb : xs.length ≤ 9223372036854775807) :
    Calls Tryd.prog 11 #[.int .u32 n, v] w fun e w' => e = .returned (.int .u32 (more n xs : Nat)) ∧ w' = w := by
  obtain ⟨p, c, rfl, h1, h2, h3, hc⟩ := hr
  clear h3
  go_enter Tryd.func11, Tryd.ntmps11
  go_wp2_with fail
  go_loop [5, 6] (fun c i => ∃ k d : Nat, k ≤ xs.length ∧ i = .int .i64 k ∧ d < 4294967296 ∧ c = .int .u32 d ∧ reg d (xs.drop k) = reg (4294967295 - n) xs) (fun _ i => xs.length - (intOf i).toNat)
  case atStart => exact ⟨0, 4294967295 - n, by omega, rfl, by omega, by go_num, by simp⟩
  case round =>
    obtain ⟨k, d, hk, rfl, hd, rfl, hreg⟩ := hrel
    by_cases hlt : k < xs.length
    · obtain ⟨b, off, rfl, hbl, hcc⟩ := hc (by omega)
      obtain ⟨x, hxk⟩ : ∃ x, (xs.getD k 0).toNat = x := ⟨_, rfl⟩
      have hx0 := hx (xs.getD k 0) (by rw [List.getD_eq_getElem?_getD, List.getElem?_eq_getElem hlt]; simp)
      have hck : w.cell? ⟨b, off + k, none⟩ = some (.int .u8 x) := by rw [hcc k hlt, ← hxk, Int.toNat_of_nonneg hx0.1]
      have hxl : x < 256 := by omega
      have hstep : Hid (reg (steps 8 (d ^^^ x)) (xs.drop (k + 1)) = reg (4294967295 - n) xs) := by unfold Hid; rw [← hreg, reg_drop _ _ _ hlt, hxk]
      clear hc hcc hreg hxk hx
      go_wp2_with fail
      go_loop [5, 7] (fun c j => ∃ m e : Nat, m ≤ 8 ∧ j = .int .i64 m ∧ e < 4294967296 ∧ c = .int .u32 e ∧ Hid (steps m (d ^^^ x) = e ^^^ x / 2 ^ m)) (fun _ j => 8 - (intOf j).toNat)
      case atStart => exact ⟨0, d, by omega, rfl, hd, rfl, by unfold Hid; simp [steps]⟩
      case round =>
        obtain ⟨m, e, hm, rfl, he, rfl, hs⟩ := hrel
        by_cases hlt2 : m < 8
        · have hdl : x / 2 ^ m < 4294967296 := Nat.lt_of_le_of_lt (Nat.div_le_self _ _) (by omega)
          have hbit : bits BinOp.and IntKind.u32 (bits BinOp.xor IntKind.u32 ((x : Int) / 2 ^ m) (e : Int)) 1 = (((x / 2 ^ m ^^^ e) % 2 : Nat) : Int) := by
            rw [show (x : Int) / 2 ^ m = ((x / 2 ^ m : Nat) : Int) from by simp, xor32 hdl he, and1 (xor_lt hdl he)]
          have HS : Hid (steps (m + 1) (d ^^^ x) = (e / 2 ^^^ (if (x / 2 ^ m ^^^ e) % 2 = 1 then poly else 0)) ^^^ x / 2 ^ (m + 1)) := bit_step _ _ _ _ hs.out
          by_cases hodd : (x / 2 ^ m ^^^ e) % 2 = 1
          · rw [hodd] at hbit
            rw [if_pos hodd] at HS
            have q : bits BinOp.xor IntKind.u32 ((e : Int) / 2) 2197175160 = ((e / 2 ^^^ poly : Nat) : Int) := by
              rw [show (e : Int) / 2 = ((e / 2 : Nat) : Int) from by omega]; exact xor32 (by omega) (by decide)
            have hel : e / 2 ^^^ poly < 4294967296 := xor_lt (by omega) (by decide)
            clear hodd hdl
            go_wp2
            exact ⟨⟨m + 1, e / 2 ^^^ poly, by omega, by go_num, hel, rfl, HS⟩, by simp [intOf]; omega⟩
          · rw [show (x / 2 ^ m ^^^ e) % 2 = 0 from by omega] at hbit
            rw [if_neg hodd, Nat.xor_zero] at HS
            clear hodd hdl
            go_wp2
            exact ⟨⟨m + 1, e / 2, by omega, by go_num, by omega, by go_num, HS⟩, by simp [intOf]; omega⟩
        · obtain rfl : m = 8 := by omega
          have hs' := hs.out
          rw [show x / 2 ^ 8 = 0 from Nat.div_eq_of_lt hxl, Nat.xor_zero] at hs'
          rw [hs'] at hstep
          clear hs hs'
          go_wp2
          exact ⟨⟨k + 1, e, by omega, by go_num, he, rfl, hstep.out⟩, by simp [intOf]; omega⟩
    · obtain rfl : k = xs.length := by omega
      rw [List.drop_length, reg_nil] at hreg
      have hm : more n xs = 4294967295 - d := by unfold more; rw [← hreg]
      clear hreg hc
      go_wp2
      go_ret
      exact ⟨by show Ending.returned (.int .u32 (4294967295 - (d : Int))) = _; go_num, rfl⟩
theorem sumP (v : Value) (xs : List Int) (w : World) (hr : Reads .u8 w v xs) (hx : ∀ x ∈ xs, 0 ≤ x ∧ x ≤ 255) (hb : xs.length ≤ 9223372036854775807) :
    Calls Tryd.prog 8 #[v] w fun e w' => e = .returned (.int .u32 (more 0 xs : Nat)) ∧ Below w.heap.size w w' := by
  go_enter Tryd.func8, Tryd.ntmps8
  go_wp2_with fail
  refine (moreP 0 v xs w (by decide) hr hx hb).mono ?_
  rintro e w1 ⟨rfl, b1⟩
  go_wp2
  go_ret
  exact ⟨rfl, b1⟩
theorem sum_nine : more 0 [49, 50, 51, 52, 53, 54, 55, 56, 57] = 3808858755 := by decide +kernel
end Go.Proofs.YtfialncobdinnaaDoor.Crc
