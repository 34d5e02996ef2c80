/-
  Contract: wire.Get.
-/
import Derived.Test.YtjfponhdlfhmbaaWire4
namespace Go.Proofs.Ytjfponhdlfhmbaa.Wire
open Go.RowKit Mem
set_option linter.unusedVariables false

/-- The number of bytes, the highest first. -/
def num (l : List Int) : Int := l.foldl (fun n x => n * 256 + x) 0
theorem num_snoc (l : List Int) (x : Int) : num (l ++ [x]) = num l * 256 + x := by simp [num]
theorem num_bound (l : List Int) (h : ∀ x ∈ l, 0 ≤ x ∧ x ≤ 255) : 0 ≤ num l ∧ num l < ((256 ^ l.length : Nat) : Int) := by
  suffices ∀ (l : List Int), (∀ x ∈ l, 0 ≤ x ∧ x ≤ 255) → 0 ≤ num l.reverse ∧ num l.reverse < ((256 ^ l.length : Nat) : Int) by
    have := this l.reverse (by simpa using h)
    simpa using this
  intro l
  induction l with
  | nil => intro _; simp [num]
  | cons x l ih =>
    intro h
    have h1 := ih (fun y hy => h y (List.mem_cons_of_mem _ hy))
    have h2 := h x (List.mem_cons_self ..)
    rw [List.reverse_cons, num_snoc, List.length_cons]
    have e : 256 ^ (l.length + 1) = 256 ^ l.length * 256 := Nat.pow_succ ..
    rw [e]
    omega

def getE (len at_ size : Int) : Int := if 1 ≤ size ∧ size ≤ 8 then partE len at_ size else 1
def getN (xs : List Int) (at_ size : Int) : Int := if 1 ≤ size ∧ size ≤ 8 then num (partL xs at_ size) else 0

theorem or8 (n x : Int) (h0 : 0 ≤ n) (h1 : n < 72057594037927936) (x0 : 0 ≤ x) (x1 : x ≤ 255) : bits .or .u64 (n * 256) x = n * 256 + x := by
  obtain ⟨a, rfl⟩ := Int.eq_ofNat_of_zero_le h0
  obtain ⟨b, rfl⟩ := Int.eq_ofNat_of_zero_le x0
  have e : ((a : Int) * 256) = ((a * 256 : Nat) : Int) := by omega
  rw [e, u64_or_nat _ _ (by omega) (by omega)]
  have := Nat.two_pow_add_eq_or_of_lt (i := 8) (b := b) (by omega) a
  rw [Nat.mul_comm a 256, show (256 : Nat) = 2 ^ 8 from rfl, ← this]
  omega

theorem partL_mem {xs : List Int} {at_ n : Int} {x : Int} (h : x ∈ partL xs at_ n) : x ∈ xs := by
  unfold partL at h
  split at h
  · exact List.mem_of_mem_drop (List.mem_of_mem_take h)
  · cases h
theorem partL_length (xs : List Int) (at_ n : Int) (h : n ≤ 8) : (partL xs at_ n).length ≤ 8 := by
  unfold partL
  split
  · rw [List.length_take]; omega
  · simp

set_option maxHeartbeats 1600000 in
theorem get (v : Value) (xs : List Int) (at_ size : Int) (w : World) (hr : Reads .u8 w v xs) (hwf : ∀ x ∈ xs, 0 ≤ x ∧ x ≤ 255) (hb : xs.length ≤ 140737488355300) (ha : -9223372036854775808 ≤ at_ ∧ at_ ≤ 9223372036854775807) (hn : -9223372036854775808 ≤ size ∧ size ≤ 9223372036854775807) :
    Calls Try.prog 32 #[v, .int .i64 at_, .int .i64 size] w fun e w' => e = .returned (.tuple #[.int .u64 (getN xs at_ size), .int .i64 (getE xs.length at_ size)]) ∧ Below w.heap.size w w' := by
  by_cases h1 : 1 ≤ size ∧ size ≤ 8
  · have e1 : getN xs at_ size = num (partL xs at_ size) := by unfold getN; rw [if_pos h1]
    have e2 : getE xs.length at_ size = partE xs.length at_ size := by unfold getE; rw [if_pos h1]
    rw [e1, e2]
    clear e1 e2
    have hys : ∀ x ∈ partL xs at_ size, 0 ≤ x ∧ x ≤ 255 := fun x hx => hwf x (partL_mem hx)
    have hyl := partL_length xs at_ size h1.2
    obtain ⟨h1, h2⟩ := h1
    obtain ⟨ys, hy⟩ : ∃ ys, partL xs at_ size = ys := ⟨_, rfl⟩
    obtain ⟨E, hE⟩ : ∃ E, partE xs.length at_ size = E := ⟨_, rfl⟩
    rw [hy] at hys hyl
    rw [hy, hE]
    go_enter Try.func32, Try.ntmps32
    go_wp2_with (go_at_call 33; refine (part _ _ _ _ _ hr hb ha hn).mono ?_; rintro e w1 ⟨v1, rfl, hown, hb1⟩; rw [hy] at hown; obtain ⟨p1, c1, rfl, _, _, _, hc⟩ := hown.reads)
    clear hr hwf hy hE
    go_loop [6, 26] (fun n i => ∃ k : Nat, k ≤ ys.length ∧ i = .int .i64 k ∧ n = .int .u64 (num (ys.take k))) (fun _ i => ys.length - (intOf i).toNat)
    case atStart => exact ⟨0, by omega, rfl, by simp [num]⟩
    case round =>
      obtain ⟨k, hk, rfl, rfl⟩ := hrel
      by_cases hlt : k < ys.length
      · obtain ⟨b, off, rfl, hbl, hcc⟩ := hc (by omega)
        obtain ⟨x, hxk⟩ : ∃ x, ys.getD k 0 = x := ⟨_, rfl⟩
        have hck : w1.cell? ⟨b, off + k, none⟩ = some (.int .u8 x) := by rw [← hxk]; exact hcc k hlt
        have hx := hys x (by rw [← hxk, List.getD_eq_getElem?_getD, List.getElem?_eq_getElem hlt]; simp)
        have hN := num_bound (ys.take k) (fun x hx => hys x (List.mem_of_mem_take hx))
        have hpow : 256 ^ (ys.take k).length ≤ 256 ^ 7 := Nat.pow_le_pow_right (by omega) (by rw [List.length_take]; omega)
        have hN1 : num (ys.take k) < 72057594037927936 := by
          have h7 : 256 ^ 7 = 72057594037927936 := by decide
          have := hN.2
          omega
        have hN0 := hN.1
        have hor := or8 (num (ys.take k)) x hN0 hN1 hx.1 hx.2
        have hsn : num (ys.take (k + 1)) = num (ys.take k) * 256 + x := by
          rw [← num_snoc, List.take_add_one, ← hxk, List.getD_eq_getElem?_getD, List.getElem?_eq_getElem hlt]; rfl
        have HS : Hid (num (ys.take (k + 1)) = num (ys.take k) * 256 + x) := hsn
        clear hxk
        clear hsn hN hpow hcc hc
        go_wp2
        refine ⟨⟨k + 1, by omega, by go_num, by rw [HS.out]⟩, by simp [intOf]; omega⟩
      · obtain rfl : k = ys.length := by omega
        go_wp2
        go_ret2
        exact ⟨rfl, hb1⟩
  · have e1 : getN xs at_ size = 0 := by unfold getN; rw [if_neg h1]
    have e2 : getE xs.length at_ size = 1 := by unfold getE; rw [if_neg h1]
    rw [e1, e2]
    by_cases h2 : size < 1
    all_goals
      go_enter Try.func32, Try.ntmps32
      go_wp2
      go_ret2
      exact ⟨rfl, Below.refl _ _⟩
end Go.Proofs.Ytjfponhdlfhmbaa.Wire
