/-
  Contracts: real.exactly, Get32, Get64, the reference's Num; a value's bytes are written as they were read.
-/
import Derived.Test.YtjfmahodbdianaaDoorRef1
namespace Go.Proofs.YtjfmahodbdianaaDoor.Real
open Go.RowKit Mem Wire
set_option linter.unusedVariables false
set_option linter.unusedSimpArgs false

theorem frombits64 (n : Int) (w : World) : (callFunc 39 #[.int .u64 n]).run Tryd.prog w = .ok (.value (.float .f64 n.toNat)) w := by kernel_rfl
theorem frombits32 (n : Int) (w : World) : (callFunc 38 #[.int .u32 n]).run Tryd.prog w = .ok (.value (.float .f32 n.toNat)) w := by kernel_rfl
def exE (len s : Nat) : Int := if len < s then 3 else if len = s then 0 else 2
def exN (xs : List Int) (s : Nat) : Int := if xs.length = s then num xs else 0
theorem num_lt {xs : List Int} {s : Nat} (h : ∀ x ∈ xs, 0 ≤ x ∧ x ≤ 255) : 0 ≤ exN xs s ∧ exN xs s < ((256 ^ s : Nat) : Int) := by
  unfold exN
  split
  · rename_i h1; subst h1; exact num_bound xs h
  · exact ⟨Int.le_refl _, by have : 0 < 256 ^ s := Nat.pow_pos (by decide); exact_mod_cast this⟩
set_option maxHeartbeats 800000 in
theorem exactly_ (v : Value) (xs : List Int) (s : Nat) (w : World) (hs : 1 ≤ s ∧ s ≤ 8) (hr : Reads .u8 w v xs) (hwf : ∀ x ∈ xs, 0 ≤ x ∧ x ≤ 255) (hb : xs.length ≤ 140737488355300) :
    Calls Tryd.prog 37 #[v, .int .i64 s] w fun e w' => e = .returned (.tuple #[.int .u64 (exN xs s), .int .i64 (exE xs.length s)]) ∧ Below w.heap.size w w' := by
  obtain ⟨p, c, rfl, k1, k2, k3, k4⟩ := id hr
  have GC := Lib.hid (fun w' (h' : Reads .u8 w' (.slice p xs.length c) xs) => get (.slice p xs.length c) xs 0 s w' h' hwf hb (by omega) (by omega))
  have HR := Lib.hid hr
  clear hr k3 k4
  rcases Nat.lt_trichotomy xs.length s with h | h | h
  · have e1 : getE xs.length 0 s = 3 := by unfold getE partE; rw [if_pos (by omega), if_neg (by omega), if_pos (by omega)]
    have pE : partE xs.length 0 s = 3 := by unfold partE; rw [if_neg (by omega), if_pos (by omega)]
    have e2 : getN xs 0 s = 0 := by unfold getN partL; rw [if_pos (by omega), pE, if_neg (by decide)]; rfl
    clear pE
    have e3 : exE xs.length s = 3 := by unfold exE; rw [if_pos h]
    have e4 : exN xs s = 0 := by unfold exN; rw [if_neg (by omega)]
    have E := Lib.hid (And.intro e1 (And.intro e2 (And.intro e3 e4)))
    clear e1 e2 e3 e4
    go_enter Tryd.func37, Tryd.ntmps37
    go_wp2_with fail
    refine (GC.out _ HR.out).mono ?_
    rintro e w1 ⟨rfl, hb1⟩
    rw [E.out.1, E.out.2.1]
    go_wp2
    go_ret2
    rw [E.out.2.2.1, E.out.2.2.2]
    exact ⟨rfl, hb1⟩
  · have e1 : getE xs.length 0 s = 0 := by unfold getE partE; rw [if_pos (by omega), if_neg (by omega), if_neg (by omega)]
    have pE : partE xs.length 0 s = 0 := by unfold partE; rw [if_neg (by omega), if_neg (by omega)]
    have e2 : getN xs 0 s = num xs := by
      unfold getN partL
      rw [if_pos (by omega), pE, if_pos rfl]
      simp only [Int.toNat_zero, List.drop_zero, Int.toNat_natCast]
      rw [← h, List.take_length]
    clear pE
    have e3 : exE xs.length s = 0 := by unfold exE; rw [if_neg (by omega), if_pos h]
    have e4 : exN xs s = num xs := by unfold exN; rw [if_pos h]
    have E := Lib.hid (And.intro e1 (And.intro e2 (And.intro e3 e4)))
    have h' : ¬ (s : Int) < (xs.length : Int) := by omega
    have H := Lib.hid h
    clear e1 e2 e3 e4 h
    go_enter Tryd.func37, Tryd.ntmps37
    go_wp2_with fail
    refine (GC.out _ HR.out).mono ?_
    rintro e w1 ⟨rfl, hb1⟩
    rw [E.out.1, E.out.2.1]
    go_wp2
    go_ret2
    rw [E.out.2.2.1, E.out.2.2.2]
    exact ⟨rfl, hb1⟩
  · have e1 : getE xs.length 0 s = 0 := by unfold getE partE; rw [if_pos (by omega), if_neg (by omega), if_neg (by omega)]
    have e3 : exE xs.length s = 2 := by unfold exE; rw [if_neg (by omega), if_neg (by omega)]
    have e4 : exN xs s = 0 := by unfold exN; rw [if_neg (by omega)]
    have E := Lib.hid (And.intro e1 (And.intro e3 e4))
    have h' : (s : Int) < (xs.length : Int) := by omega
    clear e1 e3 e4
    go_enter Tryd.func37, Tryd.ntmps37
    go_wp2_with fail
    refine (GC.out _ HR.out).mono ?_
    rintro e w1 ⟨rfl, hb1⟩
    rw [E.out.1]
    generalize getN xs 0 s = n
    go_wp2
    go_ret2
    rw [E.out.2.1, E.out.2.2]
    exact ⟨rfl, hb1⟩

theorem get32 (v : Value) (xs : List Int) (w : World) (hr : Reads .u8 w v xs) (hwf : ∀ x ∈ xs, 0 ≤ x ∧ x ≤ 255) (hb : xs.length ≤ 140737488355300) :
    Calls Tryd.prog 29 #[v] w fun e w' => e = .returned (.tuple #[.float .f32 (exN xs 4).toNat, .int .i64 (exE xs.length 4)]) ∧ Below w.heap.size w w' := by
  have C := Lib.hid (exactly_ v xs 4 w (by omega) hr hwf hb)
  have hN := num_lt (s := 4) hwf
  generalize exN xs 4 = N at C hN
  generalize exE xs.length 4 = E at C
  have h1 : 0 ≤ N := hN.1
  have h2 : N ≤ 4294967295 := by have := hN.2; rw [show ((256 ^ 4 : Nat) : Int) = 4294967296 from by decide] at this; omega
  have kf := frombits32
  clear hr hwf hb hN
  go_enter Tryd.func29, Tryd.ntmps29
  go_wp2_with fail
  refine C.out.mono ?_
  rintro e w1 ⟨rfl, hb1⟩
  go_wp2
  go_ret2
  exact ⟨rfl, hb1⟩
theorem get64 (v : Value) (xs : List Int) (w : World) (hr : Reads .u8 w v xs) (hwf : ∀ x ∈ xs, 0 ≤ x ∧ x ≤ 255) (hb : xs.length ≤ 140737488355300) :
    Calls Tryd.prog 30 #[v] w fun e w' => e = .returned (.tuple #[.float .f64 (exN xs 8).toNat, .int .i64 (exE xs.length 8)]) ∧ Below w.heap.size w w' := by
  have C := Lib.hid (exactly_ v xs 8 w (by omega) hr hwf hb)
  generalize exN xs 8 = N at C
  generalize exE xs.length 8 = E at C
  have kf := frombits64
  clear hr hwf hb
  go_enter Tryd.func30, Tryd.ntmps30
  go_wp2_with fail
  refine C.out.mono ?_
  rintro e w1 ⟨rfl, hb1⟩
  go_wp2
  go_ret2
  exact ⟨rfl, hb1⟩
end Go.Proofs.YtjfmahodbdianaaDoor.Real
