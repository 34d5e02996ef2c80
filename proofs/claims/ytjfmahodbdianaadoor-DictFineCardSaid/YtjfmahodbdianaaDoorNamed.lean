/-
  Contracts: avp.named (its closure, slices.IndexFunc and ContainsFunc of bytes), avp.address.
-/
import Derived.Test.YtjfmahodbdianaaDoorWire5
import Derived.Deep.DeepMust
import Derived.Lib.Hide
namespace Go.Proofs.YtjfmahodbdianaaDoor.Nm
open Go.RowKit Mem Wire
set_option linter.unusedVariables false
set_option linter.unusedSimpArgs false

/-- No byte of a name. -/
def oddB (x : Int) : Bool := !((decide (97 ≤ x) && decide (x ≤ 122)) || (decide (48 ≤ x) && decide (x ≤ 57)) || (x == 46) || (x == 45))
set_option maxRecDepth 100000 in
theorem isOdd (x : Int) (w : World) (h : 0 ≤ x ∧ x ≤ 255) : Calls Tryd.prog 41 #[.int .u8 x] w fun e w' => e = .returned (.bool (oddB x)) ∧ w' = w := by
  obtain ⟨h1, h2⟩ := h
  go_enter Tryd.func41, Tryd.ntmps41
  go_wp2
  all_goals go_ret
  all_goals refine ⟨?_, rfl⟩
  all_goals congr 2
  all_goals unfold oddB
  all_goals (by_cases g1 : 97 ≤ x <;> by_cases g2 : x ≤ 122 <;> by_cases g3 : 48 ≤ x <;> by_cases g4 : x ≤ 57 <;> simp [*] <;> omega)
def nameB (xs : List Int) : Bool := decide (1 ≤ xs.length) && decide (xs.length ≤ 32) && !xs.any oddB
def posB (xs : List Int) : Int := if xs.findIdx oddB < xs.length then (xs.findIdx oddB : Int) else -1
theorem miss (ks : List Int) (k : Nat) (x : Int) (h : k < ks.findIdx oddB) (hx : ks[k]? = some x) : oddB x = false := by
  obtain ⟨h1, rfl⟩ := List.getElem?_eq_some_iff.1 hx
  exact by simpa using List.not_of_lt_findIdx h
theorem hit (ks : List Int) (x : Int) (hx : ks[ks.findIdx oddB]? = some x) : oddB x = true := by
  obtain ⟨h1, rfl⟩ := List.getElem?_eq_some_iff.1 hx
  exact List.findIdx_getElem (w := h1)
set_option maxRecDepth 100000 in
set_option maxHeartbeats 1600000 in
theorem index (v : Value) (ks : List Int) (w : World) (hr : Reads .u8 w v ks) (hx : ∀ x ∈ ks, 0 ≤ x ∧ x ≤ 255) :
    Calls Tryd.prog 46 #[v, .func (.func 41) #[] #[]] w fun e w' => e = .returned (.int .i64 (posB ks)) ∧ w' = w := by
  obtain ⟨p, cc, rfl, q1, q2, _, q4⟩ := hr
  have hmax : ks.length ≤ 9223372036854775807 := by unfold maxLen at q2; omega
  obtain ⟨i, hi⟩ : ∃ i, ks.findIdx oddB = i := ⟨_, rfl⟩
  have hle : ks.findIdx oddB ≤ ks.length := List.findIdx_le_length
  rw [hi] at hle
  have HM := Lib.hid (fun k x (h : k < i) => miss ks k x (by rw [hi]; exact h))
  have HH := Lib.hid (fun x => hit ks x)
  rw [hi] at HH
  have HP := Lib.hid (show posB ks = if i < ks.length then (i : Int) else -1 by unfold posB; rw [hi])
  have PF := Lib.hid (fun (x : Int) (hb : 0 ≤ x ∧ x ≤ 255) => isOdd x w hb)
  have EL := Lib.hid (fun k (hk : k < ks.length) => show ∃ x b off, p = some ⟨b, off, none⟩ ∧ ks[k]? = some x ∧ (0 ≤ x ∧ x ≤ 255) ∧ w.cell? ⟨b, off + k, none⟩ = some (.int .u8 x) by
    obtain ⟨b, off, e, _, hc⟩ := q4 (by omega)
    refine ⟨ks[k], b, off, e, List.getElem?_eq_getElem hk, hx _ (List.getElem_mem hk), ?_⟩
    rw [hc k hk, List.getD_eq_getElem?_getD, List.getElem?_eq_getElem hk]
    rfl)
  obtain ⟨n, hnn⟩ : ∃ n, ks.length = n := ⟨_, rfl⟩
  rw [hnn] at hmax hle HP EL ⊢
  clear hi q1 q2 q4 hnn hx
  go_enter Tryd.func46, Tryd.ntmps46
  go_wp2_with fail
  go_loopw [8] (fun j wr => ∃ k : Nat, j = .int .i64 k ∧ k ≤ i ∧ wr = w) (fun j _ => n - (intOf j).toNat)
  case atStart => exact ⟨0, rfl, by omega, rfl⟩
  case round =>
    obtain ⟨k, rfl, hk, rfl⟩ := hrel
    by_cases hlt : k < n
    · obtain ⟨x, b, off, rfl, hx1, hx2, hcell⟩ := EL.out k hlt
      have HX := Lib.hid hx1
      clear hx1
      by_cases hki : k < i
      · have hpx := HM.out k x hki HX.out
        have PF2 := Lib.hid (show Calls Tryd.prog 41 #[.int .u8 x] wr fun e w' => e = .returned (.bool false) ∧ w' = wr by have := PF.out x hx2; rwa [hpx] at this)
        clear hpx
        go_wp2_with (go_at_call 41; go_must (refine PF2.out.mono ?_; rintro e u ⟨rfl, rfl⟩))
        go_roundw
        case rel => exact ⟨k + 1, by go_num, by omega, by trivial⟩
        case measure => simp [intOf]; omega
      · obtain rfl : k = i := by omega
        have hpx := HH.out x HX.out
        have PF2 := Lib.hid (show Calls Tryd.prog 41 #[.int .u8 x] wr fun e w' => e = .returned (.bool true) ∧ w' = wr by have := PF.out x hx2; rwa [hpx] at this)
        have HP2 := Lib.hid (HP.out.trans (if_pos hlt))
        clear hpx
        go_wp2_with (go_at_call 41; go_must (refine PF2.out.mono ?_; rintro e u ⟨rfl, rfl⟩))
        go_ret
        exact ⟨by rw [HP2.out]; rfl, by trivial⟩
    · have HP2 := Lib.hid (HP.out.trans (if_neg (by omega)))
      go_wp2_with fail
      go_ret
      exact ⟨by rw [HP2.out]; rfl, by trivial⟩
theorem pos_any (xs : List Int) : decide (0 ≤ posB xs) = xs.any oddB := by
  unfold posB
  split
  · rename_i h
    have e : xs.any oddB = true := List.any_eq_true.2 ⟨_, List.getElem_mem h, List.findIdx_getElem (w := h)⟩
    rw [e]
    exact decide_eq_true (by omega)
  · rename_i h
    have e : xs.any oddB = false := by
      rw [List.any_eq_false]
      intro x hx
      have h2 : xs.findIdx oddB = xs.length := by have : xs.findIdx oddB ≤ xs.length := List.findIdx_le_length; omega
      have := (List.findIdx_eq_length.1 h2) x hx
      simpa using this
    rw [e]
    rfl
set_option maxRecDepth 100000 in
theorem contains (v : Value) (ks : List Int) (w : World) (hr : Reads .u8 w v ks) (hx : ∀ x ∈ ks, 0 ≤ x ∧ x ≤ 255) :
    Calls Tryd.prog 42 #[v, .func (.func 41) #[] #[]] w fun e w' => e = .returned (.bool (ks.any oddB)) ∧ w' = w := by
  have PI := Lib.hid (index v ks w hr hx)
  rw [← pos_any]
  clear hr hx
  go_enter Tryd.func42, Tryd.ntmps42
  go_wp2_with (go_at_call 46; go_must (refine PI.out.mono ?_; rintro e u ⟨rfl, rfl⟩))
  go_ret
  exact ⟨rfl, by trivial⟩
set_option maxRecDepth 100000 in
theorem named (v : Value) (ks : List Int) (w : World) (hr : Reads .u8 w v ks) (hx : ∀ x ∈ ks, 0 ≤ x ∧ x ≤ 255) :
    Calls Tryd.prog 32 #[v] w fun e w' => e = .returned (.bool (nameB ks)) ∧ w' = w := by
  have PC := Lib.hid (contains v ks w hr hx)
  obtain ⟨p, c, rfl, q1, q2, _, _⟩ := hr
  obtain ⟨n, hn⟩ : ∃ n, ks.length = n := ⟨_, rfl⟩
  have hm : n ≤ 9223372036854775807 := by unfold maxLen at q2; omega
  have e : nameB ks = (decide (1 ≤ n) && decide (n ≤ 32) && !ks.any oddB) := by unfold nameB; rw [hn]
  obtain ⟨bo, hbo⟩ : ∃ bo, ks.any oddB = bo := ⟨_, rfl⟩
  rw [e, hbo]
  rw [hbo] at PC
  rw [hn] at PC ⊢
  clear q1 q2 hx hn e hbo
  go_enter Tryd.func32, Tryd.ntmps32
  go_wp2_with (go_at_call 42; go_must (refine PC.out.mono ?_; rintro e u ⟨rfl, rfl⟩))
  all_goals go_ret
  all_goals refine ⟨?_, by trivial⟩
  all_goals congr 2
  all_goals (by_cases g1 : 1 ≤ n <;> by_cases g2 : n ≤ 32 <;> simp [*] <;> omega)
end Go.Proofs.YtjfmahodbdianaaDoor.Nm
