/-
  Contracts: the reference's Part, Get, Num.
-/
import Derived.Test.YtjfponhdlfhmbaaWire5
import Derived.Lib.Hide
namespace Go.Proofs.Ytjfponhdlfhmbaa.Wire
open Go.RowKit Mem
set_option linter.unusedVariables false

theorem refPart (v : Value) (xs : List Int) (at_ n : Int) (w : World) (hr : Reads .u8 w v xs) (hb : xs.length ≤ 140737488355300) (ha : -9223372036854775808 ≤ at_ ∧ at_ ≤ 9223372036854775807) (hn : -9223372036854775808 ≤ n ∧ n ≤ 9223372036854775807) :
    Calls Try.prog 34 #[v, .int .i64 at_, .int .i64 n] w fun e w' => ∃ v', e = .returned (.tuple #[v', .int .i64 (partE xs.length at_ n)]) ∧ Row .u8 5 w.heap.size w' v' (partL xs at_ n) ∧ Below w.heap.size w w' := by
  by_cases h1 : at_ < 0 ∨ n < 0
  · have e1 : partE xs.length at_ n = 1 := by unfold partE; rw [if_pos h1]
    have e2 : partL xs at_ n = [] := by unfold partL; rw [e1]; rfl
    rw [e1, e2]
    by_cases h2 : at_ < 0
    all_goals
      go_enter Try.func34, Try.ntmps34
      go_wp2
      go_ret2
      exact ⟨_, rfl, World.ownsRow_nil _ _ _ _, Below.refl _ _⟩
  · by_cases h2 : (xs.length : Int) < at_ ∨ (xs.length : Int) - at_ < n
    · have e1 : partE xs.length at_ n = 3 := by unfold partE; rw [if_neg h1, if_pos h2]
      have e2 : partL xs at_ n = [] := by unfold partL; rw [e1]; rfl
      rw [e1, e2]
      obtain ⟨p, c, rfl, k1, k2, _, _⟩ := hr
      have k3 : 0 ≤ at_ := by omega
      have k4 : 0 ≤ n := by omega
      by_cases h3 : (xs.length : Int) < at_
      all_goals
        go_enter Try.func34, Try.ntmps34
        go_wp2
        go_ret2
        exact ⟨_, rfl, World.ownsRow_nil _ _ _ _, Below.refl _ _⟩
    · have e1 : partE xs.length at_ n = 0 := by unfold partE; rw [if_neg h1, if_neg h2]
      have e2 : partL xs at_ n = (xs.drop at_.toNat).take n.toNat := by unfold partL; rw [e1]; rfl
      rw [e1, e2]
      clear e1 e2
      obtain ⟨i, rfl⟩ := Int.eq_ofNat_of_zero_le (show 0 ≤ at_ by omega)
      obtain ⟨j, rfl⟩ := Int.eq_ofNat_of_zero_le (show 0 ≤ n by omega)
      have hr' := hr
      obtain ⟨p, c, rfl, k1, k2, _, _⟩ := hr
      have k3 : i + j ≤ xs.length := by omega
      have k4 : i + j ≤ c := by omega
      clear h1 h2
      obtain ⟨i0, hi, hz0, hz1, hz2⟩ := info_parts info5
      have hown0 : Row .u8 5 w.heap.size (w.alloc (.cells #[] 5)) (.slice (some ⟨w.heap.size, 0, none⟩) 0 0) [] := World.ownsRow_made _ _ _ (Nat.le_refl _) (by simp [maxLen]) rfl
      have hba := (Below.refl w.heap.size w).alloc (Nat.le_refl _) (.cells #[] 5)
      have K3 : w.heap.size ≤ (w.alloc (.cells #[] 5)).heap.size := by simp
      have hnn : p = none → c = 0 := hr'.elim fun _ h => by obtain ⟨c', e, _, _, h3, _⟩ := h; cases e; exact h3
      have hs2 := (hr'.sub i j k3).below hba
      clear hr'
      by_cases hci : c = i
      · subst hci
        obtain rfl : j = 0 := by omega
        have hx : (xs.drop c).take 0 = [] := by simp
        simp only [Int.toNat_natCast, Int.natCast_zero, Int.toNat_zero, List.take_zero]
        have K1 : ([] : List Int).length + ([] : List Int).length ≤ maxLen := by simp [maxLen]
        have K2 : (([] : List Int).length + ([] : List Int).length) * 1 ≤ 140737488355328 := by simp
        have S0 : Reads .u8 (w.alloc (.cells #[] 5)) (.slice p 0 0) [] := Reads.sub0
        clear hs2 hx hnn
        go_enter Try.func34, Try.ntmps34
        go_wp2_with (at_builtin; refine wpl_append rfl _ _ 23 rfl .u8 w.heap.size 5 1 i0 (.int .u8 0) Try.underlying23 hi hz0 hz1 hz2 rfl (.slice (some ⟨w.heap.size, 0, none⟩) 0 0) _ [] [] rfl rfl hown0 S0 K1 K2 K3 ?_; intro v1 w1 hown hg; clear hown0)
        go_ret2
        exact ⟨_, rfl, hown, hba.grown hg (by simp) (fun q h => by cases h; exact Nat.le_refl _)⟩
      · have K1 : ([] : List Int).length + ((xs.drop i).take j).length ≤ maxLen := by simp [maxLen]; omega
        have K2 : (([] : List Int).length + ((xs.drop i).take j).length) * 1 ≤ 140737488355328 := by simp; omega
        have hci' : i < c := by omega
        have hij : i + j - i = j := by omega
        have hs3 : Reads .u8 (w.alloc (.cells #[] 5)) (.slice (Option.map (fun x => x.add i) p) (i + j - i) (c - i)) ((xs.drop i).take j) := by rw [hij]; exact hs2
        clear hnn hij hs2
        go_enter Try.func34, Try.ntmps34
        go_wp2_with (at_builtin; refine wpl_append rfl _ _ 23 rfl .u8 w.heap.size 5 1 i0 (.int .u8 0) Try.underlying23 hi hz0 hz1 hz2 rfl (.slice (some ⟨w.heap.size, 0, none⟩) 0 0) _ [] ((xs.drop i).take j) rfl rfl hown0 hs3 K1 K2 K3 ?_; intro v1 w1 hown hg; clear hown0)
        go_ret2
        exact ⟨_, rfl, hown, hba.grown hg (by simp) (fun q h => by cases h; exact Nat.le_refl _)⟩
set_option maxHeartbeats 1600000 in
theorem refGet (v : Value) (xs : List Int) (at_ size : Int) (w : World) (hr : Reads .u8 w v xs) (hwf : ∀ x ∈ xs, 0 ≤ x ∧ x ≤ 255) (hb : xs.length ≤ 140737488355300) (ha : -9223372036854775808 ≤ at_ ∧ at_ ≤ 9223372036854775807) (hn : -9223372036854775808 ≤ size ∧ size ≤ 9223372036854775807) :
    Calls Try.prog 27 #[v, .int .i64 at_, .int .i64 size] w fun e w' => e = .returned (.tuple #[.int .u64 (getN xs at_ size), .int .i64 (getE xs.length at_ size)]) ∧ Below w.heap.size w w' := by
  by_cases h1 : 1 ≤ size ∧ size ≤ 8
  · have e1 : getN xs at_ size = num (partL xs at_ size) := by unfold getN; rw [if_pos h1]
    have e2 : getE xs.length at_ size = partE xs.length at_ size := by unfold getE; rw [if_pos h1]
    rw [e1, e2]
    clear e1 e2
    have hys : ∀ x ∈ partL xs at_ size, 0 ≤ x ∧ x ≤ 255 := fun x hx => hwf x (partL_mem hx)
    have hyl := partL_length xs at_ size h1.2
    obtain ⟨h1, h2⟩ := h1
    obtain ⟨ys, hy⟩ : ∃ ys, partL xs at_ size = ys := ⟨_, rfl⟩
    obtain ⟨E, hE⟩ : ∃ E, partE xs.length at_ size = E := ⟨_, rfl⟩
    rw [hy] at hys hyl
    rw [hy, hE]
    have HY := Lib.hid hy
    have hb0 : ∀ v, Reads .u8 w v xs → True := fun _ _ => trivial
    clear hb0
    by_cases hE0 : E = 0
    case neg =>
      have hyn : ys = [] := by rw [← hy]; unfold partL; rw [hE, if_neg hE0]
      subst hyn
      have hne : (E == 0) = false := by simpa using hE0
      have PC := Lib.hid (fun w' (h' : Reads .u8 w' v xs) => by have := refPart v xs at_ size w' h' hb ha hn; rwa [hE, hy] at this)
      have HE := Lib.hid hE
      clear hE hy hE0
      by_cases h3 : at_ < 0
      · have hE1 := HE.out
        unfold partE at hE1
        rw [if_pos (.inl h3)] at hE1
        subst hE1
        clear PC
        go_enter Try.func27, Try.ntmps27
        go_wp2
        go_ret2
        exact ⟨by rfl, Below.refl _ _⟩
      · go_enter Try.func27, Try.ntmps27
        go_wp2_with fail
        refine (PC.out _ hr).mono ?_
        rintro e w1 ⟨v1, rfl, hown, hb1⟩
        go_wp2
        go_ret2
        exact ⟨by rfl, hb1⟩
    subst hE0
    have h3 : ¬ at_ < 0 := fun h => by unfold partE at hE; rw [if_pos (.inl h)] at hE; cases hE
    have PC := Lib.hid (fun w' (h' : Reads .u8 w' v xs) => by have := refPart v xs at_ size w' h' hb ha hn; rwa [hE, hy] at this)
    clear hE hy
    go_enter Try.func27, Try.ntmps27
    go_wp2_with fail
    refine (PC.out _ hr).mono ?_
    rintro e w1 ⟨v1, rfl, hown, hb1⟩
    obtain ⟨p1, c1, rfl, _, _, _, hc⟩ := hown.reads
    go_wp2_with fail
    clear hr hwf
    go_loop [10, 11] (fun n i => ∃ k : Nat, k ≤ ys.length ∧ i = .int .i64 k ∧ n = .int .u64 (num (ys.take k))) (fun _ i => ys.length - (intOf i).toNat)
    case atStart => exact ⟨0, by omega, rfl, by simp [num]⟩
    case round =>
      obtain ⟨k, hk, rfl, rfl⟩ := hrel
      by_cases hlt : k < ys.length
      · obtain ⟨b, off, rfl, hbl, hcc⟩ := hc (by omega)
        obtain ⟨x, hxk⟩ : ∃ x, ys.getD k 0 = x := ⟨_, rfl⟩
        have hck : w1.cell? ⟨b, off + k, none⟩ = some (.int .u8 x) := by rw [← hxk]; exact hcc k hlt
        have hx := hys x (by rw [← hxk, List.getD_eq_getElem?_getD, List.getElem?_eq_getElem hlt]; simp)
        have hN := num_bound (ys.take k) (fun x hx => hys x (List.mem_of_mem_take hx))
        have hpow : 256 ^ (ys.take k).length ≤ 256 ^ 7 := Nat.pow_le_pow_right (by omega) (by rw [List.length_take]; omega)
        have hN1 : num (ys.take k) < 72057594037927936 := by
          have h7 : 256 ^ 7 = 72057594037927936 := by decide
          have := hN.2
          omega
        have hN0 := hN.1
        have hsn : num (ys.take (k + 1)) = num (ys.take k) * 256 + x := by
          rw [← num_snoc, List.take_add_one, ← hxk, List.getD_eq_getElem?_getD, List.getElem?_eq_getElem hlt]; rfl
        have HS : Hid (num (ys.take (k + 1)) = num (ys.take k) * 256 + x) := hsn
        clear hxk
        clear hsn hN hpow hcc hc
        go_wp2
        refine ⟨⟨k + 1, by omega, by go_num, by rw [HS.out]⟩, by simp [intOf]; omega⟩
      · obtain rfl : k = ys.length := by omega
        go_wp2
        go_ret2
        exact ⟨rfl, hb1⟩
  · have e1 : getN xs at_ size = 0 := by unfold getN; rw [if_neg h1]
    have e2 : getE xs.length at_ size = 1 := by unfold getE; rw [if_neg h1]
    rw [e1, e2]
    by_cases h2 : size < 1
    all_goals
      go_enter Try.func27, Try.ntmps27
      go_wp2
      go_ret2
      exact ⟨rfl, Below.refl _ _⟩
end Go.Proofs.Ytjfponhdlfhmbaa.Wire
