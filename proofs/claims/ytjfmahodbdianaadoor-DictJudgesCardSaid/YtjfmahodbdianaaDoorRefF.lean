/-
  Contracts: the reference's Least and Fits.
-/
import Derived.Test.YtjfmahodbdianaaDoorRefU
import Derived.Test.YtjfmahodbdianaaDoorGet4
namespace Go.Proofs.YtjfmahodbdianaaDoor.Fit
open Go.RowKit Mem Wire Avps
set_option linter.unusedVariables false
set_option linter.unusedSimpArgs false
set_option linter.unusedSectionVars false
set_option maxRecDepth 100000 in
theorem refLeast (t : Int) (w : World) : Calls Tryd.prog 23 #[.int .i64 t] w fun e w' => e = .returned (.int .i64 (Dict.leastN t)) ∧ w' = w := by
  have key : ∀ x, Dict.leastN t = x → (Calls Tryd.prog 23 #[.int .i64 t] w fun e w' => e = .returned (.int .i64 x) ∧ w' = w) → Calls Tryd.prog 23 #[.int .i64 t] w fun e w' => e = .returned (.int .i64 (Dict.leastN t)) ∧ w' = w := by
    intro x hx h; rw [hx]; exact h
  by_cases h : t = 2 ∨ t = 3 ∨ t = 4 ∨ t = 5 ∨ t = 6 ∨ t = 7 ∨ t = 10 ∨ t = 11
  · rcases h with rfl | rfl | rfl | rfl | rfl | rfl | rfl | rfl
    all_goals
      refine key _ rfl ?_
      go_enter Tryd.func23, Tryd.ntmps23
      go_wp2_with fail
      go_ret
      exact ⟨by simp [Dict.leastN], rfl⟩
  · have b2 : (t == 2) = false := by simp; omega
    have b3 : (t == 3) = false := by simp; omega
    have b4 : (t == 4) = false := by simp; omega
    have b5 : (t == 5) = false := by simp; omega
    have b6 : (t == 6) = false := by simp; omega
    have b7 : (t == 7) = false := by simp; omega
    have b10 : (t == 10) = false := by simp; omega
    have b11 : (t == 11) = false := by simp; omega
    refine key 0 ?_ ?_
    · unfold Dict.leastN
      rw [if_neg (by omega), if_neg (by omega), if_neg (by omega), if_neg (by omega)]
    clear h key
    go_enter Tryd.func23, Tryd.ntmps23
    go_wp2_with fail
    go_ret
    exact ⟨rfl, rfl⟩
section
variable (v : Value) (xs : List Int) (w : World) (hr : Reads .u8 w v xs) (hx : ∀ x ∈ xs, 0 ≤ x ∧ x ≤ 255)
include hr hx
set_option maxRecDepth 100000 in
theorem rf10 : Calls Tryd.prog 22 #[.int .i64 10, v] w (IsF w (fine (Nm.nameB xs))) := by
  have P := Lib.hid (Utf.refName v xs w hr hx)
  obtain ⟨b, hbb⟩ : ∃ b, Nm.nameB xs = b := ⟨_, rfl⟩
  rw [hbb] at P ⊢
  clear hbb hr hx
  cases b
  all_goals
    go_enter Tryd.func22, Tryd.ntmps22
    go_wp2_with (go_at_call 28; go_must (refine P.out.mono ?_; rintro e u ⟨rfl, rfl⟩))
    go_ret
    exact ⟨rfl, Below.refl _ _⟩
set_option maxRecDepth 100000 in
theorem rf9 : Calls Tryd.prog 22 #[.int .i64 9, v] w (IsF w (fine (Utf.v8 xs))) := by
  have P := Lib.hid (Utf.refUtf8 v xs w hr hx)
  obtain ⟨b, hbb⟩ : ∃ b, Utf.v8 xs = b := ⟨_, rfl⟩
  rw [hbb] at P ⊢
  clear hbb hr hx
  cases b
  all_goals
    go_enter Tryd.func22, Tryd.ntmps22
    go_wp2_with (go_at_call 27; go_must (refine P.out.mono ?_; rintro e u ⟨rfl, rfl⟩))
    go_ret
    exact ⟨rfl, Below.refl _ _⟩
set_option maxRecDepth 100000 in
theorem rf8 : Calls Tryd.prog 22 #[.int .i64 8, v] w (IsF w (fine (decide ((Avp.getOf xs).2.2 = 0)))) := by
  have P := Lib.hid (Avp.refGetAll v xs w hr hx)
  obtain ⟨R, hR⟩ : ∃ R, Avp.getOf xs = R := ⟨_, rfl⟩
  rw [hR] at P ⊢
  clear hR hr hx
  obtain ⟨al, n, E⟩ := R
  by_cases h : E = 0
  · subst h
    go_enter Tryd.func22, Tryd.ntmps22
    go_wp2_with (go_at_call 26; go_must (refine P.out.mono ?_; rintro e u ⟨v', rfl, ho, hbl⟩))
    go_ret
    exact ⟨rfl, hbl⟩
  · have e : fine (decide (((al, n, E) : List A × Int × Int).2.2 = 0)) = 11 := by simp [fine, h]
    rw [e]
    have b0 : (E == 0) = false := by simpa using h
    go_enter Tryd.func22, Tryd.ntmps22
    go_wp2_with (go_at_call 26; go_must (refine P.out.mono ?_; rintro e u ⟨v', rfl, ho, hbl⟩))
    go_ret
    exact ⟨rfl, hbl⟩
set_option maxRecDepth 100000 in
theorem rfI (t : Int) (ht : t = 2 ∨ t = 3 ∨ t = 4 ∨ t = 5 ∨ t = 6 ∨ t = 7) : Calls Tryd.prog 22 #[.int .i64 t, v] w (IsF w (if (xs.length : Int) = Dict.leastN t then 0 else 3)) := by
  have PL := Lib.hid (fun u => refLeast t u)
  obtain ⟨p, c, rfl, q1, q2, _, _⟩ := hr
  obtain ⟨n, hn⟩ : ∃ n, xs.length = n := ⟨_, rfl⟩
  have hb : n ≤ 9223372036854775807 := by unfold maxLen at q2; omega
  obtain ⟨L, hL⟩ : ∃ L, Dict.leastN t = L := ⟨_, rfl⟩
  rw [hL] at PL ⊢
  rw [hn]
  clear q1 q2 hx hn hL
  by_cases h : (n : Int) = L
  · rw [if_pos h]
    have b0 : ((n : Int) != L) = false := by simpa using h
    rcases ht with rfl | rfl | rfl | rfl | rfl | rfl
    all_goals
      go_enter Tryd.func22, Tryd.ntmps22
      go_wp2_with (go_at_call 23; go_must (refine (PL.out _).mono ?_; rintro e u ⟨rfl, rfl⟩))
      go_ret
      exact ⟨rfl, Below.refl _ _⟩
  · rw [if_neg h]
    have b0 : ((n : Int) != L) = true := by simpa using h
    rcases ht with rfl | rfl | rfl | rfl | rfl | rfl
    all_goals
      go_enter Tryd.func22, Tryd.ntmps22
      go_wp2_with (go_at_call 23; go_must (refine (PL.out _).mono ?_; rintro e u ⟨rfl, rfl⟩))
      go_ret
      exact ⟨rfl, Below.refl _ _⟩
set_option maxRecDepth 100000 in
theorem rf1 : Calls Tryd.prog 22 #[.int .i64 1, v] w (IsF w 0) := by
  clear hr hx
  go_enter Tryd.func22, Tryd.ntmps22
  go_wp2_with fail
  go_ret
  exact ⟨rfl, Below.refl _ _⟩
set_option maxRecDepth 100000 in
theorem rfNo (t : Int) (h1 : t < 1 ∨ 11 < t) : Calls Tryd.prog 22 #[.int .i64 t, v] w (IsF w 1) := by
  clear hr hx
  rcases h1 with h1 | h1
  · go_enter Tryd.func22, Tryd.ntmps22
    go_wp2_with fail
    go_ret
    exact ⟨rfl, Below.refl _ _⟩
  · have h2 : ¬ t < 1 := by omega
    go_enter Tryd.func22, Tryd.ntmps22
    go_wp2_with fail
    go_ret
    exact ⟨rfl, Below.refl _ _⟩
end
/-- An address, by its bytes. -/
theorem addr_eq (x0 x1 : Int) (l : List Int) (h0 : 0 ≤ x0 ∧ x0 ≤ 255) (h1 : 0 ≤ x1 ∧ x1 ≤ 255) : Nm.addrB (x0 :: x1 :: l) = ((decide (l.length = 4) && (decide (x0 = 0) && decide (x1 = 1))) || (decide (l.length = 16) && (decide (x0 = 0) && decide (x1 = 2)))) := by
  have e1 : getE (x0 :: x1 :: l).length 0 2 = 0 := by
    unfold getE partE
    simp
    try omega
  have e2 : getN (x0 :: x1 :: l) 0 2 = x0 * 256 + x1 := by
    have e3 : partE (x0 :: x1 :: l).length 0 2 = 0 := by
      unfold partE
      simp
      try omega
    unfold getN partL
    rw [if_pos (by omega), if_pos e3]
    simp [num]
  unfold Nm.addrB
  rw [e1, e2]
  have e3 : (x0 * 256 + x1 == 1) = (decide (x0 = 0) && decide (x1 = 1)) := by
    rw [Bool.eq_iff_iff]; simp; omega
  have e4 : (x0 * 256 + x1 == 2) = (decide (x0 = 0) && decide (x1 = 2)) := by
    rw [Bool.eq_iff_iff]; simp; omega
  rw [e3, e4]
  simp [Bool.and_comm]
theorem addr_short (xs : List Int) (h6 : xs.length ≠ 6) (h18 : xs.length ≠ 18) : Nm.addrB xs = false := by
  unfold Nm.addrB
  rw [decide_eq_false h6, decide_eq_false h18]
  simp
set_option maxRecDepth 100000 in
theorem rf11 (v : Value) (xs : List Int) (w : World) (hr : Reads .u8 w v xs) (hx : ∀ x ∈ xs, 0 ≤ x ∧ x ≤ 255) : Calls Tryd.prog 22 #[.int .i64 11, v] w (IsF w (fine (Nm.addrB xs))) := by
  obtain ⟨p, c, rfl, q1, q2, q3, q4⟩ := hr
  have hb : xs.length ≤ 9223372036854775807 := by unfold maxLen at q2; omega
  by_cases hl : xs.length = 6 ∨ xs.length = 18
  · match xs, hl with
    | [], hl => simp at hl
    | [_], hl => simp at hl
    | x0 :: x1 :: l, hl =>
      obtain ⟨b, off, rfl, hlt, hc⟩ := q4 (by simp)
      have c0 := hc 0 (by simp)
      have c1 := hc 1 (by simp)
      simp at c0 c1
      have g0 := hx x0 (by simp)
      have g1 := hx x1 (by simp)
      rw [addr_eq x0 x1 l g0 g1]
      clear hc q1 q2 q3 q4 hx hb
      have hl' : l.length = 4 ∨ l.length = 16 := by simp at hl; omega
      clear hl
      obtain ⟨n, hn⟩ : ∃ n, (x0 :: x1 :: l).length = n := ⟨_, rfl⟩
      obtain ⟨k, hk⟩ : ∃ k, l.length = k := ⟨_, rfl⟩
      rw [hk] at hl'
      have hnk : n = k + 2 := by rw [← hn, ← hk]; rfl
      rw [hn, hk]
      clear hn hk
      subst hnk
      obtain ⟨a0, b0⟩ := g0
      obtain ⟨a1, b1⟩ := g1
      by_cases e0 : x0 = 0
      · have f0 : (x0 == 0) = true := by simpa using e0
        rw [decide_eq_true e0]
        clear e0
        rcases hl' with rfl | rfl
        · by_cases e1 : x1 = 1
          · have f1 : (x1 == 1) = true := by simpa using e1
            rw [decide_eq_true e1]
            clear e1
            show Calls Tryd.prog 22 _ w (IsF w 0)
            go_enter Tryd.func22, Tryd.ntmps22
            go_wp2_with fail
            go_ret
            exact ⟨rfl, Below.refl _ _⟩
          · have f1 : (x1 == 1) = false := by simpa using e1
            rw [decide_eq_false e1]
            clear e1
            show Calls Tryd.prog 22 _ w (IsF w 11)
            go_enter Tryd.func22, Tryd.ntmps22
            go_wp2_with fail
            go_ret
            exact ⟨rfl, Below.refl _ _⟩
        · by_cases e1 : x1 = 2
          · have f1 : (x1 == 2) = true := by simpa using e1
            rw [decide_eq_true e1]
            clear e1
            show Calls Tryd.prog 22 _ w (IsF w 0)
            go_enter Tryd.func22, Tryd.ntmps22
            go_wp2_with fail
            go_ret
            exact ⟨rfl, Below.refl _ _⟩
          · have f1 : (x1 == 2) = false := by simpa using e1
            rw [decide_eq_false e1]
            clear e1
            show Calls Tryd.prog 22 _ w (IsF w 11)
            go_enter Tryd.func22, Tryd.ntmps22
            go_wp2_with fail
            go_ret
            exact ⟨rfl, Below.refl _ _⟩
      · have f0 : (x0 == 0) = false := by simpa using e0
        rw [decide_eq_false e0]
        clear e0
        rcases hl' with rfl | rfl
        all_goals
          show Calls Tryd.prog 22 _ w (IsF w 11)
          go_enter Tryd.func22, Tryd.ntmps22
          go_wp2_with fail
          go_ret
          exact ⟨rfl, Below.refl _ _⟩
  · rw [addr_short xs (by omega) (by omega)]
    have h6 : ((xs.length : Int) == 6) = false := by simp; omega
    have h18 : ((xs.length : Int) == 18) = false := by simp; omega
    obtain ⟨n, hn⟩ : ∃ n, xs.length = n := ⟨_, rfl⟩
    rw [hn] at h6 h18 hb ⊢
    clear q1 q2 q3 q4 hx hl hn
    show Calls Tryd.prog 22 _ w (IsF w 11)
    go_enter Tryd.func22, Tryd.ntmps22
    go_wp2_with fail
    go_ret
    exact ⟨rfl, Below.refl _ _⟩
/-- The reference's Fits answers the same. -/
theorem refFits (v : Value) (xs : List Int) (w : World) (hr : Reads .u8 w v xs) (hx : ∀ x ∈ xs, 0 ≤ x ∧ x ≤ 255) (t : Int) : Calls Tryd.prog 22 #[.int .i64 t, v] w (IsF w (fitF t xs)) := by
  unfold fitF
  by_cases hi : t = 2 ∨ t = 4 ∨ t = 3 ∨ t = 5
  · rw [if_pos hi]; exact rfI v xs w hr hx t (by omega)
  rw [if_neg hi]
  by_cases h6 : t = 6
  · rw [if_pos h6]
    have e : (if Real.exE xs.length 4 = 0 then (0 : Int) else 3) = if (xs.length : Int) = Dict.leastN t then 0 else 3 := by
      subst h6
      unfold Real.exE
      show _ = if (xs.length : Int) = 4 then (0 : Int) else 3
      by_cases g : xs.length < 4
      · rw [if_pos g, if_neg (by decide), if_neg (by omega)]
      · rw [if_neg g]
        by_cases g2 : xs.length = 4
        · rw [if_pos g2, if_pos rfl, if_pos (by omega)]
        · rw [if_neg g2, if_neg (by decide), if_neg (by omega)]
    rw [e]
    exact rfI v xs w hr hx t (by omega)
  rw [if_neg h6]
  by_cases h7 : t = 7
  · rw [if_pos h7]
    have e : (if Real.exE xs.length 8 = 0 then (0 : Int) else 3) = if (xs.length : Int) = Dict.leastN t then 0 else 3 := by
      subst h7
      unfold Real.exE
      show _ = if (xs.length : Int) = 8 then (0 : Int) else 3
      by_cases g : xs.length < 8
      · rw [if_pos g, if_neg (by decide), if_neg (by omega)]
      · rw [if_neg g]
        by_cases g2 : xs.length = 8
        · rw [if_pos g2, if_pos rfl, if_pos (by omega)]
        · rw [if_neg g2, if_neg (by decide), if_neg (by omega)]
    rw [e]
    exact rfI v xs w hr hx t (by omega)
  rw [if_neg h7]
  by_cases h9 : t = 9
  · rw [if_pos h9]; subst h9; exact rf9 v xs w hr hx
  rw [if_neg h9]
  by_cases h10 : t = 10
  · rw [if_pos h10]; subst h10; exact rf10 v xs w hr hx
  rw [if_neg h10]
  by_cases h11 : t = 11
  · rw [if_pos h11]; subst h11; exact rf11 v xs w hr hx
  rw [if_neg h11]
  by_cases h8 : t = 8
  · rw [if_pos h8]; subst h8; exact rf8 v xs w hr hx
  rw [if_neg h8]
  by_cases h1 : t = 1
  · rw [if_pos h1]; subst h1; exact rf1 v xs w hr hx
  rw [if_neg h1]
  exact rfNo v xs w hr hx t (by omega)
end Go.Proofs.YtjfmahodbdianaaDoor.Fit
