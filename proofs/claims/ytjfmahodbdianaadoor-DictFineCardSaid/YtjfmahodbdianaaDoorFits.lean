/-
  Contract: avp.Fits, given utf8.Valid's.
-/
import Derived.Test.YtjfmahodbdianaaDoorNamed
import Derived.Test.YtjfmahodbdianaaDoorAddr
import Derived.Test.YtjfmahodbdianaaDoorRealG
import Derived.Test.YtjfmahodbdianaaDoorDict1
import Derived.Test.YtjfmahodbdianaaDoorUtfs
namespace Go.Proofs.YtjfmahodbdianaaDoor.Fit
open Go.RowKit Mem Wire Avps
set_option linter.unusedVariables false
set_option linter.unusedSimpArgs false
set_option linter.unusedSectionVars false

def fine (b : Bool) : Int := if b then 0 else 11
def fitF (t : Int) (xs : List Int) : Int :=
  if t = 2 ∨ t = 4 ∨ t = 3 ∨ t = 5 then (if (xs.length : Int) = Dict.leastN t then 0 else 3)
  else if t = 6 then (if Real.exE xs.length 4 = 0 then 0 else 3)
  else if t = 7 then (if Real.exE xs.length 8 = 0 then 0 else 3)
  else if t = 9 then fine (Utf.v8 xs)
  else if t = 10 then fine (Nm.nameB xs)
  else if t = 11 then fine (Nm.addrB xs)
  else if t = 8 then fine (decide ((Avp.getOf xs).2.2 = 0))
  else if t = 1 then 0
  else 1
abbrev IsF (w : World) (x : Int) (e : Ending) (w' : World) : Prop := e = .returned (.int .i64 x) ∧ Below w.heap.size w w'
section
variable (v : Value) (xs : List Int) (w : World) (hr : Reads .u8 w v xs) (hx : ∀ x ∈ xs, 0 ≤ x ∧ x ≤ 255) (hb : xs.length ≤ 140737488355300)
include hr hx hb
set_option maxRecDepth 100000 in
theorem fits10 : Calls Tryd.prog 24 #[.int .i64 10, v] w (IsF w (fine (Nm.nameB xs))) := by
  have P := Lib.hid (Nm.named v xs w hr hx)
  obtain ⟨b, hbb⟩ : ∃ b, Nm.nameB xs = b := ⟨_, rfl⟩
  rw [hbb] at P ⊢
  clear hbb hr hx hb
  cases b
  all_goals
    go_enter Tryd.func24, Tryd.ntmps24
    go_wp2_with (go_at_call 32; go_must (refine P.out.mono ?_; rintro e u ⟨rfl, rfl⟩))
    go_ret
    exact ⟨rfl, Below.refl _ _⟩
set_option maxRecDepth 100000 in
theorem fits11 : Calls Tryd.prog 24 #[.int .i64 11, v] w (IsF w (fine (Nm.addrB xs))) := by
  have P := Lib.hid (Nm.address v xs w hr hx hb)
  obtain ⟨b, hbb⟩ : ∃ b, Nm.addrB xs = b := ⟨_, rfl⟩
  rw [hbb] at P ⊢
  clear hbb hr hx hb
  cases b
  all_goals
    go_enter Tryd.func24, Tryd.ntmps24
    go_wp2_with (go_at_call 33; go_must (refine P.out.mono ?_; rintro e u ⟨rfl, hbl⟩))
    go_ret
    exact ⟨rfl, hbl⟩
set_option maxRecDepth 100000 in
theorem fits9 (hv : Calls Tryd.prog 31 #[v] w fun e w' => e = .returned (.bool (Utf.v8 xs)) ∧ Below w.heap.size w w') : Calls Tryd.prog 24 #[.int .i64 9, v] w (IsF w (fine (Utf.v8 xs))) := by
  have P := Lib.hid hv
  clear hv
  obtain ⟨b, hbb⟩ : ∃ b, Utf.v8 xs = b := ⟨_, rfl⟩
  rw [hbb] at P ⊢
  clear hbb hr hx hb
  cases b
  all_goals
    go_enter Tryd.func24, Tryd.ntmps24
    go_wp2_with (go_at_call 31; go_must (refine P.out.mono ?_; rintro e u ⟨rfl, hbl⟩))
    go_ret
    exact ⟨rfl, hbl⟩
set_option maxRecDepth 100000 in
theorem fits8 : Calls Tryd.prog 24 #[.int .i64 8, v] w (IsF w (fine (decide ((Avp.getOf xs).2.2 = 0)))) := by
  have P := Lib.hid (Avp.avpGet v xs w hr hx)
  obtain ⟨R, hR⟩ : ∃ R, Avp.getOf xs = R := ⟨_, rfl⟩
  rw [hR] at P ⊢
  clear hR hr hx hb
  obtain ⟨al, n, E⟩ := R
  by_cases h : E = 0
  · subst h
    go_enter Tryd.func24, Tryd.ntmps24
    go_wp2_with (go_at_call 34; go_must (refine P.out.mono ?_; rintro e u ⟨v', rfl, ho, hbl⟩))
    go_ret
    exact ⟨rfl, hbl⟩
  · have e : fine (decide (((al, n, E) : List A × Int × Int).2.2 = 0)) = 11 := by simp [fine, h]
    rw [e]
    have b0 : (E == 0) = false := by simpa using h
    go_enter Tryd.func24, Tryd.ntmps24
    go_wp2_with (go_at_call 34; go_must (refine P.out.mono ?_; rintro e u ⟨v', rfl, ho, hbl⟩))
    go_ret
    exact ⟨rfl, hbl⟩
set_option maxRecDepth 100000 in
theorem fits6 : Calls Tryd.prog 24 #[.int .i64 6, v] w (IsF w (if Real.exE xs.length 4 = 0 then 0 else 3)) := by
  have P := Lib.hid (Real.get32 v xs w hr hx hb)
  obtain ⟨E, hE⟩ : ∃ E, Real.exE xs.length 4 = E := ⟨_, rfl⟩
  rw [hE] at P ⊢
  clear hE hr hx hb
  by_cases h : E = 0
  · subst h
    go_enter Tryd.func24, Tryd.ntmps24
    go_wp2_with (go_at_call 29; go_must (refine P.out.mono ?_; rintro e u ⟨rfl, hbl⟩))
    go_ret
    exact ⟨rfl, hbl⟩
  · rw [if_neg h]
    have b0 : (E != 0) = true := by simpa using h
    go_enter Tryd.func24, Tryd.ntmps24
    go_wp2_with (go_at_call 29; go_must (refine P.out.mono ?_; rintro e u ⟨rfl, hbl⟩))
    go_ret
    exact ⟨rfl, hbl⟩
set_option maxRecDepth 100000 in
theorem fits7 : Calls Tryd.prog 24 #[.int .i64 7, v] w (IsF w (if Real.exE xs.length 8 = 0 then 0 else 3)) := by
  have P := Lib.hid (Real.get64 v xs w hr hx hb)
  obtain ⟨E, hE⟩ : ∃ E, Real.exE xs.length 8 = E := ⟨_, rfl⟩
  rw [hE] at P ⊢
  clear hE hr hx hb
  by_cases h : E = 0
  · subst h
    go_enter Tryd.func24, Tryd.ntmps24
    go_wp2_with (go_at_call 30; go_must (refine P.out.mono ?_; rintro e u ⟨rfl, hbl⟩))
    go_ret
    exact ⟨rfl, hbl⟩
  · rw [if_neg h]
    have b0 : (E != 0) = true := by simpa using h
    go_enter Tryd.func24, Tryd.ntmps24
    go_wp2_with (go_at_call 30; go_must (refine P.out.mono ?_; rintro e u ⟨rfl, hbl⟩))
    go_ret
    exact ⟨rfl, hbl⟩
set_option maxRecDepth 100000 in
theorem fitsI (t : Int) (ht : t = 2 ∨ t = 4 ∨ t = 3 ∨ t = 5) : Calls Tryd.prog 24 #[.int .i64 t, v] w (IsF w (if (xs.length : Int) = Dict.leastN t then 0 else 3)) := by
  have PL := Lib.hid (fun u => Dict.least t u)
  obtain ⟨p, c, rfl, q1, q2, _, _⟩ := hr
  obtain ⟨n, hn⟩ : ∃ n, xs.length = n := ⟨_, rfl⟩
  obtain ⟨L, hL⟩ : ∃ L, Dict.leastN t = L := ⟨_, rfl⟩
  rw [hL] at PL ⊢
  rw [hn] at hb ⊢
  clear q1 q2 hx hn hL
  by_cases h : (n : Int) = L
  · rw [if_pos h]
    have b0 : ((n : Int) != L) = false := by simpa using h
    rcases ht with rfl | rfl | rfl | rfl
    all_goals
      go_enter Tryd.func24, Tryd.ntmps24
      go_wp2_with (go_at_call 21; go_must (refine (PL.out _).mono ?_; rintro e u ⟨rfl, rfl⟩))
      go_ret
      exact ⟨rfl, Below.refl _ _⟩
  · rw [if_neg h]
    have b0 : ((n : Int) != L) = true := by simpa using h
    rcases ht with rfl | rfl | rfl | rfl
    all_goals
      go_enter Tryd.func24, Tryd.ntmps24
      go_wp2_with (go_at_call 21; go_must (refine (PL.out _).mono ?_; rintro e u ⟨rfl, rfl⟩))
      go_ret
      exact ⟨rfl, Below.refl _ _⟩
set_option maxRecDepth 100000 in
theorem fits1 : Calls Tryd.prog 24 #[.int .i64 1, v] w (IsF w 0) := by
  clear hr hx hb
  go_enter Tryd.func24, Tryd.ntmps24
  go_wp2_with fail
  go_ret
  exact ⟨rfl, Below.refl _ _⟩
set_option maxRecDepth 100000 in
theorem fitsNo (t : Int) (h1 : t ≠ 1) (h2 : t ≠ 2) (h3 : t ≠ 3) (h4 : t ≠ 4) (h5 : t ≠ 5) (h6 : t ≠ 6) (h7 : t ≠ 7) (h8 : t ≠ 8) (h9 : t ≠ 9) (h10 : t ≠ 10) (h11 : t ≠ 11) : Calls Tryd.prog 24 #[.int .i64 t, v] w (IsF w 1) := by
  clear hr hx hb
  have b1 : (t == 1) = false := by simpa using h1
  have b2 : (t == 2) = false := by simpa using h2
  have b3 : (t == 3) = false := by simpa using h3
  have b4 : (t == 4) = false := by simpa using h4
  have b5 : (t == 5) = false := by simpa using h5
  have b6 : (t == 6) = false := by simpa using h6
  have b7 : (t == 7) = false := by simpa using h7
  have b8 : (t == 8) = false := by simpa using h8
  have b9 : (t == 9) = false := by simpa using h9
  have b10 : (t == 10) = false := by simpa using h10
  have b11 : (t == 11) = false := by simpa using h11
  clear h1 h2 h3 h4 h5 h6 h7 h8 h9 h10 h11
  go_enter Tryd.func24, Tryd.ntmps24
  go_wp2_with fail
  go_ret
  exact ⟨rfl, Below.refl _ _⟩
/-- What Fits answers, given what utf8.Valid does. -/
theorem fits (t : Int) (hv : t = 9 → Calls Tryd.prog 31 #[v] w fun e w' => e = .returned (.bool (Utf.v8 xs)) ∧ Below w.heap.size w w') : Calls Tryd.prog 24 #[.int .i64 t, v] w (IsF w (fitF t xs)) := by
  unfold fitF
  by_cases hi : t = 2 ∨ t = 4 ∨ t = 3 ∨ t = 5
  · rw [if_pos hi]; exact fitsI v xs w hr hx hb t hi
  rw [if_neg hi]
  by_cases h6 : t = 6
  · rw [if_pos h6]; subst h6; exact fits6 v xs w hr hx hb
  rw [if_neg h6]
  by_cases h7 : t = 7
  · rw [if_pos h7]; subst h7; exact fits7 v xs w hr hx hb
  rw [if_neg h7]
  by_cases h9 : t = 9
  · rw [if_pos h9]; have := hv h9; subst h9; exact fits9 v xs w hr hx hb this
  rw [if_neg h9]
  by_cases h10 : t = 10
  · rw [if_pos h10]; subst h10; exact fits10 v xs w hr hx hb
  rw [if_neg h10]
  by_cases h11 : t = 11
  · rw [if_pos h11]; subst h11; exact fits11 v xs w hr hx hb
  rw [if_neg h11]
  by_cases h8 : t = 8
  · rw [if_pos h8]; subst h8; exact fits8 v xs w hr hx hb
  rw [if_neg h8]
  by_cases h1 : t = 1
  · rw [if_pos h1]; subst h1; exact fits1 v xs w hr hx hb
  rw [if_neg h1]
  exact fitsNo v xs w hr hx hb t h1 (by omega) (by omega) (by omega) (by omega) h6 h7 h8 h9 h10 h11
end
end Go.Proofs.YtjfmahodbdianaaDoor.Fit
