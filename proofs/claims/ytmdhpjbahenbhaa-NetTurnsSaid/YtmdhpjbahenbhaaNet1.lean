/-
  Contracts: path, host (and its closure, and slices.ContainsFunc, slices.IndexFunc), slices.Clone at []byte.
-/
import Derived.Test.YtmdhpjbahenbhaaNet2
namespace Go.Proofs.Ytmdhpjbahenbhaa.Net
open Go.RowKit Mem Cells Ops
set_option linter.unusedVariables false
set_option linter.unusedSimpArgs false

set_option maxRecDepth 100000 in
theorem path (p : Int) (w : World) : Calls Try.prog 22 #[.int .i64 p] w fun e w' => e = .returned (.bool (pathB p)) ∧ w' = w := by
  unfold pathB
  by_cases h0 : 0 ≤ p
  · by_cases h1 : p < 2
    · go_enter Try.func22, Try.ntmps22
      go_wp2_with fail
      go_ret
      exact ⟨by simp [h0, h1], rfl⟩
    · go_enter Try.func22, Try.ntmps22
      go_wp2_with fail
      go_ret
      exact ⟨by simp [h0, h1], rfl⟩
  · go_enter Try.func22, Try.ntmps22
    go_wp2_with fail
    go_ret
    exact ⟨by simp; omega, rfl⟩
set_option maxRecDepth 100000 in
theorem hostC (x hosts : Int) (v1 v2 : Value) (gb S : Nat) (w : World) (hb : At w gb 22 #[.pointer (some ⟨S, 0, none⟩)]) (hS : At w S 61 #[.int .i64 hosts, v1, v2]) :
    Calls Try.prog 34 #[.int .i64 x, .pointer (some ⟨gb, 0, none⟩)] w fun e w' => e = .returned (.bool (!hostB hosts x)) ∧ w' = w := by
  have c0 := hb.cell 0
  have c1 := hS.cell 0
  simp at c0 c1
  clear hb hS
  unfold hostB
  by_cases h0 : x < 0
  · have e0 : (decide (0 ≤ x ∧ x < hosts)) = false := decide_eq_false (by omega)
    rw [e0]
    go_enter Try.func34, Try.ntmps34
    go_wp2_with fail
    go_ret
    exact ⟨rfl, rfl⟩
  · by_cases h1 : hosts ≤ x
    · have e0 : (decide (0 ≤ x ∧ x < hosts)) = false := decide_eq_false (by omega)
      rw [e0]
      go_enter Try.func34, Try.ntmps34
      go_wp2_with fail
      go_ret
      exact ⟨rfl, rfl⟩
    · have e0 : (decide (0 ≤ x ∧ x < hosts)) = true := decide_eq_true (by omega)
      rw [e0]
      go_enter Try.func34, Try.ntmps34
      go_wp2_with fail
      go_ret
      exact ⟨rfl, rfl⟩
def firstBad (hosts x y : Int) : Int := if hostB hosts x then (if hostB hosts y then -1 else 1) else 0
set_option maxRecDepth 100000 in
set_option maxHeartbeats 800000 in
theorem hostI (x y hosts : Int) (v1 v2 : Value) (gb S L : Nat) (w : World) (hb : At w gb 22 #[.pointer (some ⟨S, 0, none⟩)]) (hS : At w S 61 #[.int .i64 hosts, v1, v2]) (hL : At w L 3 #[.int .i64 x, .int .i64 y]) :
    Calls Try.prog 38 #[.slice (some ⟨L, 0, none⟩) 2 2, .func (.func 34) #[] #[.pointer (some ⟨gb, 0, none⟩)]] w fun e w' => e = .returned (.int .i64 (firstBad hosts x y)) ∧ w' = w := by
  have PX := Lib.hid (hostC x hosts v1 v2 gb S w hb hS)
  have PY := Lib.hid (hostC y hosts v1 v2 gb S w hb hS)
  have c0 := hL.cell 0
  have c1 := hL.cell 1
  simp at c0 c1
  clear hb hS hL
  obtain ⟨bx, hbx⟩ : ∃ bx, hostB hosts x = bx := ⟨_, rfl⟩
  obtain ⟨byy, hby⟩ : ∃ byy, hostB hosts y = byy := ⟨_, rfl⟩
  rw [hbx] at PX
  rw [hby] at PY
  have HF := Lib.hid (show firstBad hosts x y = if bx then (if byy then -1 else 1) else 0 by unfold firstBad; rw [hbx, hby])
  clear hbx hby
  go_enter Try.func38, Try.ntmps38
  go_wp2_with fail
  go_loopw [8] (fun j wr => (j = .int .i64 0 ∨ j = .int .i64 1 ∧ bx = true ∨ j = .int .i64 2 ∧ bx = true ∧ byy = true) ∧ wr = w) (fun j _ => 2 - (intOf j).toNat)
  case atStart => exact ⟨.inl rfl, rfl⟩
  case round =>
    obtain ⟨hj, rfl⟩ := hrel
    rcases hj with rfl | ⟨rfl, rfl⟩ | ⟨rfl, rfl, rfl⟩
    · cases bx with
      | true =>
        go_wp2_with (go_at_call 34; go_must (refine PX.out.mono ?_; rintro e u ⟨rfl, rfl⟩))
        go_roundw
        case rel => exact ⟨.inr (.inl ⟨by go_num, by trivial⟩), by trivial⟩
        case measure => simp [intOf]
      | false =>
        have HF2 := Lib.hid (HF.out.trans rfl)
        go_wp2_with (go_at_call 34; go_must (refine PX.out.mono ?_; rintro e u ⟨rfl, rfl⟩))
        go_ret
        exact ⟨by rw [HF.out]; rfl, rfl⟩
    · cases byy with
      | true =>
        go_wp2_with (go_at_call 34; go_must (refine PY.out.mono ?_; rintro e u ⟨rfl, rfl⟩))
        go_roundw
        case rel => exact ⟨.inr (.inr ⟨by go_num, by trivial, by trivial⟩), by trivial⟩
        case measure => simp [intOf]
      | false =>
        go_wp2_with (go_at_call 34; go_must (refine PY.out.mono ?_; rintro e u ⟨rfl, rfl⟩))
        go_ret
        exact ⟨by rw [HF.out]; rfl, rfl⟩
    · go_wp2_with fail
      go_ret
      exact ⟨by rw [HF.out]; rfl, rfl⟩
set_option maxRecDepth 100000 in
theorem hostF (x y hosts : Int) (v1 v2 : Value) (gb S L : Nat) (w : World) (hb : At w gb 22 #[.pointer (some ⟨S, 0, none⟩)]) (hS : At w S 61 #[.int .i64 hosts, v1, v2]) (hL : At w L 3 #[.int .i64 x, .int .i64 y]) :
    Calls Try.prog 33 #[.slice (some ⟨L, 0, none⟩) 2 2, .func (.func 34) #[] #[.pointer (some ⟨gb, 0, none⟩)]] w fun e w' => e = .returned (.bool (!(hostB hosts x && hostB hosts y))) ∧ w' = w := by
  have P := Lib.hid (hostI x y hosts v1 v2 gb S L w hb hS hL)
  clear hb hS hL
  obtain ⟨q, hq⟩ : ∃ q, firstBad hosts x y = q := ⟨_, rfl⟩
  rw [hq] at P
  have HQ := Lib.hid (show decide (0 ≤ q) = !(hostB hosts x && hostB hosts y) by
    rw [← hq]; unfold firstBad
    cases hostB hosts x <;> cases hostB hosts y <;> rfl)
  clear hq
  go_enter Try.func33, Try.ntmps33
  go_wp2_with (go_at_call 38; go_must (refine P.out.mono ?_; rintro e u ⟨rfl, rfl⟩))
  go_ret
  exact ⟨by rw [← HQ.out]; rfl, rfl⟩
set_option maxRecDepth 100000 in
theorem host (x y hosts : Int) (v1 v2 : Value) (S L : Nat) (w : World) (hS : At w S 61 #[.int .i64 hosts, v1, v2]) (hL : At w L 3 #[.int .i64 x, .int .i64 y]) :
    Calls Try.prog 21 #[.pointer (some ⟨S, 0, none⟩), .slice (some ⟨L, 0, none⟩) 2 2] w fun e w' => e = .returned (.bool (hostB hosts x && hostB hosts y)) ∧ Below w.heap.size w w' := by
  have P := Lib.hid (fun gb u (hb : Below w.heap.size w u) h => hostF x y hosts v1 v2 gb S L u h (hS.ext hb) (hL.ext hb))
  clear hS hL
  obtain ⟨q, hq⟩ : ∃ q, (hostB hosts x && hostB hosts y) = q := ⟨_, rfl⟩
  rw [hq] at P ⊢
  clear hq
  go_enter Try.func21, Try.ntmps21
  go_wp2_with (first
    | ((with_reducible refine wpl_boxAt rfl 22 (.tmp 0) rfl #[.pointer (some ⟨S, 0, none⟩)] ?_ ?_); rfl; go_must (intro u hat hb hs; clear hs; have c0 := hat.cell 0; simp at c0))
    | (go_at_call 33; go_must (refine (P.out _ _ hb hat).mono ?_; rintro e u2 ⟨rfl, rfl⟩)))
  go_ret
  exact ⟨by simp, hb⟩
set_option maxRecDepth 100000 in
theorem hostNil (v : Value) (w : World) : Calls Try.prog 21 #[.pointer none, v] w fun e w' => e = .returned (.bool false) ∧ Below w.heap.size w w' := by
  go_enter Try.func21, Try.ntmps21
  go_wp2_with ((with_reducible refine wpl_boxAt rfl 22 (.tmp 0) rfl #[.pointer none] ?_ ?_); rfl; go_must (intro u hat hb hs; clear hs; have c0 := hat.cell 0; simp at c0))
  go_ret
  exact ⟨rfl, hb⟩

theorem clone8 (v : Value) (xs : List Int) (w : World) (hr : Reads .u8 w v xs) (hb : xs.length ≤ 140737488355328) :
    Calls Try.prog 35 #[v] w fun e w' => ∃ v', e = .returned v' ∧ Row .u8 5 w.heap.size w' v' xs ∧ Below w.heap.size w w' := by
  obtain ⟨i0, hi, hz0, hz1, hz2⟩ := info_parts info5
  have hr' := hr
  obtain ⟨p, c, rfl, h1, h2, h3, h4⟩ := hr
  cases p with
  | none =>
    obtain rfl := h3 rfl
    have hy : xs = [] := List.eq_nil_of_length_eq_zero (by omega)
    subst hy
    have heq := fun w => Lib.run_eql_slice_nil (P := Try.prog) w 31 5 none 0 0 0 0 Try.underlying31
    clear hr' h1 h2 h3 h4 hb
    go_enter Try.func35, Try.ntmps35
    go_wp2
    go_ret
    exact ⟨_, rfl, World.ownsRow_nil _ _ _ _, Below.refl _ _⟩
  | some ad =>
    clear h4 h3
    have heq := fun w => Lib.run_eql_slice_nil (P := Try.prog) w 31 5 (some ad) xs.length c 0 0 Try.underlying31
    have hown : Row .u8 5 w.heap.size (w.alloc (.cells #[] 5)) (.slice (some ⟨w.heap.size, 0, none⟩) 0 0) [] := World.ownsRow_made _ _ _ (Nat.le_refl _) (by simp [maxLen]) rfl
    have hr2 := hr'.below ((Below.refl _ _).alloc (Nat.le_refl _) (.cells #[] 5))
    clear hr'
    go_enter Try.func35, Try.ntmps35
    go_wp2_with (at_builtin; refine wpl_append rfl _ _ 31 rfl .u8 w.heap.size 5 1 i0 (.int .u8 0) Try.underlying31 hi hz0 hz1 hz2 rfl _ _ [] xs rfl rfl hown hr2 ?_ ?_ ?_ ?_)
    · unfold maxLen; simp; omega
    · simp; omega
    · simp
    · intro v' w' hv hg
      go_wp2
      go_ret
      exact ⟨_, rfl, by simpa using hv, ((Below.refl _ _).alloc (Nat.le_refl _) (.cells #[] 5)).grown hg (by simp) (by simp [Value.ownBlock])⟩
end Go.Proofs.Ytmdhpjbahenbhaa.Net
