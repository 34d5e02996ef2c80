/-
  Contracts: Send in all cases; answers; the law NetCuts' closure.
-/
import Derived.Test.YtmdhpjbahenbhaaSend
import Derived.Test.YtmdhpjbahenbhaaCut
namespace Go.Proofs.Ytmdhpjbahenbhaa.Net
open Go.RowKit Mem Cells Ops Go.Maps
set_option linter.unusedVariables false
set_option linter.unusedSimpArgs false

section
variable {X : Nat → Prop} {w w' : World} {S : Nat} {hosts : Int} {fs : List F} {cut : Int → Int → Int → Bool} {n B : Nat}
theorem Net.h8 (h : Net X w S hosts fs cut n) : 1 ≤ hosts ∧ hosts ≤ 8 := by obtain ⟨zs, p, m, c, b, D, h⟩ := h; exact h.hosts
theorem Net.old (h : Net X w S hosts fs cut n) (hb : Below w.heap.size w w') : Net (more X w w') w' S hosts fs cut n ∧ ButX X w w' := ⟨(h.below hb).mono more_self, ButX.ofBelow hb⟩
theorem SendX (h : Net X w S hosts fs cut n) (fh fp th tp : Int) (v : Value) (xs : List Int) (hr : Reads .u8 w v xs) (hx : ∀ x ∈ xs, 0 ≤ x ∧ x ≤ 255) (hl : xs.length ≤ 9223372036854775807) :
    Calls Try.prog 12 #[.pointer (some ⟨S, 0, none⟩), .agg #[.int .i64 fh, .int .i64 fp], .agg #[.int .i64 th, .int .i64 tp], v] w fun e w' => e = .returned (.int .i64 (sendE hosts fh fp th tp xs)) ∧ Net (more X w w') w' S hosts (sendL hosts cut fh fp th tp xs fs) cut n ∧ ButX X w w' := by
  have hh := h
  obtain ⟨zs, p, m, c, b, D, h0⟩ := hh
  cases ha : sendArg hosts fh fp th tp with
  | false =>
    have e1 : sendE hosts fh fp th tp xs = 1 := by unfold sendE; rw [ha]; rfl
    have e2 : sendL hosts cut fh fp th tp xs fs = fs := by unfold sendL; rw [e1]; simp
    rw [e1, e2]
    exact (SendBad hosts fh fp th tp _ _ S v w h0.row ha).mono fun e w' ⟨h1, h2⟩ => ⟨h1, h.old h2⟩
  | true =>
    obtain ⟨pv, cv, rfl, _⟩ := id hr
    by_cases hL : 4096 < xs.length
    · have e1 : sendE hosts fh fp th tp xs = 4 := by unfold sendE; rw [ha, if_pos rfl, if_pos hL]
      have e2 : sendL hosts cut fh fp th tp xs fs = fs := by unfold sendL; rw [e1]; simp
      rw [e1, e2]
      exact (SendLarge hosts fh fp th tp _ _ S pv xs.length cv w h0.row h.h8.2 ha hL hl).mono fun e w' ⟨h1, h2⟩ => ⟨h1, h.old h2⟩
    · have e1 : sendE hosts fh fp th tp xs = 0 := by unfold sendE; rw [ha, if_pos rfl, if_neg hL]
      rw [e1]
      by_cases hroom : fs.length < 1024
      · cases hc : cut fh th fp with
        | true =>
          have e2 : sendL hosts cut fh fp th tp xs fs = fs := by unfold sendL goes; rw [hc]; simp
          rw [e2]
          exact (SendLost2 h fh fp th tp pv xs.length cv ha (by omega) hroom hc).mono fun e w' ⟨h1, h2⟩ => ⟨h1, h.old h2⟩
        | false =>
          have e2 : sendL hosts cut fh fp th tp xs fs = fs ++ [⟨fh, fp, th, tp, xs, false⟩] := by unfold sendL goes; rw [hc, e1]; simp [hroom]
          rw [e2]
          exact SendGoes h fh fp th tp _ xs hr hx ha (by omega) hroom hc
      · have e2 : sendL hosts cut fh fp th tp xs fs = fs := by unfold sendL goes; rw [decide_eq_false hroom]; simp
        rw [e2]
        exact (SendLost1 h fh fp th tp pv xs.length cv ha (by omega) hroom).mono fun e w' ⟨h1, h2⟩ => ⟨h1, h.old h2⟩
theorem bForm (h : Net (more (fun k => B ≤ k) w w') w' S hosts fs cut n) (hB : B ≤ w.heap.size) : Net (fun k => B ≤ k) w' S hosts fs cut n := h.mono (more_from (fun _ h => h) hB)
end
set_option maxRecDepth 100000 in
set_option maxHeartbeats 800000 in
theorem answers (w : World) : Calls Try.prog 9 #[] w fun e w' => e = .returned (.bool true) ∧ Below w.heap.size w w' := by
  have PN := Lib.hid (New 2 w (by omega))
  have E1 := Lib.hid (show sendE 2 0 0 1 0 [5] = 0 from rfl)
  have E2 := Lib.hid (show sendL 2 (fun _ _ _ => false) 0 0 1 0 [5] [] = [⟨0, 0, 1, 0, [5], false⟩] from rfl)
  go_enter Try.func9, Try.ntmps9
  go_wp2_with (first
    | (go_at_call 8; go_must (refine PN.out.mono ?_; rintro e w1 ⟨rfl, hN, hb1⟩))
    | (go_at_call 12; go_must (have hz := (Below.refl w1.heap.size w1).alloc (Nat.le_refl _) (.cells #[.int .u8 5] 5); refine (SendX (hN.below hz) 0 0 1 0 _ [5] (Reads.one .u8 w1 5 5) (by simp) (by simp)).mono ?_; rintro e w2 ⟨h1, hN2, hb2⟩; rw [E1.out] at h1; subst h1; rw [E2.out] at hN2; have hz := (Below.refl w1.heap.size w1).alloc (Nat.le_refl _) (.cells #[.int .u8 5] 5); have hu2 := (hb1.trans (hz.mono hb1.size)).trans (hb2.below (more_from (B := w.heap.size) (fun _ h => h.elim) (Nat.le_refl _)) (by have := hz.size; have := hb1.size; omega)); clear hz hb2 hN hb1))
    | (go_at_call 11; go_must (refine (Len hN2).mono ?_; rintro e w3 ⟨rfl, rfl⟩)))
  go_ret
  exact ⟨rfl, hu2⟩
/-- A net that a pointer in the block gn leads to. -/
def St (B gn S : Nat) (w : World) (hosts : Int) (fs : List F) (cut : Int → Int → Int → Bool) (n : Nat) : Prop := ∃ X, Net X w S hosts fs cut n ∧ ¬ X gn ∧ At w gn 22 #[.pointer (some ⟨S, 0, none⟩)] ∧ (∀ k, X k → B ≤ k) ∧ B ≤ w.heap.size
theorem St.step {B gn S : Nat} {w w' : World} {hosts : Int} {fs' : List F} {cut' : Int → Int → Int → Bool} {n' : Nat} {X : Nat → Prop} (h : At w gn 22 #[.pointer (some ⟨S, 0, none⟩)]) (hX : ¬ X gn) (hB : ∀ k, X k → B ≤ k) (hBw : B ≤ w.heap.size) (hn : Net (more X w w') w' S hosts fs' cut' n') (hb : ButX X w w') : St B gn S w' hosts fs' cut' n' ∧ Below B w w' := by
  refine ⟨⟨_, hn, ?_, ?_, more_from hB hBw, Nat.le_trans hBw hb.size⟩, hb.below hB hBw⟩
  · rintro (h1 | h1)
    · exact hX h1
    · have := h.lt; omega
  · have hg := h
    unfold At at hg ⊢
    rw [hb.block gn h.lt hX]
    exact hg
theorem St.below {B gn S : Nat} {w w' : World} {hosts : Int} {fs : List F} {cut : Int → Int → Int → Bool} {n : Nat} (h : St B gn S w hosts fs cut n) (hb : Below w.heap.size w w') : St B gn S w' hosts fs cut n := by
  obtain ⟨X, h1, h2, h3, h4, h5⟩ := h
  exact ⟨X, h1.below hb, h2, h3.ext hb, h4, Nat.le_trans h5 hb.size⟩
set_option maxRecDepth 100000 in
set_option maxHeartbeats 800000 in
theorem send10 {B gn S : Nat} {w : World} {fs : List F} {cut : Int → Int → Int → Bool} {n : Nat} (h : St B gn S w 4 fs cut n) (x y q : Int) (ha : sendArg 4 x q y q = true) (hl : fs.length < 1000) :
    Calls Try.prog 10 #[.int .i64 x, .int .i64 y, .int .i64 q, .pointer (some ⟨gn, 0, none⟩)] w fun e w' => e = .returned (.bool (!cut x y q)) ∧ St B gn S w' 4 (if cut x y q = true then fs else fs ++ [⟨x, q, y, q, [1], false⟩]) cut n ∧ Below B w w' := by
  obtain ⟨X, hN, hX, hgn, hB, hBw⟩ := h
  have E1 := Lib.hid (show sendE 4 x q y q [1] = 0 by unfold sendE; rw [ha]; rfl)
  have E2 := Lib.hid (show sendL 4 cut x q y q [1] fs = if cut x y q = true then fs else fs ++ [⟨x, q, y, q, [1], false⟩] by
    unfold sendL goes
    rw [E1.out, decide_eq_true (show fs.length < 1024 by omega)]
    cases cut x y q <;> simp)
  have E3 := Lib.hid (show ((((if cut x y q = true then fs else fs ++ [⟨x, q, y, q, [1], false⟩] : List F).length : Nat) : Int) == (fs.length : Int) + 1) = !cut x y q by
    cases cut x y q <;> simp <;> omega)
  obtain ⟨fs', hfs⟩ : ∃ fs', (if cut x y q = true then fs else fs ++ [⟨x, q, y, q, [1], false⟩]) = fs' := ⟨_, rfl⟩
  obtain ⟨ct, hct⟩ : ∃ ct, (!cut x y q) = ct := ⟨_, rfl⟩
  rw [hct] at E3
  rw [hfs] at E2 E3 ⊢
  rw [hct]
  have c0 := hgn.cell 0
  simp at c0
  have HST := Lib.hid (And.intro hgn (And.intro hX (And.intro hB hBw)))
  obtain ⟨l0, hl0⟩ : ∃ l0, fs.length = l0 := ⟨_, rfl⟩
  rw [hl0] at E3 hl
  have PL := Lib.hid (by have := Len hN; rwa [hl0] at this)
  clear hfs hct ha hgn hX hB hBw hl0
  go_enter Try.func10, Try.ntmps10
  go_wp2_with (first
    | (go_at_call 11; go_must (refine PL.out.mono ?_; clear PL; rintro e w1 ⟨rfl, rfl⟩))
    | (go_at_call 12; go_must (have hz := (Below.refl w1.heap.size w1).alloc (Nat.le_refl _) (.cells #[.int .u8 1] 5); refine (SendX (hN.below hz) x q y q _ [1] (Reads.one .u8 w1 1 5) (by simp) (by simp)).mono ?_; rintro e w2 ⟨h1, hN2, hb2⟩; rw [E1.out] at h1; subst h1; rw [E2.out] at hN2; have hz := (Below.refl w1.heap.size w1).alloc (Nat.le_refl _) (.cells #[.int .u8 1] 5); obtain ⟨q1, q2, q3, q4⟩ := HST.out; have hk := St.step (At.ext q1 hz) q2 q3 (Nat.le_trans q4 hz.size) hN2 hb2; have HK := Lib.hid (And.intro hk.1 ((hz.mono q4).trans hk.2)); clear q1 q2 q3 q4; have c0 : w2.cell? ⟨gn, 0, none⟩ = some (.pointer (some ⟨S, 0, none⟩)) := (by obtain ⟨Y, _, _, h3, _⟩ := hk.1; have := h3.cell 0; simpa using this); clear hz hb2 hN hk; have PL := Lib.hid (Len hN2); have hl2 := hN2.ok.1; clear hN2))
    | (go_at_call 11; go_must (refine PL.out.mono ?_; clear PL; rintro e w3 ⟨rfl, rfl⟩)))
  go_ret
  exact ⟨by rw [← E3.out]; rfl, HK.out⟩
end Go.Proofs.Ytmdhpjbahenbhaa.Net
