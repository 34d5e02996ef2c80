/-
  Contracts of the reference's net: Cut, Send.
-/
import Derived.Test.YtmdhpjbahenbhaaRef4
namespace Go.Proofs.Ytmdhpjbahenbhaa.Net
open Go.RowKit Mem Cells Ops Go.Maps
set_option linter.unusedVariables false
set_option linter.unusedSimpArgs false

set_option maxRecDepth 100000 in
set_option maxHeartbeats 1600000 in
theorem rCutBad {X : Nat → Prop} {w : World} {S : Nat} {hosts : Int} {fs : List F} {cut : Int → Int → Int → Bool} (h : RNet X w S hosts fs cut) (f t q : Int) (d : Bool) (hbad : cutArg hosts f t q = false) :
    Calls Try.prog 32 #[.pointer (some ⟨S, 0, none⟩), .int .i64 f, .int .i64 t, .int .i64 q, .bool d] w fun e w' => e = .returned (.int .i64 1) ∧ w' = w := by
  obtain ⟨zs, p, m, c, ds, h⟩ := h
  have HC := Lib.hid (fun x => rHost S hosts x ds w h.row h.h0)
  obtain ⟨a, ha⟩ : ∃ a, hostB hosts f = a := ⟨_, rfl⟩
  obtain ⟨b, hb⟩ : ∃ b, hostB hosts t = b := ⟨_, rfl⟩
  unfold cutArg at hbad
  rw [ha, hb] at hbad
  have PF := Lib.hid (by have := HC.out f; rwa [ha] at this)
  have PT := Lib.hid (by have := HC.out t; rwa [hb] at this)
  clear HC ha hb h
  cases a with
  | false =>
    clear hbad
    go_enter Try.func32, Try.ntmps32
    go_wp2_with (first
      | (go_at_call 36; (with_reducible refine PF.out.mono ?_); rintro e w1 ⟨rfl, rfl⟩))
    go_ret
    exact ⟨rfl, rfl⟩
  | true =>
    cases b with
    | false =>
      clear hbad
      go_enter Try.func32, Try.ntmps32
      go_wp2_with (first
        | (go_at_call 36; (with_reducible refine PF.out.mono ?_); rintro e w1 ⟨rfl, rfl⟩; clear PF)
        | (go_at_call 36; (with_reducible refine PT.out.mono ?_); rintro e w1 ⟨rfl, rfl⟩))
      go_ret
      exact ⟨rfl, rfl⟩
    | true =>
      by_cases e : f = t
      · subst e
        clear hbad
        go_enter Try.func32, Try.ntmps32
        go_wp2_with (first
          | (go_at_call 36; (with_reducible refine PF.out.mono ?_); rintro e w1 ⟨rfl, rfl⟩))
        go_ret
        exact ⟨rfl, rfl⟩
      · have e1 : (f == t) = false := by simpa using e
        have hq : q < 0 ∨ (0 ≤ q ∧ 1 < q) := by
          have : pathB q = false := by simpa [e] using hbad
          unfold pathB at this
          simp at this
          omega
        clear e hbad
        rcases hq with h1 | ⟨h1, h2⟩
        all_goals
          go_enter Try.func32, Try.ntmps32
          go_wp2_with (first
            | (go_at_call 36; (with_reducible refine PF.out.mono ?_); rintro e w1 ⟨rfl, rfl⟩; clear PF)
            | (go_at_call 36; (with_reducible refine PT.out.mono ?_); rintro e w1 ⟨rfl, rfl⟩))
          go_ret
          exact ⟨rfl, rfl⟩
theorem hostB_nat {hosts f : Int} (h : hostB hosts f = true) (h8 : hosts ≤ 8) : ∃ n : Nat, f = n ∧ n < 8 ∧ (n : Int) < hosts := by
  unfold hostB at h
  have := of_decide_eq_true h
  exact ⟨f.toNat, by omega, by omega, by omega⟩
set_option maxRecDepth 100000 in
set_option maxHeartbeats 1600000 in
theorem rCutOk {X : Nat → Prop} {w : World} {S : Nat} {hosts : Int} {fs : List F} {cut : Int → Int → Int → Bool} (h : RNet X w S hosts fs cut) (f t q : Int) (d : Bool) (hok : cutArg hosts f t q = true) :
    Calls Try.prog 32 #[.pointer (some ⟨S, 0, none⟩), .int .i64 f, .int .i64 t, .int .i64 q, .bool d] w fun e w' => e = .returned (.int .i64 0) ∧ RNet X w' S hosts fs (cutF cut f t q d) ∧ ButX X w w' := by
  obtain ⟨zs, p, m, c, ds, h⟩ := h
  obtain ⟨⟨⟨ha, hb⟩, hq⟩, hne⟩ : ((hostB hosts f = true ∧ hostB hosts t = true) ∧ pathB q = true) ∧ ¬ f = t := by simpa [cutArg] using hok
  obtain ⟨f, rfl, hf8, hfh⟩ := hostB_nat ha h.hosts.2
  obtain ⟨t, rfl, ht8, hth⟩ := hostB_nat hb h.hosts.2
  obtain ⟨q, rfl, hq2⟩ : ∃ n : Nat, q = n ∧ n < 2 := ⟨q.toNat, by have := of_decide_eq_true hq; omega, by have := of_decide_eq_true hq; omega⟩
  have PF := Lib.hid (by have := rHost S hosts f ds w h.row h.h0; rwa [ha] at this)
  have PT := Lib.hid (by have := rHost S hosts t ds w h.row h.h0; rwa [hb] at this)
  have e1 : ((f : Int) == t) = false := by simpa using hne
  have HH := Lib.hid h
  have hat := h.row
  have hds := h.size
  have HDS := Lib.hid hds
  have HL := Lib.hid (And.intro hf8 (And.intro ht8 hq2))
  have e2 : decide (1 < (q : Int)) = false := decide_eq_false (by omega)
  clear hok ha hb hq hne h hfh hth hds
  go_enter Try.func32, Try.ntmps32
  go_wp2_with (first
    | (go_at_call 36; (with_reducible refine PF.out.mono ?_); rintro e w1 ⟨rfl, rfl⟩; clear PF)
    | (go_at_call 36; (with_reducible refine PT.out.mono ?_); rintro e w1 ⟨rfl, rfl⟩; clear PT)
    | ((with_reducible refine wpl_storeC rfl 4 (.tmp 43) (.tmp 38) rfl rfl S (2 + f * 16 + t * 2 + q) 49 ds (ds.set! (2 + f * 16 + t * 2 + q) (.bool d)) (.bool d) ?_ ?_ hat ?_ (by kernel_rfl) rfl rfl ?_); rfl; rfl; (have := HDS.out; have := HL.out; omega); go_must (intro w4 hat4 hg4)))
  go_ret
  have hh := HH.out
  obtain ⟨lf, lt, lq⟩ := HL.out
  have hd := HDS.out
  have hX := ButX.ofGrown (X := X) hg4 (fun k e => by cases e; exact hh.xS)
  refine ⟨rfl, ⟨zs, p, m, c, _, hat4, by simp [hd], ?_, ?_, fun a b e ha hb he => ?_, hh.xS, hh.fst, hh.len, hh.list.at_ hg4 hat (by decide) (by decide), hh.ok, hh.hosts⟩, hX⟩
  · rw [Array.set!_eq_setIfInBounds, Array.getElem?_setIfInBounds_ne (by omega)]; exact hh.h0
  · rw [Array.set!_eq_setIfInBounds, Array.getElem?_setIfInBounds_ne (by omega)]; exact hh.h1
  · unfold cutF
    by_cases hi : (a : Int) = f ∧ (b : Int) = t ∧ (e : Int) = q
    · rw [if_pos hi]
      obtain ⟨h1, h2, h3⟩ : a = f ∧ b = t ∧ e = q := by omega
      subst h1; subst h2; subst h3
      simp [Array.set!_eq_setIfInBounds, show 2 + a * 16 + b * 2 + e < ds.size by omega]
    · rw [if_neg hi, Array.set!_eq_setIfInBounds, Array.getElem?_setIfInBounds_ne (by omega)]
      exact hh.says a b e ha hb he
theorem rCutX {X : Nat → Prop} {w : World} {S : Nat} {hosts : Int} {fs : List F} {cut : Int → Int → Int → Bool} (h : RNet X w S hosts fs cut) (f t q : Int) (d : Bool) :
    Calls Try.prog 32 #[.pointer (some ⟨S, 0, none⟩), .int .i64 f, .int .i64 t, .int .i64 q, .bool d] w fun e w' => e = .returned (.int .i64 (if cutArg hosts f t q then 0 else 1)) ∧ RNet X w' S hosts fs (if cutArg hosts f t q then cutF cut f t q d else cut) ∧ ButX X w w' := by
  cases hk : cutArg hosts f t q with
  | false => exact (rCutBad h f t q d hk).mono fun e w' ⟨e1, e2⟩ => by subst e2; exact ⟨e1, h, ButX.refl _ _⟩
  | true => exact rCutOk h f t q d hk
end Go.Proofs.Ytmdhpjbahenbhaa.Net
