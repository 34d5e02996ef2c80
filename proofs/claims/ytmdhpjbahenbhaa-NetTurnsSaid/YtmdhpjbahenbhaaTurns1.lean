/-
  What turning makes of the one frame that was sent (plain). No walk.
-/
import Derived.Test.YtmdhpjbahenbhaaTurns0
namespace Go.Proofs.Ytmdhpjbahenbhaa.Net
open Go.RowKit Mem Cells Ops Go.Maps
set_option linter.unusedVariables false
set_option linter.unusedSimpArgs false

/-- A frame as it was sent, or turned in one byte. -/
def Once (b : List Int) (f : F) : Prop := (f.turned = false ∧ f.bytes = b) ∨ (f.turned = true ∧ ∃ i x, i < b.length ∧ x ≠ b.getD i 0 ∧ f.bytes = b.set i x)
/-- How many of the first n bytes are others. -/
def offs (xs b : List Int) : Nat → Nat
  | 0 => 0
  | n + 1 => offs xs b n + if xs.getD n 0 = b.getD n 0 then 0 else 1
theorem offs_same (b : List Int) (n : Nat) : offs b b n = 0 := by
  induction n with
  | zero => rfl
  | succ n ih => simp [offs, ih]
theorem offs_set (b : List Int) (i : Nat) (x : Int) (hi : i < b.length) (hx : x ≠ b.getD i 0) (n : Nat) : offs (b.set i x) b n = if i < n then 1 else 0 := by
  induction n with
  | zero => simp [offs]
  | succ n ih =>
    rw [offs, ih]
    by_cases e : i = n
    · subst e
      have h1 : (b.set i x).getD i 0 = x := by simp [List.getD_eq_getElem?_getD, hi]
      rw [h1, if_neg hx, if_neg (by omega), if_pos (by omega)]
    · have h1 : (b.set i x).getD n 0 = b.getD n 0 := by simp [List.getD_eq_getElem?_getD, List.getElem?_set_ne e]
      rw [h1, if_pos rfl]
      by_cases h : i < n
      · rw [if_pos h, if_pos (by omega)]
      · rw [if_neg h, if_neg (by omega)]
theorem offs_le (xs b : List Int) (n : Nat) : offs xs b n ≤ n := by
  induction n with
  | zero => simp [offs]
  | succ n ih => rw [offs]; split <;> omega
theorem once_offs {b : List Int} {f : F} (h : Once b f) : f.bytes.length = b.length ∧ offs f.bytes b b.length = if f.turned then 1 else 0 := by
  rcases h with ⟨h1, h2⟩ | ⟨h1, i, x, h2, h3, h4⟩
  · rw [h1, h2]; exact ⟨rfl, offs_same b _⟩
  · rw [h1, h4]; exact ⟨by simp, by rw [offs_set b i x h2 h3, if_pos h2]; rfl⟩
theorem xor8_ne (x y : Int) (hx : 0 ≤ x ∧ x ≤ 255) (hy : 0 ≤ y ∧ y ≤ 255) (h : y ≠ 0) : xor8 x y ≠ x := by
  unfold xor8
  rw [u8_xor x y hx.1 (by omega) hy.1 (by omega)]
  intro e
  have e2 : x.toNat ^^^ y.toNat = x.toNat := by omega
  have e3 : x.toNat ^^^ (x.toNat ^^^ y.toNat) = x.toNat ^^^ x.toNat := by rw [e2]
  rw [← Nat.xor_assoc, Nat.xor_self, Nat.zero_xor] at e3
  omega
theorem takeF_mem {fs : List F} {k : Int} (h : inB fs.length k = true) : takeF fs k ∈ fs := by
  have hk : 0 ≤ k ∧ k < fs.length := by simpa [inB] using h
  unfold takeF
  rw [h, if_pos rfl, List.getD_eq_getElem?_getD, List.getElem?_eq_getElem (by omega)]
  exact List.getElem_mem _
section
variable {b : List Int} {fs : List F}
theorem once_twin (h : ∀ f ∈ fs, Once b f) (hn : 1 ≤ fs.length) (k : Int) : (∀ f ∈ twinL fs k, Once b f) ∧ 1 ≤ (twinL fs k).length := by
  unfold twinL
  split
  · next e =>
    have hin : inB fs.length k = true := by
      unfold twinE at e
      cases hi : inB fs.length k with
      | true => rfl
      | false => rw [hi] at e; simp at e
    refine ⟨fun f hf => ?_, by simp⟩
    rcases List.mem_append.1 hf with hf | hf
    · exact h f hf
    · rw [List.mem_singleton] at hf; subst hf; exact h _ (takeF_mem hin)
  · exact ⟨h, hn⟩
theorem once_last (h : ∀ f ∈ fs, Once b f) (hn : 1 ≤ fs.length) (k : Int) : (∀ f ∈ lastL fs k, Once b f) ∧ 1 ≤ (lastL fs k).length := by
  unfold lastL
  split
  · next e =>
    refine ⟨fun f hf => ?_, by simp⟩
    rcases List.mem_append.1 hf with hf | hf
    · exact h f (List.mem_of_mem_eraseIdx hf)
    · rw [List.mem_singleton] at hf; subst hf; exact h _ (takeF_mem e)
  · exact ⟨h, hn⟩
theorem once_turn (h : ∀ f ∈ fs, Once b f) (hn : 1 ≤ fs.length) (hb : ∀ x ∈ b, 0 ≤ x ∧ x ≤ 255) (k at_ bits : Int) (hbits : 0 ≤ bits ∧ bits ≤ 255) : (∀ f ∈ turnL fs k at_ bits, Once b f) ∧ 1 ≤ (turnL fs k at_ bits).length := by
  unfold turnL
  split
  · next e =>
    refine ⟨fun f hf => ?_, by simpa using hn⟩
    unfold turnE at e
    cases hi : inB fs.length k with
    | false => rw [hi] at e; simp at e
    | true =>
      rw [hi, if_pos rfl] at e
      split at e
      · cases e
      · next hne =>
        split at e
        · cases e
        · next ht =>
          rcases List.mem_or_eq_of_mem_set hf with hf | rfl
          · exact h f hf
          · have hm := takeF_mem hi
            have h1 : (takeF fs k).turned = false := by simpa using ht
            have h2 : (takeF fs k).bytes = b := by
              rcases h _ hm with ⟨_, h2⟩ | ⟨h2, _⟩
              · exact h2
              · rw [h1] at h2; cases h2
            rw [h2] at hne
            have hb0 : bits ≠ 0 := fun e => hne (.inl e)
            have hat : 0 ≤ at_ ∧ at_ < b.length := by
              cases hi2 : inB b.length at_ with
              | false => exact absurd (.inr hi2) hne
              | true => simpa [inB] using hi2
            have hx : 0 ≤ b.getD at_.toNat 0 ∧ b.getD at_.toNat 0 ≤ 255 := hb _ (by
              rw [List.getD_eq_getElem?_getD, List.getElem?_eq_getElem (by omega)]; exact List.getElem_mem _)
            right
            refine ⟨rfl, at_.toNat, xor8 (b.getD at_.toNat 0) bits, by omega, xor8_ne _ _ hx hbits hb0, ?_⟩
            unfold turnF
            rw [h2]
  · exact ⟨h, hn⟩
end
end Go.Proofs.Ytmdhpjbahenbhaa.Net
