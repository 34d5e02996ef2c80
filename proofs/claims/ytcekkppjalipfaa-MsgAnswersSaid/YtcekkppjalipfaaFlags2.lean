/-
  The flags of a message, key by key: what a range over the map of flags has gathered. Plain.
-/
import Derived.Test.YtcekkppjalipfaaFlags1
import Derived.Maps.RangeWalk
namespace Go.Proofs.Ytcekkppjalipfaa.Avp
open Go.RowKit Mem Cells Avps Wire Ops Go.Maps
set_option linter.unusedVariables false
set_option linter.unusedSimpArgs false

def key (k : Int) : Lit := .int .u8 k
/-- What has been gathered: the flags of the keys that are not left. -/
def gath (a b c d : Bool) (left : Lit → Bool) : Int :=
  (if left (key 128) then 0 else if a then 128 else 0) + (if left (key 64) then 0 else if b then 64 else 0) + (if left (key 32) then 0 else if c then 32 else 0) + (if left (key 16) then 0 else if d then 16 else 0)
theorem gath_start (a b c d : Bool) : gath a b c d (Maps.has (flagD true true true true)) = 0 := by
  have h1 : Maps.has (flagD true true true true) (key 128) = true := by rfl
  have h2 : Maps.has (flagD true true true true) (key 64) = true := by rfl
  have h3 : Maps.has (flagD true true true true) (key 32) = true := by rfl
  have h4 : Maps.has (flagD true true true true) (key 16) = true := by rfl
  unfold gath
  rw [h1, h2, h3, h4]
  rfl
theorem gath_end (a b c d : Bool) (left : Lit → Bool) (h : ∀ kl, left kl = false) : gath a b c d left = (if a then 128 else 0) + (if b then 64 else 0) + (if c then 32 else 0) + (if d then 16 else 0) := by
  unfold gath
  simp [h]
theorem gath_bd (a b c d : Bool) (left : Lit → Bool) : 0 ≤ gath a b c d left ∧ gath a b c d left ≤ 240 := by
  unfold gath
  cases left (key 128) <;> cases left (key 64) <;> cases left (key 32) <;> cases left (key 16) <;> cases a <;> cases b <;> cases c <;> cases d <;> decide
/-- One key more. -/
theorem gath_step (a b c d : Bool) (left : Lit → Bool) (k : Int) (hk : k = 128 ∨ k = 64 ∨ k = 32 ∨ k = 16) (hl : left (key k) = true) :
    gath a b c d (fun z => left z && !z.sameKey (key k)) = gath a b c d left + (if k = 128 then (if a then 128 else 0) else if k = 64 then (if b then 64 else 0) else if k = 32 then (if c then 32 else 0) else if d then 16 else 0) := by
  have s : ∀ x y : Int, (key x).sameKey (key y) = decide (x = y) := by
    intro x y
    simp [key, Lit.sameKey]
  unfold gath
  simp only [s]
  rcases hk with rfl | rfl | rfl | rfl <;> rw [hl] <;> simp <;> cases left (key 128) <;> cases left (key 64) <;> cases left (key 32) <;> cases left (key 16) <;> cases a <;> cases b <;> cases c <;> cases d <;> simp
theorem gath_or (a b c d : Bool) (left : Lit → Bool) (k : Int) (hk : k = 128 ∨ k = 64 ∨ k = 32 ∨ k = 16) (hl : left (key k) = true) : bits .or .u8 (gath a b c d left) k = gath a b c d left + k := by
  unfold gath
  rcases hk with rfl | rfl | rfl | rfl <;> rw [hl] <;> cases left (key 128) <;> cases left (key 64) <;> cases left (key 32) <;> cases left (key 16) <;> cases a <;> cases b <;> cases c <;> cases d <;> decide +kernel
/-- An entry of the map of flags: which key, and which place. -/
theorem flag_entry (kl : Lit) (y : DataW Unit) (hh : Maps.has (flagD true true true true) kl = true) (hat : ∀ zd, (flagD true true true true).atKey kl zd = y) :
    (kl = key 128 ∧ y = .lit (.int .i64 0)) ∨ (kl = key 64 ∧ y = .lit (.int .i64 1)) ∨ (kl = key 32 ∧ y = .lit (.int .i64 2)) ∨ (kl = key 16 ∧ y = .lit (.int .i64 3)) := by
  obtain ⟨p, hp, hpk⟩ := List.any_eq_true.1 hh
  have e := WideAt.sameKey_eq hpk
  have hp' : p = ent 16 3 ∨ p = ent 32 2 ∨ p = ent 64 1 ∨ p = ent 128 0 := by simpa [flagD] using hp
  have h0 := hat .nil
  rcases hp' with rfl | rfl | rfl | rfl
  · right; right; right
    refine ⟨e.symm, ?_⟩
    rw [← h0, ← e]; rfl
  · right; right; left
    refine ⟨e.symm, ?_⟩
    rw [← h0, ← e]; rfl
  · right; left
    refine ⟨e.symm, ?_⟩
    rw [← h0, ← e]; rfl
  · left
    refine ⟨e.symm, ?_⟩
    rw [← h0, ← e]; rfl
end Go.Proofs.Ytcekkppjalipfaa.Avp
