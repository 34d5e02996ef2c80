/-
  A round of the range over the flags: what it may rely on. Plain.
-/
import Derived.Test.YtcekkppjalipfaaFlags2
import Derived.Test.YtcekkppjalipfaaMsg3
import Derived.Test.YtcekkppjalipfaaMonoU
namespace Go.Proofs.Ytcekkppjalipfaa.Avp
open Go.RowKit Mem Cells Avps Wire Ops Go.Maps
set_option linter.unusedVariables false
set_option linter.unusedSimpArgs false

theorem ptrR_inv (g : Nat) (v : Value) (y : DataW Unit × List MemPlace) (h : ptrR g v = some y) : ∃ c : Nat, v = .pointer (some ⟨g, c, none⟩) := by
  unfold ptrR at h
  split at h
  · split at h
    · rename_i b o hb
      subst hb
      exact ⟨_, rfl⟩
    · cases h
  · cases h
theorem key_inv (key : Value) (kl : Lit) (h : keyOf Try.prog 5 key = some kl) : ∃ x : Int, key = .int .u8 x := by
  obtain ⟨x, rfl, _⟩ := Maps.keyOf_int_inv Try.underlying5 h
  exact ⟨x, rfl⟩
theorem flag_next {g c : Nat} {x : Int} {kl : Lit} {y : DataW Unit × List MemPlace} (hkey : keyOf Try.prog 5 (.int .u8 x) = some kl) (hh : Maps.has (flagD true true true true) kl = true)
    (hR : ptrR g (.pointer (some ⟨g, c, none⟩)) = some y) (hat : ∀ zd, (flagD true true true true).atKey kl zd = y.1) : kl = key x ∧ ((x = 128 ∧ c = 0) ∨ (x = 64 ∧ c = 1) ∨ (x = 32 ∧ c = 2) ∨ (x = 16 ∧ c = 3)) := by
  obtain ⟨x', ex, rfl, _⟩ := Maps.keyOf_int_inv Try.underlying5 hkey
  cases ex
  rw [ptrR_mk] at hR
  have hy := Option.some.inj hR
  have hy1 : y.1 = .lit (.int .i64 c) := by rw [← hy]
  refine ⟨rfl, ?_⟩
  rcases flag_entry _ y.1 hh hat with ⟨h1, h2⟩ | ⟨h1, h2⟩ | ⟨h1, h2⟩ | ⟨h1, h2⟩ <;> rw [hy1] at h2 <;> simp [key] at h1 h2 <;> subst h1 <;> simp <;> omega
/-- The round: the bool that the pointer shows, and what has been gathered behind it. -/
theorem flag_round {m : M} {d : Value} {u : World} {g c : Nat} {x : Int} {left : Lit → Bool} (hat : At u g 25 (rowM m d)) (hx : (x = 128 ∧ c = 0) ∨ (x = 64 ∧ c = 1) ∨ (x = 32 ∧ c = 2) ∨ (x = 16 ∧ c = 3)) (hl : left (key x) = true) :
    ∃ bb, u.cell? ⟨g, c, none⟩ = some (.bool bb) ∧ gath m.req m.prox m.fail m.again (fun z => left z && !z.sameKey (key x)) = gath m.req m.prox m.fail m.again left + (if bb then x else 0) ∧
      bits .or .u8 (gath m.req m.prox m.fail m.again left) x = gath m.req m.prox m.fail m.again left + x ∧ 0 ≤ x ∧ x ≤ 128 := by
  have c0 := hat.cell 0
  have c1 := hat.cell 1
  have c2 := hat.cell 2
  have c3 := hat.cell 3
  simp [rowM] at c0 c1 c2 c3
  have hx' : x = 128 ∨ x = 64 ∨ x = 32 ∨ x = 16 := by omega
  have h1 := gath_step m.req m.prox m.fail m.again left x hx' hl
  have h2 := gath_or m.req m.prox m.fail m.again left x hx' hl
  rcases hx with ⟨rfl, rfl⟩ | ⟨rfl, rfl⟩ | ⟨rfl, rfl⟩ | ⟨rfl, rfl⟩
  · exact ⟨m.req, c0, by rw [h1]; simp, h2, by omega, by omega⟩
  · exact ⟨m.prox, c1, by rw [h1]; simp, h2, by omega, by omega⟩
  · exact ⟨m.fail, c2, by rw [h1]; simp, h2, by omega, by omega⟩
  · exact ⟨m.again, c3, by rw [h1]; simp, h2, by omega, by omega⟩
end Go.Proofs.Ytcekkppjalipfaa.Avp
