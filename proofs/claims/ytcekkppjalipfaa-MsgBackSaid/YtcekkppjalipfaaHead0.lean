/-
  Heads of messages: what Head answers (plain); the flags of a byte, while the range over the map of flags runs.
-/
import Derived.Test.YtcekkppjalipfaaMsg6
import Derived.Test.YtcekkppjalipfaaReg
namespace Go.Proofs.Ytcekkppjalipfaa.Avp
open Go.RowKit Mem Cells Avps Wire Ops Go.Maps
set_option linter.unusedVariables false
set_option linter.unusedSimpArgs false

def noM : M := ⟨false, false, false, false, 0, 0, 0, 0, []⟩
/-- The flag of a byte. -/
def bt (f k : Int) : Bool := decide (f / k % 2 = 1)
def withF (f : Int) (m : M) : M := { m with req := bt f 128, prox := bt f 64, fail := bt f 32, again := bt f 16 }
/-- The message of a head. -/
def headV (xs : List Int) : M := ⟨bt (xs.getD 4 0) 128, bt (xs.getD 4 0) 64, bt (xs.getD 4 0) 32, bt (xs.getD 4 0) 16, getN xs 5 3, getN xs 8 4, getN xs 12 4, getN xs 16 4, []⟩
/-- What Head answers. -/
def headOf (xs : List Int) : M × Int :=
  if xs.length < 20 then (noM, 3) else if xs.getD 0 0 ≠ 1 then (noM, 2) else if 4096 < getN xs 1 3 then (noM, 4) else if (xs.length : Int) < getN xs 1 3 then (noM, 3) else
  if getN xs 1 3 < xs.length ∨ getN xs 1 3 % 4 ≠ 0 ∨ mixB (headV xs) = true then (noM, 2) else (headV xs, 0)
theorem row_noM : rowM noM (.slice none 0 0) = zeroM := rfl
theorem and_bit (f k : Int) (hf : 0 ≤ f ∧ f ≤ 255) (hk : k = 128 ∨ k = 64 ∨ k = 32 ∨ k = 16) : decide (0 < bits .and .u8 f k) = bt f k := by
  obtain ⟨n, rfl⟩ := Int.eq_ofNat_of_zero_le hf.1
  have key : ∀ x : Fin 256, decide (0 < bits .and .u8 ((x.1 : Nat) : Int) 128) = bt ((x.1 : Nat) : Int) 128 ∧ decide (0 < bits .and .u8 ((x.1 : Nat) : Int) 64) = bt ((x.1 : Nat) : Int) 64 ∧ decide (0 < bits .and .u8 ((x.1 : Nat) : Int) 32) = bt ((x.1 : Nat) : Int) 32 ∧ decide (0 < bits .and .u8 ((x.1 : Nat) : Int) 16) = bt ((x.1 : Nat) : Int) 16 := by decide +kernel
  obtain ⟨k1, k2, k3, k4⟩ := key ⟨n, by omega⟩
  rcases hk with rfl | rfl | rfl | rfl
  · exact k1
  · exact k2
  · exact k3
  · exact k4
/-- The message while the range runs: the flags of the keys that are not left. -/
def hm (f : Int) (left : Lit → Bool) : M := ⟨!left (key 128) && bt f 128, !left (key 64) && bt f 64, !left (key 32) && bt f 32, !left (key 16) && bt f 16, 0, 0, 0, 0, []⟩
theorem hm_start (f : Int) : rowM (hm f (Maps.has (flagD true true true true))) (.slice none 0 0) = zeroM := by
  have h1 : Maps.has (flagD true true true true) (key 128) = true := by rfl
  have h2 : Maps.has (flagD true true true true) (key 64) = true := by rfl
  have h3 : Maps.has (flagD true true true true) (key 32) = true := by rfl
  have h4 : Maps.has (flagD true true true true) (key 16) = true := by rfl
  unfold hm
  rw [h1, h2, h3, h4]
  rfl
theorem hm_end (f : Int) (left : Lit → Bool) (h : ∀ kl, left kl = false) : hm f left = withF f noM := by
  unfold hm
  simp [h, withF, noM]
theorem hm_step (f : Int) (left : Lit → Bool) (x : Int) (c : Nat) (d : Value) (hx : (x = 128 ∧ c = 0) ∨ (x = 64 ∧ c = 1) ∨ (x = 32 ∧ c = 2) ∨ (x = 16 ∧ c = 3)) :
    (rowM (hm f left) d).set! c (.bool (bt f x)) = rowM (hm f (fun z => left z && !z.sameKey (key x))) d := by
  have s : ∀ x y : Int, (key x).sameKey (key y) = decide (x = y) := by
    intro x y
    simp [key, Lit.sameKey]
  unfold hm
  simp only [s]
  rcases hx with ⟨rfl, rfl⟩ | ⟨rfl, rfl⟩ | ⟨rfl, rfl⟩ | ⟨rfl, rfl⟩ <;> simp [rowM]
theorem lt4 {x : Int} {c : Nat} (hx : (x = 128 ∧ c = 0) ∨ (x = 64 ∧ c = 1) ∨ (x = 32 ∧ c = 2) ∨ (x = 16 ∧ c = 3)) : c < 4 := by omega
theorem is8 {x : Int} {c : Nat} (hx : (x = 128 ∧ c = 0) ∨ (x = 64 ∧ c = 1) ∨ (x = 32 ∧ c = 2) ∨ (x = 16 ∧ c = 3)) : x = 128 ∨ x = 64 ∨ x = 32 ∨ x = 16 := by omega
def HeadIs (w : World) (R : M × Int) (e : Ending) (w' : World) : Prop := e = .returned (.tuple #[.agg (rowM R.1 (.slice none 0 0)), .int .i64 R.2]) ∧ Below w.heap.size w w'
end Go.Proofs.Ytcekkppjalipfaa.Avp
