/-
  avp.first joined; the plain law of Get; avp.Get.
-/
import Derived.Test.YtjfponhdlfhmbaaFirst2
namespace Go.Proofs.Ytjfponhdlfhmbaa.Avp
open Go.RowKit Mem Cells Avps Wire
set_option linter.unusedVariables false
set_option linter.unusedSimpArgs false

theorem first (v : Value) (xs : List Int) (w : World) (hr : Reads .u8 w v xs) (hwf : ∀ x ∈ xs, 0 ≤ x ∧ x ≤ 255) (hb : xs.length ≤ 140737488355300) : Calls Try.prog 25 #[v] w (FirstIs w xs) := by
  by_cases h8 : xs.length < 8
  · exact first_short v xs w hr (by omega)
  · cases hv : vend xs with
    | false => exact first_rest v xs w hr hwf hb (by omega) false (fun h => by cases h) hv
    | true =>
      by_cases h12 : xs.length < 12
      · exact first_vend v xs w hr hwf (by omega) h12 hv
      · exact first_rest v xs w hr hwf hb (by omega) true (fun _ => by omega) hv

theorem oneN_ge {xs : List Int} (h : oneE xs = 0) : 8 ≤ oneN xs ∧ oneN xs ≤ xs.length := by
  have h2 : oneN xs = lenN xs + padN (lenN xs) := by unfold oneN; rw [if_pos h]
  have h3 : 0 ≤ padN (lenN xs) := by unfold padN; split <;> omega
  have h4 : 8 ≤ headN (vend xs) := by unfold headN; split <;> omega
  unfold oneE at h
  split at h
  · cases h
  · split at h
    · cases h
    · split at h
      · cases h
      · omega
/-- What Get answers from a place on: the attributes, the place of the one at fault, and why. -/
def getF (xs : List Int) : Nat → Nat → List A → List A × Int × Int
  | 0, at_, acc => (acc, 0, 0)
  | f + 1, at_, acc =>
    if xs.length ≤ at_ then (acc, 0, 0) else if 64 ≤ acc.length then ([], at_, 4) else if oneE (xs.drop at_) = 0 then getF xs f (at_ + (oneN (xs.drop at_)).toNat) (acc ++ [oneA (xs.drop at_)]) else ([], at_, oneE (xs.drop at_))
def getOf (xs : List Int) : List A × Int × Int := if 4096 < xs.length then ([], 0, 4) else getF xs xs.length 0 []
theorem getF_end {xs : List Int} {f at_ : Nat} {acc : List A} (h : xs.length ≤ at_) : getF xs f at_ acc = (acc, 0, 0) := by
  cases f with
  | zero => rfl
  | succ f => unfold getF; rw [if_pos h]
theorem getF_full {xs : List Int} {f at_ : Nat} {acc : List A} (hf : xs.length ≤ at_ + f) (h : at_ < xs.length) (h64 : 64 ≤ acc.length) : getF xs f at_ acc = ([], (at_ : Int), 4) := by
  cases f with
  | zero => omega
  | succ f => unfold getF; rw [if_neg (by omega), if_pos h64]
theorem getF_bad {xs : List Int} {f at_ : Nat} {acc : List A} (hf : xs.length ≤ at_ + f) (h : at_ < xs.length) (h64 : acc.length < 64) (hE : oneE (xs.drop at_) ≠ 0) : getF xs f at_ acc = ([], (at_ : Int), oneE (xs.drop at_)) := by
  cases f with
  | zero => omega
  | succ f => unfold getF; rw [if_neg (by omega), if_neg (by omega), if_neg hE]
theorem getF_go {xs : List Int} {f at_ : Nat} {acc : List A} (hf : xs.length ≤ at_ + f) (h : at_ < xs.length) (h64 : acc.length < 64) (hE : oneE (xs.drop at_) = 0) :
    ∃ f', xs.length ≤ at_ + (oneN (xs.drop at_)).toNat + f' ∧ getF xs f at_ acc = getF xs f' (at_ + (oneN (xs.drop at_)).toNat) (acc ++ [oneA (xs.drop at_)]) := by
  have := (oneN_ge hE).1
  cases f with
  | zero => omega
  | succ f => exact ⟨f, by omega, by conv => lhs; unfold getF
                                     rw [if_neg (by omega), if_neg (by omega), if_pos hE]⟩
end Go.Proofs.Ytjfponhdlfhmbaa.Avp
