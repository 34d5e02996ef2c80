/-
  DictOnce: what Judge says of so many attributes of one name (plain); Fits of octets.
-/
import Derived.Test.YtjfmahodbdianaaDoorLaws1
namespace Go.Proofs.YtjfmahodbdianaaDoor.Dict
open Go.RowKit Mem Cells Ops Rule Avps Go.Maps
set_option linter.unusedVariables false
set_option linter.unusedSimpArgs false

def aO (xs : List Int) : A := ⟨7, 0, false, false, xs⟩
def ruleO (must : Bool) (m k : Nat) : R := ⟨7, 0, 1, must, m, k⟩
abbrev fit0 : Int → List Int → Int := fun _ _ => 0
set_option maxRecDepth 100000 in
theorem fitsOctets (xs : List Int) : FitsAt fit0 1 xs := by
  intro w v hr
  show Calls Tryd.prog 24 #[.int .i64 1, v] w fun e w' => e = .returned (.int .i64 0) ∧ Below w.heap.size w w'
  clear hr
  go_enter Tryd.func24, Tryd.ntmps24
  go_wp2_with fail
  go_ret
  exact ⟨rfl, Below.refl _ _⟩
theorem ruleO_ok (must : Bool) (m k : Nat) (hm : m ≤ k) (hk : k ≤ 20) : ∀ r ∈ [ruleO must m k], r.ok := by
  intro r hr
  rw [List.mem_singleton] at hr
  subst hr
  unfold R.ok i64 ruleO
  simp only
  omega
theorem ruleO_sound (must : Bool) (m k : Nat) (hm : m ≤ k) (hk : k ≤ 20) : sound [ruleO must m k] := by
  refine ⟨by simp, fun i r hi => ?_⟩
  match i with
  | 0 =>
    simp at hi
    subst hi
    refine ⟨?_, ?_⟩
    · unfold bad ruleO
      simp only
      omega
    · rintro ⟨x, hx, _⟩
      simp at hx
  | i + 1 => simp at hi
theorem cntO (xs : List Int) (j : Nat) : cntN (List.replicate j (aO xs)) 7 0 = j := by
  unfold cntN
  rw [List.countP_replicate]
  simp [sameN, aO]
theorem oneO (xs : List Int) (must : Bool) (m k i j : Nat) (hj : j < i) (hk : 0 < k) : oneAt fit0 [ruleO must m k] (List.replicate i (aO xs)) j = if k < j + 1 then 5009 else 2001 := by
  unfold oneAt
  rw [List.getElem?_replicate, if_pos hj]
  show oneV fit0 _ _ (aO xs) = _
  unfold oneV
  have h1 : ruleOf [ruleO must m k] (aO xs) = some (ruleO must m k) := by simp [ruleOf, hitR, ruleO, aO]
  rw [h1]
  show judgeR fit0 _ _ (cntN _ 7 0 : Int) = _
  rw [List.take_replicate, Nat.min_eq_left (by omega), show List.replicate j (aO xs) ++ [aO xs] = List.replicate (j + 1) (aO xs) by rw [List.replicate_succ'], cntO]
  unfold judgeR
  rw [if_neg (by simp [ruleO]; omega)]
  by_cases h : k < j + 1
  · rw [if_pos h, if_pos (by simp [ruleO]; omega)]
  · rw [if_neg h, if_neg (by simp [ruleO]; omega)]
    rfl
theorem lacksO (xs : List Int) (must : Bool) (m k i : Nat) : lacks (List.replicate i (aO xs)) (ruleO must m k) = decide (i < m) := by
  unfold lacks
  have : cntN (List.replicate i (aO xs)) (ruleO must m k).code (ruleO must m k).vendor = i := cntO xs i
  rw [this]
  simp [ruleO]
theorem onceLack (xs : List Int) (must : Bool) (m k i : Nat) (hm : m ≤ k) (hk : k ≤ 20) (h0 : 0 < k) (hi : i < m) : verdict fit0 [ruleO must m k] (List.replicate i (aO xs)) = (5005, [⟨7, 0, must, false, []⟩], 0) :=
  verdict_lack (k := 0) (r := ruleO must m k) (ruleO_sound must m k hm hk) (fun j hj => by rw [oneO xs must m k i j (by simpa using hj) h0, if_neg (by simp at hj; omega)]) rfl (fun j x h => absurd h (Nat.not_lt_zero _)) (by rw [lacksO]; simpa using hi)
theorem onceFine (xs : List Int) (must : Bool) (m k i : Nat) (hm : m ≤ k) (hk : k ≤ 20) (h0 : 0 < k) (hi : m ≤ i) (hi2 : i ≤ k) : verdict fit0 [ruleO must m k] (List.replicate i (aO xs)) = (2001, [], 0) :=
  verdict_fine (ruleO_sound must m k hm hk) (fun j hj => by rw [oneO xs must m k i j (by simpa using hj) h0, if_neg (by simp at hj; omega)]) (fun j x hx => by
    match j with
    | 0 =>
      simp at hx
      subst hx
      rw [lacksO]
      simpa using hi
    | j + 1 => simp at hx)
theorem onceMany (xs : List Int) (must : Bool) (m k : Nat) (hm : m ≤ k) (hk : k ≤ 20) (h0 : 0 < k) : verdict fit0 [ruleO must m k] (List.replicate (k + 1) (aO xs)) = (5009, [aO xs], 0) :=
  verdict_bad (k := k) (ruleO_sound must m k hm hk) (by rw [List.getElem?_replicate, if_pos (by omega)]) (fun j hj => by rw [oneO xs must m k (k + 1) j (by omega) h0, if_neg (by omega)]) (by rw [oneO xs must m k (k + 1) k (by omega) h0, if_pos (by omega)]) (by decide)
end Go.Proofs.YtjfmahodbdianaaDoor.Dict
