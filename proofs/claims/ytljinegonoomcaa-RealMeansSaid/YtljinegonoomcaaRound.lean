/-
  Rounding to the nearest double, as a function of natural numbers; it keeps the order. No program.
-/
import Ieee.Arith
import Derived.Laws.FloatBits
namespace Go.Proofs.Ytljinegonoomcaa.Round
set_option linter.unusedVariables false

/-- n / 2 ^ k, rounded to the nearest, ties to the even one. -/
def E (n k : Nat) : Nat := n / 2 ^ k + (decide (2 ^ k < 2 * (n % 2 ^ k) ∨ (2 ^ k = 2 * (n % 2 ^ k) ∧ n / 2 ^ k % 2 = 1))).toNat
theorem E_le (n k : Nat) : n / 2 ^ k ≤ E n k := Nat.le_add_right _ _
theorem E_le1 (n k : Nat) : E n k ≤ n / 2 ^ k + 1 := by
  unfold E
  cases decide (2 ^ k < 2 * (n % 2 ^ k) ∨ (2 ^ k = 2 * (n % 2 ^ k) ∧ n / 2 ^ k % 2 = 1)) <;> simp
theorem E_zero (n : Nat) : E n 0 = n := by
  unfold E
  simp [Nat.mod_one]
theorem E_mono {n m : Nat} (k : Nat) (h : n ≤ m) : E n k ≤ E m k := by
  have h1 : n / 2 ^ k ≤ m / 2 ^ k := Nat.div_le_div_right h
  rcases Nat.lt_or_ge (n / 2 ^ k) (m / 2 ^ k) with h2 | h2
  · exact Nat.le_trans (E_le1 n k) (Nat.le_trans h2 (E_le m k))
  · have e : n / 2 ^ k = m / 2 ^ k := Nat.le_antisymm h1 h2
    have hr : n % 2 ^ k ≤ m % 2 ^ k := by
      have a := Nat.div_add_mod n (2 ^ k)
      have b := Nat.div_add_mod m (2 ^ k)
      rw [e] at a
      omega
    unfold E
    rw [e]
    by_cases c : 2 ^ k < 2 * (n % 2 ^ k) ∨ (2 ^ k = 2 * (n % 2 ^ k) ∧ m / 2 ^ k % 2 = 1)
    · have c2 : 2 ^ k < 2 * (m % 2 ^ k) ∨ (2 ^ k = 2 * (m % 2 ^ k) ∧ m / 2 ^ k % 2 = 1) := by
        rcases c with c | ⟨c, d⟩
        · left; omega
        · rcases Nat.lt_or_ge (n % 2 ^ k) (m % 2 ^ k) with g | g
          · left; omega
          · right; exact ⟨by omega, d⟩
      rw [decide_eq_true c, decide_eq_true c2]
      exact Nat.le_refl _
    · rw [decide_eq_false c]
      simp
theorem E_shift (n k j : Nat) : E (n * 2 ^ j) (k + j) = E n k := by
  have h1 : n * 2 ^ j / 2 ^ (k + j) = n / 2 ^ k := by rw [Nat.pow_add]; exact Nat.mul_div_mul_right _ _ (Nat.two_pow_pos j)
  have h2 : n * 2 ^ j % 2 ^ (k + j) = n % 2 ^ k * 2 ^ j := by rw [Nat.pow_add]; exact Nat.mul_mod_mul_right _ _ _
  have hp := Nat.two_pow_pos j
  unfold E
  rw [h1, h2]
  have e1 : (2 ^ (k + j) < 2 * (n % 2 ^ k * 2 ^ j)) ↔ (2 ^ k < 2 * (n % 2 ^ k)) := by
    rw [Nat.pow_add, ← Nat.mul_assoc]
    exact Nat.mul_lt_mul_right hp
  have e2 : (2 ^ (k + j) = 2 * (n % 2 ^ k * 2 ^ j)) ↔ (2 ^ k = 2 * (n % 2 ^ k)) := by
    rw [Nat.pow_add, ← Nat.mul_assoc]
    exact Nat.mul_left_inj (by omega)
  simp only [e1, e2]
theorem E_exact (a k : Nat) : E (a * 2 ^ k) k = a := by
  have := E_shift a 0 k
  rw [Nat.zero_add, E_zero] at this
  exact this
/-- The model's cut is just that. -/
theorem cut_eq (neg : Bool) (n d : Nat) : Ieee.Toward.cut .even neg n d = E n d := by
  unfold Ieee.Toward.cut
  simp only
  rcases Nat.le_total d (n.log2 + 2) with h | h
  · rw [Nat.min_eq_left h]
    unfold E
    simp only [Nat.shiftLeft_eq, Nat.one_mul]
    congr 2
    rw [Bool.eq_iff_iff]
    simp
  · rw [Nat.min_eq_right h]
    have hn : n < 2 ^ (n.log2 + 1) := Nat.lt_log2_self
    have h2 : n < 2 ^ (n.log2 + 2) := Nat.lt_of_lt_of_le hn (Nat.pow_le_pow_right (by decide) (by omega))
    have h4 : 2 * n < 2 ^ (n.log2 + 2) := by
      rw [Nat.pow_succ]
      omega
    have h3 : n < 2 ^ d := Nat.lt_of_lt_of_le h2 (Nat.pow_le_pow_right (by decide) h)
    have h5 : 2 * n < 2 ^ d := Nat.lt_of_lt_of_le h4 (Nat.pow_le_pow_right (by decide) h)
    unfold E
    simp only [Nat.shiftLeft_eq, Nat.one_mul]
    rw [Nat.div_eq_of_lt h2, Nat.mod_eq_of_lt h2, Nat.div_eq_of_lt h3, Nat.mod_eq_of_lt h3]
    have c1 : ¬ (2 ^ d < 2 * n ∨ (2 ^ d = 2 * n ∧ 0 % 2 = 1)) := by omega
    rw [decide_eq_false c1]
    have c2 : (decide (2 ^ (n.log2 + 2) < 2 * n) || (2 ^ (n.log2 + 2) == 2 * n && 0 % 2 == 1)) = false := by
      simp
      omega
    rw [c2]
/-- How many digits are dropped; in units of 2 ^ -1138. -/
def D (N : Nat) : Nat := max (N.log2 - 52) 64
/-- The rung of the nearest double, were there no greatest one. -/
def R (N : Nat) : Nat := if N = 0 then 0 else (D N - 64) * 2 ^ 52 + E N (D N)
theorem log2_mul_pow (m t : Nat) (h : m ≠ 0) : (m * 2 ^ t).log2 = m.log2 + t := by
  induction t with
  | zero => simp
  | succ t ih =>
    rw [Nat.pow_succ, ← Nat.mul_assoc, Nat.mul_comm _ 2, Nat.log2_two_mul (by have := Nat.two_pow_pos t; exact Nat.mul_ne_zero h (by omega)), ih]
    omega
theorem double_least : Ieee.double.leastPlace = -1074 := by decide
theorem nearest_eq (neg : Bool) (mag : Nat) (place : Int) (hp : -1138 ≤ place) : Ieee.double.nearest neg mag place = Ieee.double.word neg (min (R (mag * 2 ^ (place + 1138).toNat)) Ieee.double.infRung) := by
  unfold Ieee.Format.nearest
  by_cases h0 : mag = 0
  · rw [if_pos h0, h0]
    simp [R]
  rw [if_neg h0]
  obtain ⟨t, ht⟩ : ∃ t : Nat, place = (t : Int) - 1138 := ⟨(place + 1138).toNat, by omega⟩
  have et : (place + 1138).toNat = t := by omega
  have hN : mag * 2 ^ t ≠ 0 := Nat.mul_ne_zero h0 (by have := Nat.two_pow_pos t; omega)
  have hl := log2_mul_pow mag t h0
  simp only [cut_eq, double_least, et]
  unfold R
  rw [if_neg hN]
  have hf : (Ieee.double.fractionBits : Int) = 52 := by decide
  have hb : Ieee.double.binade = 2 ^ 52 := by decide
  rw [hf, hb, ht]
  obtain ⟨d, hd⟩ : ∃ d, D (mag * 2 ^ t) = d := ⟨_, rfl⟩
  have hdd : d = max (mag.log2 + t - 52) 64 := by rw [← hd]; unfold D; rw [hl]
  have hlast : max ((t : Int) - 1138 + (mag.log2 : Int) - 52) (-1074) = (d : Int) - 1138 := by omega
  rw [hlast, hd]
  have e1 : ((d : Int) - 1138 - -1074).toNat = d - 64 := by omega
  rw [e1]
  congr 2
  rcases Nat.le_total d t with h | h
  · have a1 : ((t : Int) - 1138 - ((d : Int) - 1138)).toNat = t - d := by omega
    have a2 : ((d : Int) - 1138 - ((t : Int) - 1138)).toNat = 0 := by omega
    rw [a1, a2, E_zero, Nat.shiftLeft_eq]
    have : mag * 2 ^ t = mag * 2 ^ (t - d) * 2 ^ d := by rw [Nat.mul_assoc, ← Nat.pow_add, Nat.sub_add_cancel h]
    rw [this, E_exact]
  · have a1 : ((t : Int) - 1138 - ((d : Int) - 1138)).toNat = 0 := by omega
    have a2 : ((d : Int) - 1138 - ((t : Int) - 1138)).toNat = d - t := by omega
    rw [a1, a2, Nat.shiftLeft_zero]
    have := E_shift mag (d - t) t
    rw [Nat.sub_add_cancel h] at this
    rw [this]
theorem lt_pow_log (N : Nat) : N < 2 ^ (N.log2 + 1) := Nat.lt_log2_self
theorem R_mono {N M : Nat} (h : N ≤ M) : R N ≤ R M := by
  unfold R
  by_cases h0 : N = 0
  · rw [if_pos h0]; exact Nat.zero_le _
  have h1 : M ≠ 0 := by omega
  rw [if_neg h0, if_neg h1]
  have hlog : N.log2 ≤ M.log2 := by
    rcases Nat.lt_or_ge M.log2 N.log2 with g | g
    · exfalso
      have a := lt_pow_log M
      have b := Nat.log2_self_le h0
      have c : 2 ^ (M.log2 + 1) ≤ 2 ^ N.log2 := Nat.pow_le_pow_right (by decide) g
      omega
    · exact g
  have hD : D N ≤ D M := by unfold D; omega
  rcases Nat.lt_or_ge (D N) (D M) with g | g
  · -- another binade
    have hM : D M = M.log2 - 52 ∧ 64 < M.log2 - 52 := by unfold D at g ⊢; omega
    have hge : 2 ^ 52 ≤ E M (D M) := by
      refine Nat.le_trans ?_ (E_le M (D M))
      rw [Nat.le_div_iff_mul_le (Nat.two_pow_pos _), ← Nat.pow_add]
      refine Nat.le_trans (Nat.pow_le_pow_right (by decide) ?_) (Nat.log2_self_le h1)
      omega
    have hle : E N (D N) ≤ 2 ^ 53 := by
      refine Nat.le_trans (E_le1 N (D N)) ?_
      have : N / 2 ^ D N < 2 ^ 53 := by
        rw [Nat.div_lt_iff_lt_mul (Nat.two_pow_pos _), ← Nat.pow_add]
        refine Nat.lt_of_lt_of_le (lt_pow_log N) (Nat.pow_le_pow_right (by decide) ?_)
        unfold D; omega
      omega
    have h64 : 64 ≤ D N := by unfold D; omega
    have : (D N - 64) + 1 ≤ D M - 64 := by omega
    have := Nat.mul_le_mul_right (2 ^ 52) this
    rw [Nat.add_mul] at this
    omega
  · have e : D N = D M := by omega
    rw [e]
    have := E_mono (D M) h
    omega
/-- What a rung stands for, in units of 2 ^ -1138. -/
def V (r : Nat) : Nat := if r < 2 ^ 52 then r * 2 ^ 64 else (2 ^ 52 + r % 2 ^ 52) * 2 ^ (r / 2 ^ 52 - 1 + 64)
theorem log2_eq {n k : Nat} (h1 : 2 ^ k ≤ n) (h2 : n < 2 ^ (k + 1)) : n.log2 = k := by
  have hn : n ≠ 0 := by have := Nat.two_pow_pos k; omega
  exact (Nat.log2_eq_iff hn).2 ⟨h1, h2⟩
theorem R_V (r : Nat) : R (V r) = r := by
  unfold V
  by_cases h : r < 2 ^ 52
  · rw [if_pos h]
    unfold R
    by_cases h0 : r = 0
    · rw [if_pos (by simp [h0]), h0]
    have hne : r * 2 ^ 64 ≠ 0 := Nat.mul_ne_zero h0 (by decide)
    rw [if_neg hne]
    have hl : r.log2 < 52 := (Nat.log2_lt h0).2 h
    have hD : D (r * 2 ^ 64) = 64 := by unfold D; rw [log2_mul_pow r 64 h0]; omega
    rw [hD, E_exact]
    omega
  · rw [if_neg h]
    have h1 : 1 ≤ r / 2 ^ 52 := by omega
    obtain ⟨q, hq⟩ : ∃ q, r / 2 ^ 52 = q + 1 := ⟨r / 2 ^ 52 - 1, by omega⟩
    obtain ⟨f, hf⟩ : ∃ f, r % 2 ^ 52 = f := ⟨_, rfl⟩
    have hr : r = (q + 1) * 2 ^ 52 + f := by have := Nat.div_add_mod r (2 ^ 52); rw [hq, hf] at this; omega
    have hfl : f < 2 ^ 52 := by rw [← hf]; exact Nat.mod_lt _ (by decide)
    rw [hq, hf, Nat.add_sub_cancel]
    unfold R
    have hm0 : 2 ^ 52 + f ≠ 0 := by omega
    have hne : (2 ^ 52 + f) * 2 ^ (q + 64) ≠ 0 := Nat.mul_ne_zero hm0 (by have := Nat.two_pow_pos (q + 64); omega)
    rw [if_neg hne]
    have hl : (2 ^ 52 + f).log2 = 52 := log2_eq (by omega) (by omega)
    have hD : D ((2 ^ 52 + f) * 2 ^ (q + 64)) = q + 64 := by unfold D; rw [log2_mul_pow _ _ hm0, hl]; omega
    rw [hD, E_exact, hr, Nat.add_sub_cancel, Nat.add_mul]
    omega
theorem V_mono {r s : Nat} (h : r ≤ s) : V r ≤ V s := by
  rcases Nat.lt_or_ge (V s) (V r) with g | g
  · have h1 := R_mono (Nat.le_of_lt g)
    rw [R_V, R_V] at h1
    have e : r = s := Nat.le_antisymm h h1
    rw [e] at g
    exact absurd g (Nat.lt_irrefl _)
  · exact g
theorem V_two (r : Nat) : ∃ s, 2 * V r = V s := by
  by_cases h : r < 2 ^ 51
  · refine ⟨2 * r, ?_⟩
    unfold V
    rw [if_pos (by omega), if_pos (by omega)]
    omega
  · by_cases h2 : r < 2 ^ 52
    · refine ⟨2 * r, ?_⟩
      unfold V
      rw [if_pos h2, if_neg (by omega)]
      have e1 : 2 * r / 2 ^ 52 = 1 := by omega
      have e2 : 2 * r % 2 ^ 52 = 2 * r - 2 ^ 52 := by omega
      rw [e1, e2]
      simp only [Nat.sub_self, Nat.zero_add]
      omega
    · refine ⟨r + 2 ^ 52, ?_⟩
      unfold V
      rw [if_neg h2, if_neg (by omega)]
      have e1 : (r + 2 ^ 52) / 2 ^ 52 = r / 2 ^ 52 + 1 := by omega
      have e2 : (r + 2 ^ 52) % 2 ^ 52 = r % 2 ^ 52 := by omega
      have h3 : 1 ≤ r / 2 ^ 52 := by omega
      rw [e1, e2, show r / 2 ^ 52 + 1 - 1 + 64 = (r / 2 ^ 52 - 1 + 64) + 1 by omega]
      generalize (2 ^ 52 + r % 2 ^ 52) = a
      generalize r / 2 ^ 52 - 1 + 64 = k
      rw [Nat.pow_succ, Nat.mul_comm 2, Nat.mul_assoc]
end Go.Proofs.Ytljinegonoomcaa.Round
