/-
  Doubles by their values; sums, halves, the mean. No program.
-/
import Derived.Test.YtljinegonoomcaaRound
namespace Go.Proofs.Ytljinegonoomcaa.Round
set_option linter.unusedVariables false

def rung (x : Nat) : Nat := x % 9223372036854775808
def neg (x : Nat) : Bool := x / 9223372036854775808 % 2 == 1
def inf : Nat := 9218868437227405312
theorem inf_eq : Ieee.double.infRung = inf := by decide
theorem sw_eq : Ieee.double.signWeight = 9223372036854775808 := by decide
theorem bin_eq : Ieee.double.binade = 2 ^ 52 := by decide
def fin (x : Nat) : Prop := rung x < inf
def val (x : Nat) : Int := if neg x then -(V (rung x) : Int) else V (rung x)
theorem read_fin (x : Nat) (h : fin x) : ∃ (mag : Nat) (place : Int), Ieee.double.read x = .number (neg x) mag place ∧ -1074 ≤ place ∧ mag * 2 ^ (place + 1138).toNat = V (rung x) ∧ mag < 2 ^ 53 := by
  unfold Ieee.Format.read
  simp only [sw_eq, bin_eq, inf_eq, double_least]
  have hr : x % 9223372036854775808 = rung x := rfl
  rw [hr]
  unfold fin at h
  by_cases h1 : rung x < 2 ^ 52
  · rw [if_pos h1]
    refine ⟨_, _, rfl, by omega, ?_, by omega⟩
    unfold V
    rw [if_pos h1]
    rfl
  · rw [if_neg h1, if_pos h]
    refine ⟨_, _, rfl, by omega, ?_, by omega⟩
    unfold V
    rw [if_neg h1]
    congr 2
    omega
theorem word_rung (s : Bool) (r : Nat) (h : r < 9223372036854775808) : rung (Ieee.double.word s r) = r ∧ neg (Ieee.double.word s r) = s := by
  unfold Ieee.Format.word rung neg
  rw [sw_eq]
  cases s
  · simp
    omega
  · simp
    omega
theorem V_zero {r : Nat} (h : V r = 0) : r = 0 := by
  have := R_V r
  rw [h] at this
  simpa [R] using this.symm
/-- A whole number, rounded; as if there were no greatest double. -/
def rd (z : Int) : Int := if z < 0 then -(V (R z.natAbs) : Int) else V (R z.natAbs)
theorem rd_mono {a b : Int} (h : a ≤ b) : rd a ≤ rd b := by
  unfold rd
  by_cases ha : a < 0
  · rw [if_pos ha]
    by_cases hb : b < 0
    · rw [if_pos hb]
      have := V_mono (R_mono (show b.natAbs ≤ a.natAbs by omega))
      omega
    · rw [if_neg hb]; omega
  · rw [if_neg ha, if_neg (by omega)]
    have := V_mono (R_mono (show a.natAbs ≤ b.natAbs by omega))
    omega
theorem rd_val (x : Nat) : rd (val x) = val x := by
  unfold val
  by_cases hn : neg x = true
  · rw [if_pos hn]
    unfold rd
    by_cases h : (-(V (rung x) : Int)) < 0
    · rw [if_pos h]
      have : (-(V (rung x) : Int)).natAbs = V (rung x) := by omega
      rw [this, R_V]
    · rw [if_neg h]
      have e : V (rung x) = 0 := by omega
      rw [e]
      simp [R, V]
  · rw [if_neg hn]
    unfold rd
    rw [if_neg (by omega), Int.natAbs_natCast, R_V]
theorem rd_two (x : Nat) : rd (2 * val x) = 2 * val x := by
  obtain ⟨s, hs⟩ := V_two (rung x)
  unfold val
  by_cases hn : neg x = true
  · rw [if_pos hn]
    unfold rd
    by_cases h : (2 * -(V (rung x) : Int)) < 0
    · rw [if_pos h]
      have : (2 * -(V (rung x) : Int)).natAbs = V s := by omega
      rw [this, R_V]
      omega
    · rw [if_neg h]
      have e : V (rung x) = 0 := by omega
      rw [e]
      simp [R, V]
  · rw [if_neg hn]
    unfold rd
    have : (2 * (V (rung x) : Int)).natAbs = V s := by omega
    rw [if_neg (by omega), this, R_V]
    omega
/-- The word of a rounded number. -/
def wd (s : Bool) (z : Int) : Nat := Ieee.double.word s (min (R z.natAbs) inf)
theorem inf_lt : inf < 9223372036854775808 := by decide
theorem wd_val (s : Bool) (z : Int) (h : R z.natAbs < inf) (hs : z ≠ 0 → s = decide (z < 0)) : fin (wd s z) ∧ val (wd s z) = rd z := by
  have e : min (R z.natAbs) inf = R z.natAbs := Nat.min_eq_left (Nat.le_of_lt h)
  obtain ⟨h1, h2⟩ := word_rung s (R z.natAbs) (by have := inf_lt; omega)
  unfold wd
  rw [e]
  refine ⟨by unfold fin; rw [h1]; exact h, ?_⟩
  unfold val
  rw [h1, h2]
  by_cases hz : z = 0
  · subst hz
    unfold rd
    cases s <;> simp [R, V]
  · rw [hs hz]
    unfold rd
    by_cases hn : z < 0
    · rw [decide_eq_true hn, if_pos rfl, if_pos hn]
    · rw [decide_eq_false hn, if_neg (by decide), if_neg hn]
theorem wd_inf (s : Bool) (z : Int) (h : inf ≤ R z.natAbs) : rung (wd s z) = inf := by
  unfold wd
  rw [Nat.min_eq_right h]
  exact (word_rung s inf inf_lt).1
theorem signed_val (s : Bool) (m : Nat) (i base : Int) (hb : -1138 ≤ base) (hi : base ≤ i) : Ieee.signed s m (i - base).toNat * (2 ^ (base + 1138).toNat : Nat) = if s then -((m * 2 ^ (i + 1138).toNat : Nat) : Int) else ((m * 2 ^ (i + 1138).toNat : Nat) : Int) := by
  have e : (i + 1138).toNat = (i - base).toNat + (base + 1138).toNat := by omega
  unfold Ieee.signed
  rw [e, Nat.pow_add, Nat.shiftLeft_eq]
  cases s
  · simp only [if_false, Bool.false_eq_true]
    rw [← Int.natCast_mul, Nat.mul_assoc]
  · simp only [if_true]
    rw [Int.neg_mul, ← Int.natCast_mul, Nat.mul_assoc]
/-- The sum of two finite doubles. -/
theorem add_fin (x y : Nat) (hx : fin x) (hy : fin y) : ∃ s : Bool, Ieee.double.add x y = some (wd s (val x + val y)) ∧ (val x + val y ≠ 0 → s = decide (val x + val y < 0)) := by
  obtain ⟨m, i, e1, i1, v1, _⟩ := read_fin x hx
  obtain ⟨n, j, e2, j1, v2, _⟩ := read_fin y hy
  unfold Ieee.Format.add
  rw [e1, e2]
  simp only [Ieee.Datum.sum, Option.map_some, Ieee.Format.write]
  obtain ⟨base, hbase⟩ : ∃ b, min i j = b := ⟨_, rfl⟩
  rw [hbase]
  have hb : -1138 ≤ base := by omega
  obtain ⟨tot, htot⟩ : ∃ t, Ieee.signed (neg x) m (i - base).toNat + Ieee.signed (neg y) n (j - base).toNat = t := ⟨_, rfl⟩
  rw [htot]
  have hz : val x + val y = tot * (2 ^ (base + 1138).toNat : Nat) := by
    rw [← htot, Int.add_mul, signed_val _ _ _ _ hb (by omega), signed_val _ _ _ _ hb (by omega), v1, v2]
    rfl
  have hp : (0 : Int) < (2 ^ (base + 1138).toNat : Nat) := by have := Nat.two_pow_pos (base + 1138).toNat; omega
  rw [nearest_eq _ _ _ hb, inf_eq]
  have hab : tot.natAbs * 2 ^ (base + 1138).toNat = (val x + val y).natAbs := by rw [hz, Int.natAbs_mul, Int.natAbs_natCast]
  rw [hab]
  refine ⟨_, rfl, fun hne => ?_⟩
  have ht : tot ≠ 0 := fun e => hne (by rw [hz, e, Int.zero_mul])
  rw [if_neg ht]
  congr 1
  rw [hz]
  apply propext
  constructor
  · intro h; exact Int.mul_neg_of_neg_of_pos h hp
  · intro h
    by_cases g : tot < 0
    · exact g
    · have g : 0 ≤ tot := by omega
      have := Int.mul_nonneg g (Int.le_of_lt hp); omega
def two : Nat := 4611686018427387904
theorem read_two : Ieee.double.read two = .number false (2 ^ 52) (-51) := by decide
theorem V_even (r : Nat) : V r % 2 = 0 := by
  unfold V
  split
  · rw [show (2 : Nat) ^ 64 = 2 * 2 ^ 63 by decide, ← Nat.mul_assoc, Nat.mul_comm r 2, Nat.mul_assoc]; omega
  · generalize 2 ^ 52 + r % 2 ^ 52 = a
    generalize r / 2 ^ 52 - 1 = b
    rw [show b + 64 = (b + 63) + 1 by omega, Nat.pow_succ, ← Nat.mul_assoc]; omega
/-- Half of a finite double. -/
theorem half_fin (x : Nat) (hx : fin x) : ∃ s : Bool, Ieee.double.div x two = some (wd s (val x / 2)) ∧ (val x / 2 ≠ 0 → s = decide (val x / 2 < 0)) := by
  obtain ⟨m, i, e1, i1, v1, hm⟩ := read_fin x hx
  unfold Ieee.Format.div
  rw [e1, read_two]
  have hfb : Ieee.double.fractionBits + 2 = 54 := by decide
  rw [hfb]
  have hl : m.log2 ≤ 52 := by
    rcases Nat.eq_zero_or_pos m with h0 | h0
    · subst h0; decide
    · have := (Nat.log2_lt (by omega)).2 hm; omega
  have h52 : (2 ^ 52 : Nat).log2 = 52 := Nat.log2_two_pow
  simp only [Ieee.Datum.quotient, h52]
  rw [if_neg (by decide)]
  simp only [Option.map_some, Ieee.Format.write, Bool.xor_false]
  obtain ⟨k, hk⟩ : ∃ k, 54 + 52 - m.log2 = k + 52 := ⟨54 + 52 - m.log2 - 52, by omega⟩
  rw [hk, Nat.shiftLeft_eq, Nat.pow_add, ← Nat.mul_assoc, Nat.mul_div_cancel _ (by decide : 0 < 2 ^ 52), Nat.mul_mod_left]
  simp only [bne_self_eq_false, Bool.toNat_false, Nat.add_zero]
  rw [nearest_eq _ _ _ (by omega), inf_eq]
  obtain ⟨A, hA⟩ : ∃ A, (i - -51 - ((k + 52 : Nat) : Int) - 1 + 1138).toNat = A := ⟨_, rfl⟩
  have hexp : (i + 1138).toNat = A + k + 1 + 1 := by omega
  rw [hA]
  have hval : 2 * (m * 2 ^ k) * 2 ^ A = V (rung x) / 2 := by
    have h2 : 2 * (2 * (m * 2 ^ k) * 2 ^ A) = V (rung x) := by
      rw [← v1, hexp, Nat.pow_succ, Nat.pow_succ, Nat.pow_add]
      generalize 2 ^ A = a
      generalize 2 ^ k = b
      have e1 : m * (a * b * 2 * 2) = 4 * (m * (a * b)) := by rw [← Nat.mul_assoc, ← Nat.mul_assoc]; omega
      rw [e1, Nat.mul_assoc 2, Nat.mul_assoc m, Nat.mul_comm b a]
      omega
    omega
  rw [hval]
  have hv2 := V_even (rung x)
  have hab : V (rung x) / 2 = (val x / 2).natAbs := by
    unfold val
    split <;> omega
  rw [hab]
  refine ⟨_, rfl, fun hne => ?_⟩
  unfold val at hne ⊢
  cases hn : neg x
  · simp [hn] at hne ⊢
    omega
  · simp [hn] at hne ⊢
    omega
theorem V_half (r : Nat) (h : 2 ^ 53 ≤ r) : V r = 2 * V (r - 2 ^ 52) := by
  unfold V
  rw [if_neg (by omega), if_neg (by omega)]
  have e1 : (r - 2 ^ 52) / 2 ^ 52 = r / 2 ^ 52 - 1 := by omega
  have e2 : (r - 2 ^ 52) % 2 ^ 52 = r % 2 ^ 52 := by omega
  have h3 : 2 ≤ r / 2 ^ 52 := by omega
  rw [e1, e2, show r / 2 ^ 52 - 1 + 64 = (r / 2 ^ 52 - 1 - 1 + 64) + 1 by omega]
  generalize (2 ^ 52 + r % 2 ^ 52) = a
  generalize r / 2 ^ 52 - 1 - 1 + 64 = k
  rw [Nat.pow_succ, Nat.mul_comm 2, Nat.mul_assoc]
theorem R_top : R ((2 ^ 53 - 1) * 2 ^ 2109 + 2 ^ 117) < inf := by decide +kernel
theorem V_top : V (inf - 1) = (2 ^ 53 - 1) * 2 ^ 2109 := by decide +kernel
theorem V_53 : V (2 ^ 53) = 2 ^ 117 := by decide +kernel
theorem abs_val (x : Nat) : (val x).natAbs = V (rung x) := by
  unfold val
  split <;> omega
theorem both_great (x y : Nat) (hx : fin x) (hy : fin y) (h : inf ≤ R (val x + val y).natAbs) : 2 ^ 53 ≤ rung x ∧ 2 ^ 53 ≤ rung y := by
  have key : ∀ a b : Nat, a < inf → b < inf → inf ≤ R (V a + V b) → 2 ^ 53 ≤ a := by
    intro a b ha hb hR
    rcases Nat.lt_or_ge a (2 ^ 53) with g | g
    · exfalso
      have h1 := V_mono (Nat.le_of_lt g)
      have h2 : V b ≤ V (inf - 1) := V_mono (by unfold inf at *; omega)
      rw [V_53] at h1
      rw [V_top] at h2
      have h3 := R_mono (show V a + V b ≤ (2 ^ 53 - 1) * 2 ^ 2109 + 2 ^ 117 by rw [Nat.add_comm]; exact Nat.add_le_add h2 h1)
      have h4 := R_top
      exact absurd (Nat.lt_of_le_of_lt (Nat.le_trans hR h3) h4) (Nat.lt_irrefl _)
    · exact g
  have hab : (val x + val y).natAbs ≤ V (rung x) + V (rung y) := by
    have a := abs_val x
    have b := abs_val y
    omega
  have hR := Nat.le_trans h (R_mono hab)
  exact ⟨key _ _ hx hy hR, key _ _ hy hx (by rw [Nat.add_comm]; exact hR)⟩
theorem half_exact (x : Nat) (hx : fin x) (h : 2 ^ 53 ≤ rung x) : 2 * rd (val x / 2) = val x := by
  have h2 := V_half (rung x) h
  unfold val
  by_cases hn : neg x = true
  · rw [if_pos hn]
    have e : (-(V (rung x) : Int)) / 2 = -(V (rung x - 2 ^ 52) : Int) := by omega
    rw [e]
    unfold rd
    by_cases g : (-(V (rung x - 2 ^ 52) : Int)) < 0
    · rw [if_pos g]
      have : (-(V (rung x - 2 ^ 52) : Int)).natAbs = V (rung x - 2 ^ 52) := by omega
      rw [this, R_V]
      omega
    · rw [if_neg g]
      have e0 : V (rung x - 2 ^ 52) = 0 := by omega
      have ev : V (rung x) = 0 := by omega
      rw [e0, ev]
      decide
  · rw [if_neg hn]
    have e : (V (rung x) : Int) / 2 = (V (rung x - 2 ^ 52) : Int) := by omega
    rw [e]
    unfold rd
    rw [if_neg (by omega), Int.natAbs_natCast, R_V]
    omega
theorem R_between (x y : Nat) (hx : fin x) (hy : fin y) (z : Int) (h1 : val x ≤ z) (h2 : z ≤ val y) : R z.natAbs < inf := by
  have a := abs_val x
  have b := abs_val y
  rcases Nat.le_total z.natAbs (V (rung x)) with g | g
  · have := R_mono g
    rw [R_V] at this
    exact Nat.lt_of_le_of_lt this hx
  · have g2 : z.natAbs ≤ V (rung y) ∨ z.natAbs ≤ V (rung x) := by omega
    rcases g2 with g2 | g2
    · have := R_mono g2
      rw [R_V] at this
      exact Nat.lt_of_le_of_lt this hy
    · have := R_mono g2
      rw [R_V] at this
      exact Nat.lt_of_le_of_lt this hx
/-- What both Means compute of two bits. -/
def mean (x y : Nat) : Option Nat :=
  (Ieee.double.add x y).bind fun s =>
    if rung s = inf ∧ rung x ≠ inf ∧ rung y ≠ inf then (Ieee.double.div x two).bind fun p => (Ieee.double.div y two).bind fun q => Ieee.double.add p q
    else Ieee.double.div s two
/-- It is between both. -/
theorem mean_fin (x y : Nat) (hx : fin x) (hy : fin y) (hxy : val x ≤ val y) : ∃ m, mean x y = some m ∧ fin m ∧ val x ≤ val m ∧ val m ≤ val y := by
  obtain ⟨s0, es, hs⟩ := add_fin x y hx hy
  unfold mean
  rw [es, Option.bind_some]
  rcases Nat.lt_or_ge (R (val x + val y).natAbs) inf with g | g
  · obtain ⟨f1, v1⟩ := wd_val s0 _ g hs
    obtain ⟨m0, em, hm⟩ := half_fin _ f1
    have a1 : 2 * val x ≤ rd (val x + val y) := by rw [← rd_two x]; exact rd_mono (by omega)
    have a2 : rd (val x + val y) ≤ 2 * val y := by rw [← rd_two y]; exact rd_mono (by omega)
    rw [v1] at em hm
    obtain ⟨f2, v2⟩ := wd_val m0 _ (R_between x y hx hy _ (by omega) (by omega)) hm
    refine ⟨_, by rw [if_neg (fun h => by have := f1; unfold fin at this; omega)]; exact em, f2, ?_, ?_⟩
    · rw [v2, ← rd_val x]; exact rd_mono (by rw [rd_val]; omega)
    · rw [v2, ← rd_val y]; exact rd_mono (by rw [rd_val]; omega)
  · have hri := wd_inf s0 _ g
    obtain ⟨gx, gy⟩ := both_great x y hx hy g
    obtain ⟨p0, ep, hp⟩ := half_fin x hx
    obtain ⟨q0, eq, hq⟩ := half_fin y hy
    have xe := half_exact x hx gx
    have ye := half_exact y hy gy
    have ax := abs_val x
    have ay := abs_val y
    have Rx : R (val x / 2).natAbs < inf := Nat.lt_of_le_of_lt (by have := R_mono (show (val x / 2).natAbs ≤ V (rung x) by omega); rwa [R_V] at this) hx
    have Ry : R (val y / 2).natAbs < inf := Nat.lt_of_le_of_lt (by have := R_mono (show (val y / 2).natAbs ≤ V (rung y) by omega); rwa [R_V] at this) hy
    obtain ⟨fp, vp⟩ := wd_val p0 _ Rx hp
    obtain ⟨fq, vq⟩ := wd_val q0 _ Ry hq
    obtain ⟨m0, em, hm⟩ := add_fin _ _ fp fq
    rw [vp, vq] at em hm
    obtain ⟨f2, v2⟩ := wd_val m0 _ (R_between x y hx hy _ (by omega) (by omega)) hm
    refine ⟨_, by rw [if_pos ⟨hri, by unfold fin at hx; omega, by unfold fin at hy; omega⟩, ep, Option.bind_some, eq, Option.bind_some]; exact em, f2, ?_, ?_⟩
    · rw [v2, ← rd_val x]; exact rd_mono (by rw [rd_val]; omega)
    · rw [v2, ← rd_val y]; exact rd_mono (by rw [rd_val]; omega)
/-- How two finite doubles stand. -/
theorem order_fin (x y : Nat) (hx : fin x) (hy : fin y) : Ieee.double.order x y = some (compare (val x) (val y)) := by
  obtain ⟨m, i, e1, i1, v1, _⟩ := read_fin x hx
  obtain ⟨n, j, e2, j1, v2, _⟩ := read_fin y hy
  unfold Ieee.Format.order
  rw [e1, e2]
  simp only [Ieee.Datum.order]
  obtain ⟨base, hbase⟩ : ∃ b, min i j = b := ⟨_, rfl⟩
  rw [hbase]
  have hb : -1138 ≤ base := by omega
  have h1 := signed_val (neg x) m i base hb (by omega)
  have h2 := signed_val (neg y) n j base hb (by omega)
  rw [v1] at h1
  rw [v2] at h2
  have hp : (0 : Int) < (2 ^ (base + 1138).toNat : Nat) := by have := Nat.two_pow_pos (base + 1138).toNat; omega
  have e3 : val x = Ieee.signed (neg x) m (i - base).toNat * (2 ^ (base + 1138).toNat : Nat) := h1.symm
  have e4 : val y = Ieee.signed (neg y) n (j - base).toNat * (2 ^ (base + 1138).toNat : Nat) := h2.symm
  rw [e3, e4]
  congr 1
  generalize Ieee.signed (neg x) m (i - base).toNat = a
  generalize Ieee.signed (neg y) n (j - base).toNat = b
  generalize ((2 ^ (base + 1138).toNat : Nat) : Int) = c at hp
  simp only [compare, compareOfLessAndEq]
  have l1 : a < b ↔ a * c < b * c := ⟨fun h => Int.mul_lt_mul_of_pos_right h hp, fun h => Int.lt_of_mul_lt_mul_right h (Int.le_of_lt hp)⟩
  have l2 : a = b ↔ a * c = b * c := ⟨fun h => by rw [h], fun h => Int.eq_of_mul_eq_mul_right (by omega) h⟩
  simp only [← l1, ← l2]
theorem sum_comm (a b : Ieee.Datum) : a.sum b = b.sum a := by
  cases a with
  | number s m i =>
    cases b with
    | number t n j =>
      simp only [Ieee.Datum.sum]
      rw [Int.min_comm, Int.add_comm, Bool.and_comm]
    | infinity t => rfl
    | nan t f => rfl
  | infinity s =>
    cases b with
    | number t n j => rfl
    | infinity t =>
      simp only [Ieee.Datum.sum]
      by_cases h : s = t
      · subst h; rfl
      · rw [if_neg h, if_neg (fun e => h e.symm)]
    | nan t f => rfl
  | nan s f =>
    cases b with
    | number t n j => rfl
    | infinity t => rfl
    | nan t f' => rfl
theorem add_comm (x y : Nat) : Ieee.double.add x y = Ieee.double.add y x := by
  unfold Ieee.Format.add
  rw [sum_comm]
end Go.Proofs.Ytljinegonoomcaa.Round
