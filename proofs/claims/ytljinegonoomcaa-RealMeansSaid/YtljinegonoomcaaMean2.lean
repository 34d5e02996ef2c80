/-
  RealMeans: the walk.
-/
import Derived.Test.YtljinegonoomcaaMean1
namespace Go.Proofs.Ytljinegonoomcaa.Real
open Go.RowKit Mem Round
set_option linter.unusedVariables false
set_option linter.unusedSimpArgs false
theorem mean_comm (x y : Nat) : mean x y = mean y x := by
  unfold mean
  rw [add_comm x y]
  cases Ieee.double.add y x with
  | none => rfl
  | some s =>
    simp only [Option.bind_some]
    by_cases h : rung s = inf ∧ rung x ≠ inf ∧ rung y ≠ inf
    · rw [if_pos h, if_pos ⟨h.1, h.2.2, h.2.1⟩]
      cases Ieee.double.div x two with
      | none => cases Ieee.double.div y two <;> rfl
      | some p =>
        cases Ieee.double.div y two with
        | none => rfl
        | some q => simp only [Option.bind_some]; exact add_comm p q
    · rw [if_neg h, if_neg (fun h' => h ⟨h'.1, h'.2.2, h'.2.1⟩)]
theorem got_same {o : Option Nat} {m n : Nat} (h : Got o m) (h' : Got o n) : sameB m n = true := by
  unfold sameB
  cases o with
  | some b =>
    have e1 : m = b := h.2
    have e2 : n = b := h'.2
    rw [decide_eq_true (by omega)]
    rfl
  | none =>
    have e1 : nanB m = true := h.2
    have e2 : nanB n = true := h'.2
    rw [e1, e2]
    simp
theorem fin_nan {x : Nat} (h : fin x) : nanB x = false := by
  unfold nanB
  rw [decide_eq_false_iff_not]
  unfold fin rung inf at h
  omega
theorem rank_val (a b : Nat) (ha : a < 18446744073709551616) (hb : b < 18446744073709551616) (fa : fin a) (fb : fin b) (h : rankN a ≤ rankN b) : val a ≤ val b := by
  unfold rankN at h
  rw [fin_nan fa, fin_nan fb] at h
  simp only [if_false, Bool.false_eq_true] at h
  have key : ∀ z : Nat, z < 18446744073709551616 → (z / 9223372036854775808 = 1 ∧ neg z = true ∧ rung z = z - 9223372036854775808 ∧ 9223372036854775808 ≤ z) ∨ (z / 9223372036854775808 ≠ 1 ∧ neg z = false ∧ rung z = z ∧ z < 9223372036854775808) := by
    intro z hz
    by_cases g : z < 9223372036854775808
    · right
      refine ⟨by omega, ?_, Nat.mod_eq_of_lt g, g⟩
      unfold neg
      rw [Nat.div_eq_of_lt g]
      rfl
    · left
      have e : z / 9223372036854775808 = 1 := by omega
      refine ⟨e, ?_, by unfold rung; omega, by omega⟩
      unfold neg
      rw [e]
      rfl
  unfold val
  rcases key a ha with ⟨a1, a2, a3, a4⟩ | ⟨a1, a2, a3, a4⟩ <;> rcases key b hb with ⟨b1, b2, b3, b4⟩ | ⟨b1, b2, b3, b4⟩
  · rw [if_pos a1, if_pos b1] at h
    rw [a2, b2, if_pos rfl, if_pos rfl]
    have := V_mono (show rung b ≤ rung a by omega)
    omega
  · rw [a2, b2, if_pos rfl, if_neg (by decide)]
    omega
  · rw [if_neg a1, if_pos b1] at h
    omega
  · rw [if_neg a1, if_neg b1] at h
    rw [a2, b2, if_neg (by decide), if_neg (by decide)]
    have := V_mono (show rung a ≤ rung b by omega)
    omega
theorem order_pos (a b : Nat) (ha : a < 18446744073709551616) (hb : b < 18446744073709551616) (fa : fin a) (fb : fin b) : (0 < orderF a b → val b ≤ val a) ∧ (¬ 0 < orderF a b → val a ≤ val b) := by
  unfold orderF cmpF
  constructor
  · intro h
    refine rank_val b a hb ha fb fa ?_
    split at h
    · omega
    · split at h
      · omega
      · omega
  · intro h
    refine rank_val a b ha hb fa fb ?_
    split at h
    · omega
    · split at h
      · omega
      · omega
theorem ge_of {m l : Nat} (fm : fin m) (fl : fin l) (h : val l ≤ val m) : (FloatKind.f64.format.order m l == some .gt || FloatKind.f64.format.order m l == some .eq) = true := by
  show (Ieee.double.order m l == some .gt || Ieee.double.order m l == some .eq) = true
  rw [order_fin m l fm fl]
  rcases Int.lt_or_eq_of_le h with g | g
  · have h1 : ¬ val m < val l := by omega
    have h2 : ¬ val m = val l := by omega
    simp [Ord.compare, compareOfLessAndEq, h1, h2]
  · simp [Ord.compare, compareOfLessAndEq, g]
theorem le_of {m l : Nat} (fm : fin m) (fl : fin l) (h : val m ≤ val l) : (FloatKind.f64.format.order m l == some .lt || FloatKind.f64.format.order m l == some .eq) = true := by
  show (Ieee.double.order m l == some .lt || Ieee.double.order m l == some .eq) = true
  rw [order_fin m l fm fl]
  rcases Int.lt_or_eq_of_le h with g | g
  · simp [Ord.compare, compareOfLessAndEq, g]
  · simp [Ord.compare, compareOfLessAndEq, g]
set_option maxRecDepth 100000 in
theorem meansL (a b : Int) (w : World) (ha : 0 ≤ a ∧ a ≤ 18446744073709551615) (hb : 0 ≤ b ∧ b ≤ 18446744073709551615) : Calls Try.prog 6 #[.int .u64 a, .int .u64 b] w fun e w' => e = .returned (.bool true) ∧ Below w.heap.size w w' := by
  obtain ⟨x, rfl⟩ := Int.eq_ofNat_of_zero_le ha.1
  obtain ⟨y, rfl⟩ := Int.eq_ofNat_of_zero_le hb.1
  have hx : x < 18446744073709551616 := by omega
  have hy : y < 18446744073709551616 := by omega
  have kf := frombits64
  have PM1 := Lib.hid (fun u => mean18 x y u hx hy)
  have PM2 := Lib.hid (fun u => mean19 x y u hx hy)
  have PM3 := Lib.hid (fun u => mean18 y x u hy hx)
  have PA := Lib.hid (fun u => answers u)
  have PS := Lib.hid (fun m n (hm : m < 18446744073709551616) (hn : n < 18446744073709551616) (h : sameB m n = true) u => by have := same m n u hm hn; rwa [h] at this)
  have HC := Lib.hid (mean_comm y x)
  have ax := and63 x hx
  have ay := and63 y hy
  rw [show x % 9223372036854775808 = rung x from rfl] at ax
  rw [show y % 9223372036854775808 = rung y from rfl] at ay
  obtain ⟨d, hd⟩ : ∃ d, orderF x y = d := ⟨_, rfl⟩
  have PO := Lib.hid (fun u => by have := order x y u hx hy; rwa [hd] at this)
  have HO := Lib.hid (fun fa fb => by have := order_pos x y hx hy fa fb; rwa [hd] at this)
  have HM := Lib.hid (And.intro (mean_fin x y) (mean_fin y x))
  clear ha hb hx hy hd
  go_enter Try.func6, Try.ntmps6
  go_upto_region 6 with (first
    | (go_at_call 18; have _t := PM1; clear _t; go_must (refine (PM1.out _).mono ?_; rintro e w1 ⟨m, rfl, hm, hb1⟩; have HM1 := Lib.hid hm; clear PM1 hm))
    | (go_at_call 10; go_must (refine (PA.out _).mono ?_; rintro e w2 ⟨rfl, hb2⟩; have hbl2 := hb1.trans (hb2.mono hb1.size); clear hb1 hb2))
    | (go_at_call 19; go_must (refine (PM2.out _).mono ?_; rintro e w3 ⟨n, rfl, hn, hb3⟩; have hbl3 := hbl2.trans (hb3.mono hbl2.size); have P1 := Lib.hid (PS.out m n HM1.out.1 hn.1 (got_same HM1.out hn)); clear hb3 hbl2 hn))
    | (go_at_call 12; have _t := P1; clear _t; go_must (refine (P1.out _).mono ?_; rintro e w4 ⟨rfl, rfl⟩; clear P1))
    | (go_at_call 18; go_must (refine (PM3.out _).mono ?_; rintro e w5 ⟨k, rfl, hk, hb5⟩; have hbl5 := hbl3.trans (hb5.mono hbl3.size); have P2 := Lib.hid (PS.out m k HM1.out.1 hk.1 (got_same HM1.out (by have := hk; rwa [HC.out] at this))); clear hb5 hbl3 hk))
    | (go_at_call 12; go_must (refine (P2.out _).mono ?_; rintro e w6 ⟨rfl, rfl⟩; clear P2)))
  obtain ⟨rx, hrx⟩ : ∃ r, rung x = r := ⟨_, rfl⟩
  obtain ⟨ry, hry⟩ : ∃ r, rung y = r := ⟨_, rfl⟩
  have HRX := Lib.hid hrx
  have HRY := Lib.hid hry
  rw [hrx] at ax
  rw [hry] at ay
  clear hrx hry
  by_cases h1 : inf ≤ rx
  · have h1z : (9218868437227405312 : Int) ≤ rx := by unfold inf at h1; omega
    clear h1
    go_wp2_with fail
    go_ret
    exact ⟨rfl, hbl5⟩
  have h1z : ¬ (9218868437227405312 : Int) ≤ rx := by unfold inf at h1; omega
  by_cases h2 : inf ≤ ry
  · have h2z : (9218868437227405312 : Int) ≤ ry := by unfold inf at h2; omega
    clear h1 h2
    go_wp2_with fail
    go_ret
    exact ⟨rfl, hbl5⟩
  have h2z : ¬ (9218868437227405312 : Int) ≤ ry := by unfold inf at h2; omega
  have fx : fin x := by unfold fin; rw [HRX.out]; omega
  have fy : fin y := by unfold fin; rw [HRY.out]; omega
  have hgot := HM1.out
  clear h1 h2
  by_cases hd : 0 < d
  · have hv := (HO.out fx fy).1 hd
    obtain ⟨m0, em, fm, b1, b2⟩ := HM.out.2 fy fx hv
    rw [← HC.out, em] at hgot
    obtain rfl : m = m0 := hgot.2
    have g1 := ge_of fm fy b1
    have g2 := le_of fm fx b2
    have hdb : decide (0 < d) = true := decide_eq_true hd
    clear hgot hv em b1 b2
    go_wp2_with (go_at_call 9; go_must (refine (PO.out _).mono ?_; rintro e w7 ⟨rfl, rfl⟩))
    go_ret
    exact ⟨rfl, hbl5⟩
  · have hv := (HO.out fx fy).2 (by omega)
    obtain ⟨m0, em, fm, b1, b2⟩ := HM.out.1 fx fy hv
    rw [em] at hgot
    obtain rfl : m = m0 := hgot.2
    have g1 := ge_of fm fx b1
    have g2 := le_of fm fy b2
    have hdb : decide (0 < d) = false := decide_eq_false hd
    clear hgot hv em b1 b2
    go_wp2_with (go_at_call 9; go_must (refine (PO.out _).mono ?_; rintro e w7 ⟨rfl, rfl⟩))
    go_ret
    exact ⟨rfl, hbl5⟩
end Go.Proofs.Ytljinegonoomcaa.Real
