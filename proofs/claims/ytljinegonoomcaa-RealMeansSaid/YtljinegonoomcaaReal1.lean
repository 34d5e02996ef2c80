/-
  Contracts: rank, the orders, what is no number; floating-point values are their bits.
-/
import Derived.Test.YtljinegonoomcaaWire2
import Derived.Lib.Hide
import Derived.Laws.Cover2
namespace Go.Proofs.Ytljinegonoomcaa.Real
open Go.RowKit Mem
set_option linter.unusedVariables false
set_option linter.unusedSimpArgs false

theorem bits64 (b : Nat) (w : World) : (callFunc 25 #[.float .f64 b]).run Try.prog w = .ok (.value (.int .u64 b)) w := by kernel_rfl
theorem frombits64 (n : Int) (w : World) : (callFunc 8 #[.int .u64 n]).run Try.prog w = .ok (.value (.float .f64 n.toNat)) w := by kernel_rfl
theorem bits32 (b : Nat) (w : World) : (callFunc 24 #[.float .f32 b]).run Try.prog w = .ok (.value (.int .u32 b)) w := by kernel_rfl
theorem frombits32 (n : Int) (w : World) : (callFunc 13 #[.int .u32 n]).run Try.prog w = .ok (.value (.float .f32 n.toNat)) w := by kernel_rfl

/-- What is no number. -/
def nanB (n : Nat) : Bool := decide (9218868437227405312 < n % 9223372036854775808)
def nanB32 (n : Nat) : Bool := decide (2139095040 < n % 2147483648)
theorem order_self (d : Ieee.Datum) : (d.order d == some .eq) = !d.isNaN := by
  cases d with
  | number s m i => simp [Ieee.Datum.order, Ieee.Datum.isNaN]
  | infinity s => simp [Ieee.Datum.order, Ieee.Datum.isNaN]
  | nan s t => simp [Ieee.Datum.order, Ieee.Datum.isNaN]
theorem isNaN_read (f : Ieee.Format) (n : Nat) (hb : f.binade ≤ f.infRung) : (f.read n).isNaN = decide (f.infRung < n % f.signWeight) := by
  unfold Ieee.Format.read
  dsimp only
  split
  · rename_i h; simp [Ieee.Datum.isNaN]; omega
  · split
    · rename_i h; simp [Ieee.Datum.isNaN]; omega
    · split
      · rename_i h; simp [Ieee.Datum.isNaN]; omega
      · rename_i h1 h2; simp [Ieee.Datum.isNaN]; omega
theorem self64 (n : Nat) : (FloatKind.f64.format.order n n == some .eq) = !nanB n := by
  show ((Ieee.double.read n).order (Ieee.double.read n) == some .eq) = _
  rw [order_self, isNaN_read _ _ (by decide)]
  rfl
theorem self32 (n : Nat) : (FloatKind.f32.format.order n n == some .eq) = !nanB32 n := by
  show ((Ieee.single.read n).order (Ieee.single.read n) == some .eq) = _
  rw [order_self, isNaN_read _ _ (by decide)]
  rfl
theorem ne64 (n : Nat) : (FloatKind.f64.format.order n n != some .eq) = nanB n := by
  rw [bne, self64, Bool.not_not]
theorem ne32 (n : Nat) : (FloatKind.f32.format.order n n != some .eq) = nanB32 n := by
  rw [bne, self32, Bool.not_not]

/-- A number that is greater for what comes later. -/
def rankN (n : Nat) : Nat := if nanB n then 18446744073709551615 else if n / 9223372036854775808 = 1 then 18446744073709551615 - n else n + 9223372036854775808
theorem not64 (n : Nat) (h : n < 18446744073709551616) : bits BinOp.xor IntKind.u64 IntKind.u64.max (n : Int) = ((18446744073709551615 - n : Nat) : Int) := by
  have := u64_xor_nat 18446744073709551615 n (by decide) h
  rw [show ((18446744073709551615 : Nat) : Int) = IntKind.u64.max from rfl] at this
  rw [this]
  congr 1
  apply Nat.eq_of_testBit_eq
  intro i
  rw [show 18446744073709551615 - n = 2 ^ 64 - (n + 1) from by omega, Nat.testBit_two_pow_sub_succ h, Nat.testBit_xor, show 18446744073709551615 = 2 ^ 64 - 1 from rfl, Nat.testBit_two_pow_sub_one]
  by_cases hi : i < 64
  · simp [hi]
  · simp [hi]; exact Nat.testBit_lt_two_pow (Nat.lt_of_lt_of_le h (show 18446744073709551616 ≤ 2 ^ i from Nat.pow_le_pow_right (n := 2) (by decide) (show 64 ≤ i by omega)))
theorem or63 (n : Nat) (h : n < 9223372036854775808) : bits BinOp.or IntKind.u64 (n : Int) 9223372036854775808 = ((n + 9223372036854775808 : Nat) : Int) := by
  have := u64_or_nat n 9223372036854775808 (by omega) (by decide)
  rw [show ((9223372036854775808 : Nat) : Int) = 9223372036854775808 from rfl] at this
  rw [this]
  congr 1
  have h2 := Nat.two_pow_add_eq_or_of_lt (i := 63) h 1
  rw [Nat.or_comm]
  rw [show 2 ^ 63 * 1 = 9223372036854775808 from by decide] at h2
  omega
set_option maxHeartbeats 400000 in
theorem rank (n : Nat) (w : World) (h : n < 18446744073709551616) : Calls Try.prog 27 #[.float .f64 n] w fun e w' => e = .returned (.int .u64 (rankN n : Nat)) ∧ w' = w := by
  have HL := Lib.hid h
  clear h
  have kb := bits64
  cases hq : nanB n with
  | true =>
    have HR := Lib.hid (show rankN n = 18446744073709551615 from by unfold rankN; rw [hq]; rfl)
    have hne := ne64 n
    rw [hq] at hne
    clear hq
    go_enter Try.func27, Try.ntmps27
    go_wp2_with fail
    go_ret
    rw [HR.out]
    exact ⟨rfl, rfl⟩
  | false =>
    have hne := ne64 n
    rw [hq] at hne
    by_cases hs : n / 9223372036854775808 = 1
    · have HR := Lib.hid (show rankN n = 18446744073709551615 - n from by unfold rankN; rw [hq, hs]; rfl)
      have hd : ((n : Int) / 9223372036854775808 == 1) = true := by simp; omega
      clear hq hs
      go_enter Try.func27, Try.ntmps27
      go_wp2_with fail
      go_ret
      rw [HR.out]
      exact ⟨congrArg (fun x => Ending.returned (.int .u64 x)) (not64 n HL.out), rfl⟩
    · have HR := Lib.hid (show rankN n = n + 9223372036854775808 from by unfold rankN; rw [hq, if_neg (by simp), if_neg hs])
      have hd : ((n : Int) / 9223372036854775808 == 1) = false := by simp; omega
      have HS := Lib.hid hs
      clear hq hs
      go_enter Try.func27, Try.ntmps27
      go_wp2_with fail
      go_ret
      rw [HR.out]
      exact ⟨congrArg (fun x => Ending.returned (.int .u64 x)) (or63 n (by have := HS.out; have := HL.out; omega)), rfl⟩

theorem isNaNu (n : Int) (w : World) : Calls Try.prog 33 #[.int .u64 n] w fun e w' => e = .returned (.bool false) ∧ w' = w := by
  go_enter Try.func33, Try.ntmps33
  go_wp2_with fail
  go_ret
  exact ⟨by simp, rfl⟩
def cmpF (x y : Nat) : Int := if x < y then -1 else if y < x then 1 else 0
theorem compare (x y : Nat) (w : World) : Calls Try.prog 26 #[.int .u64 x, .int .u64 y] w fun e w' => e = .returned (.int .i64 (cmpF x y)) ∧ w' = w := by
  rcases Nat.lt_trichotomy x y with h | h | h
  · have HR := Lib.hid (show cmpF x y = -1 from by unfold cmpF; rw [if_pos h])
    have h' : (x : Int) < (y : Int) := by omega
    clear h
    go_enter Try.func26, Try.ntmps26
    go_wp2_with fail
    refine (isNaNu _ _).mono ?_
    rintro e w1 ⟨rfl, rfl⟩
    go_wp2_with fail
    refine (isNaNu _ _).mono ?_
    rintro e w1 ⟨rfl, rfl⟩
    go_wp2_with fail
    go_ret
    rw [HR.out]
    exact ⟨rfl, rfl⟩
  · subst h
    have HR := Lib.hid (show cmpF x x = 0 from by unfold cmpF; rw [if_neg (Nat.lt_irrefl _), if_neg (Nat.lt_irrefl _)])
    go_enter Try.func26, Try.ntmps26
    go_wp2_with fail
    refine (isNaNu _ _).mono ?_
    rintro e w1 ⟨rfl, rfl⟩
    go_wp2_with fail
    refine (isNaNu _ _).mono ?_
    rintro e w1 ⟨rfl, rfl⟩
    go_wp2_with fail
    go_ret
    rw [HR.out]
    exact ⟨rfl, rfl⟩
  · have HR := Lib.hid (show cmpF x y = 1 from by unfold cmpF; rw [if_neg (by omega), if_pos h])
    have h' : (y : Int) < (x : Int) := by omega
    have h'' : ¬ (x : Int) < (y : Int) := by omega
    clear h
    go_enter Try.func26, Try.ntmps26
    go_wp2_with fail
    refine (isNaNu _ _).mono ?_
    rintro e w1 ⟨rfl, rfl⟩
    go_wp2_with fail
    refine (isNaNu _ _).mono ?_
    rintro e w1 ⟨rfl, rfl⟩
    go_wp2_with fail
    go_ret
    rw [HR.out]
    exact ⟨rfl, rfl⟩
def orderF (a b : Nat) : Int := cmpF (rankN a) (rankN b)
theorem order (a b : Nat) (w : World) (ha : a < 18446744073709551616) (hb : b < 18446744073709551616) : Calls Try.prog 9 #[.float .f64 a, .float .f64 b] w fun e w' => e = .returned (.int .i64 (orderF a b)) ∧ w' = w := by
  have HA := Lib.hid ha
  have HB := Lib.hid hb
  clear ha hb
  go_enter Try.func9, Try.ntmps9
  go_wp2_with fail
  refine (rank a _ HA.out).mono ?_
  rintro e w1 ⟨rfl, rfl⟩
  go_wp2_with fail
  refine (rank b _ HB.out).mono ?_
  rintro e w1 ⟨rfl, rfl⟩
  go_wp2_with fail
  refine (compare _ _ _).mono ?_
  rintro e w1 ⟨rfl, rfl⟩
  go_wp2_with fail
  go_ret
  exact ⟨rfl, rfl⟩

theorem and63 (n : Nat) (h : n < 18446744073709551616) : bits BinOp.and IntKind.u64 (n : Int) 9223372036854775807 = ((n % 9223372036854775808 : Nat) : Int) := by
  have := u64_and_nat n 9223372036854775807 h (by decide)
  rw [show ((9223372036854775807 : Nat) : Int) = 9223372036854775807 from rfl] at this
  rw [this, show 9223372036854775807 = 2 ^ 63 - 1 from rfl, Nat.and_two_pow_sub_one_eq_mod]
theorem nan (n : Nat) (b : Bool) (w : World) (h : n < 18446744073709551616) (hq : nanB n = b) : Calls Try.prog 17 #[.int .u64 n] w fun e w' => e = .returned (.bool b) ∧ w' = w := by
  obtain ⟨m, hm⟩ : ∃ m, n % 9223372036854775808 = m := ⟨_, rfl⟩
  have ha := and63 n h
  rw [hm] at ha
  have HQ := Lib.hid (show decide ((9218868437227405312 : Int) < (m : Int)) = b from by rw [← hq]; unfold nanB; rw [hm]; exact decide_eq_decide.2 (by omega))
  clear h hq hm
  go_enter Try.func17, Try.ntmps17
  go_wp2_with fail
  go_ret
  first | exact ⟨rfl, rfl⟩ | exact ⟨by rw [← HQ.out]; rfl, rfl⟩

def sgn (n : Nat) : Bool := decide (n / 9223372036854775808 = 1)
def refF (a b : Nat) : Int :=
  if nanB a || nanB b then (if nanB a && nanB b then 0 else if nanB a then 1 else -1)
  else if a = b then 0
  else if sgn a != sgn b then (if sgn a then -1 else 1)
  else if decide (a < b) != sgn a then -1 else 1
theorem sgn_int (n : Nat) (b : Bool) (h : sgn n = b) : ((n : Int) / 9223372036854775808 == 1) = b := by
  rw [← h]; unfold sgn
  rw [Bool.eq_iff_iff]; simp; omega
set_option maxHeartbeats 1600000 in
theorem refOrder (a b : Nat) (w : World) (ha : a < 18446744073709551616) (hb : b < 18446744073709551616) : Calls Try.prog 11 #[.float .f64 a, .float .f64 b] w fun e w' => e = .returned (.int .i64 (refF a b)) ∧ w' = w := by
  have HA := Lib.hid ha
  have HB := Lib.hid hb
  clear ha hb
  have kb := bits64
  cases hna : nanB a with
  | true =>
    cases hnb : nanB b with
    | true =>
      have HR := Lib.hid (show refF a b = 0 from by unfold refF; simp [hna, hnb])
      replace hna := Lib.hid hna
      replace hnb := Lib.hid hnb
      go_enter Try.func11, Try.ntmps11
      go_wp2_with (first | (with_reducible refine (nan a true _ HA.out hna.out).mono ?_; rintro e w1 ⟨rfl, rfl⟩) | (with_reducible refine (nan b true _ HB.out hnb.out).mono ?_; rintro e w1 ⟨rfl, rfl⟩))
      go_ret
      rw [HR.out]
      exact ⟨rfl, rfl⟩
    | false =>
      have HR := Lib.hid (show refF a b = 1 from by unfold refF; simp [hna, hnb])
      replace hna := Lib.hid hna
      replace hnb := Lib.hid hnb
      go_enter Try.func11, Try.ntmps11
      go_wp2_with (first | (with_reducible refine (nan a true _ HA.out hna.out).mono ?_; rintro e w1 ⟨rfl, rfl⟩) | (with_reducible refine (nan b false _ HB.out hnb.out).mono ?_; rintro e w1 ⟨rfl, rfl⟩))
      go_ret
      rw [HR.out]
      exact ⟨rfl, rfl⟩
  | false =>
    cases hnb : nanB b with
    | true =>
      have HR := Lib.hid (show refF a b = -1 from by unfold refF; simp [hna, hnb])
      replace hna := Lib.hid hna
      replace hnb := Lib.hid hnb
      go_enter Try.func11, Try.ntmps11
      go_wp2_with (first | (with_reducible refine (nan a false _ HA.out hna.out).mono ?_; rintro e w1 ⟨rfl, rfl⟩) | (with_reducible refine (nan b true _ HB.out hnb.out).mono ?_; rintro e w1 ⟨rfl, rfl⟩))
      go_ret
      rw [HR.out]
      exact ⟨rfl, rfl⟩
    | false =>
      by_cases he : a = b
      · subst he
        have HR := Lib.hid (show refF a a = 0 from by unfold refF; simp [hna])
        replace hna := Lib.hid hna
        clear hnb
        go_enter Try.func11, Try.ntmps11
        go_wp2_with (with_reducible refine (nan a false _ HA.out hna.out).mono ?_; rintro e w1 ⟨rfl, rfl⟩)
        go_ret
        rw [HR.out]
        exact ⟨rfl, rfl⟩
      · have he' : ((a : Int) == (b : Int)) = false := by simp; omega
        cases hsa : sgn a <;> cases hsb : sgn b <;> cases hlt : decide (a < b)
        all_goals
          obtain ⟨r, hr⟩ : ∃ r, refF a b = r := ⟨_, rfl⟩
          have HR := Lib.hid hr
          have hr2 := hr
          unfold refF at hr2
          simp only [hna, hnb, hsa, hsb, hlt, he] at hr2
          have HR2 := Lib.hid hr2
          have sa := sgn_int a _ hsa
          have sb := sgn_int b _ hsb
          have hlt' : decide ((a : Int) < (b : Int)) = decide (a < b) := decide_eq_decide.2 (by omega)
          rw [hlt] at hlt'
          have hna' := Lib.hid hna
          have hnb' := Lib.hid hnb
          clear hna hnb hsa hsb he hr hr2
          go_enter Try.func11, Try.ntmps11
          go_wp2_with (first | (with_reducible refine (nan a false _ HA.out hna'.out).mono ?_; rintro e w1 ⟨rfl, rfl⟩) | (with_reducible refine (nan b false _ HB.out hnb'.out).mono ?_; rintro e w1 ⟨rfl, rfl⟩))
          go_ret
          rw [HR.out]
          have := HR2.out
          simp at this
          exact ⟨by subst this; rfl, rfl⟩

theorem nan_rank (n : Nat) (h : nanB n = true) : rankN n = 18446744073709551615 := by unfold rankN; rw [h]; rfl
theorem rank_lt (n : Nat) (hn : n < 18446744073709551616) (h : nanB n = false) : rankN n < 18446744073709551615 := by
  unfold rankN
  rw [h]
  unfold nanB at h
  have := of_decide_eq_false h
  simp only [Bool.false_eq_true, if_false]
  split <;> omega
theorem ref_eq (a b : Nat) (ha : a < 18446744073709551616) (hb : b < 18446744073709551616) : refF a b = orderF a b := by
  unfold refF orderF
  cases hna : nanB a with
  | true =>
    cases hnb : nanB b with
    | true => rw [nan_rank a hna, nan_rank b hnb]; simp [cmpF]
    | false =>
      have := rank_lt b hb hnb
      rw [nan_rank a hna]
      have h2 : ¬ 18446744073709551615 < rankN b := by omega
      simp [cmpF, this, h2]
  | false =>
    have la := rank_lt a ha hna
    cases hnb : nanB b with
    | true => rw [nan_rank b hnb]; simp [cmpF, la]
    | false =>
      have ra : rankN a = if a / 9223372036854775808 = 1 then 18446744073709551615 - a else a + 9223372036854775808 := by unfold rankN; rw [hna]; simp
      have rb : rankN b = if b / 9223372036854775808 = 1 then 18446744073709551615 - b else b + 9223372036854775808 := by unfold rankN; rw [hnb]; simp
      rw [ra, rb]
      unfold cmpF sgn
      by_cases h1 : a / 9223372036854775808 = 1 <;> by_cases h2 : b / 9223372036854775808 = 1 <;> by_cases h3 : a = b <;> by_cases h4 : a < b <;> simp [h1, h2, h3, h4] <;> (repeat' split) <;> omega
theorem order_neg (a b : Nat) : orderF a b = - orderF b a := by
  unfold orderF cmpF
  generalize rankN a = x
  generalize rankN b = y
  (repeat' split) <;> omega
theorem order_refl (a : Nat) : orderF a a = 0 := by unfold orderF cmpF; simp
theorem order_trans (a b c : Nat) (h1 : orderF a b ≤ 0) (h2 : orderF b c ≤ 0) : orderF a c ≤ 0 := by
  unfold orderF cmpF at *
  generalize rankN a = x at *
  generalize rankN b = y at *
  generalize rankN c = z at *
  (repeat' split at h1) <;> (repeat' split at h2) <;> (repeat' split) <;> omega
/-- The same bits, or both no number. -/
def sameB (a b : Nat) : Bool := decide (a = b) || (nanB a && nanB b)
theorem order_zero (a b : Nat) (ha : a < 18446744073709551616) (hb : b < 18446744073709551616) : (orderF a b == 0) = sameB a b := by
  unfold sameB
  cases hna : nanB a with
  | true =>
    cases hnb : nanB b with
    | true => unfold orderF; rw [nan_rank a hna, nan_rank b hnb]; simp [cmpF]
    | false =>
      have := rank_lt b hb hnb
      have hne : a ≠ b := fun e => by rw [e, hnb] at hna; cases hna
      unfold orderF cmpF
      rw [nan_rank a hna, if_neg (by omega), if_pos this]
      simp [hne]
  | false =>
    have la := rank_lt a ha hna
    cases hnb : nanB b with
    | true =>
      have hne : a ≠ b := fun e => by rw [e, hnb] at hna; cases hna
      unfold orderF cmpF
      rw [nan_rank b hnb, if_pos la]
      simp [hne]
    | false =>
      have ra : rankN a = if a / 9223372036854775808 = 1 then 18446744073709551615 - a else a + 9223372036854775808 := by unfold rankN; rw [hna]; simp
      have rb : rankN b = if b / 9223372036854775808 = 1 then 18446744073709551615 - b else b + 9223372036854775808 := by unfold rankN; rw [hnb]; simp
      unfold orderF
      rw [ra, rb]
      unfold cmpF
      by_cases h3 : a = b
      · subst h3; simp
      · have hne : ∀ x y : Nat, x ≠ y → ((if x < y then (-1 : Int) else if y < x then 1 else 0) == 0) = false := by
          intro x y h
          split
          · rfl
          · split
            · rfl
            · omega
        rw [hne _ _ (by split <;> split <;> omega)]
        simp [h3]
set_option maxHeartbeats 1600000 in
theorem same (a b : Nat) (w : World) (ha : a < 18446744073709551616) (hb : b < 18446744073709551616) : Calls Try.prog 12 #[.float .f64 a, .float .f64 b] w fun e w' => e = .returned (.bool (sameB a b)) ∧ w' = w := by
  have HA := Lib.hid ha
  have HB := Lib.hid hb
  clear ha hb
  have kb := bits64
  cases he : ((a : Int) == (b : Int)) with
  | true =>
    have HR := Lib.hid (show sameB a b = true from by unfold sameB; rw [decide_eq_true (by simp at he; omega)]; rfl)
    go_enter Try.func12, Try.ntmps12
    go_wp2_with fail
    go_ret
    rw [HR.out]
    exact ⟨rfl, rfl⟩
  | false =>
    cases hna : nanB a <;> cases hnb : nanB b
    all_goals
      obtain ⟨r, hr⟩ : ∃ r, sameB a b = r := ⟨_, rfl⟩
      have HR := Lib.hid hr
      have hr2 := hr
      unfold sameB at hr2
      rw [decide_eq_false (by simp at he; omega), hna, hnb] at hr2
      have HR2 := Lib.hid hr2
      replace hna := Lib.hid hna
      replace hnb := Lib.hid hnb
      clear hr hr2
      go_enter Try.func12, Try.ntmps12
      go_wp2_with (first | (with_reducible refine (nan a _ _ HA.out hna.out).mono ?_; rintro e w1 ⟨rfl, rfl⟩) | (with_reducible refine (nan b _ _ HB.out hnb.out).mono ?_; rintro e w1 ⟨rfl, rfl⟩))
      go_ret
      rw [HR.out]
      have := HR2.out
      simp at this
      exact ⟨by subst this; rfl, rfl⟩
end Go.Proofs.Ytljinegonoomcaa.Real
