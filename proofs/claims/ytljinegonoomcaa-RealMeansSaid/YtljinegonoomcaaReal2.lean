/-
  Contracts: real.Put32, real.Put64, answers; the walks of RealOrders, RealSorts, RealPuts.
-/
import Derived.Test.YtljinegonoomcaaReal1
import Derived.Test.YtljinegonoomcaaPrps
namespace Go.Proofs.Ytljinegonoomcaa.Real
open Go.RowKit Mem Wire
set_option linter.unusedVariables false
set_option linter.unusedSimpArgs false

theorem string33 {w : World} {v : Value} {xs : List Int} (hr : Reads .u8 w v xs) : (convert 33 9 v).run Try.prog w = .ok (.string (strOfNums xs)) w :=
  run_string 33 9 5 Try.underlying33 Try.underlying5 Try.underlying9 hr
theorem reads_nil (w : World) : Reads .u8 w (.slice none 0 0) [] := ⟨none, 0, rfl, Nat.le_refl _, Nat.zero_le _, fun _ => rfl, fun h => absurd h (Nat.lt_irrefl _)⟩
/-- The bytes of a value: of what is no number, those of one such. -/
def bytes32 (n : Nat) : List Int := putted [] (if nanB32 n then 2143289344 else (n : Int)) 4
def bytes64 (n : Nat) : List Int := putted [] (if nanB n then 9221120237041090560 else (n : Int)) 8
theorem put32 (n : Nat) (w : World) (h : n < 4294967296) : Calls Try.prog 14 #[.float .f32 n] w fun e w' => ∃ v, e = .returned v ∧ Row .u8 5 w.heap.size w' v (bytes32 n) ∧ Below w.heap.size w w' := by
  have kb := bits32
  have hne := ne32 n
  cases hq : nanB32 n with
  | true =>
    have HR := Lib.hid (show bytes32 n = putted [] 2143289344 4 from by unfold bytes32; rw [hq]; rfl)
    rw [hq] at hne
    clear hq
    go_enter Try.func14, Try.ntmps14
    go_wp2_with fail
    refine (put _ [] 2143289344 4 _ (by omega) (reads_nil _) (by simp)).mono ?_
    rintro e w1 ⟨v, rfl, hr, hb⟩
    go_wp2_with fail
    go_ret
    rw [HR.out]
    exact ⟨_, rfl, hr, hb⟩
  | false =>
    have HR := Lib.hid (show bytes32 n = putted [] n 4 from by unfold bytes32; rw [hq]; rfl)
    rw [hq] at hne
    clear hq
    go_enter Try.func14, Try.ntmps14
    go_wp2_with fail
    refine (put _ [] n 4 _ (by omega) (reads_nil _) (by simp)).mono ?_
    rintro e w1 ⟨v, rfl, hr, hb⟩
    go_wp2_with fail
    go_ret
    rw [HR.out]
    exact ⟨_, rfl, hr, hb⟩
theorem isNaN (n : Nat) (b : Bool) (w : World) (hq : nanB n = b) : Calls Try.prog 29 #[.float .f64 n] w fun e w' => e = .returned (.bool b) ∧ w' = w := by
  have hne := ne64 n
  rw [hq] at hne
  clear hq
  go_enter Try.func29, Try.ntmps29
  go_wp2_with fail
  go_ret
  exact ⟨rfl, rfl⟩
theorem put64 (n : Nat) (w : World) (h : n < 18446744073709551616) : Calls Try.prog 15 #[.float .f64 n] w fun e w' => ∃ v, e = .returned v ∧ Row .u8 5 w.heap.size w' v (bytes64 n) ∧ Below w.heap.size w w' := by
  have kb := bits64
  have HL := Lib.hid h
  clear h
  cases hq : nanB n with
  | true =>
    have HR := Lib.hid (show bytes64 n = putted [] 9221120237041090560 8 from by unfold bytes64; rw [hq]; rfl)
    replace hq := Lib.hid hq
    go_enter Try.func15, Try.ntmps15
    go_wp2_with fail
    refine (isNaN n true _ hq.out).mono ?_
    rintro e w1 ⟨rfl, rfl⟩
    go_wp2_with fail
    refine (put _ [] 9221120237041090560 8 _ (by omega) (reads_nil _) (by simp)).mono ?_
    rintro e w1 ⟨v, rfl, hr, hb⟩
    go_wp2_with fail
    go_ret
    rw [HR.out]
    exact ⟨_, rfl, hr, hb⟩
  | false =>
    have HR := Lib.hid (show bytes64 n = putted [] n 8 from by unfold bytes64; rw [hq]; rfl)
    replace hq := Lib.hid hq
    go_enter Try.func15, Try.ntmps15
    go_wp2_with fail
    refine (isNaN n false _ hq.out).mono ?_
    rintro e w1 ⟨rfl, rfl⟩
    go_wp2_with fail
    refine (put _ [] n 8 _ (by have := HL.out; omega) (reads_nil _) (by simp)).mono ?_
    rintro e w1 ⟨v, rfl, hr, hb⟩
    go_wp2_with fail
    go_ret
    rw [HR.out]
    exact ⟨_, rfl, hr, hb⟩

theorem bytes_one : (strOfNums (bytes32 1065353216)).toList = [63, 128, 0, 0] := by decide +kernel
theorem order_one : orderF 4607182418800017408 4611686018427387904 = -1 := by decide +kernel
theorem answers (w : World) : Calls Try.prog 10 #[] w fun e w' => e = .returned (.bool true) ∧ Below w.heap.size w w' := by
  go_enter Try.func10, Try.ntmps10
  go_wp2_with fail
  refine (put32 1065353216 _ (by decide)).mono ?_
  rintro e w1 ⟨v, rfl, hr, hb⟩
  have hs := string33 hr.reads
  have hd := bytes_one
  clear hr
  generalize strOfNums (bytes32 1065353216) = s at hs hd
  go_wp2_with fail
  refine (order 4607182418800017408 4611686018427387904 _ (by decide) (by decide)).mono ?_
  rintro e w2 ⟨rfl, rfl⟩
  rw [order_one]
  go_wp2_with fail
  go_ret
  exact ⟨rfl, hb⟩

theorem order_bd (a b : Nat) : -1 ≤ orderF a b ∧ orderF a b ≤ 1 := by unfold orderF cmpF; (repeat' split) <;> omega
set_option maxHeartbeats 400000 in
theorem orders (a b : Int) (w : World) (ha : 0 ≤ a ∧ a ≤ 18446744073709551615) (hb : 0 ≤ b ∧ b ≤ 18446744073709551615) : Calls Try.prog 3 #[.int .u64 a, .int .u64 b] w fun e w' => e = .returned (.bool true) ∧ Below w.heap.size w w' := by
  obtain ⟨x, rfl⟩ := Int.eq_ofNat_of_zero_le ha.1
  obtain ⟨y, rfl⟩ := Int.eq_ofNat_of_zero_le hb.1
  have hx : x < 18446744073709551616 := by omega
  have hy : y < 18446744073709551616 := by omega
  obtain ⟨m, hm⟩ : ∃ m, orderF y x = m := ⟨_, rfl⟩
  have hbd := order_bd y x
  have hneg := order_neg x y
  rw [hm] at hbd hneg
  have O1 := Lib.hid (fun w => by have := order x y w hx hy; rwa [hneg] at this)
  have O2 := Lib.hid (fun w => by have := order y x w hy hx; rwa [hm] at this)
  have O3 := Lib.hid (fun w => by have := refOrder x y w hx hy; rwa [ref_eq x y hx hy, hneg] at this)
  have kf := frombits64
  clear hm hneg ha hb hx hy
  go_enter Try.func3, Try.ntmps3
  go_wp2_with fail
  refine (O1.out _).mono ?_
  rintro e w1 ⟨rfl, rfl⟩
  go_wp2_with fail
  refine (answers _).mono ?_
  rintro e w2 ⟨rfl, b2⟩
  go_wp2_with fail
  refine (O3.out _).mono ?_
  rintro e w3 ⟨rfl, rfl⟩
  go_wp2_with fail
  refine (O2.out _).mono ?_
  rintro e w4 ⟨rfl, rfl⟩
  go_wp2_with fail
  go_ret
  exact ⟨by first | rfl | simp, b2⟩

set_option maxHeartbeats 400000 in
theorem sorts (a b c : Int) (w : World) (ha : 0 ≤ a ∧ a ≤ 18446744073709551615) (hb : 0 ≤ b ∧ b ≤ 18446744073709551615) (hc : 0 ≤ c ∧ c ≤ 18446744073709551615) : Calls Try.prog 4 #[.int .u64 a, .int .u64 b, .int .u64 c] w fun e w' => e = .returned (.bool true) ∧ Below w.heap.size w w' := by
  obtain ⟨x, rfl⟩ := Int.eq_ofNat_of_zero_le ha.1
  obtain ⟨y, rfl⟩ := Int.eq_ofNat_of_zero_le hb.1
  obtain ⟨z, rfl⟩ := Int.eq_ofNat_of_zero_le hc.1
  have hx : x < 18446744073709551616 := by omega
  have hy : y < 18446744073709551616 := by omega
  have hz : z < 18446744073709551616 := by omega
  obtain ⟨p, hp⟩ : ∃ p, orderF x y = p := ⟨_, rfl⟩
  obtain ⟨q, hq⟩ : ∃ q, orderF y z = q := ⟨_, rfl⟩
  obtain ⟨r, hr⟩ : ∃ r, orderF x z = r := ⟨_, rfl⟩
  have htr := order_trans x y z
  rw [hp, hq, hr] at htr
  have hsm := order_zero x y hx hy
  rw [hp] at hsm
  have O0 := Lib.hid (fun w => by have := order x x w hx hx; rwa [order_refl] at this)
  have O1 := Lib.hid (fun w => by have := order x y w hx hy; rwa [hp] at this)
  have O2 := Lib.hid (fun w => by have := order y z w hy hz; rwa [hq] at this)
  have O3 := Lib.hid (fun w => by have := order x z w hx hz; rwa [hr] at this)
  have O4 := Lib.hid (fun w => by have := same x y w hx hy; rwa [← hsm] at this)
  have kf := frombits64
  have cs : (¬ p ≤ 0) ∨ (p ≤ 0 ∧ ¬ q ≤ 0) ∨ (p ≤ 0 ∧ q ≤ 0 ∧ ¬ 0 < r) := by
    by_cases h1 : p ≤ 0
    · by_cases h2 : q ≤ 0
      · have := htr h1 h2; exact .inr (.inr ⟨h1, h2, by omega⟩)
      · exact .inr (.inl ⟨h1, h2⟩)
    · exact .inl h1
  clear hp hq hr htr hsm ha hb hc hx hy hz
  rcases cs with h1 | ⟨h1, h2⟩ | ⟨h1, h2, h3⟩
  all_goals
    go_enter Try.func4, Try.ntmps4
    go_wp2_with fail
    refine (answers _).mono ?_
    rintro e w2 ⟨rfl, b2⟩
    go_wp2_with (first
      | (with_reducible refine (O0.out _).mono ?_; rintro e w3 ⟨rfl, rfl⟩)
      | (with_reducible refine (O1.out _).mono ?_; rintro e w3 ⟨rfl, rfl⟩)
      | (with_reducible refine (O2.out _).mono ?_; rintro e w3 ⟨rfl, rfl⟩)
      | (with_reducible refine (O3.out _).mono ?_; rintro e w3 ⟨rfl, rfl⟩)
      | (with_reducible refine (O4.out _).mono ?_; rintro e w3 ⟨rfl, rfl⟩))
    go_ret
    exact ⟨by first | rfl | simp, b2⟩

theorem and31 (n : Nat) (h : n < 4294967296) : bits BinOp.and IntKind.u32 (n : Int) 2147483647 = ((n % 2147483648 : Nat) : Int) := by
  have := u32_and_nat n 2147483647 h (by decide)
  rw [show ((2147483647 : Nat) : Int) = 2147483647 from rfl] at this
  rw [this, show 2147483647 = 2 ^ 31 - 1 from rfl, Nat.and_two_pow_sub_one_eq_mod]
set_option maxHeartbeats 400000 in
theorem putsL00 (x y : Nat) (w : World) (hx : x < 4294967296) (hy : y < 18446744073709551616) (h1 : nanB32 x = false) (h2 : nanB y = false) : Calls Try.prog 5 #[.int .u32 (x : Int), .int .u64 (y : Int)] w fun e w' => e = .returned (.bool true) ∧ Below w.heap.size w w' := by
  have HX := Lib.hid hx
  have HY := Lib.hid hy
  have HB := Lib.hid (show (0 : Int) ≤ (y : Int) ∧ (y : Int) ≤ 18446744073709551615 by omega)
  obtain ⟨m, hm⟩ : ∃ m, x % 2147483648 = m := ⟨_, rfl⟩
  have hand := and31 x hx
  have hxi : (x : Int) ≤ 4294967295 := by omega
  rw [hm] at hand
  have hgt : decide ((2139095040 : Int) < (m : Int)) = nanB32 x := by unfold nanB32; rw [hm]; exact decide_eq_decide.2 (by omega)
  have kf := frombits64
  have kf2 := frombits32
  clear hm hx hy
  rw [h1] at hgt
  obtain ⟨B1, hB1⟩ : ∃ B1, bytes32 x = B1 := ⟨_, rfl⟩
  obtain ⟨B2, hB2⟩ : ∃ B2, bytes64 y = B2 := ⟨_, rfl⟩
  have HB1 := Lib.hid hB1
  have HB2 := Lib.hid hB2
  have hq1 := hB1
  have hq2 := hB2
  unfold bytes32 at hq1
  unfold bytes64 at hq2
  simp only [h1, if_true, if_false, Bool.false_eq_true] at hq1
  simp only [h2, if_true, if_false, Bool.false_eq_true] at hq2
  have HQ1 := Lib.hid hq1
  have HQ2 := Lib.hid hq2
  replace h2 := Lib.hid h2
  clear hB1 hB2 hq1 hq2 h1
  go_enter Try.func5, Try.ntmps5
  go_wp2_with fail
  refine (put32 x _ HX.out).mono ?_
  rintro e w1 ⟨v1, rfl, r1, b1⟩
  rw [HB1.out] at r1
  replace r1 := r1.reads
  go_wp2_with fail
  refine (put64 y _ HY.out).mono ?_
  rintro e w2 ⟨v2, rfl, r2, b2⟩
  rw [HB2.out] at r2
  replace r2 := r2.reads
  replace r1 := r1.below b2
  replace b2 := Frame.ext b1 b2
  clear b1
  go_wp2_with fail
  refine (refPut _ [] x 4 _ (by have := HX.out; omega) (reads_nil _) (by simp)).mono ?_
  rintro e w3 ⟨v3, rfl, r3, b3⟩
  replace r3 := r3.reads
  replace r1 := r1.below b3
  replace r2 := r2.below b3
  replace b3 := Frame.ext b2 b3
  clear b2
  go_wp2_with fail
  refine (refPut _ [] y 8 _ HB.out (reads_nil _) (by simp)).mono ?_
  rintro e w4 ⟨v4, rfl, r4, b4⟩
  replace r4 := r4.reads
  replace r1 := r1.below b4
  replace r2 := r2.below b4
  replace r3 := r3.below b4
  replace b4 := Frame.ext b3 b4
  clear b3
  go_wp2_with fail
  refine (nan y false _ HY.out h2.out).mono ?_
  rintro e w6 ⟨rfl, rfl⟩
  go_wp2_with fail
  refine (answers _).mono ?_
  rintro e w8 ⟨rfl, b8⟩
  replace r1 := r1.below b8
  replace r2 := r2.below b8
  replace r3 := r3.below b8
  replace r4 := r4.below b8
  replace b4 := Frame.ext b4 b8
  clear b8
  rw [HQ1.out] at r3
  rw [HQ2.out] at r4
  have s1 := string33 r1
  have s2 := string33 r2
  have s3 := string33 r3
  have s4 := string33 r4
  clear r1 r2 r3 r4
  generalize strOfNums B1 = t1 at s1 s3
  generalize strOfNums B2 = t2 at s2 s4
  go_wp2_with fail
  go_ret
  exact ⟨rfl, b4⟩

set_option maxHeartbeats 400000 in
theorem putsL01 (x y : Nat) (w : World) (hx : x < 4294967296) (hy : y < 18446744073709551616) (h1 : nanB32 x = false) (h2 : nanB y = true) : Calls Try.prog 5 #[.int .u32 (x : Int), .int .u64 (y : Int)] w fun e w' => e = .returned (.bool true) ∧ Below w.heap.size w w' := by
  have HX := Lib.hid hx
  have HY := Lib.hid hy
  have HB := Lib.hid (show (0 : Int) ≤ (y : Int) ∧ (y : Int) ≤ 18446744073709551615 by omega)
  obtain ⟨m, hm⟩ : ∃ m, x % 2147483648 = m := ⟨_, rfl⟩
  have hand := and31 x hx
  have hxi : (x : Int) ≤ 4294967295 := by omega
  rw [hm] at hand
  have hgt : decide ((2139095040 : Int) < (m : Int)) = nanB32 x := by unfold nanB32; rw [hm]; exact decide_eq_decide.2 (by omega)
  have kf := frombits64
  have kf2 := frombits32
  clear hm hx hy
  rw [h1] at hgt
  obtain ⟨B1, hB1⟩ : ∃ B1, bytes32 x = B1 := ⟨_, rfl⟩
  obtain ⟨B2, hB2⟩ : ∃ B2, bytes64 y = B2 := ⟨_, rfl⟩
  have HB1 := Lib.hid hB1
  have HB2 := Lib.hid hB2
  have hq1 := hB1
  have hq2 := hB2
  unfold bytes32 at hq1
  unfold bytes64 at hq2
  simp only [h1, if_true, if_false, Bool.false_eq_true] at hq1
  simp only [h2, if_true, if_false, Bool.false_eq_true] at hq2
  have HQ1 := Lib.hid hq1
  have HQ2 := Lib.hid hq2
  replace h2 := Lib.hid h2
  clear hB1 hB2 hq1 hq2 h1
  go_enter Try.func5, Try.ntmps5
  go_wp2_with fail
  refine (put32 x _ HX.out).mono ?_
  rintro e w1 ⟨v1, rfl, r1, b1⟩
  rw [HB1.out] at r1
  replace r1 := r1.reads
  go_wp2_with fail
  refine (put64 y _ HY.out).mono ?_
  rintro e w2 ⟨v2, rfl, r2, b2⟩
  rw [HB2.out] at r2
  replace r2 := r2.reads
  replace r1 := r1.below b2
  replace b2 := Frame.ext b1 b2
  clear b1
  go_wp2_with fail
  refine (refPut _ [] x 4 _ (by have := HX.out; omega) (reads_nil _) (by simp)).mono ?_
  rintro e w3 ⟨v3, rfl, r3, b3⟩
  replace r3 := r3.reads
  replace r1 := r1.below b3
  replace r2 := r2.below b3
  replace b3 := Frame.ext b2 b3
  clear b2
  go_wp2_with fail
  refine (refPut _ [] y 8 _ HB.out (reads_nil _) (by simp)).mono ?_
  rintro e w4 ⟨v4, rfl, r4, b4⟩
  replace r4 := r4.reads
  replace r1 := r1.below b4
  replace r2 := r2.below b4
  replace r3 := r3.below b4
  replace b4 := Frame.ext b3 b4
  clear b3
  go_wp2_with fail
  refine (nan y true _ HY.out h2.out).mono ?_
  rintro e w6 ⟨rfl, rfl⟩
  go_wp2_with fail
  refine (refPut _ [] 9221120237041090560 8 _ (by omega) (reads_nil _) (by simp)).mono ?_
  rintro e w7 ⟨v7, rfl, r7, b7⟩
  replace r7 := r7.reads
  replace r1 := r1.below b7
  replace r2 := r2.below b7
  replace r3 := r3.below b7
  replace b4 := Frame.ext b4 b7
  clear b7 r4
  go_wp2_with fail
  refine (answers _).mono ?_
  rintro e w8 ⟨rfl, b8⟩
  replace r1 := r1.below b8
  replace r2 := r2.below b8
  replace r3 := r3.below b8
  replace r7 := r7.below b8
  replace b4 := Frame.ext b4 b8
  clear b8
  rw [HQ1.out] at r3
  rw [HQ2.out] at r7
  have s1 := string33 r1
  have s2 := string33 r2
  have s3 := string33 r3
  have s4 := string33 r7
  clear r1 r2 r3 r7
  generalize strOfNums B1 = t1 at s1 s3
  generalize strOfNums B2 = t2 at s2 s4
  go_wp2_with fail
  go_ret
  exact ⟨rfl, b4⟩

set_option maxHeartbeats 400000 in
theorem putsL10 (x y : Nat) (w : World) (hx : x < 4294967296) (hy : y < 18446744073709551616) (h1 : nanB32 x = true) (h2 : nanB y = false) : Calls Try.prog 5 #[.int .u32 (x : Int), .int .u64 (y : Int)] w fun e w' => e = .returned (.bool true) ∧ Below w.heap.size w w' := by
  have HX := Lib.hid hx
  have HY := Lib.hid hy
  have HB := Lib.hid (show (0 : Int) ≤ (y : Int) ∧ (y : Int) ≤ 18446744073709551615 by omega)
  obtain ⟨m, hm⟩ : ∃ m, x % 2147483648 = m := ⟨_, rfl⟩
  have hand := and31 x hx
  have hxi : (x : Int) ≤ 4294967295 := by omega
  rw [hm] at hand
  have hgt : decide ((2139095040 : Int) < (m : Int)) = nanB32 x := by unfold nanB32; rw [hm]; exact decide_eq_decide.2 (by omega)
  have kf := frombits64
  have kf2 := frombits32
  clear hm hx hy
  rw [h1] at hgt
  obtain ⟨B1, hB1⟩ : ∃ B1, bytes32 x = B1 := ⟨_, rfl⟩
  obtain ⟨B2, hB2⟩ : ∃ B2, bytes64 y = B2 := ⟨_, rfl⟩
  have HB1 := Lib.hid hB1
  have HB2 := Lib.hid hB2
  have hq1 := hB1
  have hq2 := hB2
  unfold bytes32 at hq1
  unfold bytes64 at hq2
  simp only [h1, if_true, if_false, Bool.false_eq_true] at hq1
  simp only [h2, if_true, if_false, Bool.false_eq_true] at hq2
  have HQ1 := Lib.hid hq1
  have HQ2 := Lib.hid hq2
  replace h2 := Lib.hid h2
  clear hB1 hB2 hq1 hq2 h1
  go_enter Try.func5, Try.ntmps5
  go_wp2_with fail
  refine (put32 x _ HX.out).mono ?_
  rintro e w1 ⟨v1, rfl, r1, b1⟩
  rw [HB1.out] at r1
  replace r1 := r1.reads
  go_wp2_with fail
  refine (put64 y _ HY.out).mono ?_
  rintro e w2 ⟨v2, rfl, r2, b2⟩
  rw [HB2.out] at r2
  replace r2 := r2.reads
  replace r1 := r1.below b2
  replace b2 := Frame.ext b1 b2
  clear b1
  go_wp2_with fail
  refine (refPut _ [] x 4 _ (by have := HX.out; omega) (reads_nil _) (by simp)).mono ?_
  rintro e w3 ⟨v3, rfl, r3, b3⟩
  replace r3 := r3.reads
  replace r1 := r1.below b3
  replace r2 := r2.below b3
  replace b3 := Frame.ext b2 b3
  clear b2
  go_wp2_with fail
  refine (refPut _ [] y 8 _ HB.out (reads_nil _) (by simp)).mono ?_
  rintro e w4 ⟨v4, rfl, r4, b4⟩
  replace r4 := r4.reads
  replace r1 := r1.below b4
  replace r2 := r2.below b4
  replace r3 := r3.below b4
  replace b4 := Frame.ext b3 b4
  clear b3
  go_wp2_with fail
  refine (refPut _ [] 2143289344 4 _ (by omega) (reads_nil _) (by simp)).mono ?_
  rintro e w5 ⟨v5, rfl, r5, b5⟩
  replace r5 := r5.reads
  replace r1 := r1.below b5
  replace r2 := r2.below b5
  replace r4 := r4.below b5
  replace b4 := Frame.ext b4 b5
  clear b5 r3
  go_wp2_with fail
  refine (nan y false _ HY.out h2.out).mono ?_
  rintro e w6 ⟨rfl, rfl⟩
  go_wp2_with fail
  refine (answers _).mono ?_
  rintro e w8 ⟨rfl, b8⟩
  replace r1 := r1.below b8
  replace r2 := r2.below b8
  replace r5 := r5.below b8
  replace r4 := r4.below b8
  replace b4 := Frame.ext b4 b8
  clear b8
  rw [HQ1.out] at r5
  rw [HQ2.out] at r4
  have s1 := string33 r1
  have s2 := string33 r2
  have s3 := string33 r5
  have s4 := string33 r4
  clear r1 r2 r5 r4
  generalize strOfNums B1 = t1 at s1 s3
  generalize strOfNums B2 = t2 at s2 s4
  go_wp2_with fail
  go_ret
  exact ⟨rfl, b4⟩

set_option maxHeartbeats 400000 in
theorem putsL11 (x y : Nat) (w : World) (hx : x < 4294967296) (hy : y < 18446744073709551616) (h1 : nanB32 x = true) (h2 : nanB y = true) : Calls Try.prog 5 #[.int .u32 (x : Int), .int .u64 (y : Int)] w fun e w' => e = .returned (.bool true) ∧ Below w.heap.size w w' := by
  have HX := Lib.hid hx
  have HY := Lib.hid hy
  have HB := Lib.hid (show (0 : Int) ≤ (y : Int) ∧ (y : Int) ≤ 18446744073709551615 by omega)
  obtain ⟨m, hm⟩ : ∃ m, x % 2147483648 = m := ⟨_, rfl⟩
  have hand := and31 x hx
  have hxi : (x : Int) ≤ 4294967295 := by omega
  rw [hm] at hand
  have hgt : decide ((2139095040 : Int) < (m : Int)) = nanB32 x := by unfold nanB32; rw [hm]; exact decide_eq_decide.2 (by omega)
  have kf := frombits64
  have kf2 := frombits32
  clear hm hx hy
  rw [h1] at hgt
  obtain ⟨B1, hB1⟩ : ∃ B1, bytes32 x = B1 := ⟨_, rfl⟩
  obtain ⟨B2, hB2⟩ : ∃ B2, bytes64 y = B2 := ⟨_, rfl⟩
  have HB1 := Lib.hid hB1
  have HB2 := Lib.hid hB2
  have hq1 := hB1
  have hq2 := hB2
  unfold bytes32 at hq1
  unfold bytes64 at hq2
  simp only [h1, if_true, if_false, Bool.false_eq_true] at hq1
  simp only [h2, if_true, if_false, Bool.false_eq_true] at hq2
  have HQ1 := Lib.hid hq1
  have HQ2 := Lib.hid hq2
  replace h2 := Lib.hid h2
  clear hB1 hB2 hq1 hq2 h1
  go_enter Try.func5, Try.ntmps5
  go_wp2_with fail
  refine (put32 x _ HX.out).mono ?_
  rintro e w1 ⟨v1, rfl, r1, b1⟩
  rw [HB1.out] at r1
  replace r1 := r1.reads
  go_wp2_with fail
  refine (put64 y _ HY.out).mono ?_
  rintro e w2 ⟨v2, rfl, r2, b2⟩
  rw [HB2.out] at r2
  replace r2 := r2.reads
  replace r1 := r1.below b2
  replace b2 := Frame.ext b1 b2
  clear b1
  go_wp2_with fail
  refine (refPut _ [] x 4 _ (by have := HX.out; omega) (reads_nil _) (by simp)).mono ?_
  rintro e w3 ⟨v3, rfl, r3, b3⟩
  replace r3 := r3.reads
  replace r1 := r1.below b3
  replace r2 := r2.below b3
  replace b3 := Frame.ext b2 b3
  clear b2
  go_wp2_with fail
  refine (refPut _ [] y 8 _ HB.out (reads_nil _) (by simp)).mono ?_
  rintro e w4 ⟨v4, rfl, r4, b4⟩
  replace r4 := r4.reads
  replace r1 := r1.below b4
  replace r2 := r2.below b4
  replace r3 := r3.below b4
  replace b4 := Frame.ext b3 b4
  clear b3
  go_wp2_with fail
  refine (refPut _ [] 2143289344 4 _ (by omega) (reads_nil _) (by simp)).mono ?_
  rintro e w5 ⟨v5, rfl, r5, b5⟩
  replace r5 := r5.reads
  replace r1 := r1.below b5
  replace r2 := r2.below b5
  replace r4 := r4.below b5
  replace b4 := Frame.ext b4 b5
  clear b5 r3
  go_wp2_with fail
  refine (nan y true _ HY.out h2.out).mono ?_
  rintro e w6 ⟨rfl, rfl⟩
  go_wp2_with fail
  refine (refPut _ [] 9221120237041090560 8 _ (by omega) (reads_nil _) (by simp)).mono ?_
  rintro e w7 ⟨v7, rfl, r7, b7⟩
  replace r7 := r7.reads
  replace r1 := r1.below b7
  replace r2 := r2.below b7
  replace r5 := r5.below b7
  replace b4 := Frame.ext b4 b7
  clear b7 r4
  go_wp2_with fail
  refine (answers _).mono ?_
  rintro e w8 ⟨rfl, b8⟩
  replace r1 := r1.below b8
  replace r2 := r2.below b8
  replace r5 := r5.below b8
  replace r7 := r7.below b8
  replace b4 := Frame.ext b4 b8
  clear b8
  rw [HQ1.out] at r5
  rw [HQ2.out] at r7
  have s1 := string33 r1
  have s2 := string33 r2
  have s3 := string33 r5
  have s4 := string33 r7
  clear r1 r2 r5 r7
  generalize strOfNums B1 = t1 at s1 s3
  generalize strOfNums B2 = t2 at s2 s4
  go_wp2_with fail
  go_ret
  exact ⟨rfl, b4⟩

theorem putsL (a b : Int) (w : World) (ha : 0 ≤ a ∧ a ≤ 4294967295) (hb : 0 ≤ b ∧ b ≤ 18446744073709551615) : Calls Try.prog 5 #[.int .u32 a, .int .u64 b] w fun e w' => e = .returned (.bool true) ∧ Below w.heap.size w w' := by
  obtain ⟨x, rfl⟩ := Int.eq_ofNat_of_zero_le ha.1
  obtain ⟨y, rfl⟩ := Int.eq_ofNat_of_zero_le hb.1
  have hx : x < 4294967296 := by omega
  have hy : y < 18446744073709551616 := by omega
  cases h1 : nanB32 x <;> cases h2 : nanB y
  · exact putsL00 x y w hx hy h1 h2
  · exact putsL01 x y w hx hy h1 h2
  · exact putsL10 x y w hx hy h1 h2
  · exact putsL11 x y w hx hy h1 h2
end Go.Proofs.Ytljinegonoomcaa.Real
