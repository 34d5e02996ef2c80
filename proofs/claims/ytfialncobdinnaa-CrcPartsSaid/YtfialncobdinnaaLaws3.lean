/-
  The walk of the law CrcBursts: it returns true, and writes nothing that was there.
-/
import Derived.Test.YtfialncobdinnaaLaws1
namespace Go.Proofs.Ytfialncobdinnaa.Laws
open Go.RowKit Mem Crc
set_option linter.unusedVariables false

theorem mul_xor (n a b : Nat) : 2 ^ n * (a ^^^ b) = 2 ^ n * a ^^^ 2 ^ n * b := by
  apply Nat.eq_of_testBit_eq
  intro j
  simp only [Nat.testBit_xor, Nat.testBit_two_pow_mul]
  by_cases hj : j ≥ n <;> simp [hj]
/-- The lowest bits, and one more. -/
theorem mod_succ (b k : Nat) : b % 2 ^ (k + 1) = b % 2 ^ k ^^^ 2 ^ k * (b / 2 ^ k % 2) := by
  apply Nat.eq_of_testBit_eq
  intro j
  simp only [Nat.testBit_xor, Nat.testBit_two_pow_mul, Nat.testBit_mod_two_pow]
  rcases Nat.lt_trichotomy j k with h | h | h
  · simp [h, show j < k + 1 from by omega, show ¬ j ≥ k from by omega]
  · subst h
    have : (b / 2 ^ j % 2).testBit 0 = b.testBit j := by
      rw [show b / 2 ^ j % 2 = b / 2 ^ j % 2 ^ 1 from rfl, Nat.testBit_mod_two_pow, Nat.testBit_div_two_pow]; simp
    simp [this]
  · have h2 : (b / 2 ^ k % 2).testBit (j - k) = false := by
      rw [show b / 2 ^ k % 2 = b / 2 ^ k % 2 ^ 1 from rfl, Nat.testBit_mod_two_pow]; simp; omega
    simp [h2, show ¬ j < k from by omega, show ¬ j < k + 1 from by omega]
/-- What turned bits do to the register. -/
theorem reg_turn {xs cs : List Int} {c t : Nat} (hl : cs.length = xs.length) (h : text cs = text xs ^^^ t) : reg c cs = reg c xs ^^^ steps (8 * xs.length) t := by
  unfold reg
  rw [hl, h, ← Nat.xor_assoc, steps_xor]
theorem steps_shift (n f b : Nat) (h : f ≤ n) : steps n (2 ^ f * b) = steps (n - f) b := by
  obtain ⟨d, rfl⟩ : ∃ d, n = f + d := ⟨n - f, by omega⟩
  rw [steps_add, steps_pow]
  congr 1
  omega
theorem burst_ne {xs cs : List Int} {f b : Nat} (hl : cs.length = xs.length) (h : text cs = text xs ^^^ 2 ^ f * b) (hf : f ≤ 8 * xs.length) (hb : b < 4294967296) (h0 : b ≠ 0)
    (hx : ∀ x ∈ xs, 0 ≤ x ∧ x ≤ 255) (hc : ∀ x ∈ cs, 0 ≤ x ∧ x ≤ 255) : more 0 cs ≠ more 0 xs := by
  unfold more
  have e := reg_turn (c := 4294967295 - 0) hl h
  rw [steps_shift _ _ _ hf] at e
  have n0 : steps (8 * xs.length - f) b ≠ 0 := steps_ne hb h0
  have l1 : reg (4294967295 - 0) xs < 4294967296 := reg_lt (by decide) hx
  have l2 : reg (4294967295 - 0) cs < 4294967296 := reg_lt (by decide) hc
  intro h'
  apply n0
  have h2 : reg (4294967295 - 0) cs = reg (4294967295 - 0) xs := by omega
  rw [h2] at e
  have : reg (4294967295 - 0) xs ^^^ reg (4294967295 - 0) xs = reg (4294967295 - 0) xs ^^^ (reg (4294967295 - 0) xs ^^^ steps (8 * xs.length - f) b) := by rw [← e]
  rw [Nat.xor_self, ← Nat.xor_assoc, Nat.xor_self, Nat.zero_xor] at this
  exact this.symm

set_option maxRecDepth 100000 in
set_option maxHeartbeats 3200000 in
theorem bursts (p1 : Option Addr) (l1 c1 : Nat) (z1 : List Int) (bit burst : Int) (w : World) (r1 : Frame.IsRow .u8 w p1 l1 c1 z1) (hl : l1 ≤ 140737488351232) (hbit : 0 ≤ bit ∧ bit ≤ 65535) (hburst : 0 ≤ burst ∧ burst ≤ 4294967295) :
    Calls Try.prog 5 #[.slice p1 l1 c1, .int .u16 bit, .int .u32 burst] w fun e w' => e = .returned (.bool true) ∧ Below w.heap.size w w' := by
  obtain ⟨i0, hi, hz0, hz1, hz2⟩ := info_parts info5
  obtain ⟨n, rfl⟩ := Int.eq_ofNat_of_zero_le hburst.1
  obtain ⟨m, rfl⟩ := Int.eq_ofNat_of_zero_le hbit.1
  obtain ⟨r1, hl1, hwf1⟩ := Mem.isRow_reads r1
  obtain ⟨xs, hx⟩ : ∃ xs, z1.take l1 = xs := ⟨_, rfl⟩
  rw [hx] at r1 hl1 hwf1
  subst hl1
  have hwf1 : ∀ x ∈ xs, 0 ≤ x ∧ x ≤ 255 := fun x hx => bounds_u8 (hwf1 x hx)
  clear hx
  by_cases h5 : xs.length < 5
  · go_enter Try.func5, Try.ntmps5
    go_wp2_with fail
    refine (answers w).mono ?_
    rintro e w1 ⟨rfl, b1⟩
    go_wp2_with fail
    refine (answers w1).mono ?_
    rintro e w2 ⟨rfl, b2⟩
    go_wp2
    go_ret
    exact ⟨rfl, Frame.ext b1 b2⟩
  by_cases h0 : n = 0
  · subst h0
    go_enter Try.func5, Try.ntmps5
    go_wp2_with fail
    refine (answers w).mono ?_
    rintro e w1 ⟨rfl, b1⟩
    go_wp2_with fail
    refine (answers w1).mono ?_
    rintro e w2 ⟨rfl, b2⟩
    go_wp2
    go_ret
    exact ⟨rfl, Frame.ext b1 b2⟩
  obtain ⟨f, hf⟩ : ∃ f, m % (8 * xs.length - 31) = f := ⟨_, rfl⟩
  have hfl : f < 8 * xs.length - 31 := by rw [← hf]; exact Nat.mod_lt _ (by omega)
  have hmod : Int.tmod (m : Int) (8 * (xs.length : Int) - 31) = (f : Int) := by
    rw [show 8 * (xs.length : Int) - 31 = ((8 * xs.length - 31 : Nat) : Int) from by omega, ← Int.ofNat_tmod, hf]
  have hmod2 : (m : Int) % (8 * (xs.length : Int) - 31) = (f : Int) := by
    rw [show 8 * (xs.length : Int) - 31 = ((8 * xs.length - 31 : Nat) : Int) from by omega, ← Int.natCast_emod, hf]
  have hn0 : ((n : Int) == 0) = false := by simp; omega
  go_enter Try.func5, Try.ntmps5
  go_wp2_with fail
  refine (answers w).mono ?_
  rintro e w1 ⟨rfl, b1⟩
  have bn := b1.alloc b1.size (.cells #[] 5)
  have rn := Row.alloc_nil .u8 5 w1 b1.size
  have rx := r1.below bn
  clear b1
  go_wp2_with (at_builtin; refine wpl_append rfl _ _ 22 rfl .u8 w.heap.size 5 1 i0 (.int .u8 0) Try.underlying22 hi hz0 hz1 hz2 rfl _ _ _ _ rfl rfl rn rx ?_ ?_ ?_ ?_)
  · unfold maxLen; simp; omega
  · simp; omega
  · exact bn.size
  · intro v6 w6 o6 g6
    have b6 : Below w.heap.size w w6 := bn.grown g6 bn.size (fun q hq => (rn.lt q hq).1)
    clear g6 bn rn rx
    obtain ⟨p2, c2, rfl, _, _, _, hc⟩ := o6.reads
    obtain ⟨g, hg, _⟩ := Row.form o6 (by omega)
    subst hg
    go_wp2_with fail
    go_loopw [9] (fun i wr => ∃ (k : Nat) (cs : List Int), k ≤ 32 ∧ i = .int .i64 k ∧ cs.length = xs.length ∧ text cs = text xs ^^^ 2 ^ f * (n % 2 ^ k) ∧ (∀ x ∈ cs, 0 ≤ x ∧ x ≤ 255) ∧ Row .u8 5 w.heap.size wr (.slice (some ⟨g, 0, none⟩) xs.length c2) cs ∧ Below w.heap.size w wr) (fun i _ => 32 - (intOf i).toNat)
    case atStart => exact ⟨0, xs, by omega, rfl, rfl, by simp [Nat.mod_one], hwf1, o6, b6⟩
    case round =>
      clear o6 b6 hc
      obtain ⟨k, cs, hk, rfl, hcl, ht, hcs, hrow, hb⟩ := hrel
      by_cases hlt : k < 32
      · have hil : (f + k) / 8 < cs.length := by omega
        obtain ⟨x, hxk⟩ : ∃ x, (cs.getD ((f + k) / 8) 0).toNat = x := ⟨_, rfl⟩
        have hx0 := hcs (cs.getD ((f + k) / 8) 0) (by rw [List.getD_eq_getElem?_getD, List.getElem?_eq_getElem hil]; simp)
        rw [← hcl] at hrow
        obtain ⟨hck, hfz⟩ := Row.cell hrow _ hil
        rw [hcl] at hrow
        rw [show cs.getD ((f + k) / 8) 0 = (x : Int) from by rw [← hxk, Int.toNat_of_nonneg hx0.1]] at hck
        have hxl : x < 256 := by omega
        have hbb : bits BinOp.and IntKind.u32 ((n : Int) / 2 ^ k) 1 = ((n / 2 ^ k % 2 : Nat) : Int) := by
          rw [show (n : Int) / 2 ^ k = ((n / 2 ^ k : Nat) : Int) from by simp, and1 (Nat.lt_of_le_of_lt (Nat.div_le_self _ _) (by omega))]
        by_cases hodd : n / 2 ^ k % 2 = 1
        · rw [hodd] at hbb
          obtain ⟨y, hy⟩ : ∃ y, x ^^^ 2 ^ ((f + k) % 8) = y := ⟨_, rfl⟩
          have hp : 2 ^ ((f + k) % 8) < 256 := by
            have : 2 ^ ((f + k) % 8) ≤ 2 ^ 7 := Nat.pow_le_pow_right (by decide) (by omega)
            omega
          have hyl : y < 256 := by rw [← hy]; exact Nat.xor_lt_two_pow (n := 8) hxl hp
          have hv : bits BinOp.xor IntKind.u8 (x : Int) (2 ^ ((f + k) % 8) % 256) = (y : Int) := by
            rw [show (2 : Int) ^ ((f + k) % 8) % 256 = ((2 ^ ((f + k) % 8) : Nat) : Int) from by
              rw [Int.emod_eq_of_lt (Int.pow_nonneg (by decide)) (by exact_mod_cast hp)]; simp, u8_xor_nat _ _ hxl hp, hy]
          have hset := text_set cs ((f + k) / 8) (2 ^ ((f + k) % 8)) hil
          rw [hxk, hy, ← Nat.pow_add, show 8 * ((f + k) / 8) + (f + k) % 8 = f + k from by omega] at hset
          have ht2 : Hid (text (cs.set ((f + k) / 8) (y : Int)) = text xs ^^^ 2 ^ f * (n % 2 ^ (k + 1))) := by
            unfold Hid
            rw [hset, ht, mod_succ, hodd, Nat.mul_one, mul_xor, ← Nat.pow_add, Nat.xor_assoc]
          have hR := Row.store (c := c2) (by rw [hcl]; exact hrow) ((f + k) / 8) (y : Int)
          rw [hcl] at hR
          have HR : Hid (Row .u8 5 w.heap.size (wr.setCell ⟨g, (f + k) / 8, none⟩ (.int .u8 (y : Int))) (.slice (some ⟨g, 0, none⟩) xs.length c2) (cs.set ((f + k) / 8) (y : Int))) := hR
          have hcs2 : ∀ x ∈ cs.set ((f + k) / 8) (y : Int), 0 ≤ x ∧ x ≤ 255 := by
            intro z hz
            rcases List.mem_or_eq_of_mem_set hz with h | rfl
            · exact hcs z h
            · omega
          have hgB := (hrow.lt g rfl).1
          have hcl2 : (cs.set ((f + k) / 8) (y : Int)).length = xs.length := by rw [List.length_set, hcl]
          have hb2 := hb.setCell (p := ⟨g, (f + k) / 8, none⟩) hgB (.int .u8 (y : Int))
          clear hodd ht hrow hxk hil hy hp hset hR hcs
          go_wp2
          exact ⟨⟨k + 1, _, by omega, by go_num, hcl2, ht2.out, hcs2, HR.out, hb2⟩, by simp [intOf]; omega⟩
        · have he : n / 2 ^ k % 2 = 0 := by omega
          rw [he] at hbb
          have ht2 : Hid (text cs = text xs ^^^ 2 ^ f * (n % 2 ^ (k + 1))) := by unfold Hid; rw [ht, mod_succ, he, Nat.mul_zero, Nat.xor_zero]
          have HR : Hid (Row .u8 5 w.heap.size wr (.slice (some ⟨g, 0, none⟩) xs.length c2) cs) := hrow
          clear hodd he ht hrow hck hfz hxk hil
          go_wp2
          exact ⟨⟨k + 1, cs, by omega, by go_num, hcl, ht2.out, hcs, HR.out, hb⟩, by simp [intOf]; omega⟩
      · obtain rfl : k = 32 := by omega
        rw [Nat.mod_eq_of_lt (by omega)] at ht
        have hne := burst_ne hcl ht (by omega) (by omega) h0 hwf1 hcs
        have hrd : Reads .u8 wr (.slice (some ⟨g, 0, none⟩) xs.length c2) cs := Row.reads hrow
        clear hrow ht
        go_wp2_with fail
        refine (sumP _ _ _ hrd hcs (by omega)).mono ?_
        rintro e w8 ⟨rfl, b8⟩
        replace hb := Frame.ext hb b8
        clear hrd b8
        go_wp2_with fail
        refine (sumP _ _ _ (r1.below hb) hwf1 (by omega)).mono ?_
        rintro e w9 ⟨rfl, b9⟩
        replace hb := Frame.ext hb b9
        clear b9
        go_wp2
        go_ret
        exact ⟨by go_num, hb⟩
end Go.Proofs.Ytfialncobdinnaa.Laws
