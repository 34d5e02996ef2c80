/-
  The walk of the law WireBack: it returns true, and writes nothing that was there.
-/
import Derived.Test.YtnemjmkhbnpfmaaLaws1
import Derived.Test.YtnemjmkhbnpfmaaWire5
import Derived.Test.YtnemjmkhbnpfmaaPrps
namespace Go.Proofs.Ytnemjmkhbnpfmaa.Laws
open Go.RowKit Mem Wire
set_option linter.unusedVariables false
attribute [local simp] Mono.DepFacts Mono.want Mono.isV Mono.Fin readsP Act.eval Act.put Region.binds

theorem partE_ok {len at_ n : Int} (h1 : 0 ≤ at_) (h2 : 0 ≤ n) (h3 : at_ + n ≤ len) : partE len at_ n = 0 := by
  unfold partE; rw [if_neg (by omega), if_neg (by omega)]
theorem partL_ok (xs : List Int) (a n : Nat) (h3 : a + n ≤ xs.length) : partL xs a n = (xs.drop a).take n := by
  unfold partL; rw [if_pos (partE_ok (by omega) (by omega) (by omega))]; simp
theorem bytesOf_mem {n : Int} {s k : Nat} {x : Int} (h : x ∈ bytesOf n s k) : 0 ≤ x ∧ x ≤ 255 := by
  unfold bytesOf at h
  obtain ⟨j, _, rfl⟩ := List.mem_map.1 h
  omega
/-- The bytes of a number are a number again: its lowest bytes. -/
theorem num_bytesOf (n : Int) (s k : Nat) (hn : 0 ≤ n) (hk : k ≤ s) : num (bytesOf n s k) = n / 2 ^ (8 * (s - k)) % ((256 ^ k : Nat) : Int) := by
  obtain ⟨N, rfl⟩ := Int.eq_ofNat_of_zero_le hn
  induction k with
  | zero => simp [bytesOf, num]
  | succ k ih =>
    rw [bytesOf_succ, num_snoc, ih (by omega)]
    have e1 : 8 * (s - k) = 8 * (s - 1 - k) + 8 := by omega
    have e2 : 8 * (s - (k + 1)) = 8 * (s - 1 - k) := by omega
    rw [e1, e2]
    obtain ⟨q, hq⟩ : ∃ q, q = 8 * (s - 1 - k) := ⟨_, rfl⟩
    rw [← hq]
    have key : N / 2 ^ (q + 8) % 256 ^ k * 256 + N / 2 ^ q % 256 = N / 2 ^ q % 256 ^ (k + 1) := by
      have h1 : N / 2 ^ (q + 8) = N / 2 ^ q / 256 := by rw [Nat.pow_add, ← Nat.div_div_eq_div_mul]
      have h2 : N / 2 ^ q % (256 * 256 ^ k) = N / 2 ^ q % 256 + 256 * (N / 2 ^ q / 256 % 256 ^ k) := Nat.mod_mul
      have h3 : 256 ^ (k + 1) = 256 * 256 ^ k := Nat.pow_succ'
      rw [h1, h3, h2]
      omega
    have := congrArg (fun x : Nat => (x : Int)) key
    simpa only [Int.natCast_add, Int.natCast_mul, Int.natCast_emod, Int.natCast_ediv, Int.natCast_pow, Int.cast_ofNat_Int] using this

theorem shl_shr (n : Int) (s : Nat) (hn : 0 ≤ n ∧ n ≤ 18446744073709551615) (s1 : 1 ≤ (s : Int)) (s8 : (s : Int) ≤ 8) : IntKind.u64.wrap (n * 2 ^ (64 - 8 * s)) / 2 ^ (64 - 8 * s) = n % ((256 ^ s : Nat) : Int) := by
  have h : s = 1 ∨ s = 2 ∨ s = 3 ∨ s = 4 ∨ s = 5 ∨ s = 6 ∨ s = 7 ∨ s = 8 := by omega
  rcases h with rfl | rfl | rfl | rfl | rfl | rfl | rfl | rfl <;> simp [IntKind.wrap, IntKind.signed, IntKind.bits] <;> omega

set_option maxRecDepth 100000 in
set_option maxHeartbeats 3200000 in
theorem backs (p : Option Addr) (l c : Nat) (z : List Int) (n m size : Int) (w : World) (hr : Frame.IsRow .u8 w p l c z) (hl : l ≤ 140737488351232) (hn : 0 ≤ n ∧ n ≤ 18446744073709551615) (hm : 0 ≤ m ∧ m ≤ 18446744073709551615) (hs : -9223372036854775808 ≤ size ∧ size ≤ 9223372036854775807) :
    Calls Try.prog 7 #[.slice p l c, .int .u64 n, .int .u64 m, .int .i64 size] w fun e w' => e = .returned (.bool true) ∧ Below w.heap.size w w' := by
  obtain ⟨hr, hlen, hwf⟩ := Mem.isRow_reads hr
  obtain ⟨xs, hx⟩ : ∃ xs, z.take l = xs := ⟨_, rfl⟩
  rw [hx] at hr hlen hwf
  subst hlen
  clear hx
  by_cases h1 : 1 ≤ size ∧ size ≤ 8
  · obtain ⟨s, rfl⟩ := Int.eq_ofNat_of_zero_le (show 0 ≤ size by omega)
    obtain ⟨s1, s8⟩ := h1
    have P1 : putted xs n s = xs ++ bytesOf n s s := by unfold putted; rw [if_pos ⟨s1, s8⟩]; simp
    have P2 : putted (xs ++ bytesOf n s s) m s = xs ++ bytesOf n s s ++ bytesOf m s s := by unfold putted; rw [if_pos ⟨s1, s8⟩]; simp
    have hl4 : (xs ++ bytesOf n s s ++ bytesOf m s s).length = xs.length + s + s := by rw [List.length_append, List.length_append, bytesOf_length, bytesOf_length]
    have hwf4 : ∀ x ∈ xs ++ bytesOf n s s ++ bytesOf m s s, 0 ≤ x ∧ x ≤ 255 := by
      intro x hx
      rcases List.mem_append.1 hx with hx | hx
      · rcases List.mem_append.1 hx with hx | hx
        · exact bounds_u8 (hwf x hx)
        · exact bytesOf_mem hx
      · exact bytesOf_mem hx
    have G1 : getN (xs ++ bytesOf n s s ++ bytesOf m s s) xs.length s = n % ((256 ^ s : Nat) : Int) := by
      unfold getN; rw [if_pos ⟨s1, s8⟩, partL_ok _ _ _ (by rw [hl4]; omega), List.append_assoc, List.drop_left, List.take_left' (bytesOf_length ..), num_bytesOf n s s hn.1 (Nat.le_refl _)]; simp
    have G2 : getN (xs ++ bytesOf n s s ++ bytesOf m s s) (xs.length + s) s = m % ((256 ^ s : Nat) : Int) := by
      unfold getN; rw [if_pos ⟨s1, s8⟩, show ((xs.length : Int) + s) = ((xs.length + s : Nat) : Int) from by omega, partL_ok _ _ _ (by rw [hl4]; omega), List.drop_left' (by rw [List.length_append, bytesOf_length]), List.take_of_length_le (by rw [bytesOf_length]; omega), num_bytesOf m s s hm.1 (Nat.le_refl _)]; simp
    have E1 : getE (xs ++ bytesOf n s s ++ bytesOf m s s).length xs.length s = 0 := by
      unfold getE; rw [if_pos ⟨s1, s8⟩, partE_ok (by omega) (by omega) (by rw [hl4]; omega)]
    have E2 : getE (xs ++ bytesOf n s s ++ bytesOf m s s).length (xs.length + s) s = 0 := by
      unfold getE; rw [if_pos ⟨s1, s8⟩, partE_ok (by omega) (by omega) (by rw [hl4]; omega)]
    obtain ⟨ys, hys⟩ : ∃ ys, xs ++ bytesOf n s s ++ bytesOf m s s = ys := ⟨_, rfl⟩
    obtain ⟨K, hK⟩ : ∃ K : Int, ((256 ^ s : Nat) : Int) = K := ⟨_, rfl⟩
    have hsub : Hid (ys.take xs.length = xs) := by unfold Hid; rw [← hys, List.append_assoc, List.take_left]
    rw [hys] at P2 hl4 hwf4 G1 G2 E1 E2
    rw [hK] at G1 G2
    have S1 := shl_shr n s hn s1 s8
    have S2 := shl_shr m s hm s1 s8
    rw [hK] at S1 S2
    clear hys
    have M1 : s = 8 → n % K = n := by intro h; subst h; rw [← hK]; omega
    have M2 : s = 8 → m % K = m := by intro h; subst h; rw [← hK]; omega
    clear hK
    have HP1 : Hid (putted xs n s = xs ++ bytesOf n s s) := P1
    have HP2 : Hid (putted (xs ++ bytesOf n s s) m s = ys) := P2
    clear P1 P2
    have HL : Hid (ys.length = xs.length + s + s) := hl4
    clear hl4
    have hle : xs.length ≤ ys.length := by have := HL.out; omega
    go_enter Try.func7, Try.ntmps7
    go_wp2_with fail
    refine (answers _).mono ?_
    rintro e w1 ⟨rfl, b1⟩
    go_wp2_with fail
    refine (own _ _ _ (hr.below b1) (by omega)).mono ?_
    rintro e w2 ⟨v2, rfl, o2, b2⟩
    go_wp2_with fail
    refine (put _ _ _ _ _ hn o2.reads (by omega)).mono ?_
    rintro e w3 ⟨v3, rfl, o3, b3⟩
    rw [HP1.out] at o3
    go_wp2_with fail
    refine (put _ _ _ _ _ hm o3.reads (by rw [List.length_append, bytesOf_length]; omega)).mono ?_
    rintro e w4 ⟨v4, rfl, o4, b4⟩
    rw [HP2.out] at o4
    have r4 := o4.reads
    have call := Frame.ext (Frame.ext (Frame.ext b1 b2) b3) b4
    clear o2 o3 b2 b3 b4
    go_wp2_with fail
    refine (get _ _ _ _ _ r4 hwf4 (by rw [HL.out]; omega) (by omega) (by omega)).mono ?_
    rintro e w5 ⟨rfl, b5⟩
    go_wp2_with fail
    refine (get _ _ _ _ _ (r4.below b5) hwf4 (by rw [HL.out]; omega) (by omega) (by omega)).mono ?_
    rintro e w6 ⟨rfl, b6⟩
    have call0 := Frame.ext (Frame.ext call b5) b6
    go_wp2_with fail
    · refine Mono.wp_region_mono [some 75, some 76, some 77, some 78, some 79, some 80, some 81, some 82, some 83, some 84, some 85, some 86, some 87, some 88, some 89, some 90, some 91, some 92, some 93, some 94, some 95, some 96, some 97, some 98, some 99, some 100, some 101, some 102, some 103, some 104, some 105, some 106, some 107, some 108, some 109, some 110, some 8] [Mono.isV (.int .i64 0), Mono.isV (.bool true), Mono.isV (.bool true), Mono.isV (.int .i64 0), Mono.isV (.bool true), Mono.isV (.bool true), Mono.isV (.bool true), Mono.isV (.int .u64 (n % K)), Mono.isV (.int .u64 (n % K)), Mono.isV (.bool true), Mono.isV (.bool true), Mono.isV (.bool true), Mono.isV (.int .u64 (m % K)), Mono.isV (.int .u64 (m % K)), Mono.isV (.bool true), Mono.isV (.bool true), Mono.isV (.bool true), readsP .u8 ys, Mono.isV (.int .i64 ys.length), Mono.isV (.slice p xs.length c), Mono.isV (.int .i64 xs.length), Mono.isV (.int .i64 s), Mono.isV (.int .i64 (2 * (s : Int))), Mono.isV (.int .i64 ys.length), Mono.isV (.bool true), Mono.isV (.bool true), Mono.isV (.bool true), readsP .u8 ys, Mono.isV (.slice p xs.length c), Mono.isV (.int .i64 xs.length), readsP .u8 xs, Mono.isV (.string (strOfNums xs)), readsP .u8 xs, Mono.isV (.string (strOfNums xs)), Mono.isV (.bool true), Mono.isV (.bool true), Mono.isV (.bool true)] (by kernel_rfl) (by kernel_rfl) ?_ ?_
      · simp only [Mono.OpGoals, and_true]
        refine ⟨?_, ?_, ?_, ?_, ?_, ?_, ?_, ?_, ?_, ?_, ?_, ?_, ?_, ?_, ?_, ?_, ?_, ?_, ?_, ?_, ?_, ?_, ?_, ?_, ?_, ?_, ?_, ?_, ?_, ?_, ?_, ?_, ?_, ?_, ?_, ?_, ?_⟩
        all_goals
          intro a u hbu hsu hdu
          simp at hdu hsu
          have r0 := (hr.below call0).below hbu
          have r4u := ((r4.below b5).below b6).below hbu
          try have hcv := string22 hdu.1
          try have hrr := hdu.1
          try (obtain ⟨pp, cc, hlv, hl1, _⟩ := hdu.1)
          try (rw [hlv] at hcv)
          try (rw [hlv] at hrr)
          simp [*]
          go_wp2
        all_goals first
          | exact Below.refl _ _
          | exact ⟨_, rfl, Below.refl _ _, by assumption⟩
          | exact ⟨trivial, Below.refl _ _⟩
          | exact ⟨by have := HL.out; congr 2; omega, Below.refl _ _⟩
          | exact ⟨_, rfl, Below.refl _ _, by have := Reads.pre hrr xs.length hle; rwa [hsub.out] at this⟩
      · intro u hu
        simp
        intros
        go_wp2
        go_ret
        exact ⟨rfl, Frame.ext (Frame.ext (Frame.ext call b5) b6) hu⟩
    · have M1 := M1 (by omega)
      have M2 := M2 (by omega)
      refine Mono.wp_region_mono [some 75, some 76, some 77, some 78, some 79, some 80, some 81, some 82, some 83, some 84, some 85, some 86, some 87, some 88, some 89, some 90, some 91, some 92, some 93, some 94, some 95, some 96, some 97, some 98, some 99, some 100, some 101, some 102, some 103, some 104, some 105, some 106, some 107, some 108, some 109, some 110, some 8] [Mono.isV (.int .i64 0), Mono.isV (.bool true), Mono.isV (.bool true), Mono.isV (.int .i64 0), Mono.isV (.bool true), Mono.isV (.bool true), Mono.isV (.bool true), Mono.isV (.int .u64 n), Mono.isV (.int .u64 n), Mono.isV (.bool true), Mono.isV (.bool true), Mono.isV (.bool true), Mono.isV (.int .u64 m), Mono.isV (.int .u64 m), Mono.isV (.bool true), Mono.isV (.bool true), Mono.isV (.bool true), readsP .u8 ys, Mono.isV (.int .i64 ys.length), Mono.isV (.slice p xs.length c), Mono.isV (.int .i64 xs.length), Mono.isV (.int .i64 s), Mono.isV (.int .i64 (2 * (s : Int))), Mono.isV (.int .i64 ys.length), Mono.isV (.bool true), Mono.isV (.bool true), Mono.isV (.bool true), readsP .u8 ys, Mono.isV (.slice p xs.length c), Mono.isV (.int .i64 xs.length), readsP .u8 xs, Mono.isV (.string (strOfNums xs)), readsP .u8 xs, Mono.isV (.string (strOfNums xs)), Mono.isV (.bool true), Mono.isV (.bool true), Mono.isV (.bool true)] (by kernel_rfl) (by kernel_rfl) ?_ ?_
      · simp only [Mono.OpGoals, and_true]
        refine ⟨?_, ?_, ?_, ?_, ?_, ?_, ?_, ?_, ?_, ?_, ?_, ?_, ?_, ?_, ?_, ?_, ?_, ?_, ?_, ?_, ?_, ?_, ?_, ?_, ?_, ?_, ?_, ?_, ?_, ?_, ?_, ?_, ?_, ?_, ?_, ?_, ?_⟩
        all_goals
          intro a u hbu hsu hdu
          simp at hdu hsu
          have r0 := (hr.below call0).below hbu
          have r4u := ((r4.below b5).below b6).below hbu
          try have hcv := string22 hdu.1
          try have hrr := hdu.1
          try (obtain ⟨pp, cc, hlv, hl1, _⟩ := hdu.1)
          try (rw [hlv] at hcv)
          try (rw [hlv] at hrr)
          simp [*]
          go_wp2
        all_goals first
          | exact Below.refl _ _
          | exact ⟨_, rfl, Below.refl _ _, by assumption⟩
          | exact ⟨trivial, Below.refl _ _⟩
          | exact ⟨by have := HL.out; congr 2; omega, Below.refl _ _⟩
          | exact ⟨_, rfl, Below.refl _ _, by have := Reads.pre hrr xs.length hle; rwa [hsub.out] at this⟩
      · intro u hu
        simp
        intros
        go_wp2
        go_ret
        exact ⟨rfl, Frame.ext (Frame.ext (Frame.ext call b5) b6) hu⟩
  · by_cases h2 : size < 1
    all_goals
      go_enter Try.func7, Try.ntmps7
      go_wp2_with fail
      refine (answers _).mono ?_
      rintro e w1 ⟨rfl, b1⟩
      go_wp2_with fail
      refine (answers _).mono ?_
      rintro e w2 ⟨rfl, b2⟩
      go_wp2
      go_ret
      exact ⟨rfl, Frame.ext b1 b2⟩
end Go.Proofs.Ytnemjmkhbnpfmaa.Laws
