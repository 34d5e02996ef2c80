/-
  The walk of the law WireParts: it returns true, and writes nothing that was there.
-/
import Derived.Test.YtnemjmkhbnpfmaaLaws1
import Derived.Test.YtnemjmkhbnpfmaaWire5
import Derived.Test.YtnemjmkhbnpfmaaPrps
namespace Go.Proofs.Ytnemjmkhbnpfmaa.Laws
open Go.RowKit Mem Wire
set_option linter.unusedVariables false
attribute [local simp] Mono.DepFacts Mono.want Mono.isV Mono.Fin readsP Act.eval Act.put Region.binds

theorem partE_ok {len at_ n : Int} (h1 : 0 ≤ at_) (h2 : 0 ≤ n) (h3 : at_ + n ≤ len) : partE len at_ n = 0 := by
  unfold partE; rw [if_neg (by omega), if_neg (by omega)]
theorem partL_ok (xs : List Int) (a n : Nat) (h3 : a + n ≤ xs.length) : partL xs a n = (xs.drop a).take n := by
  unfold partL; rw [if_pos (partE_ok (by omega) (by omega) (by omega))]; simp
theorem partE_short {len at_ n : Int} (h1 : 0 ≤ at_) (h2 : 0 ≤ n) (h3 : len < at_ + n) : partE len at_ n = 3 := by
  unfold partE; rw [if_neg (by omega), if_pos (by omega)]

theorem cat3 (xs : List Int) (lo hi : Nat) (h : lo ≤ hi) : strOfNums (xs.take lo) ++ strOfNums ((xs.drop lo).take (hi - lo)) ++ strOfNums (xs.drop hi) = strOfNums xs := by
  have e : xs.take lo ++ (xs.drop lo).take (hi - lo) ++ xs.drop hi = xs := by
    have h1 : xs.drop hi = (xs.drop lo).drop (hi - lo) := by rw [List.drop_drop]; congr 1; omega
    rw [h1, List.append_assoc, List.take_append_drop, List.take_append_drop]
  apply ByteArray.ext
  simp only [ByteArray.data_append]
  apply Array.ext'
  simp only [Array.toList_append, strOfNums_data, ← List.map_append]
  rw [e]

set_option maxRecDepth 100000 in
set_option maxHeartbeats 3200000 in
theorem parts (p : Option Addr) (l c : Nat) (z : List Int) (i j : Int) (w : World) (hr : Frame.IsRow .u8 w p l c z) (hl : l ≤ 140737488351232) (hi : 0 ≤ i ∧ i ≤ 65535) (hj : 0 ≤ j ∧ j ≤ 65535) :
    Calls Try.prog 5 #[.slice p l c, .int .u16 i, .int .u16 j] w fun e w' => e = .returned (.bool true) ∧ Below w.heap.size w w' := by
  obtain ⟨hr, hlen, hwf⟩ := Mem.isRow_reads hr
  obtain ⟨xs, hx⟩ : ∃ xs, z.take l = xs := ⟨_, rfl⟩
  rw [hx] at hr hlen hwf
  subst hlen
  clear hx hwf
  obtain ⟨P, hP, hP1⟩ : ∃ P : Nat, i % ((xs.length : Int) + 1) = P ∧ P ≤ xs.length := ⟨(i % ((xs.length : Int) + 1)).toNat, by have := Int.emod_nonneg i (show (xs.length : Int) + 1 ≠ 0 by omega); omega, by have := Int.emod_lt_of_pos i (show 0 < (xs.length : Int) + 1 by omega); omega⟩
  obtain ⟨Q, hQ, hQ1⟩ : ∃ Q : Nat, j % ((xs.length : Int) + 1) = Q ∧ Q ≤ xs.length := ⟨(j % ((xs.length : Int) + 1)).toNat, by have := Int.emod_nonneg j (show (xs.length : Int) + 1 ≠ 0 by omega); omega, by have := Int.emod_lt_of_pos j (show 0 < (xs.length : Int) + 1 by omega); omega⟩
  go_enter Try.func5, Try.ntmps5
  go_wp2
  refine Mono.wp_region_mono [some 21, some 22, some 23, some 24, some 25, some 26, some 27, some 28, some 8, some 9]
    [Mono.isV (.int .u16 i), Mono.isV (.int .i64 i), Mono.isV (.int .i64 ((xs.length : Int) + 1)), Mono.isV (.int .i64 P), Mono.isV (.int .u16 j), Mono.isV (.int .i64 j), Mono.isV (.int .i64 ((xs.length : Int) + 1)), Mono.isV (.int .i64 Q), Mono.isV (.int .i64 P), Mono.isV (.int .i64 Q)]
    (by kernel_rfl) (by kernel_rfl) ?_ ?_
  · simp only [Mono.OpGoals, and_true]
    refine ⟨?_, ?_, ?_, ?_, ?_, ?_, ?_, ?_, ?_, ?_⟩
    all_goals
      intro a u hbu hsu hdu
      simp at hdu hsu
      simp [*]
      go_wp2
    all_goals first
      | exact Below.refl _ _
      | exact ⟨trivial, Below.refl _ _⟩
  · intro u hu
    simp
    have hru := hr.below hu
    go_wp2_with fail
    · have hlt : Q ≤ P := by omega
      have E1 := partE_ok (len := xs.length) (at_ := 0) (n := Q) (by omega) (by omega) (by omega)
      have E2 := partE_ok (len := xs.length) (at_ := Q) (n := (P : Int) - Q) (by omega) (by omega) (by omega)
      have E3 := partE_ok (len := xs.length) (at_ := P) (n := (xs.length : Int) - P) (by omega) (by omega) (by omega)
      have E4 := partE_short (len := xs.length) (at_ := P) (n := (xs.length : Int) + 1 - P) (by omega) (by omega) (by omega)
      have L1 : partL xs 0 Q = xs.take Q := by have := partL_ok xs 0 Q (by omega); simpa using this
      have L2 : partL xs Q ((P : Int) - Q) = (xs.drop Q).take (P - Q) := by
        have := partL_ok xs Q (P - Q) (by omega)
        rwa [show ((P - Q : Nat) : Int) = (P : Int) - Q from by omega] at this
      have L3 : partL xs P ((xs.length : Int) - P) = xs.drop P := by
        have := partL_ok xs P (xs.length - P) (by omega)
        rw [show ((xs.length - P : Nat) : Int) = (xs.length : Int) - P from by omega] at this
        rw [this, List.take_of_length_le (by simp)]
      refine (own _ _ _ hru (by omega)).mono ?_
      rintro e w1 ⟨v1, rfl, o1, b1⟩
      go_wp2_with fail
      refine (Wire.part _ _ _ _ _ o1.reads (by omega) (by omega) (by omega)).mono ?_
      rintro e w2 ⟨v2, rfl, o2, b2⟩
      rw [L1] at o2
      have c2 := Frame.ext b1 b2
      go_wp2_with fail
      refine (own _ _ _ (hru.below c2) (by omega)).mono ?_
      rintro e w3 ⟨v3, rfl, o3, b3⟩
      go_wp2_with fail
      refine (Wire.part _ _ _ _ _ o3.reads (by omega) (by omega) (by omega)).mono ?_
      rintro e w4 ⟨v4, rfl, o4, b4⟩
      rw [L2] at o4
      have c4 := Frame.ext b3 b4
      go_wp2_with fail
      refine (own _ _ _ ((hru.below c2).below c4) (by omega)).mono ?_
      rintro e w5 ⟨v5, rfl, o5, b5⟩
      go_wp2_with fail
      refine (Wire.part _ _ _ _ _ o5.reads (by omega) (by omega) (by omega)).mono ?_
      rintro e w6 ⟨v6, rfl, o6, b6⟩
      rw [L3] at o6
      have c6 := Frame.ext b5 b6
      go_wp2_with fail
      refine (own _ _ _ (((hru.below c2).below c4).below c6) (by omega)).mono ?_
      rintro e w7 ⟨v7, rfl, o7, b7⟩
      go_wp2_with fail
      refine (Wire.part _ _ _ _ _ o7.reads (by omega) (by omega) (by omega)).mono ?_
      rintro e w8 ⟨v8, rfl, o8, b8⟩
      have c8 := Frame.ext b7 b8
      have R0 := (((hru.below c2).below c4).below c6).below c8
      have R2 := ((o2.reads.below c4).below c6).below c8
      have R4 := (o4.reads.below c6).below c8
      have R6 := o6.reads.below c8
      have call := Frame.ext (Frame.ext (Frame.ext (Frame.ext hu c2) c4) c6) c8
      clear o1 o2 o3 o4 o5 o6 o7 o8 b1 b2 b3 b4 b5 b6 b7 b8 c2 c4 c6 c8 hru hu hr L1 L2 L3
      go_wp2_with fail
      refine (answers _).mono ?_
      rintro e w9 ⟨rfl, b9⟩
      have h0 := string22 (R0.below b9)
      have h2 := string22 (R2.below b9)
      have h4 := string22 (R4.below b9)
      have h6 := string22 (R6.below b9)
      clear R0 R2 R4 R6 E1 E2 E3 E4
      have n1 : (strOfNums (List.take Q xs)).size + (strOfNums (List.take (P - Q) (List.drop Q xs))).size ≤ 9223372036854775807 := by
        rw [strOfNums_size, strOfNums_size, List.length_take, List.length_take, List.length_drop]; omega
      have n2 : (strOfNums (List.take Q xs)).size + (strOfNums (List.take (P - Q) (List.drop Q xs))).size + (strOfNums (List.drop P xs)).size ≤ 9223372036854775807 := by
        rw [strOfNums_size, strOfNums_size, strOfNums_size, List.length_take, List.length_take, List.length_drop, List.length_drop]; omega
      have hcat : strOfNums (List.take Q xs) ++ strOfNums (List.take (P - Q) (List.drop Q xs)) ++ strOfNums (List.drop P xs) = strOfNums xs := cat3 xs Q P hlt
      go_wp2
      go_ret
      exact ⟨rfl, Frame.ext call b9⟩
    · have hlt : P ≤ Q := by omega
      have E1 := partE_ok (len := xs.length) (at_ := 0) (n := P) (by omega) (by omega) (by omega)
      have E2 := partE_ok (len := xs.length) (at_ := P) (n := (Q : Int) - P) (by omega) (by omega) (by omega)
      have E3 := partE_ok (len := xs.length) (at_ := Q) (n := (xs.length : Int) - Q) (by omega) (by omega) (by omega)
      have E4 := partE_short (len := xs.length) (at_ := Q) (n := (xs.length : Int) + 1 - Q) (by omega) (by omega) (by omega)
      have L1 : partL xs 0 P = xs.take P := by have := partL_ok xs 0 P (by omega); simpa using this
      have L2 : partL xs P ((Q : Int) - P) = (xs.drop P).take (Q - P) := by
        have := partL_ok xs P (Q - P) (by omega)
        rwa [show ((Q - P : Nat) : Int) = (Q : Int) - P from by omega] at this
      have L3 : partL xs Q ((xs.length : Int) - Q) = xs.drop Q := by
        have := partL_ok xs Q (xs.length - Q) (by omega)
        rw [show ((xs.length - Q : Nat) : Int) = (xs.length : Int) - Q from by omega] at this
        rw [this, List.take_of_length_le (by simp)]
      refine (own _ _ _ hru (by omega)).mono ?_
      rintro e w1 ⟨v1, rfl, o1, b1⟩
      go_wp2_with fail
      refine (Wire.part _ _ _ _ _ o1.reads (by omega) (by omega) (by omega)).mono ?_
      rintro e w2 ⟨v2, rfl, o2, b2⟩
      rw [L1] at o2
      have c2 := Frame.ext b1 b2
      go_wp2_with fail
      refine (own _ _ _ (hru.below c2) (by omega)).mono ?_
      rintro e w3 ⟨v3, rfl, o3, b3⟩
      go_wp2_with fail
      refine (Wire.part _ _ _ _ _ o3.reads (by omega) (by omega) (by omega)).mono ?_
      rintro e w4 ⟨v4, rfl, o4, b4⟩
      rw [L2] at o4
      have c4 := Frame.ext b3 b4
      go_wp2_with fail
      refine (own _ _ _ ((hru.below c2).below c4) (by omega)).mono ?_
      rintro e w5 ⟨v5, rfl, o5, b5⟩
      go_wp2_with fail
      refine (Wire.part _ _ _ _ _ o5.reads (by omega) (by omega) (by omega)).mono ?_
      rintro e w6 ⟨v6, rfl, o6, b6⟩
      rw [L3] at o6
      have c6 := Frame.ext b5 b6
      go_wp2_with fail
      refine (own _ _ _ (((hru.below c2).below c4).below c6) (by omega)).mono ?_
      rintro e w7 ⟨v7, rfl, o7, b7⟩
      go_wp2_with fail
      refine (Wire.part _ _ _ _ _ o7.reads (by omega) (by omega) (by omega)).mono ?_
      rintro e w8 ⟨v8, rfl, o8, b8⟩
      have c8 := Frame.ext b7 b8
      have R0 := (((hru.below c2).below c4).below c6).below c8
      have R2 := ((o2.reads.below c4).below c6).below c8
      have R4 := (o4.reads.below c6).below c8
      have R6 := o6.reads.below c8
      have call := Frame.ext (Frame.ext (Frame.ext (Frame.ext hu c2) c4) c6) c8
      clear o1 o2 o3 o4 o5 o6 o7 o8 b1 b2 b3 b4 b5 b6 b7 b8 c2 c4 c6 c8 hru hu hr L1 L2 L3
      go_wp2_with fail
      refine (answers _).mono ?_
      rintro e w9 ⟨rfl, b9⟩
      have h0 := string22 (R0.below b9)
      have h2 := string22 (R2.below b9)
      have h4 := string22 (R4.below b9)
      have h6 := string22 (R6.below b9)
      clear R0 R2 R4 R6 E1 E2 E3 E4
      have n1 : (strOfNums (List.take P xs)).size + (strOfNums (List.take (Q - P) (List.drop P xs))).size ≤ 9223372036854775807 := by
        rw [strOfNums_size, strOfNums_size, List.length_take, List.length_take, List.length_drop]; omega
      have n2 : (strOfNums (List.take P xs)).size + (strOfNums (List.take (Q - P) (List.drop P xs))).size + (strOfNums (List.drop Q xs)).size ≤ 9223372036854775807 := by
        rw [strOfNums_size, strOfNums_size, strOfNums_size, List.length_take, List.length_take, List.length_drop, List.length_drop]; omega
      have hcat : strOfNums (List.take P xs) ++ strOfNums (List.take (Q - P) (List.drop P xs)) ++ strOfNums (List.drop Q xs) = strOfNums xs := cat3 xs P Q hlt
      go_wp2
      go_ret
      exact ⟨rfl, Frame.ext call b9⟩
end Go.Proofs.Ytnemjmkhbnpfmaa.Laws
