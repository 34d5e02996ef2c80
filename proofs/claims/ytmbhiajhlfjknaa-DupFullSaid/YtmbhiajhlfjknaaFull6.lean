/-
  The law DupFull: the walk.
-/
import Derived.Test.YtmbhiajhlfjknaaFull5
namespace Go.Proofs.Ytmbhiajhlfjknaa.Dup
open Go.RowKit Mem Cells Ops
set_option linter.unusedVariables false
set_option linter.unusedSimpArgs false

set_option maxRecDepth 100000 in
set_option maxHeartbeats 3200000 in
theorem full_ (a b : Int) (w : World) (ha : 0 ≤ a ∧ a ≤ 255) (hb : 0 ≤ b ∧ b ≤ 255) : Calls Try.prog 4 #[.int .u8 a, .int .u8 b] w fun e w' => e = .returned (.bool true) ∧ Below w.heap.size w w' := by
  have PN := Lib.hid (New 1000 (a % 50 + 1) w (by omega) (by omega))
  go_enter Try.func4, Try.ntmps4
  go_upto_region 6 with (first
    | (go_at_call 6; go_must (refine PN.out.mono ?_; rintro e w1 ⟨rfl, hH, hb1, hs1⟩))
    | (go_at_call 7; go_must (refine (answers _).mono ?_; rintro e w2 ⟨rfl, hb⟩; have hu := hb1.trans (hb.mono hb1.size); have hH2 := (hH w2.heap.size).below hb; have hSB : w.heap.size < w2.heap.size := (by have := hb.size; omega); clear hb1 hH hb hs1)))
  obtain ⟨m, hm, hm1⟩ : ∃ m : Nat, a % 50 + 1 = (m : Int) ∧ 1 ≤ m ∧ m ≤ 50 := ⟨(a % 50 + 1).toNat, by omega, by omega⟩
  obtain ⟨n, hn, hn1⟩ : ∃ n : Nat, (m : Int) + b % 60 = (n : Int) ∧ m ≤ n ∧ n ≤ 120 := ⟨((m : Int) + b % 60).toNat, by omega, by omega⟩
  simp only [hm] at hH2 ⊢
  simp only [hn]
  clear PN hm hn ha hb
  go_wp2_with fail
  go_loopw [9] (fun j wr => ∃ i : Nat, j = .int .i64 i ∧ i ≤ n ∧ (∃ p c, Has w2.heap.size wr w.heap.size 1000 m ((i - 1 : Nat) / 10 : Nat) p c (lastOf m i)) ∧ Below w.heap.size w wr ∧ w2.heap.size ≤ wr.heap.size) (fun j _ => n - (intOf j).toNat)
  case atStart => exact ⟨0, rfl, by omega, ⟨_, _, hH2⟩, hu, Nat.le_refl _⟩
  case round =>
    obtain ⟨i, rfl, hi, ⟨p, c, hH⟩, hbl, hsz⟩ := hrel
    by_cases hlt : i < n
    · go_wp2_with (go_at_call 8; go_must (have hz := (Below.refl wr.heap.size wr).alloc (Nat.le_refl _) (.cells #[.int .u8 i] 5); refine (putNext (hH.below hz) hSB (by have := hz.size; omega) ⟨by omega, by omega⟩ (by omega) ⟨by omega, by omega⟩ _ (Reads.one .u8 wr i 5)).mono ?_; rintro e w5 ⟨rfl, ⟨p5, c5, hH5⟩, hf5⟩; have huz := hbl.trans (hz.mono hbl.size); have hb5 := huz.trans (hf5 w.heap.size (Nat.le_refl _) huz.size); have hs5 := (hf5 w.heap.size (Nat.le_refl _) huz.size).size; have hs6 := hz.size))
      go_roundw
      case rel => exact ⟨i + 1, by go_num, by omega, ⟨p5, c5, hH5⟩, hb5, by omega⟩
      case measure => simp [intOf]; omega
    · obtain rfl : i = n := by omega
      have HNO := Lib.hid (lastOf_old m i ((i : Int) / 10) (by omega) (by omega))
      have HLEN := Lib.hid (show (lastOf m i).length = m by rw [lastOf_length]; omega)
      go_wp2_with fail
      go_loopw [10, 11, 12] (fun j x ok wr2 => ∃ q : Nat, j = .int .i64 q ∧ q ≤ i ∧ Has w2.heap.size wr2 w.heap.size 1000 m ((i - 1 : Nat) / 10 : Nat) p c (lastOf m i) ∧ Below w.heap.size w wr2) (fun j _ _ _ => i - (intOf j).toNat)
      case atStart => exact ⟨0, rfl, by omega, hH, hbl⟩
      case round =>
        obtain ⟨q, rfl, hq, hH2, hbl2⟩ := hrel
        by_cases hlt2 : q < i
        · by_cases hc : i - m ≤ q
          · have PF := Lib.hid (by have := Find hH2 hostH q ((i : Int) / 10) ⟨by omega, by omega⟩ HNO.out; rwa [find_lastOf, if_pos ⟨hc, hlt2⟩] at this)
            go_wp2_with (go_at_call 9; go_must (refine PF.out.mono ?_; rintro e w7 ⟨v7, rfl, hr7, hb7⟩; have hr7' : Row .u8 5 _ w7 v7 [(q : Int)] := hr7; have s1 := string24 hr7'.reads; have s2 := string24 (Reads.one .u8 w7 q 5); have hz := (Below.refl w7.heap.size w7).alloc (Nat.le_refl _) (.cells #[.int .u8 q] 5); have hb8 := hb7.trans (hz.mono hb7.size); clear hr7))
            go_roundw
            case rel => exact ⟨q + 1, by go_num, by omega, hH2.below hb8, hbl2.trans (hb8.mono hbl2.size)⟩
            case measure => simp [intOf]; omega
          · have PF := Lib.hid (by have := Find hH2 hostH q ((i : Int) / 10) ⟨by omega, by omega⟩ HNO.out; rwa [find_lastOf, if_neg (by omega)] at this)
            go_wp2_with (go_at_call 9; go_must (refine PF.out.mono ?_; rintro e w7 ⟨v7, rfl, hr7, hb7⟩))
            go_roundw
            case rel => exact ⟨q + 1, by go_num, by omega, hH2.below hb7, hbl2.trans (hb7.mono hbl2.size)⟩
            case measure => simp [intOf]; omega
        · have PG := Lib.hid (by have := Find hH2 ⟨#[103]⟩ ((i : Int) - 1) ((i : Int) / 10) ⟨by omega, by omega⟩ HNO.out; rwa [find_none (fun _ => false) _ _ _ (fun k hk => by obtain ⟨j, _, _, rfl⟩ := lastOf_mem m i k hk; exact hit_g _ j)] at this)
          go_wp2_with (first
            | (go_at_call 9; go_must (refine PG.out.mono ?_; rintro e w7 ⟨v7, rfl, hr7, hb7⟩))
            | (go_at_call 10; go_must (have PL := Len (hH2.below hb7) ((i : Int) / 10) ⟨by omega, by omega⟩ HNO.out; rw [HLEN.out] at PL; refine PL.mono ?_; rintro e w8 ⟨rfl, hb8⟩; have hu8 := (hbl2.trans (hb7.mono hbl2.size)).trans (hb8.mono (hbl2.trans (hb7.mono hbl2.size)).size))))
          go_ret
          exact ⟨rfl, hu8⟩
end Go.Proofs.Ytmbhiajhlfjknaa.Dup
