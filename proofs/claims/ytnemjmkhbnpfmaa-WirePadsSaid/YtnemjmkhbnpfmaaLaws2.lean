/-
  The walk of the law WirePads: it returns true, and writes nothing that was there.
-/
import Derived.Test.YtnemjmkhbnpfmaaLaws1
import Derived.Test.YtnemjmkhbnpfmaaWire3
import Derived.Test.YtnemjmkhbnpfmaaPrps
namespace Go.Proofs.Ytnemjmkhbnpfmaa.Laws
open Go.RowKit Mem Wire
set_option linter.unusedVariables false

theorem paddedOf_length (xs : List Int) : ((paddedOf xs).length : Int) = xs.length + padN xs.length := by
  have hp : 0 ≤ padN xs.length := by unfold padN; split <;> omega
  unfold paddedOf; simp; omega
theorem paddedOf_mod (xs : List Int) : ((paddedOf xs).length : Int) % 4 = 0 := by
  rw [paddedOf_length]; unfold padN; rw [if_neg (by omega)]; omega

set_option maxRecDepth 100000 in
set_option maxHeartbeats 1600000 in
theorem pads (p : Option Addr) (l c : Nat) (z : List Int) (n : Int) (w : World) (hr : Frame.IsRow .u8 w p l c z) (hl : l ≤ 140737488351232) (hn : -9223372036854775808 ≤ n ∧ n ≤ 9223372036854775807) :
    Calls Try.prog 4 #[.slice p l c, .int .i64 n] w fun e w' => e = .returned (.bool true) ∧ Below w.heap.size w w' := by
  obtain ⟨hr, hlen, hwf⟩ := Mem.isRow_reads hr
  obtain ⟨xs, hx⟩ : ∃ xs, z.take l = xs := ⟨_, rfl⟩
  rw [hx] at hr hlen hwf
  subst hlen
  clear hx hwf
  have hpl := paddedOf_length xs
  have hpm := paddedOf_mod xs
  rw [hpl] at hpm
  have hpb : 0 ≤ padN xs.length := by unfold padN; split <;> omega
  have hpc : padN xs.length < 4 := by unfold padN; split <;> omega
  go_enter Try.func4, Try.ntmps4
  go_wp2_with (first
    | (go_at_call 10; refine (own _ _ _ hr (by omega)).mono ?_; rintro e w1 ⟨v1, rfl, hown1, hb1⟩)
    | (go_at_call 12; refine (padded _ _ _ hown1.reads (by omega)).mono ?_; rintro e w2 ⟨v2, rfl, hown2, hb2⟩))
  have hr2 := (hr.below hb1).below hb2
  have hrp := hown2.reads
  refine Mono.wp_region_mono [some 9, some 10, some 11, some 12, some 13, some 14, some 15, some 16, some 17, some 18, some 19, some 20, some 21, some 22, some 23, some 24, some 25, some 26, some 27, some 28, some 29, some 30, some 31, some 32, some 33, some 34, some 35, some 36, some 37, some 38, some 39, some 40, some 41, some 4]
    [Mono.isV (.bool true), Mono.isV (.bool true), Mono.isV (.int .i64 n), Mono.isV (.int .i64 (padN n)), Mono.isV (.int .i64 n), Mono.isV (.int .i64 (padN n)), Mono.isV (.bool true), Mono.isV (.bool true), Mono.isV (.bool true), readsP .u8 (paddedOf xs), Mono.isV (.string (strOfNums (paddedOf xs))), Mono.isV (.slice p xs.length c), readsP .u8 (paddedOf xs), Mono.isV (.string (strOfNums (paddedOf xs))), Mono.isV (.bool true), Mono.isV (.bool true), Mono.isV (.bool true), readsP .u8 (paddedOf xs), Mono.isV (.int .i64 ((paddedOf xs)).length), Mono.isV (.int .i64 0), Mono.isV (.bool true), Mono.isV (.bool true), Mono.isV (.bool true), readsP .u8 (paddedOf xs), Mono.isV (.int .i64 ((paddedOf xs)).length), Mono.isV (.slice p xs.length c), Mono.isV (.int .i64 xs.length), Mono.isV (.slice p xs.length c), Mono.isV (.int .i64 xs.length), Mono.isV (.int .i64 (padN xs.length)), Mono.isV (.int .i64 ((paddedOf xs).length)), Mono.isV (.bool true), Mono.isV (.bool true), Mono.isV (.bool true)]
    (by kernel_rfl) (by kernel_rfl) (by kernel_rfl) ?_ ?_
  · simp only [Mono.OpGoals, and_true]
    refine ⟨?_, ?_, ?_, ?_, ?_, ?_, ?_, ?_, ?_, ?_, ?_, ?_, ?_, ?_, ?_, ?_, ?_, ?_, ?_, ?_, ?_, ?_, ?_, ?_, ?_, ?_, ?_, ?_, ?_, ?_, ?_, ?_, ?_, ?_⟩
    all_goals
      intro a u hbu hsu hdu
      simp [Mono.DepFacts, Mono.isV, readsP, Act.eval] at hdu hsu
      have hru := hr2.below hbu
      have hrpu := hrp.below hbu
      try have hcv := string22 hdu.1
      try (obtain ⟨pp, cc, hlv, _⟩ := hdu.1)
      try (rw [hlv] at hcv)
      simp [Mono.want, Mono.isV, readsP, Act.eval, hdu]
      go_wp2_with (first
        | (go_at_call 8; refine (answers _).mono ?_; rintro e w1 ⟨rfl, hb1⟩)
        | (go_at_call 13; refine (pad _ _ (by omega)).mono ?_; rintro e w1 ⟨rfl, rfl⟩)
        | (go_at_call 14; refine (refPad _ _ (by omega)).mono ?_; rintro e w1 ⟨rfl, rfl⟩)
        | (go_at_call 15; refine (refPadded _ _ _ hru (by omega)).mono ?_; rintro e w2 ⟨v2, rfl, hown2, hb2⟩; have hr2 := hown2.reads))
    all_goals first
      | exact Below.refl _ _
      | exact ⟨_, rfl, by assumption⟩
      | exact ⟨_, rfl, Below.refl _ _, by assumption⟩
      | exact ⟨rfl, Below.refl _ _⟩
      | exact ⟨trivial, Below.refl _ _⟩
      | exact ⟨by rw [hpm], Below.refl _ _⟩
  · intro u hu
    simp [Mono.Fin, Mono.isV, readsP, Act.put]
    intros
    go_wp2
    go_ret
    exact ⟨rfl, Frame.ext (Frame.ext hb1 hb2) hu⟩
end Go.Proofs.Ytnemjmkhbnpfmaa.Laws
