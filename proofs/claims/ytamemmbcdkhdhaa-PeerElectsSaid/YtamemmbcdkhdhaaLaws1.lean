/-
  answers; the walks of PeerSteps, PeerEnds, PeerKeeps.
-/
import Derived.Test.YtamemmbcdkhdhaaStep7
namespace Go.Proofs.Ytamemmbcdkhdhaa.Peer
open Go.RowKit Mem Cells
set_option linter.unusedVariables false
set_option linter.unusedSimpArgs false

theorem first : nextF 0 1 false = 1 ∧ doF 0 1 false = [1] ∧ errF 0 1 = 0 := by decide +kernel
theorem answers (w : World) : Calls Try.prog 10 #[] w fun e w' => e = .returned (.bool true) ∧ Below w.heap.size w w' := by
  go_enter Try.func10, Try.ntmps10
  go_wp2_with fail
  refine (step 0 1 false w).mono ?_
  rintro e w1 ⟨hb, v, rfl, hr⟩
  rw [first.2.1] at hr
  rw [first.1, first.2.2]
  obtain ⟨p, c, rfl, _, _, _, h4⟩ := hr.reads
  obtain ⟨b, off, rfl, hlt, hc⟩ := h4 (by decide)
  have c0 := hc 0 (by decide)
  simp at c0
  clear hc h4 hr
  simp only [List.length_cons, List.length_nil, Nat.zero_add]
  go_wp2
  go_ret
  exact ⟨rfl, hb⟩

set_option maxRecDepth 100000 in
set_option maxHeartbeats 1600000 in
theorem steps (s ev : Int) (win : Bool) (w : World) : Calls Try.prog 3 #[.int .i64 s, .int .i64 ev, .bool win] w fun e w' => e = .returned (.bool true) ∧ Below w.heap.size w w' := by
  have hle := doF_le s ev win
  go_enter Try.func3, Try.ntmps3
  go_wp2_with fail
  refine (step s ev win w).mono ?_
  rintro e w1 ⟨b1, v, rfl, r1⟩
  replace r1 := r1.reads
  go_wp2_with fail
  refine (refStep s ev win _).mono ?_
  rintro e w2 ⟨b2, v2, rfl, r2⟩
  replace r1 := r1.below b2
  have hb2 := Frame.ext b1 b2
  clear b1 b2
  go_wp2_with fail
  refine (answers _).mono ?_
  rintro e w3 ⟨rfl, b3⟩
  replace r1 := r1.below b3
  replace r2 := r2.below b3
  have hb3 := Frame.ext hb2 b3
  clear b3 hb2
  go_wp2_with fail
  refine (same _ _ _ _ r1 r2 (by omega)).mono ?_
  rintro e w4 ⟨rfl, b4⟩
  have hb4 := Frame.ext hb3 b4
  clear b4 hb3 r1 r2
  go_wp2
  go_ret
  exact ⟨rfl, hb4⟩

/-- The events that end all. -/
def evAt (k : Nat) : Int := [5, 7, 8, 5, 7].getD k 0
def endF (win : Bool) : Nat → Int → Int
  | 0, s => s
  | k + 1, s => nextF (endF win k s) (evAt k) win
theorem ends_fact : ∀ s ∈ [(0 : Int), 1, 2, 3, 4, 5, 6, 7], ∀ win ∈ [true, false], (∀ k ∈ [0, 1, 2, 3, 4], errF (endF win k s) (evAt k) = 0) ∧ endF win 5 s = 0 := by decide +kernel
theorem first_fact : ∀ win ∈ [true, false], nextF 0 1 win = 1 ∧ doF 0 1 win = [1] ∧ errF 0 1 = 0 := by decide +kernel

theorem endsBad (s : Int) (win : Bool) (w : World) (h : s < 0 ∨ (7 < s ∧ ¬ s < 0)) : Calls Try.prog 4 #[.int .i64 s, .bool win] w fun e w' => e = .returned (.bool true) ∧ Below w.heap.size w w' := by
  rcases h with h | ⟨h, h'⟩
  all_goals
    go_enter Try.func4, Try.ntmps4
    go_wp2_with fail
    refine (answers _).mono ?_
    rintro e w3 ⟨rfl, b3⟩
    go_wp2
    go_ret
    exact ⟨rfl, b3⟩
set_option maxRecDepth 100000 in
set_option maxHeartbeats 1600000 in
theorem ends (s : Int) (win : Bool) (w : World) : Calls Try.prog 4 #[.int .i64 s, .bool win] w fun e w' => e = .returned (.bool true) ∧ Below w.heap.size w w' := by
  by_cases h1 : s < 0
  · exact endsBad s win w (.inl h1)
  by_cases h2 : 7 < s
  · exact endsBad s win w (.inr ⟨h2, h1⟩)
  have hm : s ∈ [(0 : Int), 1, 2, 3, 4, 5, 6, 7] := by
    have : s = 0 ∨ s = 1 ∨ s = 2 ∨ s = 3 ∨ s = 4 ∨ s = 5 ∨ s = 6 ∨ s = 7 := by omega
    simpa using this
  have HF := Lib.hid (ends_fact s hm win (by cases win <;> simp))
  have HG := Lib.hid (first_fact win (by cases win <;> simp))
  have hl := lst w [5, 7, 8, 5, 7] (by decide)
  have hb := (Below.refl w.heap.size w).alloc (Nat.le_refl _) (.cells ([5, 7, 8, 5, 7].map (Value.int .i64)).toArray 3)
  clear hm
  go_enter Try.func4, Try.ntmps4
  go_wp2_with fail
  go_loopw [5, 7] (fun q i wr => ∃ k : Nat, k ≤ 5 ∧ i = .int .i64 k ∧ q = .int .i64 (endF win k s) ∧ Reads .i64 wr (.slice (some ⟨w.heap.size, 0, none⟩) 5 5) [5, 7, 8, 5, 7] ∧ Below w.heap.size w wr) (fun _ i _ => 5 - (intOf i).toNat)
  case atStart => exact ⟨0, by omega, rfl, rfl, hl, hb⟩
  case round =>
    clear hl hb
    obtain ⟨k, hk, rfl, rfl, hl, hb⟩ := hrel
    by_cases hlt : k < 5
    · have hl' := hl
      obtain ⟨p, c, he, _, _, _, h4⟩ := hl
      cases he
      obtain ⟨b, off, he, hlt2, hc⟩ := h4 (by decide)
      cases he
      have c0 := hc k (by simpa using hlt)
      rw [show [5, 7, 8, 5, 7].getD k 0 = evAt k from rfl, Nat.zero_add] at c0
      have he0 := Lib.hid (HF.out.1 k (by have : k = 0 ∨ k = 1 ∨ k = 2 ∨ k = 3 ∨ k = 4 := by omega
                                          simpa using this))
      have hsx := Lib.hid (show nextF (endF win k s) (evAt k) win = endF win (k + 1) s from rfl)
      clear hc h4
      generalize evAt k = ev at c0 he0 hsx
      generalize endF win k s = q at he0 hsx
      go_wp2_with fail
      refine (step q ev win _).mono ?_
      rintro e w1 ⟨b1, v, rfl, _⟩
      rw [he0.out, hsx.out]
      have hl2 := hl'.below b1
      have hb2 := Frame.ext hb b1
      clear b1 hb hl' c0
      go_wp2_with fail
      exact ⟨⟨k + 1, by omega, by go_num, rfl, hl2, hb2⟩, by simp [intOf]; omega⟩
    · obtain rfl : k = 5 := by omega
      rw [HF.out.2]
      clear hl
      go_wp2_with fail
      refine (step 0 1 win _).mono ?_
      rintro e w1 ⟨b1, v, rfl, hr⟩
      rw [HG.out.2.1] at hr
      rw [HG.out.1, HG.out.2.2]
      obtain ⟨p, c, rfl, _⟩ := hr.reads
      have hb2 := Frame.ext hb b1
      clear b1 hb hr
      simp only [List.length_cons, List.length_nil, Nat.zero_add]
      go_wp2_with fail
      refine (answers _).mono ?_
      rintro e w3 ⟨rfl, b3⟩
      have hb3 := Frame.ext hb2 b3
      clear hb2 b3
      go_wp2
      go_ret
      exact ⟨rfl, hb3⟩

set_option maxRecDepth 100000 in
set_option maxHeartbeats 1600000 in
theorem keeps (s ev : Int) (win : Bool) (w : World) : Calls Try.prog 5 #[.int .i64 s, .int .i64 ev, .bool win] w fun e w' => e = .returned (.bool true) ∧ Below w.heap.size w w' := by
  obtain ⟨i0, hi, hz0, hz1, hz2⟩ := info_parts info3
  have hle := doF_le s ev win
  go_enter Try.func5, Try.ntmps5
  go_wp2_with fail
  refine (step s ev win w).mono ?_
  rintro e w1 ⟨b1, v, rfl, r1⟩
  obtain ⟨xs, hxs⟩ : ∃ xs, doF s ev win = xs := ⟨_, rfl⟩
  have HXS := Lib.hid hxs
  rw [hxs] at r1 hle
  clear hxs
  have bn := (Below.refl w1.heap.size w1).alloc (Nat.le_refl _) (.cells #[] 3)
  have rn := Row.alloc_nil .i64 3 w1 (Nat.le_refl w1.heap.size)
  have rx := r1.reads.below bn
  have hb1 := b1.size
  go_wp2_with (at_builtin; refine wpl_append rfl _ _ 22 rfl .i64 w1.heap.size 3 8 i0 (.int .i64 0) Try.underlying22 hi hz0 hz1 hz2 rfl _ _ _ _ rfl rfl rn rx ?_ ?_ ?_ ?_)
  · unfold maxLen; simp; omega
  · simp; omega
  · exact bn.size
  · intro v6 w6 o6 g6
    have b6 : Below w1.heap.size w1 w6 := bn.grown g6 bn.size (fun q hq => (rn.lt q hq).1)
    have ra := Row.below r1 b6
    have hbb := Frame.ext b1 b6
    have hsz : ∀ g, v.ownBlock = some g → g < w1.heap.size := fun g hg => (r1.lt g hg).2
    clear g6 bn rn rx r1 b6 b1
    obtain ⟨p, c, rfl, _, _, _, _⟩ := ra.reads
    have HSZ := Lib.hid hsz
    clear hsz
    go_wp2_with fail
    go_loopw [11] (fun i wr => ∃ (k : Nat) (ys : List Int), k ≤ xs.length ∧ i = .int .i64 k ∧ ys.length = xs.length ∧ Row .i64 3 w.heap.size wr (.slice p xs.length c) ys ∧ Row .i64 3 w1.heap.size wr v6 xs ∧ Below w.heap.size w wr) (fun i _ => xs.length - (intOf i).toNat)
    case atStart => exact ⟨0, xs, by omega, rfl, rfl, ra, o6, hbb⟩
    case round =>
      clear ra o6 hbb
      obtain ⟨k, ys, hk, rfl, hyl, ra, o6, hbb⟩ := hrel
      by_cases hlt : k < xs.length
      · obtain ⟨g, rfl, hq0, hg1, hg2⟩ := Row.form ra (by omega)
        clear hq0
        have ra' := ra
        rw [← hyl] at ra'
        obtain ⟨c0, z0⟩ := Row.cell ra' k (by omega)
        have rs := Row.store ra' k 99
        have ro : Row .i64 3 w1.heap.size (wr.setCell ⟨g, k, none⟩ (.int .i64 99)) v6 xs := Row.store_other ra' o6 (fun h => by
          have h1 := (o6.lt g h).1
          have h2 := HSZ.out g rfl
          omega) k 99
        rw [hyl] at rs
        have RS := Lib.hid rs
        have RO := Lib.hid ro
        have HB := Lib.hid (hbb.setCell (p := ⟨g, k, none⟩) hg1 (.int .i64 99))
        have q1 : (k : Int) < (xs.length : Int) := by omega
        have HYL := Lib.hid hyl
        clear ra ra' rs ro o6 hbb hyl
        go_wp2_with fail
        exact ⟨⟨k + 1, ys.set k 99, by omega, by go_num, by rw [List.length_set, HYL.out], RS.out, RO.out, HB.out⟩, by simp [intOf]; omega⟩
      · obtain rfl : k = xs.length := by omega
        have rw6 := o6.reads
        clear o6 ra
        go_wp2_with fail
        refine (step s ev win _).mono ?_
        rintro e w7 ⟨b7, v7, rfl, r7⟩
        rw [HXS.out] at r7
        replace r7 := r7.reads
        replace rw6 := rw6.below b7
        have hb7 := Frame.ext hbb b7
        clear b7 hbb
        go_wp2_with fail
        refine (answers _).mono ?_
        rintro e w8 ⟨rfl, b8⟩
        replace r7 := r7.below b8
        replace rw6 := rw6.below b8
        have hb8 := Frame.ext hb7 b8
        clear b8 hb7
        go_wp2_with fail
        refine (same _ _ _ _ r7 rw6 (by omega)).mono ?_
        rintro e w9 ⟨rfl, b9⟩
        have hb9 := Frame.ext hb8 b9
        clear b9 hb8
        go_wp2
        go_ret
        exact ⟨rfl, hb9⟩
end Go.Proofs.Ytamemmbcdkhdhaa.Peer
