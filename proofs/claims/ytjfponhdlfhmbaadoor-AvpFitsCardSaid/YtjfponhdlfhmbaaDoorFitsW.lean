/-
  AvpFits: the walk.
-/
import Derived.Test.YtjfponhdlfhmbaaDoorLaws1
import Derived.Test.YtjfponhdlfhmbaaDoorRefF
import Derived.Test.YtjfponhdlfhmbaaDoorValid0
namespace Go.Proofs.YtjfponhdlfhmbaaDoor.Fit
open Go.RowKit Mem Cells Avps Wire Ops
set_option linter.unusedVariables false
set_option linter.unusedSimpArgs false
set_option maxRecDepth 100000 in
set_option maxHeartbeats 1600000 in
theorem fitsLaw (t : Int) (v : Value) (xs : List Int) (w : World) (hr : Reads .u8 w v xs) (hx : ∀ x ∈ xs, 0 ≤ x ∧ x ≤ 255) (hl : xs.length ≤ 140737488351232) (ht : Lib.Utf8Tabs 0 1 w) :
    Calls Tryd.prog 3 #[.int .i64 t, v] w fun e w' => e = .returned (.bool true) ∧ Below w.heap.size w w' := by
  have PA := Lib.hid (fun u => Avp.answers u)
  obtain ⟨p, c, rfl, q1, q2, _, _⟩ := id hr
  obtain ⟨F, hF⟩ : ∃ F, fitF t xs = F := ⟨_, rfl⟩
  obtain ⟨L, hL⟩ : ∃ L, Dict.leastN t = L := ⟨_, rfl⟩
  have P1 := Lib.hid (fun (u : Value) y (hy : Below w.heap.size w y) (hu : Reads .u8 y u xs) => by
    have := fits u xs y hu hx (by omega) t (fun _ => Utf.valid_ u xs y hu hx (Utf.tabs_below ht hy))
    rwa [hF] at this)
  have P2 := Lib.hid (fun y (hy : Below w.heap.size w y) => by
    have := refFits (.slice p xs.length c) xs y (hr.below hy) hx t
    rwa [hF] at this)
  have P3 := Lib.hid (fun y => by
    have := Dict.least t y
    rwa [hL] at this)
  have P4 := Lib.hid (fun y => by
    have := refLeast t y
    rwa [hL] at this)
  have HR := Lib.hid hr
  obtain ⟨n, hn⟩ : ∃ n, xs.length = n := ⟨_, rfl⟩
  have HN := Lib.hid hn
  have K1 : ([] : List Int).length + xs.length ≤ maxLen := by simp [maxLen]; omega
  have K2 : (([] : List Int).length + xs.length) * 1 ≤ 140737488355328 := by simp; omega
  rw [hn]
  rw [hn] at hl P2
  clear q1 q2 hx ht hr hn hF hL
  by_cases hbig : 5000 < n
  · have hz : (5000 : Int) < n := by omega
    go_enter Tryd.func3, Tryd.ntmps3
    go_wp2_with (first
      | (go_at_call 4; have _t := hbig; clear _t; go_must (refine (PA.out _).mono ?_; rintro e w1 ⟨rfl, hb1⟩; clear hbig))
      | (go_at_call 4; go_must (refine (PA.out _).mono ?_; rintro e w3 ⟨rfl, hb3⟩; have hb4 := hb1.trans (hb3.mono hb1.size))))
    go_ret
    exact ⟨rfl, hb4⟩
  · have hz : ¬ (5000 : Int) < n := by omega
    go_enter Tryd.func3, Tryd.ntmps3
    go_wp2_with (first
      | (go_at_call 4; go_must (refine (PA.out _).mono ?_; rintro e w1 ⟨rfl, hb1⟩))
      | (refine wpl_empty rfl 22 5 rfl .u8 (fun _ => by kernel_rfl) ?_; go_must (intro w2 hown2 hb2 hs2; have hb3 := hb1.trans (hb2.mono hb1.size); have hrd2 := HR.out.below hb3; clear hs2))
      | (at_builtin; have _t := hown2; clear _t; go_must (obtain ⟨i0, hi, hz0, hz1, hz2⟩ := info_parts Wire.info5; refine wpl_append rfl (.tmp 14) (.tmp 15) 22 rfl .u8 w1.heap.size 5 1 i0 (.int .u8 0) Tryd.underlying22 hi hz0 hz1 hz2 rfl (.slice (some ⟨w1.heap.size, 0, none⟩) 0 0) _ [] xs rfl (by show Value.slice p n c = _; rfl) hown2 (by have := hrd2; rwa [HN.out] at this) K1 K2 (by have := hb2.size; omega) ?_; intro v4 w4 hv4 hg4; rw [List.nil_append] at hv4; clear hi hz0 hz1 hz2; have hb4 := hb3.grown hg4 hb3.size (fun q e => by have e' : w1.heap.size = q := Option.some.inj e; have := hb1.size; omega); have hr4 := hv4.reads; clear hown2 hrd2 hb3 hb2 hg4 hv4 K1 K2))
      | (go_at_call 5; go_must (refine (P1.out _ _ hb4 hr4).mono ?_; rintro e w5 ⟨rfl, hb5⟩; have hb6 := hb4.trans (hb5.mono hb4.size); clear hr4 hb5 P1))
      | (go_at_call 6; go_must (refine (P2.out _ hb6).mono ?_; rintro e w7 ⟨rfl, hb7⟩; have hb8 := hb6.trans (hb7.mono hb6.size); clear hb7 P2))
      | (go_at_call 7; go_must (refine (P3.out _).mono ?_; rintro e w9 ⟨rfl, h9⟩; have hb9 : Below w.heap.size w w9 := (by rw [h9]; exact hb8); clear h9 P3))
      | (go_at_call 8; go_must (refine (P4.out _).mono ?_; rintro e w10 ⟨rfl, h10⟩; have hb10 : Below w.heap.size w w10 := (by rw [h10]; exact hb9); clear h10 P4)))
    go_ret
    exact ⟨rfl, hb10⟩
end Go.Proofs.YtjfponhdlfhmbaaDoor.Fit
