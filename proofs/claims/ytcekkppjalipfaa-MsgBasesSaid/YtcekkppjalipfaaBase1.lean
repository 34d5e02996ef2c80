/-
  Contracts: msg.Base and the reference's Base; the law MsgBases: the walk. (Printed by gen_base.py.)
-/
import Derived.Test.YtcekkppjalipfaaBase0
import Derived.Test.YtcekkppjalipfaaMsg6
import Derived.Deep.Cut
namespace Go.Proofs.Ytcekkppjalipfaa.Rule
open Go.RowKit Mem Cells Ops Go.Maps
set_option linter.unusedVariables false
set_option linter.unusedSimpArgs false

theorem len3 : base3.length ≤ maxLen := by decide
theorem len4 : base4.length ≤ maxLen := by decide
def vs3 : Array (Nat × Value) := #[(0, .agg #[.int .u32 264, .int .u32 0, .int .i64 10, .bool true, .int .i64 1, .int .i64 1]), (1, .agg #[.int .u32 296, .int .u32 0, .int .i64 10, .bool true, .int .i64 1, .int .i64 1]), (2, .agg #[.int .u32 278, .int .u32 0, .int .i64 4, .bool true, .int .i64 0, .int .i64 1])]
def vs4 : Array (Nat × Value) := #[(0, .agg #[.int .u32 283, .int .u32 0, .int .i64 10, .bool true, .int .i64 1, .int .i64 1]), (1, .agg #[.int .u32 293, .int .u32 0, .int .i64 10, .bool true, .int .i64 0, .int .i64 1]), (2, .agg #[.int .u32 282, .int .u32 0, .int .i64 10, .bool true, .int .i64 0, .int .i64 56]), (3, .agg #[.int .u32 9100, .int .u32 0, .int .i64 1, .bool true, .int .i64 1, .int .i64 1])]
theorem run_base3 (w : World) : (Instr.buildSlice 36 3 vs3).run Try.prog w = .ok (.slice (some ⟨w.heap.size, 0, none⟩) 3 3) (w.alloc (.cells (flatR base3).toArray 40)) := by kernel_rfl
theorem run_base4 (w : World) : (Instr.buildSlice 36 4 vs4).run Try.prog w = .ok (.slice (some ⟨w.heap.size, 0, none⟩) 4 4) (w.alloc (.cells (flatR base4).toArray 40)) := by kernel_rfl
def BaseIs (w : World) (rs : List R) (e : Ending) (w' : World) : Prop := ∃ v, e = .returned v ∧ OwnR 40 w.heap.size w' v rs ∧ Below w.heap.size w w'
set_option maxRecDepth 100000 in
set_option maxHeartbeats 800000 in
theorem base_257 (c : Int) (w : World) (hc : 0 ≤ c ∧ c ≤ 4294967295) (h : c = 257) : Calls Try.prog 15 #[.int .u32 c] w (BaseIs w (base3)) := by
  have S1 := Lib.hid (rfl : w = w)
  have S2 := Lib.hid (rfl : w = w)
  have S3 := Lib.hid (rfl : w = w)
  subst h
  go_enter Try.func15, Try.ntmps15
  go_wp2_with ((with_reducible refine wpl_buildS rfl 36 3 #[(0, .tmp 4), (1, .tmp 5), (2, .tmp 6)] rfl vs3 ?_ 40 (flatR base3).toArray ?_ ?_); have _t := S1; clear _t; (simp [Act.eval, vs3, vs4]); exact run_base3; go_must (intro w1 hat hb hs; clear hs S1; have ho := ownR_of_at base3 hat (Nat.le_refl _) len3; have hu := hb; clear hat hb))
  go_ret
  exact ⟨_, rfl, ho, hu⟩
set_option maxRecDepth 100000 in
set_option maxHeartbeats 800000 in
theorem base_280 (c : Int) (w : World) (hc : 0 ≤ c ∧ c ≤ 4294967295) (h : c = 280) : Calls Try.prog 15 #[.int .u32 c] w (BaseIs w (base3)) := by
  have S1 := Lib.hid (rfl : w = w)
  have S2 := Lib.hid (rfl : w = w)
  have S3 := Lib.hid (rfl : w = w)
  subst h
  go_enter Try.func15, Try.ntmps15
  go_wp2_with ((with_reducible refine wpl_buildS rfl 36 3 #[(0, .tmp 4), (1, .tmp 5), (2, .tmp 6)] rfl vs3 ?_ 40 (flatR base3).toArray ?_ ?_); have _t := S1; clear _t; (simp [Act.eval, vs3, vs4]); exact run_base3; go_must (intro w1 hat hb hs; clear hs S1; have ho := ownR_of_at base3 hat (Nat.le_refl _) len3; have hu := hb; clear hat hb))
  go_ret
  exact ⟨_, rfl, ho, hu⟩
set_option maxRecDepth 100000 in
set_option maxHeartbeats 800000 in
theorem base_282 (c : Int) (w : World) (hc : 0 ≤ c ∧ c ≤ 4294967295) (h : c = 282) : Calls Try.prog 15 #[.int .u32 c] w (BaseIs w (base3)) := by
  have S1 := Lib.hid (rfl : w = w)
  have S2 := Lib.hid (rfl : w = w)
  have S3 := Lib.hid (rfl : w = w)
  subst h
  go_enter Try.func15, Try.ntmps15
  go_wp2_with ((with_reducible refine wpl_buildS rfl 36 3 #[(0, .tmp 4), (1, .tmp 5), (2, .tmp 6)] rfl vs3 ?_ 40 (flatR base3).toArray ?_ ?_); have _t := S1; clear _t; (simp [Act.eval, vs3, vs4]); exact run_base3; go_must (intro w1 hat hb hs; clear hs S1; have ho := ownR_of_at base3 hat (Nat.le_refl _) len3; have hu := hb; clear hat hb))
  go_ret
  exact ⟨_, rfl, ho, hu⟩
set_option maxRecDepth 100000 in
set_option maxHeartbeats 800000 in
theorem base_9300 (c : Int) (w : World) (hc : 0 ≤ c ∧ c ≤ 4294967295) (h : c = 9300) : Calls Try.prog 15 #[.int .u32 c] w (BaseIs w (base3 ++ base4)) := by
  have S1 := Lib.hid (rfl : w = w)
  have S2 := Lib.hid (rfl : w = w)
  have S3 := Lib.hid (rfl : w = w)
  subst h
  go_enter Try.func15, Try.ntmps15
  go_wp2_with (first | ((with_reducible refine wpl_buildS rfl 36 3 #[(0, .tmp 4), (1, .tmp 5), (2, .tmp 6)] rfl vs3 ?_ 40 (flatR base3).toArray ?_ ?_); have _t := S1; clear _t; (simp [Act.eval, vs3, vs4]); exact run_base3; go_must (intro w1 hat hb hs; clear hs S1; have ho := ownR_of_at base3 hat (Nat.le_refl _) len3; have hu := hb; clear hat hb)) | ((with_reducible refine wpl_buildS rfl 36 4 #[(0, .tmp 17), (1, .tmp 18), (2, .tmp 19), (3, .tmp 20)] rfl vs4 ?_ 40 (flatR base4).toArray ?_ ?_); have _t := S2; clear _t; (simp [Act.eval, vs3, vs4]); exact run_base4; go_must (intro w2 hat hb hs; clear hs S2; have hr4 := (ownR_of_at base4 hat (Nat.le_refl _) len4).reads; have ho2 := ho.below hb; have hu2 := hu.trans (hb.mono hu.size); clear hat hb ho hu)) | (at_builtin; have _t := S3; clear _t; go_must (obtain ⟨i0, z0, hi, hz0, hz1, hz2, hz3⟩ := info40; refine wpl_appendR rfl (.tmp 16) (.tmp 21) 36 rfl w.heap.size 40 40 i0 z0 Try.underlying36 hi hz0 hz1 hz2 hz3 _ _ base3 base4 rfl rfl ho2 hr4 (by decide) (by decide) (by decide) hu2.size ?_; clear hi hz0 hz1 hz2 hz3 S3; intro v u hown hg; have hu3 := hu2.grown hg hu2.size (fun q e => (ho2.lt q e).1))))
  go_ret
  exact ⟨_, rfl, hown, hu3⟩
set_option maxRecDepth 100000 in
set_option maxHeartbeats 800000 in
theorem base_no (c : Int) (w : World) (hc : 0 ≤ c ∧ c ≤ 4294967295) (h1 : c ≠ 257) (h2 : c ≠ 280) (h3 : c ≠ 282) (h4 : c ≠ 9300) : Calls Try.prog 15 #[.int .u32 c] w (BaseIs w ([])) := by
  have S1 := Lib.hid (rfl : w = w)
  have S2 := Lib.hid (rfl : w = w)
  have S3 := Lib.hid (rfl : w = w)
  have k1 : (c == 257) = false := by simpa using h1
  have k2 : (c == 280) = false := by simpa using h2
  have k3 : (c == 282) = false := by simpa using h3
  have k4 : (c == 9300) = false := by simpa using h4
  go_enter Try.func15, Try.ntmps15
  go_wp2_with ((with_reducible refine wpl_buildS rfl 36 3 #[(0, .tmp 4), (1, .tmp 5), (2, .tmp 6)] rfl vs3 ?_ 40 (flatR base3).toArray ?_ ?_); have _t := S1; clear _t; (simp [Act.eval, vs3, vs4]); exact run_base3; go_must (intro w1 hat hb hs; clear hs S1; have ho := ownR_of_at base3 hat (Nat.le_refl _) len3; have hu := hb; clear hat hb))
  go_ret
  exact ⟨_, rfl, OwnR.nil _ _ _, hu⟩
theorem msgBase (c : Int) (w : World) (hc : 0 ≤ c ∧ c ≤ 4294967295) : Calls Try.prog 15 #[.int .u32 c] w (BaseIs w (baseR c)) := by
  unfold baseR
  by_cases h1 : c = 257
  · rw [if_pos (.inl h1)]; exact base_257 c w hc h1
  by_cases h2 : c = 280
  · rw [if_pos (.inr (.inl h2))]; exact base_280 c w hc h2
  by_cases h3 : c = 282
  · rw [if_pos (.inr (.inr h3))]; exact base_282 c w hc h3
  rw [if_neg (by omega)]
  by_cases h4 : c = 9300
  · rw [if_pos h4]; exact base_9300 c w hc h4
  · rw [if_neg h4]; exact base_no c w hc h1 h2 h3 h4
set_option maxRecDepth 100000 in
set_option maxHeartbeats 800000 in
theorem rbase_257 (c : Int) (w : World) (hc : 0 ≤ c ∧ c ≤ 4294967295) (h : c = 257) : Calls Try.prog 16 #[.int .u32 c] w (BaseIs w (base3)) := by
  have S1 := Lib.hid (rfl : w = w)
  have S2 := Lib.hid (rfl : w = w)
  have S3 := Lib.hid (rfl : w = w)
  subst h
  go_enter Try.func16, Try.ntmps16
  go_wp2_with (first | ((with_reducible refine wpl_buildS rfl 36 3 #[(0, .tmp 19), (1, .tmp 20), (2, .tmp 21)] rfl vs3 ?_ 40 (flatR base3).toArray ?_ ?_); have _t := S1; clear _t; (simp [Act.eval, vs3, vs4]); exact run_base3; go_must (intro w1 hat hb hs; clear hs S1; have hr3 := (ownR_of_at base3 hat (Nat.le_refl _) len3).reads; have hu := hb; clear hat hb)) | (at_builtin; have _t := S2; clear _t; go_must (obtain ⟨i0, z0, hi, hz0, hz1, hz2, hz3⟩ := info40; refine wpl_appendR rfl (.tmp 18) (.tmp 22) 36 rfl w.heap.size 40 40 i0 z0 Try.underlying36 hi hz0 hz1 hz2 hz3 _ _ [] base3 rfl rfl (OwnR.nil 40 w.heap.size _) hr3 (by decide) (by decide) (by decide) hu.size ?_; clear hi hz0 hz1 hz2 hz3 S2; intro v1 u hown hg; have hu2 := hu.grown hg hu.size (fun q e => by cases e); have ho1 : OwnR 40 w.heap.size u v1 base3 := hown; clear hown hg hu hr3)))
  go_ret
  exact ⟨_, rfl, ho1, hu2⟩
set_option maxRecDepth 100000 in
set_option maxHeartbeats 800000 in
theorem rbase_280 (c : Int) (w : World) (hc : 0 ≤ c ∧ c ≤ 4294967295) (h : c = 280) : Calls Try.prog 16 #[.int .u32 c] w (BaseIs w (base3)) := by
  have S1 := Lib.hid (rfl : w = w)
  have S2 := Lib.hid (rfl : w = w)
  have S3 := Lib.hid (rfl : w = w)
  subst h
  go_enter Try.func16, Try.ntmps16
  go_wp2_with (first | ((with_reducible refine wpl_buildS rfl 36 3 #[(0, .tmp 19), (1, .tmp 20), (2, .tmp 21)] rfl vs3 ?_ 40 (flatR base3).toArray ?_ ?_); have _t := S1; clear _t; (simp [Act.eval, vs3, vs4]); exact run_base3; go_must (intro w1 hat hb hs; clear hs S1; have hr3 := (ownR_of_at base3 hat (Nat.le_refl _) len3).reads; have hu := hb; clear hat hb)) | (at_builtin; have _t := S2; clear _t; go_must (obtain ⟨i0, z0, hi, hz0, hz1, hz2, hz3⟩ := info40; refine wpl_appendR rfl (.tmp 18) (.tmp 22) 36 rfl w.heap.size 40 40 i0 z0 Try.underlying36 hi hz0 hz1 hz2 hz3 _ _ [] base3 rfl rfl (OwnR.nil 40 w.heap.size _) hr3 (by decide) (by decide) (by decide) hu.size ?_; clear hi hz0 hz1 hz2 hz3 S2; intro v1 u hown hg; have hu2 := hu.grown hg hu.size (fun q e => by cases e); have ho1 : OwnR 40 w.heap.size u v1 base3 := hown; clear hown hg hu hr3)))
  go_ret
  exact ⟨_, rfl, ho1, hu2⟩
set_option maxRecDepth 100000 in
set_option maxHeartbeats 800000 in
theorem rbase_282 (c : Int) (w : World) (hc : 0 ≤ c ∧ c ≤ 4294967295) (h : c = 282) : Calls Try.prog 16 #[.int .u32 c] w (BaseIs w (base3)) := by
  have S1 := Lib.hid (rfl : w = w)
  have S2 := Lib.hid (rfl : w = w)
  have S3 := Lib.hid (rfl : w = w)
  subst h
  go_enter Try.func16, Try.ntmps16
  go_wp2_with (first | ((with_reducible refine wpl_buildS rfl 36 3 #[(0, .tmp 19), (1, .tmp 20), (2, .tmp 21)] rfl vs3 ?_ 40 (flatR base3).toArray ?_ ?_); have _t := S1; clear _t; (simp [Act.eval, vs3, vs4]); exact run_base3; go_must (intro w1 hat hb hs; clear hs S1; have hr3 := (ownR_of_at base3 hat (Nat.le_refl _) len3).reads; have hu := hb; clear hat hb)) | (at_builtin; have _t := S2; clear _t; go_must (obtain ⟨i0, z0, hi, hz0, hz1, hz2, hz3⟩ := info40; refine wpl_appendR rfl (.tmp 18) (.tmp 22) 36 rfl w.heap.size 40 40 i0 z0 Try.underlying36 hi hz0 hz1 hz2 hz3 _ _ [] base3 rfl rfl (OwnR.nil 40 w.heap.size _) hr3 (by decide) (by decide) (by decide) hu.size ?_; clear hi hz0 hz1 hz2 hz3 S2; intro v1 u hown hg; have hu2 := hu.grown hg hu.size (fun q e => by cases e); have ho1 : OwnR 40 w.heap.size u v1 base3 := hown; clear hown hg hu hr3)))
  go_ret
  exact ⟨_, rfl, ho1, hu2⟩
set_option maxRecDepth 100000 in
set_option maxHeartbeats 800000 in
theorem rbase_9300 (c : Int) (w : World) (hc : 0 ≤ c ∧ c ≤ 4294967295) (h : c = 9300) : Calls Try.prog 16 #[.int .u32 c] w (BaseIs w (base3 ++ base4)) := by
  have S1 := Lib.hid (rfl : w = w)
  have S2 := Lib.hid (rfl : w = w)
  have S3 := Lib.hid (rfl : w = w)
  have S4 := Lib.hid (rfl : w = w)
  subst h
  go_enter Try.func16, Try.ntmps16
  go_wp2_with (first | ((with_reducible refine wpl_buildS rfl 36 3 #[(0, .tmp 19), (1, .tmp 20), (2, .tmp 21)] rfl vs3 ?_ 40 (flatR base3).toArray ?_ ?_); have _t := S1; clear _t; (simp [Act.eval, vs3, vs4]); exact run_base3; go_must (intro w1 hat hb hs; clear hs S1; have hr3 := (ownR_of_at base3 hat (Nat.le_refl _) len3).reads; have hu := hb; clear hat hb)) | (at_builtin; have _t := S2; clear _t; go_must (obtain ⟨i0, z0, hi, hz0, hz1, hz2, hz3⟩ := info40; refine wpl_appendR rfl (.tmp 18) (.tmp 22) 36 rfl w.heap.size 40 40 i0 z0 Try.underlying36 hi hz0 hz1 hz2 hz3 _ _ [] base3 rfl rfl (OwnR.nil 40 w.heap.size _) hr3 (by decide) (by decide) (by decide) hu.size ?_; clear hi hz0 hz1 hz2 hz3 S2; intro v1 u hown hg; have hu2 := hu.grown hg hu.size (fun q e => by cases e); have ho1 : OwnR 40 w.heap.size u v1 base3 := hown; clear hown hg hu hr3)) | ((with_reducible refine wpl_buildS rfl 36 4 #[(0, .tmp 27), (1, .tmp 28), (2, .tmp 29), (3, .tmp 30)] rfl vs4 ?_ 40 (flatR base4).toArray ?_ ?_); have _t := S3; clear _t; (simp [Act.eval, vs3, vs4]); exact run_base4; go_must (intro w3 hat hb hs; clear hs S3; have hr4 := (ownR_of_at base4 hat (Nat.le_refl _) len4).reads; have ho2 := ho1.below hb; have hu3 := hu2.trans (hb.mono hu2.size); clear hat hb ho1 hu2)) | (at_builtin; have _t := S4; clear _t; go_must (obtain ⟨i0, z0, hi, hz0, hz1, hz2, hz3⟩ := info40; refine wpl_appendR rfl (.tmp 26) (.tmp 31) 36 rfl w.heap.size 40 40 i0 z0 Try.underlying36 hi hz0 hz1 hz2 hz3 _ _ base3 base4 rfl rfl ho2 hr4 (by decide) (by decide) (by decide) hu3.size ?_; clear hi hz0 hz1 hz2 hz3 S4; intro v2 u4 hown hg; have hu4 := hu3.grown hg hu3.size (fun q e => (ho2.lt q e).1))))
  go_ret
  exact ⟨_, rfl, hown, hu4⟩
set_option maxRecDepth 100000 in
set_option maxHeartbeats 800000 in
theorem rbase_no (c : Int) (w : World) (hc : 0 ≤ c ∧ c ≤ 4294967295) (h1 : c ≠ 257) (h2 : c ≠ 280) (h3 : c ≠ 282) (h4 : c ≠ 9300) : Calls Try.prog 16 #[.int .u32 c] w (BaseIs w ([])) := by
  have S1 := Lib.hid (rfl : w = w)
  have S2 := Lib.hid (rfl : w = w)
  have S3 := Lib.hid (rfl : w = w)
  have k1 : (c == 257) = false := by simpa using h1
  have k2 : (c == 280) = false := by simpa using h2
  have k3 : (c == 282) = false := by simpa using h3
  have k4 : (c == 9300) = false := by simpa using h4
  go_enter Try.func16, Try.ntmps16
  go_wp2_with fail
  go_ret
  exact ⟨_, rfl, OwnR.nil _ _ _, Below.refl _ _⟩
theorem refBase (c : Int) (w : World) (hc : 0 ≤ c ∧ c ≤ 4294967295) : Calls Try.prog 16 #[.int .u32 c] w (BaseIs w (baseR c)) := by
  unfold baseR
  by_cases h1 : c = 257
  · rw [if_pos (.inl h1)]; exact rbase_257 c w hc h1
  by_cases h2 : c = 280
  · rw [if_pos (.inr (.inl h2))]; exact rbase_280 c w hc h2
  by_cases h3 : c = 282
  · rw [if_pos (.inr (.inr h3))]; exact rbase_282 c w hc h3
  rw [if_neg (by omega)]
  by_cases h4 : c = 9300
  · rw [if_pos h4]; exact rbase_9300 c w hc h4
  · rw [if_neg h4]; exact rbase_no c w hc h1 h2 h3 h4
end Go.Proofs.Ytcekkppjalipfaa.Rule
