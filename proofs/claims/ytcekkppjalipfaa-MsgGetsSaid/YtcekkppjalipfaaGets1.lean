/-
  The law MsgGets: the walk. (Printed by gen_gets.py.)
-/
import Derived.Test.YtcekkppjalipfaaSame3
namespace Go.Proofs.Ytcekkppjalipfaa.Avp
open Go.RowKit Mem Cells Avps Wire Ops
set_option linter.unusedVariables false
set_option linter.unusedSimpArgs false

theorem getM_ok (xs : List Int) (h : ∀ x ∈ xs, 0 ≤ x ∧ x ≤ 255) : ∀ a ∈ (getM xs).1.avps, a.ok := by
  unfold getM
  split
  · exact fun a ha => by cases ha
  split
  · exact fun a ha => by cases ha
  · exact getOf_ok _ (fun x hx => h x (List.mem_of_mem_drop hx))
theorem headOf_avps (xs : List Int) : (headOf xs).1.avps = [] := by
  unfold headOf
  repeat' split
  all_goals rfl
set_option maxRecDepth 100000 in
set_option maxHeartbeats 3200000 in
theorem gets (v : Value) (xs : List Int) (w : World) (hr : Reads .u8 w v xs) (hwf : ∀ x ∈ xs, 0 ≤ x ∧ x ≤ 255) (hb : xs.length ≤ 140737488351232) : Calls Try.prog 8 #[v] w fun e w' => e = .returned (.bool true) ∧ Below w.heap.size w w' := by
  have PG := Lib.hid (fun v u (h : Reads .u8 u v xs) => msgGet v xs u h hwf (by omega))
  have PR := Lib.hid (fun v u (h : Reads .u8 u v xs) => getMsg v xs u h hwf (by omega))
  have PH := Lib.hid (fun v u (h : Reads .u8 u v xs) => msgHead v xs u h hwf (by omega))
  have PK := Lib.hid (fun v u (h : Reads .u8 u v xs) => refHead v xs u h hwf (by omega))
  have OK := Lib.hid (getM_ok xs hwf)
  have HN := headOf_avps xs
  obtain ⟨⟨m, E⟩, hm⟩ : ∃ R, getM xs = R := ⟨_, rfl⟩
  obtain ⟨⟨h, G⟩, hh⟩ : ∃ R, headOf xs = R := ⟨_, rfl⟩
  rw [hm] at PG PR OK
  rw [hh] at PH PK HN
  have HNIL : Hid (∀ u, ReadsL u (.slice none h.avps.length 0) h.avps) := Lib.hid (fun u => by rw [HN]; exact ReadsL.nil u)
  have HNL : Hid (h.avps.length = 0) := Lib.hid (by rw [HN]; rfl)
  have HNOK : Hid (∀ a ∈ h.avps, a.ok) := Lib.hid (by rw [HN]; exact fun a ha => by cases ha)
  have HR := Lib.hid hr
  have K1 : ([] : List Int).length + xs.length ≤ maxLen := by simp [maxLen]; omega
  have K2 : (([] : List Int).length + xs.length) * 1 ≤ 140737488355328 := by simp; omega
  have hu := Below.refl w.heap.size w
  have S1 := Lib.hid (rfl : w = w)
  have S2 := Lib.hid (rfl : w = w)
  have S3 := Lib.hid (rfl : w = w)
  have S4 := Lib.hid (rfl : w = w)
  obtain ⟨pv, cv, rfl, _⟩ := id hr
  clear hr hwf hb hm hh HN
  go_enter Try.func8, Try.ntmps8
  go_wp2_with (first
    | ((with_reducible refine wpl_empty rfl 26 5 rfl .u8 (fun _ => by kernel_rfl) ?_); have _t := S1; clear _t; go_must (intro u1 hown hb hs; clear hs S1; have hbs := hb.size; have Tu1_0 := hu.size; have hu_ := hu.trans (hb.mono hu.size); clear hu; have hu := hu_; clear hu_ hb; have T1 := hu.size))
    | (at_builtin; have _t := hown; have _s := PG; clear _t _s; go_must (obtain ⟨i0, hi, hz0, hz1, hz2⟩ := info_parts info5; refine wpl_append rfl (.tmp 12) (.tmp 13) 26 rfl .u8 w.heap.size 5 1 i0 (.int .u8 0) Try.underlying26 hi hz0 hz1 hz2 rfl _ _ [] xs rfl rfl hown (HR.out.below hu) K1 K2 hbs ?_; clear hi hz0 hz1 hz2; intro v2 u2 hv2 hg0; have hg : World.grownBy _ _ (some w.heap.size) := hg0; clear hg0; rw [List.nil_append] at hv2; have hx2 := hv2.reads; clear hv2; have hlo := (hown.lt w.heap.size rfl).2; have hu_ := below_grown hu hg hu.size (by omega); clear hu; have hu := hu_; clear hu_ hg; clear hown))
    | (go_at_call 25; go_must (refine (PG.out _ _ hx2).mono ?_; clear hx2; rintro e u3 ⟨p3, n3, c3, rfl, hL, hb⟩; have hL3 := hL.reads; clear hL; obtain ⟨_, _, ee, _⟩ := hL3.shape; cases ee; have hu_ := hu.trans (hb.mono hu.size); clear hu; have hu := hu_; clear hu_ hb; have h3 := Below.refl u3.heap.size u3))
    | ((with_reducible refine wpl_allocAt rfl 25 rfl zeroM (by kernel_rfl) ?_); have _t := PG; clear _t; go_must (intro u4 hat4 hb hs; clear hs PG; have Tu4_0 := hu.size; have Tu4_1 := h3.size; have hu_ := hu.trans (hb.mono hu.size); have h3_ := h3.trans (hb.mono h3.size); clear hu h3; have hu := hu_; have h3 := h3_; clear hu_ h3_ hb; have Lu4 := hat4.lt))
    | ((with_reducible refine wpl_storeR rfl 25 (.tmp 3) (.tmp 16) rfl rfl u3.heap.size 25 zeroM (rowM m (.slice p3 m.avps.length c3)) ?_ ?_ hat4 (by kernel_rfl) ?_ ?_ ?_); rfl; rfl; rfl; (simp [rowM, Value.oneCell']); go_must (intro u5 hat4' hg; have hu_ := below_grown hu hg hu.size (by omega); have h3_ := below_grown h3 hg h3.size (by omega); clear hu h3; have hu := hu_; have h3 := h3_; clear hu_ h3_ hg; clear hat4; have hat4 := hat4'; clear hat4'))
    | (go_at_call 26; go_must (refine (PR.out _ _ (HR.out.below hu)).mono ?_; rintro e u6 ⟨p6, n6, c6, rfl, hL, hb⟩; have hL6 := hL.reads; clear hL; obtain ⟨_, _, ee, _⟩ := hL6.shape; cases ee; have hu_ := hu.trans (hb.mono hu.size); have h3_ := h3.trans (hb.mono h3.size); have hat4_ := hat4.ext hb; clear hu h3 hat4; have hu := hu_; have h3 := h3_; have hat4 := hat4_; clear hu_ h3_ hat4_ hb; have h6 := Below.refl u6.heap.size u6; have L6 := hat4.lt))
    | ((with_reducible refine wpl_allocAt rfl 25 rfl zeroM (by kernel_rfl) ?_); have _t := PR; clear _t; go_must (intro u7 hat7 hb hs; clear hs PR; have Tu7_0 := hu.size; have Tu7_1 := h3.size; have Tu7_2 := hat4.lt; have Tu7_3 := h6.size; have hu_ := hu.trans (hb.mono hu.size); have h3_ := h3.trans (hb.mono h3.size); have hat4_ := hat4.ext hb; have h6_ := h6.trans (hb.mono h6.size); clear hu h3 hat4 h6; have hu := hu_; have h3 := h3_; have hat4 := hat4_; have h6 := h6_; clear hu_ h3_ hat4_ h6_ hb; have Lu7 := hat7.lt))
    | ((with_reducible refine wpl_storeR rfl 25 (.tmp 5) (.tmp 21) rfl rfl u6.heap.size 25 zeroM (rowM m (.slice p6 m.avps.length c6)) ?_ ?_ hat7 (by kernel_rfl) ?_ ?_ ?_); rfl; rfl; rfl; (simp [rowM, Value.oneCell']); go_must (intro u8 hat7' hg; have hu_ := below_grown hu hg hu.size (by omega); have h3_ := below_grown h3 hg h3.size (by omega); have hat4_ := hat4.grown hg (by omega); have h6_ := below_grown h6 hg h6.size (by omega); clear hu h3 hat4 h6; have hu := hu_; have h3 := h3_; have hat4 := hat4_; have h6 := h6_; clear hu_ h3_ hat4_ h6_ hg; clear hat7; have hat7 := hat7'; clear hat7'))
    | ((with_reducible refine wpl_empty rfl 26 5 rfl .u8 (fun _ => by kernel_rfl) ?_); have _t := S2; clear _t; go_must (intro u9 hown hb hs; clear hs S2; have hbs := hb.size; have Tu9_0 := hu.size; have Tu9_1 := h3.size; have Tu9_2 := hat4.lt; have Tu9_3 := h6.size; have Tu9_4 := hat7.lt; have hu_ := hu.trans (hb.mono hu.size); have h3_ := h3.trans (hb.mono h3.size); have hat4_ := hat4.ext hb; have h6_ := h6.trans (hb.mono h6.size); have hat7_ := hat7.ext hb; clear hu h3 hat4 h6 hat7; have hu := hu_; have h3 := h3_; have hat4 := hat4_; have h6 := h6_; have hat7 := hat7_; clear hu_ h3_ hat4_ h6_ hat7_ hb; have T9 := hu.size))
    | (at_builtin; have _t := hown; clear _t; go_must (obtain ⟨i0, hi, hz0, hz1, hz2⟩ := info_parts info5; refine wpl_append rfl (.tmp 24) (.tmp 25) 26 rfl .u8 u8.heap.size 5 1 i0 (.int .u8 0) Try.underlying26 hi hz0 hz1 hz2 rfl _ _ [] xs rfl rfl hown (HR.out.below hu) K1 K2 hbs ?_; clear hi hz0 hz1 hz2; intro v2 u10 hv2 hg0; have hg : World.grownBy _ _ (some u8.heap.size) := hg0; clear hg0; rw [List.nil_append] at hv2; have hx2 := hv2.reads; clear hv2; have L8 := hat7.lt; have hlo := (hown.lt u8.heap.size rfl).2; have hu_ := below_grown hu hg hu.size (by omega); have h3_ := below_grown h3 hg h3.size (by omega); have hat4_ := hat4.grown hg (by omega); have h6_ := below_grown h6 hg h6.size (by omega); have hat7_ := hat7.grown hg (by omega); clear hu h3 hat4 h6 hat7; have hu := hu_; have h3 := h3_; have hat4 := hat4_; have h6 := h6_; have hat7 := hat7_; clear hu_ h3_ hat4_ h6_ hat7_ hg; clear hown))
    | (go_at_call 27; go_must (refine (PH.out _ _ hx2).mono ?_; clear hx2; rintro e u11 ⟨rfl, hb⟩; have hu_ := hu.trans (hb.mono hu.size); have h3_ := h3.trans (hb.mono h3.size); have hat4_ := hat4.ext hb; have h6_ := h6.trans (hb.mono h6.size); have hat7_ := hat7.ext hb; clear hu h3 hat4 h6 hat7; have hu := hu_; have h3 := h3_; have hat4 := hat4_; have h6 := h6_; have hat7 := hat7_; clear hu_ h3_ hat4_ h6_ hat7_ hb; have L11 := hat7.lt))
    | ((with_reducible refine wpl_allocAt rfl 25 rfl zeroM (by kernel_rfl) ?_); have _t := PH; clear _t; go_must (intro u12 hat12 hb hs; clear hs PH; have Tu12_0 := hu.size; have Tu12_1 := h3.size; have Tu12_2 := hat4.lt; have Tu12_3 := h6.size; have Tu12_4 := hat7.lt; have hu_ := hu.trans (hb.mono hu.size); have h3_ := h3.trans (hb.mono h3.size); have hat4_ := hat4.ext hb; have h6_ := h6.trans (hb.mono h6.size); have hat7_ := hat7.ext hb; clear hu h3 hat4 h6 hat7; have hu := hu_; have h3 := h3_; have hat4 := hat4_; have h6 := h6_; have hat7 := hat7_; clear hu_ h3_ hat4_ h6_ hat7_ hb; have Lu12 := hat12.lt))
    | ((with_reducible refine wpl_storeR rfl 25 (.tmp 7) (.tmp 28) rfl rfl u11.heap.size 25 zeroM (rowM h (.slice none 0 0)) ?_ ?_ hat12 (by kernel_rfl) ?_ ?_ ?_); rfl; rfl; rfl; (simp [rowM, Value.oneCell']); go_must (intro u13 hat12' hg; have hu_ := below_grown hu hg hu.size (by omega); have h3_ := below_grown h3 hg h3.size (by omega); have hat4_ := hat4.grown hg (by omega); have h6_ := below_grown h6 hg h6.size (by omega); have hat7_ := hat7.grown hg (by omega); clear hu h3 hat4 h6 hat7; have hu := hu_; have h3 := h3_; have hat4 := hat4_; have h6 := h6_; have hat7 := hat7_; clear hu_ h3_ hat4_ h6_ hat7_ hg; clear hat12; have hat12 := hat12'; clear hat12'))
    | (go_at_call 28; go_must (refine (PK.out _ _ (HR.out.below hu)).mono ?_; rintro e u14 ⟨rfl, hb⟩; have hu_ := hu.trans (hb.mono hu.size); have h3_ := h3.trans (hb.mono h3.size); have hat4_ := hat4.ext hb; have h6_ := h6.trans (hb.mono h6.size); have hat7_ := hat7.ext hb; have hat12_ := hat12.ext hb; clear hu h3 hat4 h6 hat7 hat12; have hu := hu_; have h3 := h3_; have hat4 := hat4_; have h6 := h6_; have hat7 := hat7_; have hat12 := hat12_; clear hu_ h3_ hat4_ h6_ hat7_ hat12_ hb; have L14 := hat12.lt))
    | ((with_reducible refine wpl_allocAt rfl 25 rfl zeroM (by kernel_rfl) ?_); have _t := PK; clear _t; go_must (intro u15 hat15 hb hs; clear hs PK; have Tu15_0 := hu.size; have Tu15_1 := h3.size; have Tu15_2 := hat4.lt; have Tu15_3 := h6.size; have Tu15_4 := hat7.lt; have Tu15_5 := hat12.lt; have hu_ := hu.trans (hb.mono hu.size); have h3_ := h3.trans (hb.mono h3.size); have hat4_ := hat4.ext hb; have h6_ := h6.trans (hb.mono h6.size); have hat7_ := hat7.ext hb; have hat12_ := hat12.ext hb; clear hu h3 hat4 h6 hat7 hat12; have hu := hu_; have h3 := h3_; have hat4 := hat4_; have h6 := h6_; have hat7 := hat7_; have hat12 := hat12_; clear hu_ h3_ hat4_ h6_ hat7_ hat12_ hb; have Lu15 := hat15.lt))
    | ((with_reducible refine wpl_storeR rfl 25 (.tmp 9) (.tmp 33) rfl rfl u14.heap.size 25 zeroM (rowM h (.slice none 0 0)) ?_ ?_ hat15 (by kernel_rfl) ?_ ?_ ?_); rfl; rfl; rfl; (simp [rowM, Value.oneCell']); go_must (intro u16 hat15' hg; have hu_ := below_grown hu hg hu.size (by omega); have h3_ := below_grown h3 hg h3.size (by omega); have hat4_ := hat4.grown hg (by omega); have h6_ := below_grown h6 hg h6.size (by omega); have hat7_ := hat7.grown hg (by omega); have hat12_ := hat12.grown hg (by omega); clear hu h3 hat4 h6 hat7 hat12; have hu := hu_; have h3 := h3_; have hat4 := hat4_; have h6 := h6_; have hat7 := hat7_; have hat12 := hat12_; clear hu_ h3_ hat4_ h6_ hat7_ hat12_ hg; clear hat15; have hat15 := hat15'; clear hat15'))
    | (go_at_call 13; go_must (refine (answers _).mono ?_; rintro e u17 ⟨rfl, hb⟩; have hu_ := hu.trans (hb.mono hu.size); have h3_ := h3.trans (hb.mono h3.size); have hat4_ := hat4.ext hb; have h6_ := h6.trans (hb.mono h6.size); have hat7_ := hat7.ext hb; have hat12_ := hat12.ext hb; have hat15_ := hat15.ext hb; clear hu h3 hat4 h6 hat7 hat12 hat15; have hu := hu_; have h3 := h3_; have hat4 := hat4_; have h6 := h6_; have hat7 := hat7_; have hat12 := hat12_; have hat15 := hat15_; clear hu_ h3_ hat4_ h6_ hat7_ hat12_ hat15_ hb))
    | (refine Mem.wpl_wanted (by rfl) ?_; (refine wpl_loadAt rfl 25 (.tmp 3) rfl u3.heap.size 25 (rowM m (.slice p3 m.avps.length c3)) hat4 _ Try.underlying25 rfl (by kernel_rfl) ?_ ?_); rfl)
    | (refine Mem.wpl_wanted (by rfl) ?_; (refine wpl_loadAt rfl 25 (.tmp 5) rfl u6.heap.size 25 (rowM m (.slice p6 m.avps.length c6)) hat7 _ Try.underlying25 rfl (by kernel_rfl) ?_ ?_); rfl)
    | (go_at_call 24; have _t := S3; clear _t; go_must (refine (sameMsg m _ _ _ _ _ (hL3.below h3) (hL6.below h6) OK.out).mono ?_; rintro e u18 ⟨rfl, hb⟩; clear S3; have hu_ := hu.trans (hb.mono hu.size); have h3_ := h3.trans (hb.mono h3.size); have hat4_ := hat4.ext hb; have h6_ := h6.trans (hb.mono h6.size); have hat7_ := hat7.ext hb; have hat12_ := hat12.ext hb; have hat15_ := hat15.ext hb; clear hu h3 hat4 h6 hat7 hat12 hat15; have hu := hu_; have h3 := h3_; have hat4 := hat4_; have h6 := h6_; have hat7 := hat7_; have hat12 := hat12_; have hat15 := hat15_; clear hu_ h3_ hat4_ h6_ hat7_ hat12_ hat15_ hb))
    | (refine Mem.wpl_wanted (by rfl) ?_; (refine wpl_loadAt rfl 25 (.tmp 7) rfl u11.heap.size 25 (rowM h (.slice none 0 0)) hat12 _ Try.underlying25 rfl (by kernel_rfl) ?_ ?_); rfl)
    | (refine Mem.wpl_wanted (by rfl) ?_; (refine wpl_loadAt rfl 25 (.tmp 9) rfl u14.heap.size 25 (rowM h (.slice none 0 0)) hat15 _ Try.underlying25 rfl (by kernel_rfl) ?_ ?_); rfl)
    | (go_at_call 24; have _t := S4; clear _t; go_must (have PS := sameMsg h none none 0 0 u18 (HNIL.out u18) (HNIL.out u18) HNOK.out; rw [HNL.out] at PS; refine PS.mono ?_; rintro e u19 ⟨rfl, hb⟩; clear S4 PS; have hu_ := hu.trans (hb.mono hu.size); have h3_ := h3.trans (hb.mono h3.size); have hat4_ := hat4.ext hb; have h6_ := h6.trans (hb.mono h6.size); have hat7_ := hat7.ext hb; have hat12_ := hat12.ext hb; have hat15_ := hat15.ext hb; clear hu h3 hat4 h6 hat7 hat12 hat15; have hu := hu_; have h3 := h3_; have hat4 := hat4_; have h6 := h6_; have hat7 := hat7_; have hat12 := hat12_; have hat15 := hat15_; clear hu_ h3_ hat4_ h6_ hat7_ hat12_ hat15_ hb)))
  go_ret
  exact ⟨rfl, hu⟩
end Go.Proofs.Ytcekkppjalipfaa.Avp
