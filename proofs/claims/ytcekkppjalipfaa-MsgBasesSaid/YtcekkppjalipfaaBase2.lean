/-
  The law MsgBases: the walk. (Printed by gen_base2.py.)
-/
import Derived.Test.YtcekkppjalipfaaBase1
import Derived.Deep.Cut
namespace Go.Proofs.Ytcekkppjalipfaa.Rule
open Go.RowKit Mem Cells Ops Go.Maps
set_option linter.unusedVariables false
set_option linter.unusedSimpArgs false

set_option maxRecDepth 100000 in
set_option maxHeartbeats 3200000 in
theorem bases (c : Int) (w : World) (hc : 0 ≤ c ∧ c ≤ 4294967295) : Calls Try.prog 5 #[.int .u32 c] w fun e w' => e = .returned (.bool true) ∧ Below w.heap.size w w' := by
  have PS := Lib.hid (fun v u (h : ReadsR u v (baseR c)) => by have := soundIs v (baseR c) u h (base_ok c); rwa [decide_eq_true (base_sound c)] at this)
  have PB := Lib.hid (fun u => msgBase c u hc)
  have PR := Lib.hid (fun u => refBase c u hc)
  have hlen : (baseR c).length ≤ 7 := by unfold baseR; split; decide; split; decide; decide
  have hemp : ((baseR c).length = 0) = (¬ c = 257 ∧ ¬ c = 280 ∧ ¬ c = 282 ∧ ¬ c = 9300) := by
    unfold baseR
    split
    · simp [base3]; omega
    split
    · simp [base3, base4]; omega
    · simp; omega
  obtain ⟨rs, hrs⟩ : ∃ rs, baseR c = rs := ⟨_, rfl⟩
  rw [hrs] at PS PB PR hlen hemp
  have HE := Lib.hid hemp
  obtain ⟨n, hn⟩ : ∃ n, rs.length = n := ⟨_, rfl⟩
  have HN := Lib.hid hn
  rw [hn] at hlen HE
  have EL := Lib.hid (fun k (hk : k < n) v u (h : ReadsR u v rs) => by have := h.elem k (by rw [hn]; exact hk); rwa [hn] at this)
  clear hrs hemp hn
  go_enter Try.func5, Try.ntmps5
  go_wp2_with (first
    | (go_at_call 15; go_must (refine (PB.out _).mono ?_; rintro e u1 ⟨v1, rfl, ho, hu⟩; have r1 := ho.reads; clear ho; obtain ⟨p1, c1, rfl, _, _⟩ := r1.shape; rw [HN.out] at r1 ⊢))
    | (go_at_call 16; go_must (refine (PR.out _).mono ?_; rintro e u2 ⟨v2, rfl, ho, hb⟩; have r2 := ho.reads; clear ho; obtain ⟨p2, c2, rfl, _, _⟩ := r2.shape; rw [HN.out] at r2 ⊢; have hu_ := hu.trans (hb.mono hu.size); have r1_ := r1.below hb; clear hu r1; have hu := hu_; have r1 := r1_; clear hu_ r1_ hb))
    | (go_at_call 13; go_must (refine (Avp.answers _).mono ?_; rintro e u3 ⟨rfl, hb⟩; have hu_ := hu.trans (hb.mono hu.size); have r1_ := r1.below hb; have r2_ := r2.below hb; clear hu r1 r2; have hu := hu_; have r1 := r1_; have r2 := r2_; clear hu_ r1_ r2_ hb))
    | (go_at_call 17; go_must (refine (PS.out _ _ r1).mono ?_; rintro e u4 ⟨rfl, hb⟩; have hu_ := hu.trans (hb.mono hu.size); have r1_ := r1.below hb; have r2_ := r2.below hb; clear hu r1 r2; have hu := hu_; have r1 := r1_; have r2 := r2_; clear hu_ r1_ r2_ hb)))
  go_loopw [5] (fun i wr => ∃ k : Nat, i = .int .i64 k ∧ k ≤ n ∧ Below u4.heap.size u4 wr) (fun i _ => n - (intOf i).toNat)
  case atStart => exact ⟨0, rfl, by omega, Below.refl _ _⟩
  case round =>
    obtain ⟨k, rfl, hk, hbl⟩ := hrel
    have r1 := r1.below hbl
    have r2 := r2.below hbl
    have hu := hu.trans (hbl.mono hu.size)
    by_cases hlt : k < n
    · obtain ⟨r, hx1, _, b1, o1, c1', hv1, hl1, hra1⟩ := EL.out k hlt _ _ r1
      cases hv1
      obtain ⟨r', hx2, _, b2, o2, c2', hv2, hl2, hra2⟩ := EL.out k hlt _ _ r2
      cases hv2
      rw [hx1] at hx2
      cases hx2
      have H1 := Lib.hid hra1
      have H2 := Lib.hid hra2
      have hk2 : ¬ ((n : Int) ≤ k) := by omega
      have hu0 := hu
      clear hra1 hra2 hx1 r1 r2
      go_upto_region 7 with fail
      refine Mono.wp_region_mono [some 30, some 31, some 32, some 33, some 34, some 35, some 36, some 37, some 38] [Mono.isV (.slice (some ⟨b1, o1, none⟩) n c1), Mono.isV (.int .i64 k), Mono.isV (.pointer (some ⟨b1, o1 + k * 6, none⟩)), Mono.isV (.agg (rowR r)), Mono.isV (.slice (some ⟨b2, o2, none⟩) n c2), Mono.isV (.int .i64 k), Mono.isV (.pointer (some ⟨b2, o2 + k * 6, none⟩)), Mono.isV (.agg (rowR r)), Mono.isV (.bool false)] (by kernel_rfl) (by kernel_rfl) ?_ ?_
      · simp only [Mono.OpGoals, and_true]
        refine ⟨?_, ?_, ?_, ?_, ?_, ?_, ?_, ?_, ?_⟩
        · intro a u hbu hsu hdu
          refine Mono.if_want rfl ?_
          exact Mono.ok_move (.tmp 3) rfl (hsu 3 (by decide))
        · intro a u hbu hsu hdu
          refine Mono.if_want rfl ?_
          exact Mono.ok_move (.tmp 5) rfl (hsu 5 (by decide))
        · intro a u hbu hsu hdu
          refine Mono.if_want rfl ?_
          have z30 : a.eval (.tmp 30) = .slice (some ⟨b1, o1, none⟩) n c1 := Mono.dep_at hdu (i := 0) (d := 30) rfl rfl rfl
          simp [Act.eval] at z30
          have z31 : a.eval (.tmp 31) = .int .i64 k := Mono.dep_at hdu (i := 1) (d := 31) rfl rfl rfl
          simp [Act.eval] at z31
          exact Mono.ok_val (.pointer (some ⟨b1, o1 + k * 6, none⟩)) (by simp [execOp, z30, z31, go_sem, *, rowR]) rfl
        · intro a u hbu hsu hdu
          refine Mono.if_want rfl ?_
          exact Mono.ok_loadE 40 (.tmp 32) rfl b1 (o1 + k * 6) _ _ (range_below H1.out hbu hl1) Try.underlying40 rfl (by kernel_rfl) (Mono.dep_at hdu (i := 2) (d := 32) rfl rfl rfl) rfl
        · intro a u hbu hsu hdu
          refine Mono.if_want rfl ?_
          exact Mono.ok_move (.tmp 4) rfl (hsu 4 (by decide))
        · intro a u hbu hsu hdu
          refine Mono.if_want rfl ?_
          exact Mono.ok_move (.tmp 5) rfl (hsu 5 (by decide))
        · intro a u hbu hsu hdu
          refine Mono.if_want rfl ?_
          have z34 : a.eval (.tmp 34) = .slice (some ⟨b2, o2, none⟩) n c2 := Mono.dep_at hdu (i := 4) (d := 34) rfl rfl rfl
          simp [Act.eval] at z34
          have z35 : a.eval (.tmp 35) = .int .i64 k := Mono.dep_at hdu (i := 5) (d := 35) rfl rfl rfl
          simp [Act.eval] at z35
          exact Mono.ok_val (.pointer (some ⟨b2, o2 + k * 6, none⟩)) (by simp [execOp, z34, z35, go_sem, *, rowR]) rfl
        · intro a u hbu hsu hdu
          refine Mono.if_want rfl ?_
          exact Mono.ok_loadE 40 (.tmp 36) rfl b2 (o2 + k * 6) _ _ (range_below H2.out hbu hl2) Try.underlying40 rfl (by kernel_rfl) (Mono.dep_at hdu (i := 6) (d := 36) rfl rfl rfl) rfl
        · intro a u hbu hsu hdu
          refine Mono.if_want rfl ?_
          have z33 : a.eval (.tmp 33) = .agg (rowR r) := Mono.dep_at hdu (i := 3) (d := 33) rfl rfl rfl
          simp [Act.eval] at z33
          have z37 : a.eval (.tmp 37) = .agg (rowR r) := Mono.dep_at hdu (i := 7) (d := 37) rfl rfl rfl
          simp [Act.eval] at z37
          exact Mono.ok_val (.bool false) (by simp [execOp, z33, z37, go_sem, *, rowR]) rfl
      intro u hu
      simp only [Mono.Fin]
      rintro _ rfl _ rfl _ rfl _ rfl _ rfl _ rfl _ rfl _ rfl _ rfl
      simp [Act.put]
      go_wp2_with fail
      go_roundw
      case rel => exact ⟨k + 1, by go_num, by omega, hbl.trans (hu.mono hbl.size)⟩
      case measure => simp [intOf]; omega
    · obtain rfl : k = n := by omega
      clear r1 r2 EL PS PB PR
      by_cases e257 : c = 257
      · have hn0 : ((k : Int) == 0) = false := by
          have := HE.out
          have h0 : ¬ k = 0 := by rw [this]; omega
          simp; omega
        subst e257
        go_wp2_with fail
        go_ret
        exact ⟨rfl, hu⟩
      by_cases e280 : c = 280
      · have hn0 : ((k : Int) == 0) = false := by
          have := HE.out
          have h0 : ¬ k = 0 := by rw [this]; omega
          simp; omega
        subst e280
        go_wp2_with fail
        go_ret
        exact ⟨rfl, hu⟩
      by_cases e282 : c = 282
      · have hn0 : ((k : Int) == 0) = false := by
          have := HE.out
          have h0 : ¬ k = 0 := by rw [this]; omega
          simp; omega
        subst e282
        go_wp2_with fail
        go_ret
        exact ⟨rfl, hu⟩
      by_cases e9300 : c = 9300
      · have hn0 : ((k : Int) == 0) = false := by
          have := HE.out
          have h0 : ¬ k = 0 := by rw [this]; omega
          simp; omega
        subst e9300
        go_wp2_with fail
        go_ret
        exact ⟨rfl, hu⟩
      have hn0 : k = 0 := by rw [HE.out]; exact ⟨e257, e280, e282, e9300⟩
      subst hn0
      have f1 : (c == 257) = false := by simpa using e257
      have f2 : (c == 280) = false := by simpa using e280
      have f3 : (c == 282) = false := by simpa using e282
      have f4 : (c == 9300) = false := by simpa using e9300
      go_wp2_with fail
      go_ret
      exact ⟨by simp [bne, f1, f2, f3, f4], hu⟩
end Go.Proofs.Ytcekkppjalipfaa.Rule
