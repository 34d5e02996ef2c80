/-
  Contract: the reference's SameAll.
-/
import Derived.Test.YtjfponhdlfhmbaaSame1
namespace Go.Proofs.Ytjfponhdlfhmbaa.Avp
open Go.RowKit Mem Cells Avps Wire Ops
set_option linter.unusedVariables false
set_option linter.unusedSimpArgs false

theorem take_eq_step {α : Type} {al bl : List α} {k : Nat} {x y : α} (h : al.take k = bl.take k) (hx : al[k]? = some x) (hy : bl[k]? = some y) : (al.take (k + 1) = bl.take (k + 1)) ↔ x = y := by
  obtain ⟨h1, e1⟩ := List.getElem?_eq_some_iff.1 hx
  obtain ⟨h2, e2⟩ := List.getElem?_eq_some_iff.1 hy
  rw [List.take_succ_eq_append_getElem h1, List.take_succ_eq_append_getElem h2, h, e1, e2]
  simp
set_option maxRecDepth 100000 in
set_option maxHeartbeats 1600000 in
theorem sameAll (v v' : Value) (al bl : List A) (w : World) (hr : ReadsL w v al) (hr' : ReadsL w v' bl) (ha : ∀ a ∈ al, a.ok) (hb : ∀ a ∈ bl, a.ok) :
    Calls Try.prog 14 #[v, v'] w fun e w' => e = .returned (.bool (decide (al = bl))) ∧ Below w.heap.size w w' := by
  obtain ⟨p, c, rfl, k1, k2⟩ := hr.shape
  obtain ⟨p', c', rfl, k1', k2'⟩ := hr'.shape
  have hm : al.length ≤ 9223372036854775807 := by unfold maxLen at k2; omega
  have hm' : bl.length ≤ 9223372036854775807 := by unfold maxLen at k2'; omega
  obtain ⟨R, hR⟩ : ∃ R, decide (al = bl) = R := ⟨_, rfl⟩
  rw [hR]
  have HRR := Lib.hid hR
  have HR := Lib.hid hr
  have HR' := Lib.hid hr'
  have HA := Lib.hid ha
  have HB := Lib.hid hb
  clear hr hr' ha hb hR
  go_enter Try.func14, Try.ntmps14
  go_wp2_with fail
  go_loopw [5] (fun i wr => ∃ k : Nat, i = .int .i64 k ∧ k ≤ al.length ∧ k ≤ bl.length ∧ Below w.heap.size w wr ∧ Hid (al.take k = bl.take k)) (fun i _ => al.length - (intOf i).toNat)
  case atStart => exact ⟨0, rfl, by omega, by omega, Below.refl _ _, Lib.hid (by simp)⟩
  case round =>
    obtain ⟨k, rfl, hk, hk', hbl, HT⟩ := hrel
    by_cases hlt : k < al.length
    · by_cases hlt' : k < bl.length
      · obtain ⟨x, hx1, hx2, b, off, c1, pd, nd, hv, _, _, hltb, hra, hrd⟩ := (HR.out.below hbl).elem k hlt
        obtain ⟨y, hy1, hy2, b', off', c2, pd', nd', hv', _, _, hltb', hra', hrd'⟩ := (HR'.out.below hbl).elem k hlt'
        cases hv
        cases hv'
        have hstep := take_eq_step HT.out hx1 hy1
        have HX := Lib.hid hx1
        have HY := Lib.hid hy1
        have HRA := Lib.hid hra
        have HRA' := Lib.hid hra'
        have HS := Lib.hid hstep
        have oa := HA.out x hx2
        have ob := HB.out y hy2
        have OA := Lib.hid oa
        have OB := Lib.hid ob
        clear hx1 hy1 hx2 hy2 hra hra' hstep oa ob
        go_wp2_with fail
        refine wp_region_still_tail 8 (by kernel_rfl) (by kernel_rfl) ?_
        simp only [List.take_succ_cons, List.take_zero, List.drop_succ_cons, List.drop_zero]
        iterate 3 still_step
        refine wpStill_loadE rfl 41 (.tmp 20) rfl b (off + k * 5) (row x (.slice pd x.data.length nd)).toArray _ HRA.out Try.underlying41 rfl (by kernel_rfl) rfl ?_
        iterate 3 still_step
        refine wpStill_loadE rfl 41 (.tmp 24) rfl b' (off' + k * 5) (row y (.slice pd' y.data.length nd')).toArray _ HRA'.out Try.underlying41 rfl (by kernel_rfl) rfl ?_
        refine wpStill_nil ?_
        change wpList _ _ _ _ _ wr.drew
        have hbl1 := hbl.drew
        have hrd1 := hrd.below (Frame.ext_drew wr)
        have hrd2 := hrd'.below (Frame.ext_drew wr)
        generalize wr.drew = wd at hbl1 hrd1 hrd2
        clear hrd hrd' hltb hltb' hbl HRA HRA'
        by_cases hxy : x = y
        · have hd : decide (x = y) = true := decide_eq_true hxy
          have HXY := Lib.hid hxy
          clear hxy
          go_wp2_with (go_at_call 26; refine (same x y _ _ _ hrd1 hrd2 OA.out OB.out).mono ?_; rintro e w1 ⟨rfl, hb1⟩)
          go_roundw
          case rel => exact ⟨k + 1, by go_num, by omega, by omega, hbl1.trans (hb1.mono hbl1.size), Lib.hid (HS.out.2 HXY.out)⟩
          case measure => simp [intOf]; omega
        · have hd : decide (x = y) = false := decide_eq_false hxy
          have hRf : R = false := by
            rw [← HRR.out]
            refine decide_eq_false fun e => hxy (HS.out.1 (by rw [e]))
          have HRF := Lib.hid hRf
          clear hxy hRf
          go_wp2_with (go_at_call 26; refine (same x y _ _ _ hrd1 hrd2 OA.out OB.out).mono ?_; rintro e w1 ⟨rfl, hb1⟩)
          go_ret
          rw [HRF.out]
          exact ⟨rfl, hbl1.trans (hb1.mono hbl1.size)⟩
      · have hlen : ((al.length : Int) == bl.length) = false := by rw [beq_eq_false_iff_ne]; omega
        have hRf : R = false := by
          rw [← HRR.out]
          refine decide_eq_false fun e => ?_
          rw [e] at hlt
          exact hlt' hlt
        have HRF := Lib.hid hRf
        clear hRf
        go_wp2_with fail
        go_ret
        rw [HRF.out]
        exact ⟨rfl, hbl⟩
    · by_cases hl : al.length = bl.length
      · have hlen : ((al.length : Int) == bl.length) = true := by rw [beq_iff_eq]; omega
        have hRf : R = true := by
          rw [← HRR.out]
          refine decide_eq_true ?_
          have := HT.out
          rwa [List.take_of_length_le (by omega), List.take_of_length_le (by omega)] at this
        have HRF := Lib.hid hRf
        clear hRf hl
        go_wp2_with fail
        go_ret
        rw [HRF.out]
        exact ⟨rfl, hbl⟩
      · have hlen : ((al.length : Int) == bl.length) = false := by rw [beq_eq_false_iff_ne]; omega
        have hRf : R = false := by
          rw [← HRR.out]
          refine decide_eq_false fun e => hl (by rw [e])
        have HRF := Lib.hid hRf
        clear hRf hl
        go_wp2_with fail
        go_ret
        rw [HRF.out]
        exact ⟨rfl, hbl⟩
end Go.Proofs.Ytjfponhdlfhmbaa.Avp
