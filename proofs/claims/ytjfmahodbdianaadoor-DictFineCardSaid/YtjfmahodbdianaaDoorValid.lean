/-
  Contract: utf8.Valid.
-/
import Derived.Test.YtjfmahodbdianaaDoorUtfs
import Derived.Test.YtjfmahodbdianaaDoorTabs
import Derived.Test.YtjfmahodbdianaaDoorTpls
import Derived.Test.YtjfmahodbdianaaDoorWire1
import Derived.Deep.Cut
import Derived.Sort.AtCall
import Derived.Deep.CutBlock
import Derived.Deep.DeepCutAuto
import Derived.Laws.BitsAllLaws
namespace Go.Proofs.YtjfmahodbdianaaDoor.Utf
open Go.RowKit Mem Cells Ops
set_option linter.unusedVariables false
def sliceLen : Value → Nat
  | .slice _ n _ => n
  | _ => 0
theorem tabs_below {w u : World} (h : Lib.Utf8Tabs 0 1 w) (hb : Below w.heap.size w u) : Lib.Utf8Tabs 0 1 u := by
  have h0 : 0 < w.heap.size := by
    rcases Nat.eq_zero_or_pos w.heap.size with e | e
    · have := h.1 0 (by decide)
      have e0 : w.heap[0]? = none := Array.getElem?_eq_none (by omega)
      simp [World.cell?, e0] at this
    · exact e
  have h1 : 1 < w.heap.size := by
    rcases Nat.lt_or_ge 1 w.heap.size with e | e
    · exact e
    · have := (h.2 0 (by decide)).1
      have e0 : w.heap[1]? = none := Array.getElem?_eq_none (by omega)
      simp [World.cell?, e0] at this
  exact ⟨fun c hc => (hb.cell (p := ⟨0, c, none⟩) h0).trans (h.1 c hc), fun i hi => ⟨(hb.cell (p := ⟨1, 2 * i, none⟩) h1).trans (h.2 i hi).1, (hb.cell (p := ⟨1, 2 * i + 1, none⟩) h1).trans (h.2 i hi).2⟩⟩
theorem shape {w : World} {v : Value} {ys : List Int} {q : Nat} (h : Reads .u8 w v ys) (hl : ys.length = q) : ∃ p c, v = .slice p q c ∧ q ≤ c ∧ c ≤ maxLen := by
  obtain ⟨p, c, rfl, h1, h2, _, _⟩ := h
  subst hl
  exact ⟨p, c, rfl, h1, h2⟩
theorem shape1 {w : World} {v : Value} {ys : List Int} {q : Nat} (h : Reads .u8 w v ys) (hl : ys.length = q) (h0 : 0 < q) : ∃ b o c, v = .slice (some ⟨b, o, none⟩) q c ∧ q ≤ c ∧ c ≤ 9223372036854775807 ∧ b < w.heap.size ∧ Cl w b o q ys := by
  obtain ⟨p, c, rfl, h1, h2, _, h4⟩ := h
  subst hl
  obtain ⟨b, o, rfl, hlt, hc⟩ := h4 h0
  exact ⟨b, o, c, rfl, h1, by unfold maxLen at h2; omega, hlt, hc⟩
theorem reads_of {w : World} {b o m c : Nat} {ys : List Int} (h : Cl w b o m ys) (hl : ys.length = m) (hlt : b < w.heap.size) (h1 : m ≤ c) (h2 : c ≤ 9223372036854775807) : Reads .u8 w (.slice (some ⟨b, o, none⟩) m c) ys := by
  subst hl
  exact ⟨_, c, rfl, h1, by unfold maxLen; omega, (fun h => by cases h), fun _ => ⟨b, o, rfl, hlt, h⟩⟩
theorem _root_.Go.Proofs.YtjfmahodbdianaaDoor.Mem.Reads.drewN {k : IntKind} {w : World} {v : Value} {xs : List Int} (h : Reads k w v xs) : ∀ q, Reads k (w.drewN q) v xs := fun q => h.below (below_drewN (Below.refl _ _) q)
set_option maxRecDepth 100000 in
theorem and7 : ∀ X : Fin 256, bits .and .u8 ((X.val : Nat) : Int) 7 = ((X.val % 8 : Nat) : Int) := by decide
def bytesOk (ys : List Int) : Prop := ∀ x ∈ ys, 0 ≤ x ∧ x ≤ 255
theorem bytesOk.drop {ys : List Int} (h : bytesOk ys) (k : Nat) : bytesOk (ys.drop k) := fun x hx => h x (List.mem_of_mem_drop hx)
theorem skip {k : Nat} {ys : List Int} {r : Bool} (ha : Asc k ys) (hk : k ≤ ys.length) (h : v8 ys = r) : v8 (ys.drop k) = r := by
  rw [← v8_skip k ys hk ha]; exact h
/-- What a slice is ahead of a round. -/
def St (w : World) (res : Bool) (u : Value) (wr : World) : Prop := ∃ ys : List Int, Reads .u8 wr u ys ∧ v8 ys = res ∧ bytesOk ys ∧ Below w.heap.size w wr
set_option maxRecDepth 100000 in
set_option maxHeartbeats 12800000 in
theorem valid (v : Value) (xs : List Int) (w : World) (hr : Reads .u8 w v xs) (hx : bytesOk xs) (ht : Lib.Utf8Tabs 0 1 w) (hp : 0 < xs.length) : Calls Tryd.prog 31 #[v] w fun e w' => e = .returned (.bool (v8 xs)) ∧ Below w.heap.size w w' := by
  have hr0 := hr
  obtain ⟨p, c, rfl, h1, h2, h3, h4⟩ := hr
  obtain ⟨b, off, rfl, hlt, hc⟩ := h4 hp
  obtain ⟨n, hn⟩ : ∃ n, xs.length = n := ⟨_, rfl⟩
  have HR0 := Lib.hid (show Reads .u8 w (.slice (some ⟨b, off, none⟩) n n) xs from ⟨some ⟨b, off, none⟩, n, by rw [hn], by omega, by omega, (fun h => by cases h), fun _ => ⟨b, off, rfl, hlt, hc⟩⟩)
  have HT := Lib.hid ht
  rw [hn] at h1 hp ⊢
  clear hc ht h4 hn h3 hr0 hlt
  have hnm : n ≤ 9223372036854775807 := by unfold maxLen at h2; omega
  have hcm : c ≤ 9223372036854775807 := by unfold maxLen at h2; omega
  obtain ⟨res, hres⟩ : ∃ r, v8 xs = r := ⟨_, rfl⟩
  have HRES := Lib.hid hres
  have HX := Lib.hid hx
  rw [hres]
  clear hres hx h2
  obtain ⟨i0, hi, hz0, hz1, hz2⟩ := info_parts Wire.info5
  have HI := Lib.hid (And.intro hi hz1)
  clear hi hz0 hz1 hz2
  go_enter Tryd.func31, Tryd.ntmps31
  go_wp2_with fail
  clear h1 hp hnm hcm
  go_loopw [0] (fun u wr => St w res u wr) (fun u _ => sliceLen u)
  case atStart => exact ⟨xs, HR0.out, HRES.out, HX.out, Below.refl _ _⟩
  case round =>
    clear HR0 HRES HX
    obtain ⟨ys, hr, hy, hx, hbl⟩ := hrel
    have HY := Lib.hid hy
    have HX := Lib.hid hx
    have HR := Lib.hid hr
    clear hx hy
    obtain ⟨m, hm⟩ : ∃ m, ys.length = m := ⟨_, rfl⟩
    have HM := Lib.hid hm
    rcases Nat.eq_zero_or_pos m with h0 | h0
    · obtain ⟨p', c', rfl, k1, k2⟩ := shape hr hm
      subst h0
      have e : ys = [] := List.eq_nil_of_length_eq_zero hm
      clear hm hr
      go_wp2_with fail
      go_ret
      exact ⟨by rw [← HY.out, e]; rfl, hbl⟩
    · obtain ⟨b', off', c', rfl, k1, k2, hltb, hcc⟩ := shape1 hr hm h0
      have hne : ys ≠ [] := fun e => by rw [e] at hm; simp at hm; omega
      have q0 := hcc 0 h0
      rw [Nat.add_zero] at q0
      obtain ⟨x0, hx0⟩ : ∃ x0, ys.getD 0 0 = x0 := ⟨_, rfl⟩
      rw [hx0] at q0
      have hb0 : 0 ≤ x0 ∧ x0 ≤ 255 := by rw [← hx0]; exact HX.out _ (by rw [List.getD_eq_getElem?_getD, List.getElem?_eq_getElem (by omega)]; exact List.getElem_mem _)
      have HNE := Lib.hid hne
      have HX0 := Lib.hid hx0
      have HCC := Lib.hid hcc
      clear hne hx0 hcc hm hr
      by_cases ha : x0 < 128
      · as_aux_lemma =>
          have HA1 := Lib.hid (show Asc 1 ys from fun i hi => by obtain rfl : i = 0 := by omega
                                                                 rw [HX0.out]; exact ha)
          have HY1 := Lib.hid (skip HA1.out (by rw [HM.out]; exact h0) HY.out)
          by_cases h9 : m ≤ 9
          · go_wp2_with (first
              | (refine wpl_sub_l rfl 32 (.tmp 21) (.const (.int .i64 1)) rfl .u8 i0 Tryd.underlying32 HI.out.1 HI.out.2 _ ys 1 rfl rfl HR.out (by decide) (by rw [HM.out]; omega) ?_; go_must (intro v1 hr1; have HR1 := Lib.hid hr1; obtain ⟨p1, c1, hu1, l1, l2⟩ := shape hr1 (q := m - 1) (by simp [HM.out]); subst hu1; clear hr1)))
            exact ⟨⟨_, HR1.out, HY1.out, HX.out.drop 1, hbl⟩, by simp only [sliceLen]; omega⟩
          · obtain ⟨m2, rfl⟩ : ∃ m2, m = m2 + 9 := ⟨m - 9, by omega⟩
            have HM1 := Lib.hid (show (ys.drop 1).length = m2 + 8 by rw [List.length_drop, HM.out]; omega)
            go_upto_region 6 with (first
              | (refine wpl_sub_l rfl 32 (.tmp 21) (.const (.int .i64 1)) rfl .u8 i0 Tryd.underlying32 HI.out.1 HI.out.2 _ ys 1 rfl rfl HR.out (by decide) (by rw [HM.out]; omega) ?_; go_must (intro v1 hr1; have HR1 := Lib.hid hr1; obtain ⟨b1, o1, c1, hu1, l1, l2, l3, CC1⟩ := shape1 hr1 (q := m2 + 8) (by simp [HM.out]) (by omega); subst hu1; clear hr1)))
            have hm2 : 0 < m2 := by omega
            have hm2z : (8 : Int) < (m2 : Int) + 8 := by omega
            clear q0 hb0 k1 k2 hltb h0 h9 ha
            obtain ⟨z1, hw1, hc1⟩ := wordq b1 o1 (m2 + 8) c1 (ys.drop 1) wr (by omega) HM1.out.symm (by omega) CC1 (HX.out.drop 1)
            have HC1 := Lib.hid hc1
            have and1 : bits .and .u64 (z1 : Int) 9259542123273814144 = ((z1 &&& 9259542123273814144 : Nat) : Int) := u64_and_nat z1 9259542123273814144 hw1.1 (by decide)
            have HW1 := Lib.hid hw1
            obtain ⟨Z1, hZ1⟩ : ∃ Z, z1 &&& 9259542123273814144 = Z := ⟨_, rfl⟩
            rw [hZ1] at and1
            have HZ1 := Lib.hid hZ1
            have HCC1 := Lib.hid CC1
            clear hw1 hc1 hZ1 CC1
            by_cases hz1 : Z1 = 0
            · have hz1b : ((Z1 : Int) == 0) = true := by simp [hz1]
              have HA8 := Lib.hid (Asc.of_word HW1.out (by rw [HZ1.out, hz1]))
              have HY2 := Lib.hid (skip HA8.out (by rw [HM1.out]; omega) HY1.out)
              clear hz1
              go_upto_region 8 with (go_at_call 40; go_must (refine (HC1.out 0).mono ?_; rintro e y1 ⟨rfl, hq⟩; have hb1 : Below wr.heap.size wr y1 := (by obtain ⟨q1, rfl⟩ := hq; exact below_drewN (below_drewN (Below.refl _ _) 0) q1); clear hq; have hbl1 := hbl.trans (hb1.mono hbl.size)))
              have HR2 := Lib.hid (show Reads .u8 y1 (.slice (some ⟨b1, o1 + 8, none⟩) m2 (c1 - 8)) ((ys.drop 1).drop 8) from reads_of (by have := (HCC1.out.below l3 hb1).drop 8; rwa [Nat.add_sub_cancel] at this) (by rw [List.length_drop, HM1.out]; omega) (by have := hb1.size; omega) (by omega) (by omega))
              have HX2 := Lib.hid ((HX.out.drop 1).drop 8)
              have hM2 : ((ys.drop 1).drop 8).length = m2 := by rw [List.length_drop, HM1.out]; omega
              have HCC2 := Lib.hid ((HCC1.out.below l3 hb1).drop 8)
              have l3' : b1 < y1.heap.size := by have := hb1.size; omega
              obtain ⟨ys2, hys2⟩ : ∃ l, (ys.drop 1).drop 8 = l := ⟨_, rfl⟩
              have hcc2 : Cl y1 b1 (o1 + 8) m2 ys2 := by have := HCC2.out; rw [Nat.add_sub_cancel] at this; rw [← hys2]; exact this
              have hY2 := HY2.out
              have hX2 := HX2.out
              have hR2 := HR2.out
              rw [hys2] at hM2 hY2 hX2 hR2
              have hc2 : m2 ≤ c1 - 8 := by omega
              have hc2' : c1 - 8 ≤ 9223372036854775807 := by omega
              clear HX2 HCC2 HR2 HY2 HY1 HY HX HR HCC HM HM1 HCC1 HC1 HZ1 HW1 HA1 HA8 HNE HX0 hys2 hbl hb1 l1 l2 l3 hm2z and1 hz1b HR1
              generalize o1 + 8 = o2 at hcc2 hR2 ⊢
              generalize c1 - 8 = c2 at hc2 hc2' hR2 ⊢
              by_cases c16 : 16 < m2
              · obtain ⟨m3, rfl⟩ : ∃ m3, m2 = m3 + 16 := ⟨m2 - 16, by omega⟩
                have c16z : (16 : Int) < (m3 : Int) + 16 := by omega
                obtain ⟨z2, hw2, hcw2⟩ := wordq b1 o2 (m3 + 16) c2 ys2 y1 (by omega) hM2.symm (by omega) hcc2 hX2
                obtain ⟨z3, hw3, hcw3⟩ := wordq b1 (o2 + 8) (m3 + 8) (c2 - 8) (ys2.drop 8) y1 (by omega) (by rw [List.length_drop, hM2]; omega) (by omega) (by have := hcc2.drop 8; rwa [show m3 + 16 - 8 = m3 + 8 by omega] at this) (hX2.drop 8)
                have HC2 := Lib.hid hcw2
                have HC3 := Lib.hid hcw3
                have or2 : bits .or .u64 (z2 : Int) (z3 : Int) = ((z2 ||| z3 : Nat) : Int) := u64_or_nat z2 z3 hw2.1 hw3.1
                have lor2 : z2 ||| z3 < 18446744073709551616 := Nat.or_lt_two_pow (n := 64) hw2.1 hw3.1
                have and2 : bits .and .u64 ((z2 ||| z3 : Nat) : Int) 9259542123273814144 = (((z2 ||| z3) &&& 9259542123273814144 : Nat) : Int) := u64_and_nat _ 9259542123273814144 lor2 (by decide)
                have HA := Lib.hid (show (z2 ||| z3) &&& 9259542123273814144 = 0 → Asc 16 ys2 from fun h => (Asc.of_word hw2 (or_mask h).1).add (Asc.of_word hw3 (or_mask h).2))
                obtain ⟨O2, hO2⟩ : ∃ O, z2 ||| z3 = O := ⟨_, rfl⟩
                rw [hO2] at or2 and2 HA
                obtain ⟨Z2, hZ2⟩ : ∃ Z, O2 &&& 9259542123273814144 = Z := ⟨_, rfl⟩
                rw [hZ2] at and2 HA
                have HY2 := Lib.hid hY2
                have HX2 := Lib.hid hX2
                have HR2 := Lib.hid hR2
                have HCC2 := Lib.hid hcc2
                have HM2 := Lib.hid hM2
                clear hw2 hw3 hcw2 hcw3 lor2 hO2 hZ2 hY2 hX2 hR2 hcc2 hM2
                by_cases hz2 : Z2 = 0
                · have hz2b : ((Z2 : Int) == 0) = true := by simp [hz2]
                  have HY3 := Lib.hid (skip (HA.out hz2) (by rw [HM2.out]; omega) HY2.out)
                  clear hz2 HA
                  go_big_quiet (first | (go_at_call_has 40 (o2 + 8); refine Calls.quiet_of (HC3.out _)) | (go_at_call 40; refine Calls.quiet_of (HC2.out _)))
                  go_wp2_with fail
                  have HR3 := Lib.hid (show Reads .u8 (y1.drewN nq) (.slice (some ⟨b1, o2 + 16, none⟩) m3 (c2 - 16)) (ys2.drop 16) from reads_of (by have := (HCC2.out.drewN nq).drop 16; rwa [show m3 + 16 - 16 = m3 by omega] at this) (by rw [List.length_drop, HM2.out]; omega) l3' (by omega) (by omega))
                  have hbl2 := below_drewN hbl1 nq
                  have hX3 := HX2.out.drop 16
                  have hm3 : m3 < m3 + 16 + 9 := by omega
                  clear HR2 HCC2 HM2 HC2 HC3 HX2 HY2 hm2 hc2 c16 c16z or2 and2 hz2b hc2' l3' hbl1
                  go_loopw [0] (fun u wr2 => St w res u wr2 ∧ sliceLen u ≤ m3) (fun u _ => sliceLen u)
                  case atStart => exact ⟨⟨_, HR3.out, HY3.out, hX3, hbl2⟩, Nat.le_refl _⟩
                  case round =>
                    clear HR3 HY3 hX3 hbl2
                    obtain ⟨⟨ys4, hr4, hy4, hx4, hbl4⟩, hle4⟩ := hrel
                    have HX4 := Lib.hid hx4
                    have HY4 := Lib.hid hy4
                    obtain ⟨m4, hm4⟩ : ∃ m, ys4.length = m := ⟨_, rfl⟩
                    have HM4 := Lib.hid hm4
                    have HR4 := Lib.hid hr4
                    clear hx4 hy4
                    by_cases c32 : 32 < m4
                    · obtain ⟨b4, o4, c4, rfl, k1, k2, hltb, hcc4⟩ := shape1 hr4 hm4 (by omega)
                      obtain ⟨m5, rfl⟩ : ∃ m5, m4 = m5 + 32 := ⟨m4 - 32, by omega⟩
                      have c32z : (32 : Int) < (m5 : Int) + 32 := by omega
                      obtain ⟨d0, hd0, hcd0⟩ := wordq b4 o4 (m5 + 32) c4 ys4 wr (by omega) hm4.symm (by omega) hcc4 HX4.out
                      obtain ⟨d1, hd1, hcd1⟩ := wordq b4 (o4 + 8) (m5 + 24) (c4 - 8) (ys4.drop 8) wr (by omega) (by rw [List.length_drop, hm4]; omega) (by omega) (by have := hcc4.drop 8; rwa [show m5 + 32 - 8 = m5 + 24 by omega] at this) (HX4.out.drop 8)
                      obtain ⟨d2, hd2, hcd2⟩ := wordq b4 (o4 + 16) (m5 + 16) (c4 - 16) (ys4.drop 16) wr (by omega) (by rw [List.length_drop, hm4]; omega) (by omega) (by have := hcc4.drop 16; rwa [show m5 + 32 - 16 = m5 + 16 by omega] at this) (HX4.out.drop 16)
                      obtain ⟨d3, hd3, hcd3⟩ := wordq b4 (o4 + 24) (m5 + 8) (c4 - 24) (ys4.drop 24) wr (by omega) (by rw [List.length_drop, hm4]; omega) (by omega) (by have := hcc4.drop 24; rwa [show m5 + 32 - 24 = m5 + 8 by omega] at this) (HX4.out.drop 24)
                      have HD0 := Lib.hid hcd0
                      have HD1 := Lib.hid hcd1
                      have HD2 := Lib.hid hcd2
                      have HD3 := Lib.hid hcd3
                      have ho1 : bits .or .u64 (d0 : Int) (d1 : Int) = ((d0 ||| d1 : Nat) : Int) := u64_or_nat d0 d1 hd0.1 hd1.1
                      have ho2 : bits .or .u64 (d2 : Int) (d3 : Int) = ((d2 ||| d3 : Nat) : Int) := u64_or_nat d2 d3 hd2.1 hd3.1
                      have lo1 : d0 ||| d1 < 18446744073709551616 := Nat.or_lt_two_pow (n := 64) hd0.1 hd1.1
                      have lo2 : d2 ||| d3 < 18446744073709551616 := Nat.or_lt_two_pow (n := 64) hd2.1 hd3.1
                      have ho3 : bits .or .u64 ((d0 ||| d1 : Nat) : Int) ((d2 ||| d3 : Nat) : Int) = (((d0 ||| d1) ||| (d2 ||| d3) : Nat) : Int) := u64_or_nat _ _ lo1 lo2
                      have lo3 : (d0 ||| d1) ||| (d2 ||| d3) < 18446744073709551616 := Nat.or_lt_two_pow (n := 64) lo1 lo2
                      have and3 : bits .and .u64 (((d0 ||| d1) ||| (d2 ||| d3) : Nat) : Int) 9259542123273814144 = ((((d0 ||| d1) ||| (d2 ||| d3)) &&& 9259542123273814144 : Nat) : Int) := u64_and_nat _ 9259542123273814144 lo3 (by decide)
                      have HA := Lib.hid (show ((d0 ||| d1) ||| (d2 ||| d3)) &&& 9259542123273814144 = 0 → Asc 32 ys4 from fun h => by
                        obtain ⟨e01, e23⟩ := or_mask h
                        obtain ⟨e0, e1⟩ := or_mask e01
                        obtain ⟨e2, e3⟩ := or_mask e23
                        have s16 : Asc 16 ys4 := (Asc.of_word hd0 e0).add (Asc.of_word hd1 e1)
                        have s24 : Asc 24 ys4 := s16.add (Asc.of_word hd2 e2)
                        exact s24.add (Asc.of_word hd3 e3))
                      obtain ⟨P1, hP1⟩ : ∃ P, d0 ||| d1 = P := ⟨_, rfl⟩
                      obtain ⟨P2, hP2⟩ : ∃ P, d2 ||| d3 = P := ⟨_, rfl⟩
                      rw [hP1, hP2] at ho3 and3 HA
                      rw [hP1] at ho1
                      rw [hP2] at ho2
                      obtain ⟨P3, hP3⟩ : ∃ P, P1 ||| P2 = P := ⟨_, rfl⟩
                      rw [hP3] at ho3 and3 HA
                      obtain ⟨Z3, hZ3⟩ : ∃ Z, P3 &&& 9259542123273814144 = Z := ⟨_, rfl⟩
                      rw [hZ3] at and3 HA
                      have HCC4 := Lib.hid hcc4
                      clear hcd0 hcd1 hcd2 hcd3 hd0 hd1 hd2 hd3 lo1 lo2 lo3 hP1 hP2 hP3 hZ3 hcc4 hr4 hm4 HR4
                      by_cases hz3 : Z3 = 0
                      · have hz3b : ((Z3 : Int) == 0) = true := by simp [hz3]
                        have HY5 := Lib.hid (skip (HA.out hz3) (by rw [HM4.out]; omega) HY4.out)
                        clear hz3 HA
                        go_wp2_with fail
                        go_big_quiet (first | (go_at_call_has 40 (o4 + 24); refine Calls.quiet_of (HD3.out _)) | (go_at_call_has 40 (o4 + 16); refine Calls.quiet_of (HD2.out _)) | (go_at_call_has 40 (o4 + 8); refine Calls.quiet_of (HD1.out _)) | (go_at_call 40; refine Calls.quiet_of (HD0.out _)))
                        go_wp2_with fail
                        exact ⟨⟨⟨_, reads_of (by have := (HCC4.out.drewN nq).drop 32; rwa [show m5 + 32 - 32 = m5 by omega] at this) (by rw [List.length_drop, HM4.out]; omega) hltb (by omega) (by omega), HY5.out, HX4.out.drop 32, below_drewN hbl4 nq⟩, by simp only [sliceLen] at hle4 ⊢; omega⟩, by simp only [sliceLen]; omega⟩
                      · have hz3b : ((Z3 : Int) == 0) = false := by simp [hz3]
                        clear hz3 HA
                        go_wp2_with fail
                        go_big_quiet (first | (go_at_call_has 40 (o4 + 24); refine Calls.quiet_of (HD3.out _)) | (go_at_call_has 40 (o4 + 16); refine Calls.quiet_of (HD2.out _)) | (go_at_call_has 40 (o4 + 8); refine Calls.quiet_of (HD1.out _)) | (go_at_call 40; refine Calls.quiet_of (HD0.out _)))
                        go_wp2_with fail
                        exact ⟨⟨_, reads_of (HCC4.out.drewN nq) HM4.out hltb (by omega) (by omega), HY4.out, HX4.out, below_drewN hbl4 nq⟩, by simp only [sliceLen] at hle4 ⊢; omega⟩
                    · obtain ⟨p4, c4, rfl, k1, k2⟩ := shape hr4 hm4
                      have c32z : ¬ ((32 : Int) < (m4 : Int)) := by omega
                      have c32b : decide ((32 : Int) < (m4 : Int)) = false := decide_eq_false c32z
                      clear hr4 hm4
                      go_wp2_with fail
                      go_big_quiet (fail)
                      go_wp2_with fail
                      exact ⟨⟨_, HR4.out.drewN nq, HY4.out, HX4.out, below_drewN hbl4 nq⟩, by simp only [sliceLen] at hle4 ⊢; omega⟩
                · have hz2b : ((Z2 : Int) == 0) = false := by simp [hz2]
                  clear hz2 HA
                  go_big_quiet (first | (go_at_call_has 40 (o2 + 8); refine Calls.quiet_of (HC3.out _)) | (go_at_call 40; refine Calls.quiet_of (HC2.out _)))
                  go_wp2_with fail
                  exact ⟨⟨_, reads_of (HCC2.out.drewN nq) HM2.out l3' (by omega) (by omega), HY2.out, HX2.out, below_drewN hbl1 nq⟩, by simp only [sliceLen]; omega⟩
              · have c16z : ¬ ((16 : Int) < (m2 : Int)) := by omega
                have c16b : decide ((16 : Int) < (m2 : Int)) = false := decide_eq_false c16z
                have HY2 := Lib.hid hY2
                have HX2 := Lib.hid hX2
                have HCC2 := Lib.hid hcc2
                have HM2 := Lib.hid hM2
                clear hY2 hX2 hR2 hcc2 hM2
                go_big_quiet (fail)
                go_wp2_with fail
                exact ⟨⟨_, reads_of (HCC2.out.drewN nq) HM2.out l3' (by omega) (by omega), HY2.out, HX2.out, below_drewN hbl1 nq⟩, by simp only [sliceLen]; omega⟩
            · have hz1b : ((Z1 : Int) == 0) = false := by simp [hz1]
              clear hz1
              go_wp2_with (go_at_call 40; go_must (refine (HC1.out 0).mono ?_; rintro e y1 ⟨rfl, hq⟩; have hb1 : Below wr.heap.size wr y1 := (by obtain ⟨q1, rfl⟩ := hq; exact below_drewN (below_drewN (Below.refl _ _) 0) q1); clear hq; have hbl1 := hbl.trans (hb1.mono hbl.size)))
              exact ⟨⟨_, HR1.out.below hb1, HY1.out, HX.out.drop 1, hbl1⟩, by simp only [sliceLen]; omega⟩
      · have hge : 128 ≤ x0 := by omega
        obtain ⟨N0, hN0⟩ : ∃ N0 : Nat, x0 = (N0 : Int) := ⟨x0.toNat, by omega⟩
        subst hN0
        have hTr := tabs_below HT.out hbl
        have hc0 := hTr.1 N0 (by omega)
        have hXlt : Lib.firstT N0 < 256 := by rcases Lib.firstT_cases N0 with h | h | h | h | h | h | h | h | h <;> omega
        have hstep : stepV ys = (if Lib.firstT N0 % 8 = 2 then (if ys.length < 2 ∨ at_ ys 1 < Lib.accLo (Lib.firstT N0 / 16) ∨ Lib.accHi (Lib.firstT N0 / 16) < at_ ys 1 then 0 else 2)
            else if Lib.firstT N0 % 8 = 3 then (if ys.length < 3 ∨ at_ ys 1 < Lib.accLo (Lib.firstT N0 / 16) ∨ Lib.accHi (Lib.firstT N0 / 16) < at_ ys 1 ∨ badB (at_ ys 2) then 0 else 3)
            else if Lib.firstT N0 % 8 = 4 then (if ys.length < 4 ∨ at_ ys 1 < Lib.accLo (Lib.firstT N0 / 16) ∨ Lib.accHi (Lib.firstT N0 / 16) < at_ ys 1 ∨ badB (at_ ys 2) ∨ badB (at_ ys 3) then 0 else 4)
            else 0) := by
          unfold stepV loN hiN fN
          simp only
          rw [show at_ ys 0 = (N0 : Int) from HX0.out, if_neg (by omega), Int.toNat_natCast]
        obtain ⟨X, hX⟩ : ∃ X, Lib.firstT N0 = X := ⟨_, rfl⟩
        rw [hX] at hc0 hXlt hstep
        have h7 := and7 ⟨X, hXlt⟩
        simp only at h7
        have ha0 : wr.cell? ⟨1, X / 16 * 2, none⟩ = some (.int .u8 (Lib.accLo (X / 16))) := by rw [Nat.mul_comm]; exact (hTr.2 (X / 16) (by omega)).1
        have ha1 : wr.cell? ⟨1, X / 16 * 2 + 1, none⟩ = some (.int .u8 (Lib.accHi (X / 16))) := by rw [Nat.mul_comm]; exact (hTr.2 (X / 16) (by omega)).2
        obtain ⟨LO, hLO⟩ : ∃ LO, Lib.accLo (X / 16) = LO := ⟨_, rfl⟩
        obtain ⟨HI', hHI⟩ : ∃ HI, Lib.accHi (X / 16) = HI := ⟨_, rfl⟩
        rw [hLO] at ha0 hstep
        rw [hHI] at ha1 hstep
        obtain ⟨SZ, hSZ⟩ : ∃ SZ, X % 8 = SZ := ⟨_, rfl⟩
        rw [hSZ] at hstep
        obtain ⟨x1, hx1⟩ : ∃ x1, ys.getD 1 0 = x1 := ⟨_, rfl⟩
        obtain ⟨x2, hx2⟩ : ∃ x2, ys.getD 2 0 = x2 := ⟨_, rfl⟩
        obtain ⟨x3, hx3⟩ : ∃ x3, ys.getD 3 0 = x3 := ⟨_, rfl⟩
        rw [show at_ ys 1 = x1 from hx1, show at_ ys 2 = x2 from hx2, show at_ ys 3 = x3 from hx3] at hstep
        have HC1 := Lib.hid (show 1 < m → wr.cell? ⟨b', off' + 1, none⟩ = some (.int .u8 x1) from fun h => by rw [← hx1]; exact HCC.out 1 h)
        have HC2 := Lib.hid (show 2 < m → wr.cell? ⟨b', off' + 2, none⟩ = some (.int .u8 x2) from fun h => by rw [← hx2]; exact HCC.out 2 h)
        have HC3 := Lib.hid (show 3 < m → wr.cell? ⟨b', off' + 3, none⟩ = some (.int .u8 x3) from fun h => by rw [← hx3]; exact HCC.out 3 h)
        have HS := Lib.hid hstep
        clear hTr hX hLO hHI hx1 hx2 hx3 hstep HCC HX0
        by_cases s2 : SZ = 2
        · as_aux_lemma =>
            subst s2
            have hSZz : (X : Int) % 8 = 2 := by omega
            have hbad : ((m : Int) < 2 ∨ x1 < (LO : Int) ∨ (HI' : Int) < x1) → res = false := fun h => by
              have e := HS.out
              simp only [Nat.reduceEqDiff, if_true, if_false] at e
              rw [if_pos (by rw [HM.out]; first | omega | (unfold badB; omega))] at e
              rw [← HY.out]; exact v8_bad HNE.out e
            have hgood : ¬ ((m : Int) < 2 ∨ x1 < (LO : Int) ∨ (HI' : Int) < x1) → v8 (ys.drop 2) = res ∧ 2 ≤ m := fun h => by
              have e := HS.out
              simp only [Nat.reduceEqDiff, if_true, if_false] at e
              rw [if_neg (by rw [HM.out]; first | omega | (unfold badB; omega))] at e
              exact ⟨by rw [← HY.out]; exact (v8_step HNE.out e (by decide)).symm, by omega⟩
            have HB := Lib.hid hbad
            have HG := Lib.hid hgood
            clear hbad hgood HS
            go_upto_region 18 with fail
            have hb2 : Below wr.heap.size wr (wr.alloc (Obj.cells #[Value.int IntKind.u8 (LO : Int), Value.int IntKind.u8 (HI' : Int)] 73)) := (Below.refl _ _).alloc (Nat.le_refl _) _
            have hA0 : (wr.alloc (Obj.cells #[Value.int IntKind.u8 (LO : Int), Value.int IntKind.u8 (HI' : Int)] 73)).cell? ⟨wr.heap.size, 0, none⟩ = some (.int .u8 (LO : Int)) := by simp [go_sem]
            have hA1 : (wr.alloc (Obj.cells #[Value.int IntKind.u8 (LO : Int), Value.int IntKind.u8 (HI' : Int)] 73)).cell? ⟨wr.heap.size, 1, none⟩ = some (.int .u8 (HI' : Int)) := by simp [go_sem]
            generalize (wr.alloc (Obj.cells #[Value.int IntKind.u8 (LO : Int), Value.int IntKind.u8 (HI' : Int)] 73)) = w2 at hb2 hA0 hA1 ⊢
            have HBL2 := Lib.hid (hbl.trans (hb2.mono hbl.size))
            have HR2 := Lib.hid (HR.out.below hb2)
            have HC1' := Lib.hid (fun h => (hb2.cell (p := ⟨b', off' + 1, none⟩) hltb).trans (HC1.out h))
            clear HC1 HC2 HC3 hb2 hbl HR ha0 ha1 hc0 h7
            generalize wr.heap.size = g at hA0 hA1 hltb ⊢
            go_cut [103] from 85 to 103 (fun c wx => c = .bool (decide ((m : Int) < 2 ∨ x1 < (LO : Int) ∨ (HI' : Int) < x1)) ∧ ∃ q, wx = w2.drewN q)
            case first =>
              by_cases q0 : (m : Int) < 2
              · skip
                go_big_quiet (fail)
                go_wp2_with fail
                go_meet
                exact ⟨congrArg Value.bool (decide_eq_true (p := (m : Int) < 2 ∨ x1 < (LO : Int) ∨ (HI' : Int) < x1) (by omega)).symm, _, rfl⟩
              · have q0b : decide ((m : Int) < 2) = false := decide_eq_false q0
                have c1 := HC1'.out (by omega)
                have l1 : (1 : Int) < (m : Int) := by omega
                by_cases q1 : x1 < (LO : Int)
                · skip
                  go_big_quiet (fail)
                  go_wp2_with fail
                  go_meet
                  exact ⟨congrArg Value.bool (decide_eq_true (p := (m : Int) < 2 ∨ x1 < (LO : Int) ∨ (HI' : Int) < x1) (by omega)).symm, _, rfl⟩
                · have q1b : decide (x1 < (LO : Int)) = false := decide_eq_false q1
                  by_cases q2 : (HI' : Int) < x1
                  · skip
                    go_big_quiet (fail)
                    go_wp2_with fail
                    go_meet
                    exact ⟨congrArg Value.bool (decide_eq_true (p := (m : Int) < 2 ∨ x1 < (LO : Int) ∨ (HI' : Int) < x1) (by omega)).symm, _, rfl⟩
                  · have q2b : decide ((HI' : Int) < x1) = false := decide_eq_false q2
                    go_big_quiet (fail)
                    go_wp2_with fail
                    go_meet
                    exact ⟨congrArg Value.bool (decide_eq_false (p := (m : Int) < 2 ∨ x1 < (LO : Int) ∨ (HI' : Int) < x1) (by omega)).symm, _, rfl⟩
            case rest =>
              obtain ⟨rfl, q, rfl⟩ := hcut
              have HR3 := Lib.hid (HR2.out.drewN q)
              have HBL3 := Lib.hid (below_drewN HBL2.out q)
              generalize w2.drewN q = w3 at HR3 HBL3 ⊢
              by_cases hb : (m : Int) < 2 ∨ x1 < (LO : Int) ∨ (HI' : Int) < x1
              · have hbd : decide ((m : Int) < 2 ∨ x1 < (LO : Int) ∨ (HI' : Int) < x1) = true := decide_eq_true hb
                have hres := HB.out hb
                rw [hbd]
                subst hres
                clear hb hbd HG HB HR2 HBL2
                go_wp2_with fail
                all_goals (go_ret; exact ⟨rfl, HBL3.out⟩)
              · have hbd : decide ((m : Int) < 2 ∨ x1 < (LO : Int) ∨ (HI' : Int) < x1) = false := decide_eq_false hb
                obtain ⟨hy5, hn⟩ := HG.out hb
                have HY5 := Lib.hid hy5
                rw [hbd]
                clear hb hbd HG HB HR2 HBL2 hy5
                go_wp2_with (first
                  | (refine wpl_sub_l rfl 32 (.tmp 104) (.const (.int .i64 2)) rfl .u8 i0 Tryd.underlying32 HI.out.1 HI.out.2 _ ys 2 rfl rfl HR3.out (by decide) (by rw [HM.out]; omega) ?_; go_must (intro v1 hr1; have HR1 := Lib.hid hr1; obtain ⟨p1, c1, hu1, l1, l2⟩ := shape hr1 (q := m - 2) (by simp [HM.out]); subst hu1; clear hr1)))
                exact ⟨⟨_, HR1.out, HY5.out, HX.out.drop 2, HBL3.out⟩, by simp only [sliceLen]; omega⟩
        by_cases s3 : SZ = 3
        · as_aux_lemma =>
            subst s3
            have hSZz : (X : Int) % 8 = 3 := by omega
            have hbad : ((m : Int) < 3 ∨ x1 < (LO : Int) ∨ (HI' : Int) < x1 ∨ x2 < 128 ∨ 191 < x2) → res = false := fun h => by
              have e := HS.out
              simp only [Nat.reduceEqDiff, if_true, if_false] at e
              rw [if_pos (by rw [HM.out]; first | omega | (unfold badB; omega))] at e
              rw [← HY.out]; exact v8_bad HNE.out e
            have hgood : ¬ ((m : Int) < 3 ∨ x1 < (LO : Int) ∨ (HI' : Int) < x1 ∨ x2 < 128 ∨ 191 < x2) → v8 (ys.drop 3) = res ∧ 3 ≤ m := fun h => by
              have e := HS.out
              simp only [Nat.reduceEqDiff, if_true, if_false] at e
              rw [if_neg (by rw [HM.out]; first | omega | (unfold badB; omega))] at e
              exact ⟨by rw [← HY.out]; exact (v8_step HNE.out e (by decide)).symm, by omega⟩
            have HB := Lib.hid hbad
            have HG := Lib.hid hgood
            clear hbad hgood HS
            go_upto_region 22 with fail
            have hb2 : Below wr.heap.size wr (wr.alloc (Obj.cells #[Value.int IntKind.u8 (LO : Int), Value.int IntKind.u8 (HI' : Int)] 73)) := (Below.refl _ _).alloc (Nat.le_refl _) _
            have hA0 : (wr.alloc (Obj.cells #[Value.int IntKind.u8 (LO : Int), Value.int IntKind.u8 (HI' : Int)] 73)).cell? ⟨wr.heap.size, 0, none⟩ = some (.int .u8 (LO : Int)) := by simp [go_sem]
            have hA1 : (wr.alloc (Obj.cells #[Value.int IntKind.u8 (LO : Int), Value.int IntKind.u8 (HI' : Int)] 73)).cell? ⟨wr.heap.size, 1, none⟩ = some (.int .u8 (HI' : Int)) := by simp [go_sem]
            generalize (wr.alloc (Obj.cells #[Value.int IntKind.u8 (LO : Int), Value.int IntKind.u8 (HI' : Int)] 73)) = w2 at hb2 hA0 hA1 ⊢
            have HBL2 := Lib.hid (hbl.trans (hb2.mono hbl.size))
            have HR2 := Lib.hid (HR.out.below hb2)
            have HC1' := Lib.hid (fun h => (hb2.cell (p := ⟨b', off' + 1, none⟩) hltb).trans (HC1.out h))
            have HC2' := Lib.hid (fun h => (hb2.cell (p := ⟨b', off' + 2, none⟩) hltb).trans (HC2.out h))
            clear HC1 HC2 HC3 hb2 hbl HR ha0 ha1 hc0 h7
            generalize wr.heap.size = g at hA0 hA1 hltb ⊢
            go_cut [138] from 108 to 138 (fun c wx => c = .bool (decide ((m : Int) < 3 ∨ x1 < (LO : Int) ∨ (HI' : Int) < x1 ∨ x2 < 128 ∨ 191 < x2)) ∧ ∃ q, wx = w2.drewN q)
            case first =>
              by_cases q0 : (m : Int) < 3
              · skip
                go_big_quiet (fail)
                go_wp2_with fail
                go_meet
                exact ⟨congrArg Value.bool (decide_eq_true (p := (m : Int) < 3 ∨ x1 < (LO : Int) ∨ (HI' : Int) < x1 ∨ x2 < 128 ∨ 191 < x2) (by omega)).symm, _, rfl⟩
              · have q0b : decide ((m : Int) < 3) = false := decide_eq_false q0
                have c1 := HC1'.out (by omega)
                have l1 : (1 : Int) < (m : Int) := by omega
                have c2 := HC2'.out (by omega)
                have l2 : (2 : Int) < (m : Int) := by omega
                by_cases q1 : x1 < (LO : Int)
                · skip
                  go_big_quiet (fail)
                  go_wp2_with fail
                  go_meet
                  exact ⟨congrArg Value.bool (decide_eq_true (p := (m : Int) < 3 ∨ x1 < (LO : Int) ∨ (HI' : Int) < x1 ∨ x2 < 128 ∨ 191 < x2) (by omega)).symm, _, rfl⟩
                · have q1b : decide (x1 < (LO : Int)) = false := decide_eq_false q1
                  by_cases q2 : (HI' : Int) < x1
                  · skip
                    go_big_quiet (fail)
                    go_wp2_with fail
                    go_meet
                    exact ⟨congrArg Value.bool (decide_eq_true (p := (m : Int) < 3 ∨ x1 < (LO : Int) ∨ (HI' : Int) < x1 ∨ x2 < 128 ∨ 191 < x2) (by omega)).symm, _, rfl⟩
                  · have q2b : decide ((HI' : Int) < x1) = false := decide_eq_false q2
                    by_cases q3 : x2 < 128
                    · skip
                      go_big_quiet (fail)
                      go_wp2_with fail
                      go_meet
                      exact ⟨congrArg Value.bool (decide_eq_true (p := (m : Int) < 3 ∨ x1 < (LO : Int) ∨ (HI' : Int) < x1 ∨ x2 < 128 ∨ 191 < x2) (by omega)).symm, _, rfl⟩
                    · have q3b : decide (x2 < 128) = false := decide_eq_false q3
                      by_cases q4 : 191 < x2
                      · skip
                        go_big_quiet (fail)
                        go_wp2_with fail
                        go_meet
                        exact ⟨congrArg Value.bool (decide_eq_true (p := (m : Int) < 3 ∨ x1 < (LO : Int) ∨ (HI' : Int) < x1 ∨ x2 < 128 ∨ 191 < x2) (by omega)).symm, _, rfl⟩
                      · have q4b : decide (191 < x2) = false := decide_eq_false q4
                        go_big_quiet (fail)
                        go_wp2_with fail
                        go_meet
                        exact ⟨congrArg Value.bool (decide_eq_false (p := (m : Int) < 3 ∨ x1 < (LO : Int) ∨ (HI' : Int) < x1 ∨ x2 < 128 ∨ 191 < x2) (by omega)).symm, _, rfl⟩
            case rest =>
              obtain ⟨rfl, q, rfl⟩ := hcut
              have HR3 := Lib.hid (HR2.out.drewN q)
              have HBL3 := Lib.hid (below_drewN HBL2.out q)
              generalize w2.drewN q = w3 at HR3 HBL3 ⊢
              by_cases hb : (m : Int) < 3 ∨ x1 < (LO : Int) ∨ (HI' : Int) < x1 ∨ x2 < 128 ∨ 191 < x2
              · have hbd : decide ((m : Int) < 3 ∨ x1 < (LO : Int) ∨ (HI' : Int) < x1 ∨ x2 < 128 ∨ 191 < x2) = true := decide_eq_true hb
                have hres := HB.out hb
                rw [hbd]
                subst hres
                clear hb hbd HG HB HR2 HBL2
                go_wp2_with fail
                all_goals (go_ret; exact ⟨rfl, HBL3.out⟩)
              · have hbd : decide ((m : Int) < 3 ∨ x1 < (LO : Int) ∨ (HI' : Int) < x1 ∨ x2 < 128 ∨ 191 < x2) = false := decide_eq_false hb
                obtain ⟨hy5, hn⟩ := HG.out hb
                have HY5 := Lib.hid hy5
                rw [hbd]
                clear hb hbd HG HB HR2 HBL2 hy5
                go_wp2_with (first
                  | (refine wpl_sub_l rfl 32 (.tmp 139) (.const (.int .i64 3)) rfl .u8 i0 Tryd.underlying32 HI.out.1 HI.out.2 _ ys 3 rfl rfl HR3.out (by decide) (by rw [HM.out]; omega) ?_; go_must (intro v1 hr1; have HR1 := Lib.hid hr1; obtain ⟨p1, c1, hu1, l1, l2⟩ := shape hr1 (q := m - 3) (by simp [HM.out]); subst hu1; clear hr1)))
                exact ⟨⟨_, HR1.out, HY5.out, HX.out.drop 3, HBL3.out⟩, by simp only [sliceLen]; omega⟩
        by_cases s4 : SZ = 4
        · as_aux_lemma =>
            subst s4
            have hSZz : (X : Int) % 8 = 4 := by omega
            have hbad : ((m : Int) < 4 ∨ x1 < (LO : Int) ∨ (HI' : Int) < x1 ∨ x2 < 128 ∨ 191 < x2 ∨ x3 < 128 ∨ 191 < x3) → res = false := fun h => by
              have e := HS.out
              simp only [Nat.reduceEqDiff, if_true, if_false] at e
              rw [if_pos (by rw [HM.out]; first | omega | (unfold badB; omega))] at e
              rw [← HY.out]; exact v8_bad HNE.out e
            have hgood : ¬ ((m : Int) < 4 ∨ x1 < (LO : Int) ∨ (HI' : Int) < x1 ∨ x2 < 128 ∨ 191 < x2 ∨ x3 < 128 ∨ 191 < x3) → v8 (ys.drop 4) = res ∧ 4 ≤ m := fun h => by
              have e := HS.out
              simp only [Nat.reduceEqDiff, if_true, if_false] at e
              rw [if_neg (by rw [HM.out]; first | omega | (unfold badB; omega))] at e
              exact ⟨by rw [← HY.out]; exact (v8_step HNE.out e (by decide)).symm, by omega⟩
            have HB := Lib.hid hbad
            have HG := Lib.hid hgood
            clear hbad hgood HS
            go_upto_region 26 with fail
            have hb2 : Below wr.heap.size wr (wr.alloc (Obj.cells #[Value.int IntKind.u8 (LO : Int), Value.int IntKind.u8 (HI' : Int)] 73)) := (Below.refl _ _).alloc (Nat.le_refl _) _
            have hA0 : (wr.alloc (Obj.cells #[Value.int IntKind.u8 (LO : Int), Value.int IntKind.u8 (HI' : Int)] 73)).cell? ⟨wr.heap.size, 0, none⟩ = some (.int .u8 (LO : Int)) := by simp [go_sem]
            have hA1 : (wr.alloc (Obj.cells #[Value.int IntKind.u8 (LO : Int), Value.int IntKind.u8 (HI' : Int)] 73)).cell? ⟨wr.heap.size, 1, none⟩ = some (.int .u8 (HI' : Int)) := by simp [go_sem]
            generalize (wr.alloc (Obj.cells #[Value.int IntKind.u8 (LO : Int), Value.int IntKind.u8 (HI' : Int)] 73)) = w2 at hb2 hA0 hA1 ⊢
            have HBL2 := Lib.hid (hbl.trans (hb2.mono hbl.size))
            have HR2 := Lib.hid (HR.out.below hb2)
            have HC1' := Lib.hid (fun h => (hb2.cell (p := ⟨b', off' + 1, none⟩) hltb).trans (HC1.out h))
            have HC2' := Lib.hid (fun h => (hb2.cell (p := ⟨b', off' + 2, none⟩) hltb).trans (HC2.out h))
            have HC3' := Lib.hid (fun h => (hb2.cell (p := ⟨b', off' + 3, none⟩) hltb).trans (HC3.out h))
            clear HC1 HC2 HC3 hb2 hbl HR ha0 ha1 hc0 h7
            generalize wr.heap.size = g at hA0 hA1 hltb ⊢
            go_cut [185] from 143 to 185 (fun c wx => c = .bool (decide ((m : Int) < 4 ∨ x1 < (LO : Int) ∨ (HI' : Int) < x1 ∨ x2 < 128 ∨ 191 < x2 ∨ x3 < 128 ∨ 191 < x3)) ∧ ∃ q, wx = w2.drewN q)
            case first =>
              by_cases q0 : (m : Int) < 4
              · skip
                go_big_quiet (fail)
                go_wp2_with fail
                go_meet
                exact ⟨congrArg Value.bool (decide_eq_true (p := (m : Int) < 4 ∨ x1 < (LO : Int) ∨ (HI' : Int) < x1 ∨ x2 < 128 ∨ 191 < x2 ∨ x3 < 128 ∨ 191 < x3) (by omega)).symm, _, rfl⟩
              · have q0b : decide ((m : Int) < 4) = false := decide_eq_false q0
                have c1 := HC1'.out (by omega)
                have l1 : (1 : Int) < (m : Int) := by omega
                have c2 := HC2'.out (by omega)
                have l2 : (2 : Int) < (m : Int) := by omega
                have c3 := HC3'.out (by omega)
                have l3 : (3 : Int) < (m : Int) := by omega
                by_cases q1 : x1 < (LO : Int)
                · skip
                  go_big_quiet (fail)
                  go_wp2_with fail
                  go_meet
                  exact ⟨congrArg Value.bool (decide_eq_true (p := (m : Int) < 4 ∨ x1 < (LO : Int) ∨ (HI' : Int) < x1 ∨ x2 < 128 ∨ 191 < x2 ∨ x3 < 128 ∨ 191 < x3) (by omega)).symm, _, rfl⟩
                · have q1b : decide (x1 < (LO : Int)) = false := decide_eq_false q1
                  by_cases q2 : (HI' : Int) < x1
                  · skip
                    go_big_quiet (fail)
                    go_wp2_with fail
                    go_meet
                    exact ⟨congrArg Value.bool (decide_eq_true (p := (m : Int) < 4 ∨ x1 < (LO : Int) ∨ (HI' : Int) < x1 ∨ x2 < 128 ∨ 191 < x2 ∨ x3 < 128 ∨ 191 < x3) (by omega)).symm, _, rfl⟩
                  · have q2b : decide ((HI' : Int) < x1) = false := decide_eq_false q2
                    by_cases q3 : x2 < 128
                    · skip
                      go_big_quiet (fail)
                      go_wp2_with fail
                      go_meet
                      exact ⟨congrArg Value.bool (decide_eq_true (p := (m : Int) < 4 ∨ x1 < (LO : Int) ∨ (HI' : Int) < x1 ∨ x2 < 128 ∨ 191 < x2 ∨ x3 < 128 ∨ 191 < x3) (by omega)).symm, _, rfl⟩
                    · have q3b : decide (x2 < 128) = false := decide_eq_false q3
                      by_cases q4 : 191 < x2
                      · skip
                        go_big_quiet (fail)
                        go_wp2_with fail
                        go_meet
                        exact ⟨congrArg Value.bool (decide_eq_true (p := (m : Int) < 4 ∨ x1 < (LO : Int) ∨ (HI' : Int) < x1 ∨ x2 < 128 ∨ 191 < x2 ∨ x3 < 128 ∨ 191 < x3) (by omega)).symm, _, rfl⟩
                      · have q4b : decide (191 < x2) = false := decide_eq_false q4
                        by_cases q5 : x3 < 128
                        · skip
                          go_big_quiet (fail)
                          go_wp2_with fail
                          go_meet
                          exact ⟨congrArg Value.bool (decide_eq_true (p := (m : Int) < 4 ∨ x1 < (LO : Int) ∨ (HI' : Int) < x1 ∨ x2 < 128 ∨ 191 < x2 ∨ x3 < 128 ∨ 191 < x3) (by omega)).symm, _, rfl⟩
                        · have q5b : decide (x3 < 128) = false := decide_eq_false q5
                          by_cases q6 : 191 < x3
                          · skip
                            go_big_quiet (fail)
                            go_wp2_with fail
                            go_meet
                            exact ⟨congrArg Value.bool (decide_eq_true (p := (m : Int) < 4 ∨ x1 < (LO : Int) ∨ (HI' : Int) < x1 ∨ x2 < 128 ∨ 191 < x2 ∨ x3 < 128 ∨ 191 < x3) (by omega)).symm, _, rfl⟩
                          · have q6b : decide (191 < x3) = false := decide_eq_false q6
                            go_big_quiet (fail)
                            go_wp2_with fail
                            go_meet
                            exact ⟨congrArg Value.bool (decide_eq_false (p := (m : Int) < 4 ∨ x1 < (LO : Int) ∨ (HI' : Int) < x1 ∨ x2 < 128 ∨ 191 < x2 ∨ x3 < 128 ∨ 191 < x3) (by omega)).symm, _, rfl⟩
            case rest =>
              obtain ⟨rfl, q, rfl⟩ := hcut
              have HR3 := Lib.hid (HR2.out.drewN q)
              have HBL3 := Lib.hid (below_drewN HBL2.out q)
              generalize w2.drewN q = w3 at HR3 HBL3 ⊢
              by_cases hb : (m : Int) < 4 ∨ x1 < (LO : Int) ∨ (HI' : Int) < x1 ∨ x2 < 128 ∨ 191 < x2 ∨ x3 < 128 ∨ 191 < x3
              · have hbd : decide ((m : Int) < 4 ∨ x1 < (LO : Int) ∨ (HI' : Int) < x1 ∨ x2 < 128 ∨ 191 < x2 ∨ x3 < 128 ∨ 191 < x3) = true := decide_eq_true hb
                have hres := HB.out hb
                rw [hbd]
                subst hres
                clear hb hbd HG HB HR2 HBL2
                go_wp2_with fail
                all_goals (go_ret; exact ⟨rfl, HBL3.out⟩)
              · have hbd : decide ((m : Int) < 4 ∨ x1 < (LO : Int) ∨ (HI' : Int) < x1 ∨ x2 < 128 ∨ 191 < x2 ∨ x3 < 128 ∨ 191 < x3) = false := decide_eq_false hb
                obtain ⟨hy5, hn⟩ := HG.out hb
                have HY5 := Lib.hid hy5
                rw [hbd]
                clear hb hbd HG HB HR2 HBL2 hy5
                go_wp2_with (first
                  | (refine wpl_sub_l rfl 32 (.tmp 186) (.const (.int .i64 4)) rfl .u8 i0 Tryd.underlying32 HI.out.1 HI.out.2 _ ys 4 rfl rfl HR3.out (by decide) (by rw [HM.out]; omega) ?_; go_must (intro v1 hr1; have HR1 := Lib.hid hr1; obtain ⟨p1, c1, hu1, l1, l2⟩ := shape hr1 (q := m - 4) (by simp [HM.out]); subst hu1; clear hr1)))
                exact ⟨⟨_, HR1.out, HY5.out, HX.out.drop 4, HBL3.out⟩, by simp only [sliceLen]; omega⟩
        · have e2 : ¬ ((X : Int) % 8 = 2) := by omega
          have e3 : ¬ ((X : Int) % 8 = 3) := by omega
          have e4 : ¬ ((X : Int) % 8 = 4) := by omega
          have e2b : (((X : Int) % 8) == 2) = false := by simp; omega
          have e3b : (((X : Int) % 8) == 3) = false := by simp; omega
          have e4b : (((X : Int) % 8) == 4) = false := by simp; omega
          have hres : res = false := by
            have e := HS.out
            simp only [s2, s3, s4, if_false] at e
            rw [← HY.out]; exact v8_bad HNE.out e
          subst hres
          clear HS HC1 HC2 HC3 s2 s3 s4 hSZ
          go_wp2_with fail
          all_goals (go_ret; exact ⟨rfl, hbl.alloc hbl.size _⟩)
end Go.Proofs.YtjfmahodbdianaaDoor.Utf
