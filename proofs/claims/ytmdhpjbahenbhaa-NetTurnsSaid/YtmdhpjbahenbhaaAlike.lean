/-
  Contract: alike.
-/
import Derived.Test.YtmdhpjbahenbhaaAct3
namespace Go.Proofs.Ytmdhpjbahenbhaa.Net
open Go.RowKit Mem Cells Ops Go.Maps
set_option linter.unusedVariables false
set_option linter.unusedSimpArgs false

set_option maxRecDepth 100000 in
set_option maxHeartbeats 1600000 in
theorem alikeX {Z : Nat → Prop} {w : World} {S R : Nat} {hosts : Int} {fs : List F} {cut : Int → Int → Int → Bool} {n : Nat} (h : Two Z w S R hosts fs fs cut cut n) :
    Calls Try.prog 17 #[.pointer (some ⟨S, 0, none⟩), .pointer (some ⟨R, 0, none⟩)] w fun e w' => e = .returned (.bool true) ∧ Below w.heap.size w w' := by
  obtain ⟨X, Y, hp⟩ := h
  have PL := Lib.hid (ListX hp.net)
  have PN := Lib.hid (fun u (hu : Below w.heap.size w u) => Len (hp.net.below hu))
  obtain ⟨zr, pr, mr, cr, ds, r0⟩ := hp.ref
  have hfl := r0.flen
  rw [hfl] at PN
  have HR := Lib.hid r0
  have HFL := Lib.hid hfl
  have hmr : mr ≤ 1024 := by have := r0.ok.1; omega
  clear hp r0 hfl
  go_enter Try.func17, Try.ntmps17
  go_upto_region 2 with (go_at_call 18; go_must (refine PL.out.mono ?_; clear PL; rintro e w1 ⟨v, zs, rfl, ho, hz, hb1⟩; have HO := Lib.hid (And.intro ho hz); have HB1 := Lib.hid hb1; clear ho hz hb1))
  obtain ⟨p1, c1, rfl, _⟩ := HO.out.1.shape
  have hlz : zs.length = mr := by rw [← HFL.out, ← HO.out.2, List.length_map]
  rw [hlz]
  have q1 := (HR.out.row.ext HB1.out).cell 1
  rw [HR.out.h1] at q1
  have HLZ := Lib.hid hlz
  clear hlz
  go_wp2_with (go_at_call 11; go_must (refine (PN.out _ HB1.out).mono ?_; rintro e w2 ⟨rfl, rfl⟩))
  obtain ⟨w1, rfl⟩ : ∃ w1, w1 = w2 := ⟨_, rfl⟩
  go_loopw [6] (fun j wr => ∃ i : Nat, j = .int .i64 i ∧ i ≤ mr ∧ Below w1.heap.size w1 wr) (fun j _ => mr - (intOf j).toNat)
  case atStart => exact ⟨0, rfl, by omega, Below.refl _ _⟩
  case round =>
    obtain ⟨i, rfl, hi, hbl⟩ := hrel
    by_cases hlt : i < mr
    · have hu := HB1.out.trans (hbl.mono HB1.out.size)
      have hh := HR.out.below hu
      have ho := HO.out.1.below hbl
      obtain ⟨⟨f, dr⟩, hz1, hz2⟩ := hh.get i hlt
      obtain ⟨⟨f', d⟩, hz3⟩ : ∃ z, zs[i]? = some z := ⟨_, List.getElem?_eq_getElem (by rw [HLZ.out]; exact hlt)⟩
      obtain rfl : f' = f := by
        have := congrArg (fun l => l[i]?) HO.out.2
        simp only [List.getElem?_map, hz3] at this
        rw [hz2] at this
        exact Option.some.inj this
      obtain ⟨g1, k1, e1, hg1, _, _, hra1, h81⟩ := ho.elem i _ hz3
      obtain ⟨g2, k2, e2, hg2, _, _, hra2, h82⟩ := hh.list.elem i _ hz1
      rw [HLZ.out] at e1
      rw [hh.len] at e2
      cases e1
      cases e2
      have PS := Lib.hid (fun u (hu : Below wr.heap.size wr u) => sameSelf f' d dr u ((h81.below hu).1.reads) ((h82.below hu).1.reads))
      have HRA1 := Lib.hid (fun u (hu : Below wr.heap.size wr u) => range_below (b := g1) (off := i * 6) (cs := rowF f' d) hra1 hu hg1)
      have HRA2 := Lib.hid (fun u (hu : Below wr.heap.size wr u) => range_below (b := g2) (off := i * 6) (cs := rowF f' dr) hra2 hu hg2)
      have q2 := hh.row.cell 1
      rw [hh.h1] at q2
      have lS := hh.row.lt
      have HB := Lib.hid hbl
      have hlt' : (i : Int) < mr := by omega
      clear q1 hu hh ho hz1 hz2 hz3 hra1 h81 hra2 h82 hbl hg1 hg2
      go_upto_region 7 with fail
      obtain ⟨w0, rfl⟩ : ∃ w0, w0 = wr := ⟨_, rfl⟩
      refine Mono.wp_region_mono [some 30, some 31, some 32, some 33, some 34, some 35, some 36, some 37, some 38, some 39, some 40, some 41, some 42] [Mono.isV (.slice (some ⟨g1, 0, none⟩) mr c1), Mono.isV (.int .i64 i), Mono.isV (.pointer (some ⟨g1, i * 6, none⟩)), Mono.isV (.agg (rowF f' d).toArray), Mono.isV (.pointer (some ⟨R, 0, none⟩)), Mono.isV (.pointer (some ⟨R, 0, none⟩)), Mono.isV (.pointer (some ⟨R, 1, none⟩)), Mono.isV (.slice (some ⟨g2, 0, none⟩) mr cr), Mono.isV (.int .i64 i), Mono.isV (.pointer (some ⟨g2, i * 6, none⟩)), Mono.isV (.agg (rowF f' dr).toArray), Mono.isV (.bool true), Mono.isV (.bool false)] (by kernel_rfl) (by kernel_rfl) ?_ ?_
      · simp only [Mono.OpGoals, and_true]
        refine ⟨?_, ?_, ?_, ?_, ?_, ?_, ?_, ?_, ?_, ?_, ?_, ?_, ?_⟩
        · intro a u hbu hsu hdu
          have q2 := (hbu.cell (p := ⟨R, 1, none⟩) lS).trans q2
          refine Mono.if_want rfl ?_
          exact Mono.ok_move (.tmp 5) rfl (hsu 5 (by decide))
        · intro a u hbu hsu hdu
          have q2 := (hbu.cell (p := ⟨R, 1, none⟩) lS).trans q2
          refine Mono.if_want rfl ?_
          exact Mono.ok_move (.tmp 6) rfl (hsu 6 (by decide))
        · intro a u hbu hsu hdu
          have q2 := (hbu.cell (p := ⟨R, 1, none⟩) lS).trans q2
          refine Mono.if_want rfl ?_
          have z30 : a.eval (.tmp 30) = .slice (some ⟨g1, 0, none⟩) mr c1 := Mono.dep_at hdu (i := 0) (d := 30) rfl rfl rfl
          simp [Act.eval] at z30
          have z31 : a.eval (.tmp 31) = .int .i64 i := Mono.dep_at hdu (i := 1) (d := 31) rfl rfl rfl
          simp [Act.eval] at z31
          exact Mono.ok_val (.pointer (some ⟨g1, i * 6, none⟩)) (by simp [execOp, z30, z31, go_sem, q2, hlt']) rfl
        · intro a u hbu hsu hdu
          have q2 := (hbu.cell (p := ⟨R, 1, none⟩) lS).trans q2
          refine Mono.if_want rfl ?_
          have z32 : a.eval (.tmp 32) = .pointer (some ⟨g1, i * 6, none⟩) := Mono.dep_at hdu (i := 2) (d := 32) rfl rfl rfl
          exact Mono.ok_load 35 (.tmp 32) rfl _ _ z32 (run_frame (HRA1.out _ hbu)) rfl
        · intro a u hbu hsu hdu
          have q2 := (hbu.cell (p := ⟨R, 1, none⟩) lS).trans q2
          refine Mono.if_want rfl ?_
          exact Mono.ok_move (.tmp 1) rfl (hsu 1 (by decide))
        · intro a u hbu hsu hdu
          have q2 := (hbu.cell (p := ⟨R, 1, none⟩) lS).trans q2
          refine Mono.if_want rfl ?_
          have z34 : a.eval (.tmp 34) = .pointer (some ⟨R, 0, none⟩) := Mono.dep_at hdu (i := 4) (d := 34) rfl rfl rfl
          simp [Act.eval] at z34
          exact Mono.ok_val (.pointer (some ⟨R, 0, none⟩)) (by simp [execOp, z34, go_sem, q2, hlt']) rfl
        · intro a u hbu hsu hdu
          have q2 := (hbu.cell (p := ⟨R, 1, none⟩) lS).trans q2
          refine Mono.if_want rfl ?_
          have z35 : a.eval (.tmp 35) = .pointer (some ⟨R, 0, none⟩) := Mono.dep_at hdu (i := 5) (d := 35) rfl rfl rfl
          simp [Act.eval] at z35
          exact Mono.ok_val (.pointer (some ⟨R, 1, none⟩)) (by simp [execOp, z35, go_sem, q2, hlt']) rfl
        · intro a u hbu hsu hdu
          have q2 := (hbu.cell (p := ⟨R, 1, none⟩) lS).trans q2
          refine Mono.if_want rfl ?_
          have z36 : a.eval (.tmp 36) = .pointer (some ⟨R, 1, none⟩) := Mono.dep_at hdu (i := 6) (d := 36) rfl rfl rfl
          simp [Act.eval] at z36
          exact Mono.ok_val (.slice (some ⟨g2, 0, none⟩) mr cr) (by simp [execOp, z36, go_sem, q2, hlt']) rfl
        · intro a u hbu hsu hdu
          have q2 := (hbu.cell (p := ⟨R, 1, none⟩) lS).trans q2
          refine Mono.if_want rfl ?_
          exact Mono.ok_move (.tmp 6) rfl (hsu 6 (by decide))
        · intro a u hbu hsu hdu
          have q2 := (hbu.cell (p := ⟨R, 1, none⟩) lS).trans q2
          refine Mono.if_want rfl ?_
          have z37 : a.eval (.tmp 37) = .slice (some ⟨g2, 0, none⟩) mr cr := Mono.dep_at hdu (i := 7) (d := 37) rfl rfl rfl
          simp [Act.eval] at z37
          have z38 : a.eval (.tmp 38) = .int .i64 i := Mono.dep_at hdu (i := 8) (d := 38) rfl rfl rfl
          simp [Act.eval] at z38
          exact Mono.ok_val (.pointer (some ⟨g2, i * 6, none⟩)) (by simp [execOp, z37, z38, go_sem, q2, hlt']) rfl
        · intro a u hbu hsu hdu
          have q2 := (hbu.cell (p := ⟨R, 1, none⟩) lS).trans q2
          refine Mono.if_want rfl ?_
          have z39 : a.eval (.tmp 39) = .pointer (some ⟨g2, i * 6, none⟩) := Mono.dep_at hdu (i := 9) (d := 39) rfl rfl rfl
          exact Mono.ok_load 35 (.tmp 39) rfl _ _ z39 (run_frame (HRA2.out _ hbu)) rfl
        · intro a u hbu hsu hdu
          have q2 := (hbu.cell (p := ⟨R, 1, none⟩) lS).trans q2
          refine Mono.if_want rfl ?_
          have z33 : a.eval (.tmp 33) = .agg (rowF f' d).toArray := Mono.dep_at hdu (i := 3) (d := 33) rfl rfl rfl
          have z40 : a.eval (.tmp 40) = .agg (rowF f' dr).toArray := Mono.dep_at hdu (i := 10) (d := 40) rfl rfl rfl
          simp [Act.eval] at z33 z40
          exact Mono.ok_call 28 _ _ rfl #[.agg (rowF f' d).toArray, .agg (rowF f' dr).toArray] (by simp [execOp, z33, z40, go_sem]) ((PS.out u hbu).mono (fun e x ⟨h1, h2⟩ => ⟨_, h1, h2, rfl⟩))
        · intro a u hbu hsu hdu
          have q2 := (hbu.cell (p := ⟨R, 1, none⟩) lS).trans q2
          refine Mono.if_want rfl ?_
          have z41 : a.eval (.tmp 41) = .bool true := Mono.dep_at hdu (i := 11) (d := 41) rfl rfl rfl
          simp [Act.eval] at z41
          exact Mono.ok_val (.bool false) (by simp [execOp, z41, go_sem, q2, hlt']) rfl
      intro u hu
      simp only [Mono.Fin]
      rintro _ rfl _ rfl _ rfl _ rfl _ rfl _ rfl _ rfl _ rfl _ rfl _ rfl _ rfl _ rfl _ rfl
      simp [Act.put]
      go_wp2_with fail
      go_roundw
      case rel => exact ⟨i + 1, by go_num, by omega, HB.out.trans (hu.mono HB.out.size)⟩
      case measure => simp [intOf]; omega
    · obtain rfl : i = mr := by omega
      clear hlt
      go_wp2_with fail
      go_ret
      exact ⟨rfl, HB1.out.trans (hbl.mono HB1.out.size)⟩
end Go.Proofs.Ytmdhpjbahenbhaa.Net
