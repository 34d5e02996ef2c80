/-
  DictOnce: the walk. (Printed by src/gen_once.py, then genreg.py.)
-/
import Derived.Test.YtjfmahodbdianaaDoorOnce0
import Derived.Test.YtjfmahodbdianaaDoorSame1
import Derived.Test.YtjfmahodbdianaaDoorOwn1
namespace Go.Proofs.YtjfmahodbdianaaDoor.Dict
open Go.RowKit Mem Cells Ops Rule Avps Go.Maps
set_option linter.unusedVariables false
set_option linter.unusedSimpArgs false

theorem info41 : ∃ i z, Tryd.prog.info? 35 = some i ∧ i.zero = some z ∧ i.size = 5 ∧ i.bytes = 40 ∧ z.cells.size = 5 := by
  have h : (Tryd.prog.info? 35).map (fun i => (i.zero.map (fun z => z.cells.size), i.size, i.bytes)) = some (some 5, 5, 40) := by kernel_rfl
  cases hi : Tryd.prog.info? 35 with
  | none => rw [hi] at h; cases h
  | some i =>
    rw [hi] at h
    simp at h
    obtain ⟨⟨z, hz, hzs⟩, h2, h3⟩ := h
    exact ⟨i, z, rfl, hz, h2, h3, hzs⟩
theorem aO_ok (xs : List Int) (h : ∀ x ∈ xs, 0 ≤ x ∧ x ≤ 255) : (aO xs).ok := ⟨⟨by show (0 : Int) ≤ 7; omega, by show (7 : Int) ≤ 4294967295; omega⟩, ⟨by show (0 : Int) ≤ 0; omega, by show (0 : Int) ≤ 4294967295; omega⟩, h⟩
theorem lackO_ok (must : Bool) : (⟨7, 0, must, false, []⟩ : A).ok := ⟨⟨by show (0 : Int) ≤ 7; omega, by show (7 : Int) ≤ 4294967295; omega⟩, ⟨by show (0 : Int) ≤ 0; omega, by show (0 : Int) ≤ 4294967295; omega⟩, fun x hx => by cases hx⟩
set_option maxRecDepth 100000 in
set_option maxHeartbeats 6400000 in
theorem once_ (n ls : Nat) (must : Bool) (v : Value) (xs : List Int) (w : World) (hr : Reads .u8 w v xs) (hx : ∀ x ∈ xs, 0 ≤ x ∧ x ≤ 255) (hl0 : xs.length ≤ 140737488351232) (hn : n ≤ 255) (hl : ls ≤ 255) :
    Calls Tryd.prog 5 #[.int .u8 n, .int .u8 ls, .bool must, v] w fun e w' => e = .returned (.bool true) ∧ Below w.heap.size w w' := by
  have PA := Lib.hid (fun u => answers u)
  obtain ⟨k, hk⟩ : ∃ k, n % 20 = k := ⟨_, rfl⟩
  obtain ⟨m, hm⟩ : ∃ m, ls % 20 = m := ⟨_, rfl⟩
  have e1 : (n : Int) % 20 = k := by omega
  have e2 : (ls : Int) % 20 = m := by omega
  have e1t : (n : Int).tmod 20 = k := by rw [Int.tmod_eq_emod_of_nonneg (by omega)]; exact e1
  have e2t : (ls : Int).tmod 20 = m := by rw [Int.tmod_eq_emod_of_nonneg (by omega)]; exact e2
  have hk20 : k < 20 := by omega
  have hm20 : m < 20 := by omega
  obtain ⟨p, c, rfl, h1, h2, _, _⟩ := id hr
  have S1 := Lib.hid (rfl : w = w)
  have HR := Lib.hid hr
  obtain ⟨l, hxl⟩ : ∃ l, xs.length = l := ⟨_, rfl⟩
  have HXL := Lib.hid hxl
  have HX := Lib.hid hx
  rw [hxl] at hl0 h1 ⊢
  clear hr hxl hk hm hx
  by_cases h0 : k = 0
  · subst h0
    go_enter Tryd.func5, Tryd.ntmps5
    go_wp2_with (first
      | (go_at_call 8; have _t := S1; clear _t; go_must (refine (PA.out _).mono ?_; rintro e u1 ⟨rfl, hb1⟩; clear S1))
      | (go_at_call 8; go_must (refine (PA.out _).mono ?_; rintro e u2 ⟨rfl, hb2⟩; have hb3 := hb1.trans (hb2.mono hb1.size))))
    all_goals (go_ret; exact ⟨rfl, hb3⟩)
  by_cases h100 : 100 < l
  · go_enter Tryd.func5, Tryd.ntmps5
    go_wp2_with (first
      | (go_at_call 8; have _t := S1; clear _t; go_must (refine (PA.out _).mono ?_; rintro e u1 ⟨rfl, hb1⟩; clear S1))
      | (go_at_call 8; go_must (refine (PA.out _).mono ?_; rintro e u2 ⟨rfl, hb2⟩; have hb3 := hb1.trans (hb2.mono hb1.size))))
    all_goals (go_ret; exact ⟨rfl, hb3⟩)
  have hk1 : 0 < k := by omega
  have bk : ((k : Int) == 0) = false := by rw [beq_eq_false_iff_ne]; omega
  have b100 : decide ((100 : Int) < (l : Int)) = false := decide_eq_false (by omega)
  have POW := Lib.hid (fun (u : Value) y j (hj : j ≤ 21) (h : ReadsL y u (List.replicate j (aO xs))) => by
    have := Avp.own u (List.replicate j (aO xs)) y h (fun x hx => by rw [List.eq_of_mem_replicate hx]; show xs.length ≤ _; rw [HXL.out]; omega)
    rwa [List.take_of_length_le (by simp; omega)] at this)
  have HRN := Lib.hid (show Reads .u8 w (.slice p l c) xs by have := HR.out; rwa [HXL.out] at this)
  by_cases hgt : k < m
  · have hmk : k ≤ k := by omega
    have VL := Lib.hid (fun j => onceLack xs must k k j hmk (by omega) hk1)
    have VF := Lib.hid (fun j => onceFine xs must k k j hmk (by omega) hk1)
    have VM := Lib.hid (onceMany xs must k k hmk (by omega) hk1)
    have PJ := Lib.hid (fun (v u : Value) y j (hv : ReadsR y v [ruleO must k k]) (h : ReadsL y u (List.replicate j (aO xs))) => judge fit0 [ruleO must k k] (List.replicate j (aO xs)) v u y hv h (ruleO_ok must k k hmk (by omega)) (fun x hx => by rw [List.eq_of_mem_replicate hx]; exact ⟨aO_ok xs HX.out, by show xs.length ≤ _; rw [HXL.out]; omega⟩) (fun x hx r hr hh => by rw [List.mem_singleton] at hr; subst hr; rw [List.eq_of_mem_replicate hx]; exact fitsOctets xs))
    obtain ⟨RO, hRO⟩ : ∃ RO, ruleO must k k = RO := ⟨_, rfl⟩
    have hrow : rowR RO = #[.int .u32 7, .int .u32 0, .int .i64 1, .bool must, .int .i64 k, .int .i64 k] := by rw [← hRO]; rfl
    rw [hRO] at VL VF VM PJ
    clear hRO
    have HROW := Lib.hid hrow
    clear hrow
    go_enter Tryd.func5, Tryd.ntmps5
    go_wp2_with (first
      | (go_at_call 8; have _t := S1; clear _t; go_must (refine (PA.out _).mono ?_; rintro e u1 ⟨rfl, hb1⟩; clear S1))
      | ((with_reducible refine wpl_buildS rfl 22 1 #[(0, .tmp 43)] rfl #[(0, .agg (rowR RO))] ?_ 37 (rowR RO) (fun _ => buildRule _ _) ?_); (rw [HROW.out]; simp [Act.eval]); go_must (intro wX hatR hb2 hs2; clear hs2; have hbw := hb1.trans (hb2.mono hb1.size); clear hb2 hb1)))
    obtain ⟨gR, hgR⟩ : ∃ q, u1.heap.size = q := ⟨_, rfl⟩
    rw [hgR] at hatR ⊢
    clear hgR
    have hgB := hatR.lt
    go_loopw [12, 13] (fun u i wr => ∃ j : Nat, i = .int .i64 j ∧ j ≤ k + 2 ∧ OwnL 35 wX.heap.size wr u (List.replicate j (aO xs)) ∧ Below wX.heap.size wX wr) (fun _ i _ => k + 2 - (intOf i).toNat)
    case atStart => exact ⟨0, rfl, by omega, OwnL.nil _ _ _, Below.refl _ _⟩
    case round =>
      obtain ⟨j, rfl, hj, hown, hbl⟩ := hrel
      obtain ⟨pl, cl, rfl, q1, q2⟩ := hown.reads.shape
      obtain ⟨nl, hnl⟩ : ∃ nl, (List.replicate j (aO xs)).length = nl := ⟨_, rfl⟩
      rw [hnl] at hown q1 ⊢
      have hatW := hatR.below hbl hgB
      by_cases hlt : j ≤ k + 1
      · have PO := Lib.hid (POW.out _ wr j (by omega) hown.reads)
        clear q1 q2 hnl
        have T0 := hbl.size
        by_cases c1 : j < k
        · have HV := Lib.hid (VL.out j c1)
          go_wp2_with (first
            | (go_at_call 11; go_must (refine PO.out.mono ?_; rintro e y0 ⟨vo, rfl, hvo, hb0⟩; clear PO))
            | (go_at_call 10; go_must (refine (PJ.out _ _ y0 j (reads_one_rule (hatW.ext hb0)) hvo.reads).mono ?_; rintro e y2 ⟨v', e2, hfl, hb2⟩; rw [HV.out] at e2 hfl; obtain rfl := e2; obtain ⟨gF, d, rfl, hgF, hatF, hrowF⟩ := hfl; have hbR := hb0.trans (hb2.mono hb0.size); clear hvo hb0 hb2)))
          have hbY := hbl.trans (hbR.mono hbl.size)
          have hbYs := hbY.size
          obtain ⟨lkA, hlkA⟩ : ∃ lkA : A, (⟨7, 0, must, false, []⟩ : A) = lkA := ⟨_, rfl⟩
          have PSA := Lib.hid (fun u (hu : Below y2.heap.size y2 u) => by
            have := Avp.same (⟨7, 0, must, false, []⟩ : A) ⟨7, 0, must, false, []⟩ d (.slice none 0 0) u (hrowF.reads.below hu) ⟨none, 0, rfl, by simp, by simp, fun _ => rfl, fun h => by simp at h⟩ (lackO_ok must) (lackO_ok must)
            rwa [decide_eq_true rfl, hlkA] at this)
          rw [hlkA] at hatF
          clear hrowF
          refine Mono.wp_region_mono [some 80, some 81, some 82, some 83, some 84, some 85, some 86, some 87, some 88, some 89, some 90, some 91, some 92, some 93, some 94, some 95, some 96, some 97, some 98, some 99, some 100, some 101, some 102, some 103, some 104] [Mono.isV (.int .i64 5005), Mono.isV (.bool true), Mono.isV (.bool true), Mono.isV (.slice (some ⟨gF, 0, none⟩) 1 1), Mono.isV (.pointer (some ⟨gF, 0, none⟩)), Mono.isV (.agg (row lkA d).toArray), Mono.isV (.bool must), Mono.isV (.agg (row lkA (.slice none 0 0)).toArray), Mono.isV (.bool true), Mono.isV (.bool false), Mono.isV (.bool false), Mono.isV (.bool false), Mono.isV (.int .i64 5005), Mono.isV (.bool false), Mono.isV (.bool false), Mono.isV (undef), Mono.isV (undef), Mono.isV (undef), Mono.isV (undef), Mono.isV (undef), Mono.isV (undef), Mono.isV (undef), Mono.isV (undef), Mono.isV (.bool false), Mono.isV (.bool false)] (by kernel_rfl) (by kernel_rfl) ?_ ?_
          · simp only [Mono.OpGoals, and_true]
            refine ⟨?_, ?_, ?_, ?_, ?_, ?_, ?_, ?_, ?_, ?_, ?_, ?_, ?_, ?_, ?_, ?_, ?_, ?_, ?_, ?_, ?_, ?_, ?_, ?_, ?_⟩
            · intro a u hbu hsu hdu
              refine Mono.if_want rfl ?_
              exact Mono.ok_move (.tmp 17) rfl (hsu 17 (by decide))
            · intro a u hbu hsu hdu
              refine Mono.if_want rfl ?_
              have z80 : a.eval (.tmp 80) = .int .i64 5005 := Mono.dep_at hdu (i := 0) (d := 80) rfl rfl rfl
              simp [Act.eval] at z80
              exact Mono.ok_val (.bool true) (by simp [execOp, z80, go_sem, go_sem]) rfl
            · intro a u hbu hsu hdu
              refine Mono.if_want rfl ?_
              exact Mono.ok_move (.tmp 81) rfl (Mono.dep_at hdu (i := 1) (d := 81) rfl rfl rfl)
            · intro a u hbu hsu hdu
              refine Mono.if_want (Mono.want_at (c := true) rfl rfl (Mono.dep_at hdu (i := 2) (d := 82) rfl rfl rfl) rfl) ?_
              exact Mono.ok_move (.tmp 15) rfl (hsu 15 (by decide))
            · intro a u hbu hsu hdu
              refine Mono.if_want (Mono.want_at (c := true) rfl rfl (Mono.dep_at hdu (i := 2) (d := 82) rfl rfl rfl) rfl) ?_
              have z83 : a.eval (.tmp 83) = .slice (some ⟨gF, 0, none⟩) 1 1 := Mono.dep_at hdu (i := 3) (d := 83) rfl rfl rfl
              simp [Act.eval] at z83
              exact Mono.ok_val (.pointer (some ⟨gF, 0, none⟩)) (by simp [execOp, z83, go_sem, go_sem]) rfl
            · intro a u hbu hsu hdu
              refine Mono.if_want (Mono.want_at (c := true) rfl rfl (Mono.dep_at hdu (i := 2) (d := 82) rfl rfl rfl) rfl) ?_
              exact Mono.ok_loadAt 35 (.tmp 84) rfl gF 35 _ (hatF.ext hbu) _ Tryd.underlying35 rfl (by kernel_rfl) (Mono.dep_at hdu (i := 4) (d := 84) rfl rfl rfl) rfl
            · intro a u hbu hsu hdu
              refine Mono.if_want (Mono.want_at (c := true) rfl rfl (Mono.dep_at hdu (i := 2) (d := 82) rfl rfl rfl) rfl) ?_
              exact Mono.ok_move (.tmp 2) rfl (hsu 2 (by decide))
            · intro a u hbu hsu hdu
              refine Mono.if_want (Mono.want_at (c := true) rfl rfl (Mono.dep_at hdu (i := 2) (d := 82) rfl rfl rfl) rfl) ?_
              have z86 : a.eval (.tmp 86) = .bool must := Mono.dep_at hdu (i := 6) (d := 86) rfl rfl rfl
              simp [Act.eval] at z86
              exact Mono.ok_build 35 _ rfl #[(0, .int .u32 7), (2, .bool must)] (by simp [z86, Act.eval]) (.agg (row lkA (.slice none 0 0)).toArray) (by rw [← hlkA]; kernel_rfl) rfl
            · intro a u hbu hsu hdu
              refine Mono.if_want (Mono.want_at (c := true) rfl rfl (Mono.dep_at hdu (i := 2) (d := 82) rfl rfl rfl) rfl) ?_
              have z85 : a.eval (.tmp 85) = .agg (row lkA d).toArray := Mono.dep_at hdu (i := 5) (d := 85) rfl rfl rfl
              have z87 : a.eval (.tmp 87) = .agg (row lkA (.slice none 0 0)).toArray := Mono.dep_at hdu (i := 7) (d := 87) rfl rfl rfl
              simp [Act.eval] at z85 z87
              refine Mono.ok_call 16 _ _ rfl #[.agg (row lkA d).toArray, .agg (row lkA (.slice none 0 0)).toArray] (by simp [execOp, z85, z87, go_sem]) ((PSA.out u hbu).mono ?_)
              rintro e y1 ⟨rfl, hb1⟩
              exact ⟨_, rfl, hb1, rfl⟩
            · intro a u hbu hsu hdu
              refine Mono.if_want (Mono.want_at (c := true) rfl rfl (Mono.dep_at hdu (i := 2) (d := 82) rfl rfl rfl) rfl) ?_
              have z88 : a.eval (.tmp 88) = .bool true := Mono.dep_at hdu (i := 8) (d := 88) rfl rfl rfl
              simp [Act.eval] at z88
              exact Mono.ok_val (.bool false) (by simp [execOp, z88, go_sem, go_sem]) rfl
            · intro a u hbu hsu hdu
              refine Mono.if_want rfl ?_
              have z82 : a.eval (.tmp 82) = .bool true := Mono.dep_at hdu (i := 2) (d := 82) rfl rfl rfl
              simp [Act.eval] at z82
              have z89 : a.eval (.tmp 89) = .bool false := Mono.dep_at hdu (i := 9) (d := 89) rfl rfl rfl
              simp [Act.eval] at z89
              exact Mono.ok_val (.bool false) (by simp [execOp, z82, z89, go_sem, go_sem]) rfl
            · intro a u hbu hsu hdu
              refine Mono.if_want rfl ?_
              exact Mono.ok_move (.tmp 90) rfl (Mono.dep_at hdu (i := 10) (d := 90) rfl rfl rfl)
            · intro a u hbu hsu hdu
              refine Mono.if_want (Mono.want_at (c := false) rfl rfl (Mono.dep_at hdu (i := 11) (d := 91) rfl rfl rfl) rfl) ?_
              exact Mono.ok_move (.tmp 17) rfl (hsu 17 (by decide))
            · intro a u hbu hsu hdu
              refine Mono.if_want (Mono.want_at (c := false) rfl rfl (Mono.dep_at hdu (i := 11) (d := 91) rfl rfl rfl) rfl) ?_
              have z92 : a.eval (.tmp 92) = .int .i64 5005 := Mono.dep_at hdu (i := 12) (d := 92) rfl rfl rfl
              simp [Act.eval] at z92
              exact Mono.ok_val (.bool false) (by simp [execOp, z92, go_sem, go_sem]) rfl
            · intro a u hbu hsu hdu
              refine Mono.if_want (Mono.want_at (c := false) rfl rfl (Mono.dep_at hdu (i := 11) (d := 91) rfl rfl rfl) rfl) ?_
              exact Mono.ok_move (.tmp 93) rfl (Mono.dep_at hdu (i := 13) (d := 93) rfl rfl rfl)
            · intro a u hbu hsu hdu
              refine Mono.if_no (Mono.want_no (c := false) rfl rfl (Mono.dep_at hdu (i := 14) (d := 94) rfl rfl rfl) rfl) ?_
              exact rfl
            · intro a u hbu hsu hdu
              refine Mono.if_no (Mono.want_no (c := false) rfl rfl (Mono.dep_at hdu (i := 14) (d := 94) rfl rfl rfl) rfl) ?_
              exact rfl
            · intro a u hbu hsu hdu
              refine Mono.if_no (Mono.want_no (c := false) rfl rfl (Mono.dep_at hdu (i := 14) (d := 94) rfl rfl rfl) rfl) ?_
              exact rfl
            · intro a u hbu hsu hdu
              refine Mono.if_no (Mono.want_no (c := false) rfl rfl (Mono.dep_at hdu (i := 14) (d := 94) rfl rfl rfl) rfl) ?_
              exact rfl
            · intro a u hbu hsu hdu
              refine Mono.if_no (Mono.want_no (c := false) rfl rfl (Mono.dep_at hdu (i := 14) (d := 94) rfl rfl rfl) rfl) ?_
              exact rfl
            · intro a u hbu hsu hdu
              refine Mono.if_no (Mono.want_no (c := false) rfl rfl (Mono.dep_at hdu (i := 14) (d := 94) rfl rfl rfl) rfl) ?_
              exact rfl
            · intro a u hbu hsu hdu
              refine Mono.if_no (Mono.want_no (c := false) rfl rfl (Mono.dep_at hdu (i := 14) (d := 94) rfl rfl rfl) rfl) ?_
              exact rfl
            · intro a u hbu hsu hdu
              refine Mono.if_no (Mono.want_no (c := false) rfl rfl (Mono.dep_at hdu (i := 14) (d := 94) rfl rfl rfl) rfl) ?_
              exact rfl
            · intro a u hbu hsu hdu
              refine Mono.if_want (Mono.want_at (c := false) rfl rfl (Mono.dep_at hdu (i := 11) (d := 91) rfl rfl rfl) rfl) ?_
              have z94 : a.eval (.tmp 94) = .bool false := Mono.dep_at hdu (i := 14) (d := 94) rfl rfl rfl
              simp [Act.eval] at z94
              have z102 : a.eval (.tmp 102) = undef := Mono.dep_at hdu (i := 22) (d := 102) rfl rfl rfl
              simp [Act.eval] at z102
              exact Mono.ok_val (.bool false) (by simp [execOp, z94, z102, go_sem, go_sem]) rfl
            · intro a u hbu hsu hdu
              refine Mono.if_want rfl ?_
              have z91 : a.eval (.tmp 91) = .bool false := Mono.dep_at hdu (i := 11) (d := 91) rfl rfl rfl
              simp [Act.eval] at z91
              have z103 : a.eval (.tmp 103) = .bool false := Mono.dep_at hdu (i := 23) (d := 103) rfl rfl rfl
              simp [Act.eval] at z103
              exact Mono.ok_val (.bool false) (by simp [execOp, z91, z103, go_sem, go_sem]) rfl
          intro u hu
          simp only [Mono.Fin]
          rintro _ rfl _ rfl _ rfl _ rfl _ rfl _ rfl _ rfl _ rfl _ rfl _ rfl _ rfl _ rfl _ rfl _ rfl _ rfl _ rfl _ rfl _ rfl _ rfl _ rfl _ rfl _ rfl _ rfl _ rfl _ rfl
          simp [Act.put]
          have hbA := hbY.trans (hu.mono hbYs)
          have hown2 := hown.below (hbR.trans (hu.mono hbR.size))
          have hbw2 := hbw.trans (hbA.mono hbw.size)
          have K1 : ([] : List Int).length + xs.length ≤ maxLen := by simp [maxLen]; rw [HXL.out]; omega
          have K2 : (([] : List Int).length + xs.length) * 1 ≤ 140737488355328 := by simp; rw [HXL.out]; omega
          have K4 : (List.replicate j (aO xs)).length + 1 ≤ maxLen := by simp [maxLen]; omega
          have K5 : ((List.replicate j (aO xs)).length + 1) * 40 ≤ 140737488355328 := by simp; omega
          have HRNu := Lib.hid (HRN.out.below hbw2)
          have TA := hbA.size
          have HO2 := Lib.hid hown2
          clear hown2 hown hu hbR hbYs hbY
          go_wp2_with (first
            | (refine wpl_empty rfl 32 5 rfl .u8 (fun _ => by kernel_rfl) ?_; go_must (intro y1 hown1 hb1 hs1; clear hs1; have hrd1 := HRNu.out.below hb1))
            | (at_builtin; have _t := hown1; clear _t; go_must (obtain ⟨i0, hi, hz0, hz1, hz2⟩ := info_parts Wire.info5; refine wpl_append rfl (.tmp 106) (.tmp 107) 32 rfl .u8 u.heap.size 5 1 i0 (.int .u8 0) Tryd.underlying32 hi hz0 hz1 hz2 rfl (.slice (some ⟨u.heap.size, 0, none⟩) 0 0) _ [] xs rfl rfl hown1 hrd1 K1 K2 (by have := hb1.size; omega) ?_; intro v4 y4 hv4 hg4; rw [List.nil_append] at hv4; clear hi hz0 hz1 hz2; obtain ⟨p4, c4, rfl, kk1, kk2, kk3, kk4⟩ := hv4.reads; have hb4 := hb1.grown hg4 hb1.size (fun q e => by have e' : u.heap.size = q := Option.some.inj e; omega); clear hown1 hrd1 hb1 kk1 kk2 kk3 kk4 hg4 K1 K2; have hd4 := hv4.reads; have hO4 := HO2.out.below hb4; have hap4 : Apart (.slice pl nl cl) (aO xs, .slice p4 xs.length c4) := (fun h0 q hq e => by obtain ⟨g', e1, _, e2, _⟩ := hv4.form h0; have h1 := (HO2.out.lt q hq).2; rw [show (aO xs, Value.slice p4 xs.length c4).2 = .slice p4 xs.length c4 from rfl, e1] at e; have e3 : g' = q := Option.some.inj e; omega)))
            | (obtain ⟨i41, z41, i1, i2, i3, i4, i5⟩ := info41; refine wpl_push 23 35 40 110 (.tmp 109) (.tmp 105) rfl rfl rfl rfl rfl (aO xs) (.slice p4 xs.length c4) rfl (Avp.build22 _ _) wX.heap.size i41 z41 Tryd.underlying23 i1 i2 i3 i4 i5 (.slice pl nl cl) (List.replicate j (aO xs)) (fun _ => rfl) (fun _ => rfl) hO4 hd4 hap4 K4 K5 (by have := hb4.size; omega) ?_; go_must (clear i1 i2 i3 i4 i5; intro v6 y6 hv6 hg6; have hbl6 := (hbA.trans (hb4.mono (by omega))).grown hg6 (by have := hb4.size; omega) (fun q e => (hO4.lt q e).1); clear hO4 hd4 hap4 hg6 hb4)))
          go_roundw
          case rel => exact ⟨j + 1, by go_num, by omega, by rw [List.replicate_succ']; exact hv6, hbl6⟩
          case measure => simp [intOf]; omega
        · by_cases c2 : j ≤ k
          · have HV := Lib.hid (VF.out j (by omega) c2)
            go_wp2_with (first
              | (go_at_call 11; go_must (refine PO.out.mono ?_; rintro e y0 ⟨vo, rfl, hvo, hb0⟩; clear PO))
              | (go_at_call 10; go_must (refine (PJ.out _ _ y0 j (reads_one_rule (hatW.ext hb0)) hvo.reads).mono ?_; rintro e y2 ⟨v', e2, hfl, hb2⟩; rw [HV.out] at e2 hfl; obtain rfl := e2; obtain rfl : v' = .slice none 0 0 := hfl; have hbR := hb0.trans (hb2.mono hb0.size); clear hvo hb0 hb2)))
            have hbY := hbl.trans (hbR.mono hbl.size)
            have hbYs := hbY.size
            refine Mono.wp_region_mono [some 80, some 81, some 82, some 83, some 84, some 85, some 86, some 87, some 88, some 89, some 90, some 91, some 92, some 93, some 94, some 95, some 96, some 97, some 98, some 99, some 100, some 101, some 102, some 103, some 104] [Mono.isV (.int .i64 2001), Mono.isV (.bool false), Mono.isV (.bool false), Mono.isV (undef), Mono.isV (undef), Mono.isV (undef), Mono.isV (undef), Mono.isV (undef), Mono.isV (undef), Mono.isV (undef), Mono.isV (.bool false), Mono.isV (.bool false), Mono.isV (.int .i64 2001), Mono.isV (.bool false), Mono.isV (.bool false), Mono.isV (undef), Mono.isV (undef), Mono.isV (undef), Mono.isV (undef), Mono.isV (undef), Mono.isV (undef), Mono.isV (undef), Mono.isV (undef), Mono.isV (.bool false), Mono.isV (.bool false)] (by kernel_rfl) (by kernel_rfl) ?_ ?_
            · simp only [Mono.OpGoals, and_true]
              refine ⟨?_, ?_, ?_, ?_, ?_, ?_, ?_, ?_, ?_, ?_, ?_, ?_, ?_, ?_, ?_, ?_, ?_, ?_, ?_, ?_, ?_, ?_, ?_, ?_, ?_⟩
              · intro a u hbu hsu hdu
                refine Mono.if_want rfl ?_
                exact Mono.ok_move (.tmp 17) rfl (hsu 17 (by decide))
              · intro a u hbu hsu hdu
                refine Mono.if_want rfl ?_
                have z80 : a.eval (.tmp 80) = .int .i64 2001 := Mono.dep_at hdu (i := 0) (d := 80) rfl rfl rfl
                simp [Act.eval] at z80
                exact Mono.ok_val (.bool false) (by simp [execOp, z80, go_sem, go_sem]) rfl
              · intro a u hbu hsu hdu
                refine Mono.if_want rfl ?_
                exact Mono.ok_move (.tmp 81) rfl (Mono.dep_at hdu (i := 1) (d := 81) rfl rfl rfl)
              · intro a u hbu hsu hdu
                refine Mono.if_no (Mono.want_no (c := false) rfl rfl (Mono.dep_at hdu (i := 2) (d := 82) rfl rfl rfl) rfl) ?_
                exact rfl
              · intro a u hbu hsu hdu
                refine Mono.if_no (Mono.want_no (c := false) rfl rfl (Mono.dep_at hdu (i := 2) (d := 82) rfl rfl rfl) rfl) ?_
                exact rfl
              · intro a u hbu hsu hdu
                refine Mono.if_no (Mono.want_no (c := false) rfl rfl (Mono.dep_at hdu (i := 2) (d := 82) rfl rfl rfl) rfl) ?_
                exact rfl
              · intro a u hbu hsu hdu
                refine Mono.if_no (Mono.want_no (c := false) rfl rfl (Mono.dep_at hdu (i := 2) (d := 82) rfl rfl rfl) rfl) ?_
                exact rfl
              · intro a u hbu hsu hdu
                refine Mono.if_no (Mono.want_no (c := false) rfl rfl (Mono.dep_at hdu (i := 2) (d := 82) rfl rfl rfl) rfl) ?_
                exact rfl
              · intro a u hbu hsu hdu
                refine Mono.if_no (Mono.want_no (c := false) rfl rfl (Mono.dep_at hdu (i := 2) (d := 82) rfl rfl rfl) rfl) ?_
                exact rfl
              · intro a u hbu hsu hdu
                refine Mono.if_no (Mono.want_no (c := false) rfl rfl (Mono.dep_at hdu (i := 2) (d := 82) rfl rfl rfl) rfl) ?_
                exact rfl
              · intro a u hbu hsu hdu
                refine Mono.if_want rfl ?_
                have z82 : a.eval (.tmp 82) = .bool false := Mono.dep_at hdu (i := 2) (d := 82) rfl rfl rfl
                simp [Act.eval] at z82
                have z89 : a.eval (.tmp 89) = undef := Mono.dep_at hdu (i := 9) (d := 89) rfl rfl rfl
                simp [Act.eval] at z89
                exact Mono.ok_val (.bool false) (by simp [execOp, z82, z89, go_sem, go_sem]) rfl
              · intro a u hbu hsu hdu
                refine Mono.if_want rfl ?_
                exact Mono.ok_move (.tmp 90) rfl (Mono.dep_at hdu (i := 10) (d := 90) rfl rfl rfl)
              · intro a u hbu hsu hdu
                refine Mono.if_want (Mono.want_at (c := false) rfl rfl (Mono.dep_at hdu (i := 11) (d := 91) rfl rfl rfl) rfl) ?_
                exact Mono.ok_move (.tmp 17) rfl (hsu 17 (by decide))
              · intro a u hbu hsu hdu
                refine Mono.if_want (Mono.want_at (c := false) rfl rfl (Mono.dep_at hdu (i := 11) (d := 91) rfl rfl rfl) rfl) ?_
                have z92 : a.eval (.tmp 92) = .int .i64 2001 := Mono.dep_at hdu (i := 12) (d := 92) rfl rfl rfl
                simp [Act.eval] at z92
                exact Mono.ok_val (.bool false) (by simp [execOp, z92, go_sem, go_sem]) rfl
              · intro a u hbu hsu hdu
                refine Mono.if_want (Mono.want_at (c := false) rfl rfl (Mono.dep_at hdu (i := 11) (d := 91) rfl rfl rfl) rfl) ?_
                exact Mono.ok_move (.tmp 93) rfl (Mono.dep_at hdu (i := 13) (d := 93) rfl rfl rfl)
              · intro a u hbu hsu hdu
                refine Mono.if_no (Mono.want_no (c := false) rfl rfl (Mono.dep_at hdu (i := 14) (d := 94) rfl rfl rfl) rfl) ?_
                exact rfl
              · intro a u hbu hsu hdu
                refine Mono.if_no (Mono.want_no (c := false) rfl rfl (Mono.dep_at hdu (i := 14) (d := 94) rfl rfl rfl) rfl) ?_
                exact rfl
              · intro a u hbu hsu hdu
                refine Mono.if_no (Mono.want_no (c := false) rfl rfl (Mono.dep_at hdu (i := 14) (d := 94) rfl rfl rfl) rfl) ?_
                exact rfl
              · intro a u hbu hsu hdu
                refine Mono.if_no (Mono.want_no (c := false) rfl rfl (Mono.dep_at hdu (i := 14) (d := 94) rfl rfl rfl) rfl) ?_
                exact rfl
              · intro a u hbu hsu hdu
                refine Mono.if_no (Mono.want_no (c := false) rfl rfl (Mono.dep_at hdu (i := 14) (d := 94) rfl rfl rfl) rfl) ?_
                exact rfl
              · intro a u hbu hsu hdu
                refine Mono.if_no (Mono.want_no (c := false) rfl rfl (Mono.dep_at hdu (i := 14) (d := 94) rfl rfl rfl) rfl) ?_
                exact rfl
              · intro a u hbu hsu hdu
                refine Mono.if_no (Mono.want_no (c := false) rfl rfl (Mono.dep_at hdu (i := 14) (d := 94) rfl rfl rfl) rfl) ?_
                exact rfl
              · intro a u hbu hsu hdu
                refine Mono.if_no (Mono.want_no (c := false) rfl rfl (Mono.dep_at hdu (i := 14) (d := 94) rfl rfl rfl) rfl) ?_
                exact rfl
              · intro a u hbu hsu hdu
                refine Mono.if_want (Mono.want_at (c := false) rfl rfl (Mono.dep_at hdu (i := 11) (d := 91) rfl rfl rfl) rfl) ?_
                have z94 : a.eval (.tmp 94) = .bool false := Mono.dep_at hdu (i := 14) (d := 94) rfl rfl rfl
                simp [Act.eval] at z94
                have z102 : a.eval (.tmp 102) = undef := Mono.dep_at hdu (i := 22) (d := 102) rfl rfl rfl
                simp [Act.eval] at z102
                exact Mono.ok_val (.bool false) (by simp [execOp, z94, z102, go_sem, go_sem]) rfl
              · intro a u hbu hsu hdu
                refine Mono.if_want rfl ?_
                have z91 : a.eval (.tmp 91) = .bool false := Mono.dep_at hdu (i := 11) (d := 91) rfl rfl rfl
                simp [Act.eval] at z91
                have z103 : a.eval (.tmp 103) = .bool false := Mono.dep_at hdu (i := 23) (d := 103) rfl rfl rfl
                simp [Act.eval] at z103
                exact Mono.ok_val (.bool false) (by simp [execOp, z91, z103, go_sem, go_sem]) rfl
            intro u hu
            simp only [Mono.Fin]
            rintro _ rfl _ rfl _ rfl _ rfl _ rfl _ rfl _ rfl _ rfl _ rfl _ rfl _ rfl _ rfl _ rfl _ rfl _ rfl _ rfl _ rfl _ rfl _ rfl _ rfl _ rfl _ rfl _ rfl _ rfl _ rfl
            simp [Act.put]
            have hbA := hbY.trans (hu.mono hbYs)
            have hown2 := hown.below (hbR.trans (hu.mono hbR.size))
            have hbw2 := hbw.trans (hbA.mono hbw.size)
            have K1 : ([] : List Int).length + xs.length ≤ maxLen := by simp [maxLen]; rw [HXL.out]; omega
            have K2 : (([] : List Int).length + xs.length) * 1 ≤ 140737488355328 := by simp; rw [HXL.out]; omega
            have K4 : (List.replicate j (aO xs)).length + 1 ≤ maxLen := by simp [maxLen]; omega
            have K5 : ((List.replicate j (aO xs)).length + 1) * 40 ≤ 140737488355328 := by simp; omega
            have HRNu := Lib.hid (HRN.out.below hbw2)
            have TA := hbA.size
            have HO2 := Lib.hid hown2
            clear hown2 hown hu hbR hbYs hbY
            go_wp2_with (first
              | (refine wpl_empty rfl 32 5 rfl .u8 (fun _ => by kernel_rfl) ?_; go_must (intro y1 hown1 hb1 hs1; clear hs1; have hrd1 := HRNu.out.below hb1))
              | (at_builtin; have _t := hown1; clear _t; go_must (obtain ⟨i0, hi, hz0, hz1, hz2⟩ := info_parts Wire.info5; refine wpl_append rfl (.tmp 106) (.tmp 107) 32 rfl .u8 u.heap.size 5 1 i0 (.int .u8 0) Tryd.underlying32 hi hz0 hz1 hz2 rfl (.slice (some ⟨u.heap.size, 0, none⟩) 0 0) _ [] xs rfl rfl hown1 hrd1 K1 K2 (by have := hb1.size; omega) ?_; intro v4 y4 hv4 hg4; rw [List.nil_append] at hv4; clear hi hz0 hz1 hz2; obtain ⟨p4, c4, rfl, kk1, kk2, kk3, kk4⟩ := hv4.reads; have hb4 := hb1.grown hg4 hb1.size (fun q e => by have e' : u.heap.size = q := Option.some.inj e; omega); clear hown1 hrd1 hb1 kk1 kk2 kk3 kk4 hg4 K1 K2; have hd4 := hv4.reads; have hO4 := HO2.out.below hb4; have hap4 : Apart (.slice pl nl cl) (aO xs, .slice p4 xs.length c4) := (fun h0 q hq e => by obtain ⟨g', e1, _, e2, _⟩ := hv4.form h0; have h1 := (HO2.out.lt q hq).2; rw [show (aO xs, Value.slice p4 xs.length c4).2 = .slice p4 xs.length c4 from rfl, e1] at e; have e3 : g' = q := Option.some.inj e; omega)))
              | (obtain ⟨i41, z41, i1, i2, i3, i4, i5⟩ := info41; refine wpl_push 23 35 40 110 (.tmp 109) (.tmp 105) rfl rfl rfl rfl rfl (aO xs) (.slice p4 xs.length c4) rfl (Avp.build22 _ _) wX.heap.size i41 z41 Tryd.underlying23 i1 i2 i3 i4 i5 (.slice pl nl cl) (List.replicate j (aO xs)) (fun _ => rfl) (fun _ => rfl) hO4 hd4 hap4 K4 K5 (by have := hb4.size; omega) ?_; go_must (clear i1 i2 i3 i4 i5; intro v6 y6 hv6 hg6; have hbl6 := (hbA.trans (hb4.mono (by omega))).grown hg6 (by have := hb4.size; omega) (fun q e => (hO4.lt q e).1); clear hO4 hd4 hap4 hg6 hb4)))
            go_roundw
            case rel => exact ⟨j + 1, by go_num, by omega, by rw [List.replicate_succ']; exact hv6, hbl6⟩
            case measure => simp [intOf]; omega
          · obtain rfl : j = k + 1 := by omega
            have HV := VM
            go_wp2_with (first
              | (go_at_call 11; go_must (refine PO.out.mono ?_; rintro e y0 ⟨vo, rfl, hvo, hb0⟩; clear PO))
              | (go_at_call 10; go_must (refine (PJ.out _ _ y0 (k + 1) (reads_one_rule (hatW.ext hb0)) hvo.reads).mono ?_; rintro e y2 ⟨v', e2, hfl, hb2⟩; rw [HV.out] at e2 hfl; obtain rfl := e2; obtain ⟨gF, d, rfl, hgF, hatF, hrowF⟩ := hfl; have hbR := hb0.trans (hb2.mono hb0.size); clear hvo hb0 hb2)))
            have hbY := hbl.trans (hbR.mono hbl.size)
            have hbYs := hbY.size
            obtain ⟨pd, cd, rfl, _, _, _, _⟩ := hrowF.reads
            have HD2 := Lib.hid (show Reads .u8 y2 (.slice pd l cd) xs by have : Reads .u8 y2 (.slice pd xs.length cd) xs := hrowF.reads; rwa [HXL.out] at this)
            have hatF' : At y2 gF 35 (row (aO xs) (.slice pd xs.length cd)).toArray := hatF
            rw [HXL.out] at hatF'
            clear hatF hrowF
            have hatF := hatF'
            have hbwy := hbw.trans (hbY.mono hbw.size)
            refine Mono.wp_region_mono [some 80, some 81, some 82, some 83, some 84, some 85, some 86, some 87, some 88, some 89, some 90, some 91, some 92, some 93, some 94, some 95, some 96, some 97, some 98, some 99, some 100, some 101, some 102, some 103, some 104] [Mono.isV (.int .i64 5009), Mono.isV (.bool false), Mono.isV (.bool false), Mono.isV (undef), Mono.isV (undef), Mono.isV (undef), Mono.isV (undef), Mono.isV (undef), Mono.isV (undef), Mono.isV (undef), Mono.isV (.bool false), Mono.isV (.bool false), Mono.isV (.int .i64 5009), Mono.isV (.bool true), Mono.isV (.bool true), Mono.isV (.slice (some ⟨gF, 0, none⟩) 1 1), Mono.isV (.pointer (some ⟨gF, 0, none⟩)), Mono.isV (.pointer (some ⟨gF, 4, none⟩)), Mono.isV (.slice pd l cd), Mono.isV (.string (strOfNums xs)), Mono.isV (.slice p l c), Mono.isV (.string (strOfNums xs)), Mono.isV (.bool false), Mono.isV (.bool false), Mono.isV (.bool false)] (by kernel_rfl) (by kernel_rfl) ?_ ?_
            · simp only [Mono.OpGoals, and_true]
              refine ⟨?_, ?_, ?_, ?_, ?_, ?_, ?_, ?_, ?_, ?_, ?_, ?_, ?_, ?_, ?_, ?_, ?_, ?_, ?_, ?_, ?_, ?_, ?_, ?_, ?_⟩
              · intro a u hbu hsu hdu
                have q4 := (hatF.ext hbu).cell 4; simp [row] at q4
                refine Mono.if_want rfl ?_
                exact Mono.ok_move (.tmp 17) rfl (hsu 17 (by decide))
              · intro a u hbu hsu hdu
                have q4 := (hatF.ext hbu).cell 4; simp [row] at q4
                refine Mono.if_want rfl ?_
                have z80 : a.eval (.tmp 80) = .int .i64 5009 := Mono.dep_at hdu (i := 0) (d := 80) rfl rfl rfl
                simp [Act.eval] at z80
                exact Mono.ok_val (.bool false) (by simp [execOp, z80, go_sem, q4]) rfl
              · intro a u hbu hsu hdu
                have q4 := (hatF.ext hbu).cell 4; simp [row] at q4
                refine Mono.if_want rfl ?_
                exact Mono.ok_move (.tmp 81) rfl (Mono.dep_at hdu (i := 1) (d := 81) rfl rfl rfl)
              · intro a u hbu hsu hdu
                have q4 := (hatF.ext hbu).cell 4; simp [row] at q4
                refine Mono.if_no (Mono.want_no (c := false) rfl rfl (Mono.dep_at hdu (i := 2) (d := 82) rfl rfl rfl) rfl) ?_
                exact rfl
              · intro a u hbu hsu hdu
                have q4 := (hatF.ext hbu).cell 4; simp [row] at q4
                refine Mono.if_no (Mono.want_no (c := false) rfl rfl (Mono.dep_at hdu (i := 2) (d := 82) rfl rfl rfl) rfl) ?_
                exact rfl
              · intro a u hbu hsu hdu
                have q4 := (hatF.ext hbu).cell 4; simp [row] at q4
                refine Mono.if_no (Mono.want_no (c := false) rfl rfl (Mono.dep_at hdu (i := 2) (d := 82) rfl rfl rfl) rfl) ?_
                exact rfl
              · intro a u hbu hsu hdu
                have q4 := (hatF.ext hbu).cell 4; simp [row] at q4
                refine Mono.if_no (Mono.want_no (c := false) rfl rfl (Mono.dep_at hdu (i := 2) (d := 82) rfl rfl rfl) rfl) ?_
                exact rfl
              · intro a u hbu hsu hdu
                have q4 := (hatF.ext hbu).cell 4; simp [row] at q4
                refine Mono.if_no (Mono.want_no (c := false) rfl rfl (Mono.dep_at hdu (i := 2) (d := 82) rfl rfl rfl) rfl) ?_
                exact rfl
              · intro a u hbu hsu hdu
                have q4 := (hatF.ext hbu).cell 4; simp [row] at q4
                refine Mono.if_no (Mono.want_no (c := false) rfl rfl (Mono.dep_at hdu (i := 2) (d := 82) rfl rfl rfl) rfl) ?_
                exact rfl
              · intro a u hbu hsu hdu
                have q4 := (hatF.ext hbu).cell 4; simp [row] at q4
                refine Mono.if_no (Mono.want_no (c := false) rfl rfl (Mono.dep_at hdu (i := 2) (d := 82) rfl rfl rfl) rfl) ?_
                exact rfl
              · intro a u hbu hsu hdu
                have q4 := (hatF.ext hbu).cell 4; simp [row] at q4
                refine Mono.if_want rfl ?_
                have z82 : a.eval (.tmp 82) = .bool false := Mono.dep_at hdu (i := 2) (d := 82) rfl rfl rfl
                simp [Act.eval] at z82
                have z89 : a.eval (.tmp 89) = undef := Mono.dep_at hdu (i := 9) (d := 89) rfl rfl rfl
                simp [Act.eval] at z89
                exact Mono.ok_val (.bool false) (by simp [execOp, z82, z89, go_sem, q4]) rfl
              · intro a u hbu hsu hdu
                have q4 := (hatF.ext hbu).cell 4; simp [row] at q4
                refine Mono.if_want rfl ?_
                exact Mono.ok_move (.tmp 90) rfl (Mono.dep_at hdu (i := 10) (d := 90) rfl rfl rfl)
              · intro a u hbu hsu hdu
                have q4 := (hatF.ext hbu).cell 4; simp [row] at q4
                refine Mono.if_want (Mono.want_at (c := false) rfl rfl (Mono.dep_at hdu (i := 11) (d := 91) rfl rfl rfl) rfl) ?_
                exact Mono.ok_move (.tmp 17) rfl (hsu 17 (by decide))
              · intro a u hbu hsu hdu
                have q4 := (hatF.ext hbu).cell 4; simp [row] at q4
                refine Mono.if_want (Mono.want_at (c := false) rfl rfl (Mono.dep_at hdu (i := 11) (d := 91) rfl rfl rfl) rfl) ?_
                have z92 : a.eval (.tmp 92) = .int .i64 5009 := Mono.dep_at hdu (i := 12) (d := 92) rfl rfl rfl
                simp [Act.eval] at z92
                exact Mono.ok_val (.bool true) (by simp [execOp, z92, go_sem, q4]) rfl
              · intro a u hbu hsu hdu
                have q4 := (hatF.ext hbu).cell 4; simp [row] at q4
                refine Mono.if_want (Mono.want_at (c := false) rfl rfl (Mono.dep_at hdu (i := 11) (d := 91) rfl rfl rfl) rfl) ?_
                exact Mono.ok_move (.tmp 93) rfl (Mono.dep_at hdu (i := 13) (d := 93) rfl rfl rfl)
              · intro a u hbu hsu hdu
                have q4 := (hatF.ext hbu).cell 4; simp [row] at q4
                refine Mono.if_want (Mono.want_at (c := true) rfl rfl (Mono.dep_at hdu (i := 14) (d := 94) rfl rfl rfl) rfl) ?_
                exact Mono.ok_move (.tmp 15) rfl (hsu 15 (by decide))
              · intro a u hbu hsu hdu
                have q4 := (hatF.ext hbu).cell 4; simp [row] at q4
                refine Mono.if_want (Mono.want_at (c := true) rfl rfl (Mono.dep_at hdu (i := 14) (d := 94) rfl rfl rfl) rfl) ?_
                have z95 : a.eval (.tmp 95) = .slice (some ⟨gF, 0, none⟩) 1 1 := Mono.dep_at hdu (i := 15) (d := 95) rfl rfl rfl
                simp [Act.eval] at z95
                exact Mono.ok_val (.pointer (some ⟨gF, 0, none⟩)) (by simp [execOp, z95, go_sem, q4]) rfl
              · intro a u hbu hsu hdu
                have q4 := (hatF.ext hbu).cell 4; simp [row] at q4
                refine Mono.if_want (Mono.want_at (c := true) rfl rfl (Mono.dep_at hdu (i := 14) (d := 94) rfl rfl rfl) rfl) ?_
                have z96 : a.eval (.tmp 96) = .pointer (some ⟨gF, 0, none⟩) := Mono.dep_at hdu (i := 16) (d := 96) rfl rfl rfl
                simp [Act.eval] at z96
                exact Mono.ok_val (.pointer (some ⟨gF, 4, none⟩)) (by simp [execOp, z96, go_sem, q4]) rfl
              · intro a u hbu hsu hdu
                have q4 := (hatF.ext hbu).cell 4; simp [row] at q4
                refine Mono.if_want (Mono.want_at (c := true) rfl rfl (Mono.dep_at hdu (i := 14) (d := 94) rfl rfl rfl) rfl) ?_
                have z97 : a.eval (.tmp 97) = .pointer (some ⟨gF, 4, none⟩) := Mono.dep_at hdu (i := 17) (d := 97) rfl rfl rfl
                simp [Act.eval] at z97
                exact Mono.ok_val (.slice pd l cd) (by simp [execOp, z97, go_sem, q4]) rfl
              · intro a u hbu hsu hdu
                have q4 := (hatF.ext hbu).cell 4; simp [row] at q4
                refine Mono.if_want (Mono.want_at (c := true) rfl rfl (Mono.dep_at hdu (i := 14) (d := 94) rfl rfl rfl) rfl) ?_
                have z98 : a.eval (.tmp 98) = .slice pd l cd := Mono.dep_at hdu (i := 18) (d := 98) rfl rfl rfl
                exact Mono.ok_conv 32 9 (.tmp 98) rfl _ (by rw [z98]; exact Avp.string23 (HD2.out.below hbu)) rfl
              · intro a u hbu hsu hdu
                have q4 := (hatF.ext hbu).cell 4; simp [row] at q4
                refine Mono.if_want (Mono.want_at (c := true) rfl rfl (Mono.dep_at hdu (i := 14) (d := 94) rfl rfl rfl) rfl) ?_
                exact Mono.ok_move (.tmp 3) rfl (hsu 3 (by decide))
              · intro a u hbu hsu hdu
                have q4 := (hatF.ext hbu).cell 4; simp [row] at q4
                refine Mono.if_want (Mono.want_at (c := true) rfl rfl (Mono.dep_at hdu (i := 14) (d := 94) rfl rfl rfl) rfl) ?_
                have z100 : a.eval (.tmp 100) = .slice p l c := Mono.dep_at hdu (i := 20) (d := 100) rfl rfl rfl
                exact Mono.ok_conv 32 9 (.tmp 100) rfl _ (by rw [z100]; exact Avp.string23 (HRN.out.below (hbwy.trans (hbu.mono hbwy.size)))) rfl
              · intro a u hbu hsu hdu
                have q4 := (hatF.ext hbu).cell 4; simp [row] at q4
                refine Mono.if_want (Mono.want_at (c := true) rfl rfl (Mono.dep_at hdu (i := 14) (d := 94) rfl rfl rfl) rfl) ?_
                have z99 : a.eval (.tmp 99) = .string (strOfNums xs) := Mono.dep_at hdu (i := 19) (d := 99) rfl rfl rfl
                simp [Act.eval] at z99
                have z101 : a.eval (.tmp 101) = .string (strOfNums xs) := Mono.dep_at hdu (i := 21) (d := 101) rfl rfl rfl
                simp [Act.eval] at z101
                exact Mono.ok_val (.bool false) (by simp [execOp, z99, z101, go_sem, q4]) rfl
              · intro a u hbu hsu hdu
                have q4 := (hatF.ext hbu).cell 4; simp [row] at q4
                refine Mono.if_want (Mono.want_at (c := false) rfl rfl (Mono.dep_at hdu (i := 11) (d := 91) rfl rfl rfl) rfl) ?_
                have z94 : a.eval (.tmp 94) = .bool true := Mono.dep_at hdu (i := 14) (d := 94) rfl rfl rfl
                simp [Act.eval] at z94
                have z102 : a.eval (.tmp 102) = .bool false := Mono.dep_at hdu (i := 22) (d := 102) rfl rfl rfl
                simp [Act.eval] at z102
                exact Mono.ok_val (.bool false) (by simp [execOp, z94, z102, go_sem, q4]) rfl
              · intro a u hbu hsu hdu
                have q4 := (hatF.ext hbu).cell 4; simp [row] at q4
                refine Mono.if_want rfl ?_
                have z91 : a.eval (.tmp 91) = .bool false := Mono.dep_at hdu (i := 11) (d := 91) rfl rfl rfl
                simp [Act.eval] at z91
                have z103 : a.eval (.tmp 103) = .bool false := Mono.dep_at hdu (i := 23) (d := 103) rfl rfl rfl
                simp [Act.eval] at z103
                exact Mono.ok_val (.bool false) (by simp [execOp, z91, z103, go_sem, q4]) rfl
            intro u hu
            simp only [Mono.Fin]
            rintro _ rfl _ rfl _ rfl _ rfl _ rfl _ rfl _ rfl _ rfl _ rfl _ rfl _ rfl _ rfl _ rfl _ rfl _ rfl _ rfl _ rfl _ rfl _ rfl _ rfl _ rfl _ rfl _ rfl _ rfl _ rfl
            simp [Act.put]
            have hbA := hbY.trans (hu.mono hbYs)
            have hown2 := hown.below (hbR.trans (hu.mono hbR.size))
            have hbw2 := hbw.trans (hbA.mono hbw.size)
            have K1 : ([] : List Int).length + xs.length ≤ maxLen := by simp [maxLen]; rw [HXL.out]; omega
            have K2 : (([] : List Int).length + xs.length) * 1 ≤ 140737488355328 := by simp; rw [HXL.out]; omega
            have K4 : (List.replicate (k + 1) (aO xs)).length + 1 ≤ maxLen := by simp [maxLen]; omega
            have K5 : ((List.replicate (k + 1) (aO xs)).length + 1) * 40 ≤ 140737488355328 := by simp; omega
            have HRNu := Lib.hid (HRN.out.below hbw2)
            have TA := hbA.size
            have HO2 := Lib.hid hown2
            clear hown2 hown hu hbR hbYs hbY
            go_wp2_with (first
              | (refine wpl_empty rfl 32 5 rfl .u8 (fun _ => by kernel_rfl) ?_; go_must (intro y1 hown1 hb1 hs1; clear hs1; have hrd1 := HRNu.out.below hb1))
              | (at_builtin; have _t := hown1; clear _t; go_must (obtain ⟨i0, hi, hz0, hz1, hz2⟩ := info_parts Wire.info5; refine wpl_append rfl (.tmp 106) (.tmp 107) 32 rfl .u8 u.heap.size 5 1 i0 (.int .u8 0) Tryd.underlying32 hi hz0 hz1 hz2 rfl (.slice (some ⟨u.heap.size, 0, none⟩) 0 0) _ [] xs rfl rfl hown1 hrd1 K1 K2 (by have := hb1.size; omega) ?_; intro v4 y4 hv4 hg4; rw [List.nil_append] at hv4; clear hi hz0 hz1 hz2; obtain ⟨p4, c4, rfl, kk1, kk2, kk3, kk4⟩ := hv4.reads; have hb4 := hb1.grown hg4 hb1.size (fun q e => by have e' : u.heap.size = q := Option.some.inj e; omega); clear hown1 hrd1 hb1 kk1 kk2 kk3 kk4 hg4 K1 K2; have hd4 := hv4.reads; have hO4 := HO2.out.below hb4; have hap4 : Apart (.slice pl nl cl) (aO xs, .slice p4 xs.length c4) := (fun h0 q hq e => by obtain ⟨g', e1, _, e2, _⟩ := hv4.form h0; have h1 := (HO2.out.lt q hq).2; rw [show (aO xs, Value.slice p4 xs.length c4).2 = .slice p4 xs.length c4 from rfl, e1] at e; have e3 : g' = q := Option.some.inj e; omega)))
              | (obtain ⟨i41, z41, i1, i2, i3, i4, i5⟩ := info41; refine wpl_push 23 35 40 110 (.tmp 109) (.tmp 105) rfl rfl rfl rfl rfl (aO xs) (.slice p4 xs.length c4) rfl (Avp.build22 _ _) wX.heap.size i41 z41 Tryd.underlying23 i1 i2 i3 i4 i5 (.slice pl nl cl) (List.replicate (k + 1) (aO xs)) (fun _ => rfl) (fun _ => rfl) hO4 hd4 hap4 K4 K5 (by have := hb4.size; omega) ?_; go_must (clear i1 i2 i3 i4 i5; intro v6 y6 hv6 hg6; have hbl6 := (hbA.trans (hb4.mono (by omega))).grown hg6 (by have := hb4.size; omega) (fun q e => (hO4.lt q e).1); clear hO4 hd4 hap4 hg6 hb4)))
            go_roundw
            case rel => exact ⟨k + 1 + 1, by go_num, by omega, by rw [List.replicate_succ']; exact hv6, hbl6⟩
            case measure => simp [intOf]; omega
      · go_wp2_with fail
        go_ret
        exact ⟨rfl, hbw.trans (hbl.mono hbw.size)⟩
  · have hmk : m ≤ k := by omega
    have VL := Lib.hid (fun j => onceLack xs must m k j hmk (by omega) hk1)
    have VF := Lib.hid (fun j => onceFine xs must m k j hmk (by omega) hk1)
    have VM := Lib.hid (onceMany xs must m k hmk (by omega) hk1)
    have PJ := Lib.hid (fun (v u : Value) y j (hv : ReadsR y v [ruleO must m k]) (h : ReadsL y u (List.replicate j (aO xs))) => judge fit0 [ruleO must m k] (List.replicate j (aO xs)) v u y hv h (ruleO_ok must m k hmk (by omega)) (fun x hx => by rw [List.eq_of_mem_replicate hx]; exact ⟨aO_ok xs HX.out, by show xs.length ≤ _; rw [HXL.out]; omega⟩) (fun x hx r hr hh => by rw [List.mem_singleton] at hr; subst hr; rw [List.eq_of_mem_replicate hx]; exact fitsOctets xs))
    obtain ⟨RO, hRO⟩ : ∃ RO, ruleO must m k = RO := ⟨_, rfl⟩
    have hrow : rowR RO = #[.int .u32 7, .int .u32 0, .int .i64 1, .bool must, .int .i64 m, .int .i64 k] := by rw [← hRO]; rfl
    rw [hRO] at VL VF VM PJ
    clear hRO
    have HROW := Lib.hid hrow
    clear hrow
    go_enter Tryd.func5, Tryd.ntmps5
    go_wp2_with (first
      | (go_at_call 8; have _t := S1; clear _t; go_must (refine (PA.out _).mono ?_; rintro e u1 ⟨rfl, hb1⟩; clear S1))
      | ((with_reducible refine wpl_buildS rfl 22 1 #[(0, .tmp 43)] rfl #[(0, .agg (rowR RO))] ?_ 37 (rowR RO) (fun _ => buildRule _ _) ?_); (rw [HROW.out]; simp [Act.eval]); go_must (intro wX hatR hb2 hs2; clear hs2; have hbw := hb1.trans (hb2.mono hb1.size); clear hb2 hb1)))
    obtain ⟨gR, hgR⟩ : ∃ q, u1.heap.size = q := ⟨_, rfl⟩
    rw [hgR] at hatR ⊢
    clear hgR
    have hgB := hatR.lt
    go_loopw [12, 13] (fun u i wr => ∃ j : Nat, i = .int .i64 j ∧ j ≤ k + 2 ∧ OwnL 35 wX.heap.size wr u (List.replicate j (aO xs)) ∧ Below wX.heap.size wX wr) (fun _ i _ => k + 2 - (intOf i).toNat)
    case atStart => exact ⟨0, rfl, by omega, OwnL.nil _ _ _, Below.refl _ _⟩
    case round =>
      obtain ⟨j, rfl, hj, hown, hbl⟩ := hrel
      obtain ⟨pl, cl, rfl, q1, q2⟩ := hown.reads.shape
      obtain ⟨nl, hnl⟩ : ∃ nl, (List.replicate j (aO xs)).length = nl := ⟨_, rfl⟩
      rw [hnl] at hown q1 ⊢
      have hatW := hatR.below hbl hgB
      by_cases hlt : j ≤ k + 1
      · have PO := Lib.hid (POW.out _ wr j (by omega) hown.reads)
        clear q1 q2 hnl
        have T0 := hbl.size
        by_cases c1 : j < m
        · have HV := Lib.hid (VL.out j c1)
          go_wp2_with (first
            | (go_at_call 11; go_must (refine PO.out.mono ?_; rintro e y0 ⟨vo, rfl, hvo, hb0⟩; clear PO))
            | (go_at_call 10; go_must (refine (PJ.out _ _ y0 j (reads_one_rule (hatW.ext hb0)) hvo.reads).mono ?_; rintro e y2 ⟨v', e2, hfl, hb2⟩; rw [HV.out] at e2 hfl; obtain rfl := e2; obtain ⟨gF, d, rfl, hgF, hatF, hrowF⟩ := hfl; have hbR := hb0.trans (hb2.mono hb0.size); clear hvo hb0 hb2)))
          have hbY := hbl.trans (hbR.mono hbl.size)
          have hbYs := hbY.size
          obtain ⟨lkA, hlkA⟩ : ∃ lkA : A, (⟨7, 0, must, false, []⟩ : A) = lkA := ⟨_, rfl⟩
          have PSA := Lib.hid (fun u (hu : Below y2.heap.size y2 u) => by
            have := Avp.same (⟨7, 0, must, false, []⟩ : A) ⟨7, 0, must, false, []⟩ d (.slice none 0 0) u (hrowF.reads.below hu) ⟨none, 0, rfl, by simp, by simp, fun _ => rfl, fun h => by simp at h⟩ (lackO_ok must) (lackO_ok must)
            rwa [decide_eq_true rfl, hlkA] at this)
          rw [hlkA] at hatF
          clear hrowF
          refine Mono.wp_region_mono [some 80, some 81, some 82, some 83, some 84, some 85, some 86, some 87, some 88, some 89, some 90, some 91, some 92, some 93, some 94, some 95, some 96, some 97, some 98, some 99, some 100, some 101, some 102, some 103, some 104] [Mono.isV (.int .i64 5005), Mono.isV (.bool true), Mono.isV (.bool true), Mono.isV (.slice (some ⟨gF, 0, none⟩) 1 1), Mono.isV (.pointer (some ⟨gF, 0, none⟩)), Mono.isV (.agg (row lkA d).toArray), Mono.isV (.bool must), Mono.isV (.agg (row lkA (.slice none 0 0)).toArray), Mono.isV (.bool true), Mono.isV (.bool false), Mono.isV (.bool false), Mono.isV (.bool false), Mono.isV (.int .i64 5005), Mono.isV (.bool false), Mono.isV (.bool false), Mono.isV (undef), Mono.isV (undef), Mono.isV (undef), Mono.isV (undef), Mono.isV (undef), Mono.isV (undef), Mono.isV (undef), Mono.isV (undef), Mono.isV (.bool false), Mono.isV (.bool false)] (by kernel_rfl) (by kernel_rfl) ?_ ?_
          · simp only [Mono.OpGoals, and_true]
            refine ⟨?_, ?_, ?_, ?_, ?_, ?_, ?_, ?_, ?_, ?_, ?_, ?_, ?_, ?_, ?_, ?_, ?_, ?_, ?_, ?_, ?_, ?_, ?_, ?_, ?_⟩
            · intro a u hbu hsu hdu
              refine Mono.if_want rfl ?_
              exact Mono.ok_move (.tmp 17) rfl (hsu 17 (by decide))
            · intro a u hbu hsu hdu
              refine Mono.if_want rfl ?_
              have z80 : a.eval (.tmp 80) = .int .i64 5005 := Mono.dep_at hdu (i := 0) (d := 80) rfl rfl rfl
              simp [Act.eval] at z80
              exact Mono.ok_val (.bool true) (by simp [execOp, z80, go_sem, go_sem]) rfl
            · intro a u hbu hsu hdu
              refine Mono.if_want rfl ?_
              exact Mono.ok_move (.tmp 81) rfl (Mono.dep_at hdu (i := 1) (d := 81) rfl rfl rfl)
            · intro a u hbu hsu hdu
              refine Mono.if_want (Mono.want_at (c := true) rfl rfl (Mono.dep_at hdu (i := 2) (d := 82) rfl rfl rfl) rfl) ?_
              exact Mono.ok_move (.tmp 15) rfl (hsu 15 (by decide))
            · intro a u hbu hsu hdu
              refine Mono.if_want (Mono.want_at (c := true) rfl rfl (Mono.dep_at hdu (i := 2) (d := 82) rfl rfl rfl) rfl) ?_
              have z83 : a.eval (.tmp 83) = .slice (some ⟨gF, 0, none⟩) 1 1 := Mono.dep_at hdu (i := 3) (d := 83) rfl rfl rfl
              simp [Act.eval] at z83
              exact Mono.ok_val (.pointer (some ⟨gF, 0, none⟩)) (by simp [execOp, z83, go_sem, go_sem]) rfl
            · intro a u hbu hsu hdu
              refine Mono.if_want (Mono.want_at (c := true) rfl rfl (Mono.dep_at hdu (i := 2) (d := 82) rfl rfl rfl) rfl) ?_
              exact Mono.ok_loadAt 35 (.tmp 84) rfl gF 35 _ (hatF.ext hbu) _ Tryd.underlying35 rfl (by kernel_rfl) (Mono.dep_at hdu (i := 4) (d := 84) rfl rfl rfl) rfl
            · intro a u hbu hsu hdu
              refine Mono.if_want (Mono.want_at (c := true) rfl rfl (Mono.dep_at hdu (i := 2) (d := 82) rfl rfl rfl) rfl) ?_
              exact Mono.ok_move (.tmp 2) rfl (hsu 2 (by decide))
            · intro a u hbu hsu hdu
              refine Mono.if_want (Mono.want_at (c := true) rfl rfl (Mono.dep_at hdu (i := 2) (d := 82) rfl rfl rfl) rfl) ?_
              have z86 : a.eval (.tmp 86) = .bool must := Mono.dep_at hdu (i := 6) (d := 86) rfl rfl rfl
              simp [Act.eval] at z86
              exact Mono.ok_build 35 _ rfl #[(0, .int .u32 7), (2, .bool must)] (by simp [z86, Act.eval]) (.agg (row lkA (.slice none 0 0)).toArray) (by rw [← hlkA]; kernel_rfl) rfl
            · intro a u hbu hsu hdu
              refine Mono.if_want (Mono.want_at (c := true) rfl rfl (Mono.dep_at hdu (i := 2) (d := 82) rfl rfl rfl) rfl) ?_
              have z85 : a.eval (.tmp 85) = .agg (row lkA d).toArray := Mono.dep_at hdu (i := 5) (d := 85) rfl rfl rfl
              have z87 : a.eval (.tmp 87) = .agg (row lkA (.slice none 0 0)).toArray := Mono.dep_at hdu (i := 7) (d := 87) rfl rfl rfl
              simp [Act.eval] at z85 z87
              refine Mono.ok_call 16 _ _ rfl #[.agg (row lkA d).toArray, .agg (row lkA (.slice none 0 0)).toArray] (by simp [execOp, z85, z87, go_sem]) ((PSA.out u hbu).mono ?_)
              rintro e y1 ⟨rfl, hb1⟩
              exact ⟨_, rfl, hb1, rfl⟩
            · intro a u hbu hsu hdu
              refine Mono.if_want (Mono.want_at (c := true) rfl rfl (Mono.dep_at hdu (i := 2) (d := 82) rfl rfl rfl) rfl) ?_
              have z88 : a.eval (.tmp 88) = .bool true := Mono.dep_at hdu (i := 8) (d := 88) rfl rfl rfl
              simp [Act.eval] at z88
              exact Mono.ok_val (.bool false) (by simp [execOp, z88, go_sem, go_sem]) rfl
            · intro a u hbu hsu hdu
              refine Mono.if_want rfl ?_
              have z82 : a.eval (.tmp 82) = .bool true := Mono.dep_at hdu (i := 2) (d := 82) rfl rfl rfl
              simp [Act.eval] at z82
              have z89 : a.eval (.tmp 89) = .bool false := Mono.dep_at hdu (i := 9) (d := 89) rfl rfl rfl
              simp [Act.eval] at z89
              exact Mono.ok_val (.bool false) (by simp [execOp, z82, z89, go_sem, go_sem]) rfl
            · intro a u hbu hsu hdu
              refine Mono.if_want rfl ?_
              exact Mono.ok_move (.tmp 90) rfl (Mono.dep_at hdu (i := 10) (d := 90) rfl rfl rfl)
            · intro a u hbu hsu hdu
              refine Mono.if_want (Mono.want_at (c := false) rfl rfl (Mono.dep_at hdu (i := 11) (d := 91) rfl rfl rfl) rfl) ?_
              exact Mono.ok_move (.tmp 17) rfl (hsu 17 (by decide))
            · intro a u hbu hsu hdu
              refine Mono.if_want (Mono.want_at (c := false) rfl rfl (Mono.dep_at hdu (i := 11) (d := 91) rfl rfl rfl) rfl) ?_
              have z92 : a.eval (.tmp 92) = .int .i64 5005 := Mono.dep_at hdu (i := 12) (d := 92) rfl rfl rfl
              simp [Act.eval] at z92
              exact Mono.ok_val (.bool false) (by simp [execOp, z92, go_sem, go_sem]) rfl
            · intro a u hbu hsu hdu
              refine Mono.if_want (Mono.want_at (c := false) rfl rfl (Mono.dep_at hdu (i := 11) (d := 91) rfl rfl rfl) rfl) ?_
              exact Mono.ok_move (.tmp 93) rfl (Mono.dep_at hdu (i := 13) (d := 93) rfl rfl rfl)
            · intro a u hbu hsu hdu
              refine Mono.if_no (Mono.want_no (c := false) rfl rfl (Mono.dep_at hdu (i := 14) (d := 94) rfl rfl rfl) rfl) ?_
              exact rfl
            · intro a u hbu hsu hdu
              refine Mono.if_no (Mono.want_no (c := false) rfl rfl (Mono.dep_at hdu (i := 14) (d := 94) rfl rfl rfl) rfl) ?_
              exact rfl
            · intro a u hbu hsu hdu
              refine Mono.if_no (Mono.want_no (c := false) rfl rfl (Mono.dep_at hdu (i := 14) (d := 94) rfl rfl rfl) rfl) ?_
              exact rfl
            · intro a u hbu hsu hdu
              refine Mono.if_no (Mono.want_no (c := false) rfl rfl (Mono.dep_at hdu (i := 14) (d := 94) rfl rfl rfl) rfl) ?_
              exact rfl
            · intro a u hbu hsu hdu
              refine Mono.if_no (Mono.want_no (c := false) rfl rfl (Mono.dep_at hdu (i := 14) (d := 94) rfl rfl rfl) rfl) ?_
              exact rfl
            · intro a u hbu hsu hdu
              refine Mono.if_no (Mono.want_no (c := false) rfl rfl (Mono.dep_at hdu (i := 14) (d := 94) rfl rfl rfl) rfl) ?_
              exact rfl
            · intro a u hbu hsu hdu
              refine Mono.if_no (Mono.want_no (c := false) rfl rfl (Mono.dep_at hdu (i := 14) (d := 94) rfl rfl rfl) rfl) ?_
              exact rfl
            · intro a u hbu hsu hdu
              refine Mono.if_no (Mono.want_no (c := false) rfl rfl (Mono.dep_at hdu (i := 14) (d := 94) rfl rfl rfl) rfl) ?_
              exact rfl
            · intro a u hbu hsu hdu
              refine Mono.if_want (Mono.want_at (c := false) rfl rfl (Mono.dep_at hdu (i := 11) (d := 91) rfl rfl rfl) rfl) ?_
              have z94 : a.eval (.tmp 94) = .bool false := Mono.dep_at hdu (i := 14) (d := 94) rfl rfl rfl
              simp [Act.eval] at z94
              have z102 : a.eval (.tmp 102) = undef := Mono.dep_at hdu (i := 22) (d := 102) rfl rfl rfl
              simp [Act.eval] at z102
              exact Mono.ok_val (.bool false) (by simp [execOp, z94, z102, go_sem, go_sem]) rfl
            · intro a u hbu hsu hdu
              refine Mono.if_want rfl ?_
              have z91 : a.eval (.tmp 91) = .bool false := Mono.dep_at hdu (i := 11) (d := 91) rfl rfl rfl
              simp [Act.eval] at z91
              have z103 : a.eval (.tmp 103) = .bool false := Mono.dep_at hdu (i := 23) (d := 103) rfl rfl rfl
              simp [Act.eval] at z103
              exact Mono.ok_val (.bool false) (by simp [execOp, z91, z103, go_sem, go_sem]) rfl
          intro u hu
          simp only [Mono.Fin]
          rintro _ rfl _ rfl _ rfl _ rfl _ rfl _ rfl _ rfl _ rfl _ rfl _ rfl _ rfl _ rfl _ rfl _ rfl _ rfl _ rfl _ rfl _ rfl _ rfl _ rfl _ rfl _ rfl _ rfl _ rfl _ rfl
          simp [Act.put]
          have hbA := hbY.trans (hu.mono hbYs)
          have hown2 := hown.below (hbR.trans (hu.mono hbR.size))
          have hbw2 := hbw.trans (hbA.mono hbw.size)
          have K1 : ([] : List Int).length + xs.length ≤ maxLen := by simp [maxLen]; rw [HXL.out]; omega
          have K2 : (([] : List Int).length + xs.length) * 1 ≤ 140737488355328 := by simp; rw [HXL.out]; omega
          have K4 : (List.replicate j (aO xs)).length + 1 ≤ maxLen := by simp [maxLen]; omega
          have K5 : ((List.replicate j (aO xs)).length + 1) * 40 ≤ 140737488355328 := by simp; omega
          have HRNu := Lib.hid (HRN.out.below hbw2)
          have TA := hbA.size
          have HO2 := Lib.hid hown2
          clear hown2 hown hu hbR hbYs hbY
          go_wp2_with (first
            | (refine wpl_empty rfl 32 5 rfl .u8 (fun _ => by kernel_rfl) ?_; go_must (intro y1 hown1 hb1 hs1; clear hs1; have hrd1 := HRNu.out.below hb1))
            | (at_builtin; have _t := hown1; clear _t; go_must (obtain ⟨i0, hi, hz0, hz1, hz2⟩ := info_parts Wire.info5; refine wpl_append rfl (.tmp 106) (.tmp 107) 32 rfl .u8 u.heap.size 5 1 i0 (.int .u8 0) Tryd.underlying32 hi hz0 hz1 hz2 rfl (.slice (some ⟨u.heap.size, 0, none⟩) 0 0) _ [] xs rfl rfl hown1 hrd1 K1 K2 (by have := hb1.size; omega) ?_; intro v4 y4 hv4 hg4; rw [List.nil_append] at hv4; clear hi hz0 hz1 hz2; obtain ⟨p4, c4, rfl, kk1, kk2, kk3, kk4⟩ := hv4.reads; have hb4 := hb1.grown hg4 hb1.size (fun q e => by have e' : u.heap.size = q := Option.some.inj e; omega); clear hown1 hrd1 hb1 kk1 kk2 kk3 kk4 hg4 K1 K2; have hd4 := hv4.reads; have hO4 := HO2.out.below hb4; have hap4 : Apart (.slice pl nl cl) (aO xs, .slice p4 xs.length c4) := (fun h0 q hq e => by obtain ⟨g', e1, _, e2, _⟩ := hv4.form h0; have h1 := (HO2.out.lt q hq).2; rw [show (aO xs, Value.slice p4 xs.length c4).2 = .slice p4 xs.length c4 from rfl, e1] at e; have e3 : g' = q := Option.some.inj e; omega)))
            | (obtain ⟨i41, z41, i1, i2, i3, i4, i5⟩ := info41; refine wpl_push 23 35 40 110 (.tmp 109) (.tmp 105) rfl rfl rfl rfl rfl (aO xs) (.slice p4 xs.length c4) rfl (Avp.build22 _ _) wX.heap.size i41 z41 Tryd.underlying23 i1 i2 i3 i4 i5 (.slice pl nl cl) (List.replicate j (aO xs)) (fun _ => rfl) (fun _ => rfl) hO4 hd4 hap4 K4 K5 (by have := hb4.size; omega) ?_; go_must (clear i1 i2 i3 i4 i5; intro v6 y6 hv6 hg6; have hbl6 := (hbA.trans (hb4.mono (by omega))).grown hg6 (by have := hb4.size; omega) (fun q e => (hO4.lt q e).1); clear hO4 hd4 hap4 hg6 hb4)))
          go_roundw
          case rel => exact ⟨j + 1, by go_num, by omega, by rw [List.replicate_succ']; exact hv6, hbl6⟩
          case measure => simp [intOf]; omega
        · by_cases c2 : j ≤ k
          · have HV := Lib.hid (VF.out j (by omega) c2)
            go_wp2_with (first
              | (go_at_call 11; go_must (refine PO.out.mono ?_; rintro e y0 ⟨vo, rfl, hvo, hb0⟩; clear PO))
              | (go_at_call 10; go_must (refine (PJ.out _ _ y0 j (reads_one_rule (hatW.ext hb0)) hvo.reads).mono ?_; rintro e y2 ⟨v', e2, hfl, hb2⟩; rw [HV.out] at e2 hfl; obtain rfl := e2; obtain rfl : v' = .slice none 0 0 := hfl; have hbR := hb0.trans (hb2.mono hb0.size); clear hvo hb0 hb2)))
            have hbY := hbl.trans (hbR.mono hbl.size)
            have hbYs := hbY.size
            refine Mono.wp_region_mono [some 80, some 81, some 82, some 83, some 84, some 85, some 86, some 87, some 88, some 89, some 90, some 91, some 92, some 93, some 94, some 95, some 96, some 97, some 98, some 99, some 100, some 101, some 102, some 103, some 104] [Mono.isV (.int .i64 2001), Mono.isV (.bool false), Mono.isV (.bool false), Mono.isV (undef), Mono.isV (undef), Mono.isV (undef), Mono.isV (undef), Mono.isV (undef), Mono.isV (undef), Mono.isV (undef), Mono.isV (.bool false), Mono.isV (.bool false), Mono.isV (.int .i64 2001), Mono.isV (.bool false), Mono.isV (.bool false), Mono.isV (undef), Mono.isV (undef), Mono.isV (undef), Mono.isV (undef), Mono.isV (undef), Mono.isV (undef), Mono.isV (undef), Mono.isV (undef), Mono.isV (.bool false), Mono.isV (.bool false)] (by kernel_rfl) (by kernel_rfl) ?_ ?_
            · simp only [Mono.OpGoals, and_true]
              refine ⟨?_, ?_, ?_, ?_, ?_, ?_, ?_, ?_, ?_, ?_, ?_, ?_, ?_, ?_, ?_, ?_, ?_, ?_, ?_, ?_, ?_, ?_, ?_, ?_, ?_⟩
              · intro a u hbu hsu hdu
                refine Mono.if_want rfl ?_
                exact Mono.ok_move (.tmp 17) rfl (hsu 17 (by decide))
              · intro a u hbu hsu hdu
                refine Mono.if_want rfl ?_
                have z80 : a.eval (.tmp 80) = .int .i64 2001 := Mono.dep_at hdu (i := 0) (d := 80) rfl rfl rfl
                simp [Act.eval] at z80
                exact Mono.ok_val (.bool false) (by simp [execOp, z80, go_sem, go_sem]) rfl
              · intro a u hbu hsu hdu
                refine Mono.if_want rfl ?_
                exact Mono.ok_move (.tmp 81) rfl (Mono.dep_at hdu (i := 1) (d := 81) rfl rfl rfl)
              · intro a u hbu hsu hdu
                refine Mono.if_no (Mono.want_no (c := false) rfl rfl (Mono.dep_at hdu (i := 2) (d := 82) rfl rfl rfl) rfl) ?_
                exact rfl
              · intro a u hbu hsu hdu
                refine Mono.if_no (Mono.want_no (c := false) rfl rfl (Mono.dep_at hdu (i := 2) (d := 82) rfl rfl rfl) rfl) ?_
                exact rfl
              · intro a u hbu hsu hdu
                refine Mono.if_no (Mono.want_no (c := false) rfl rfl (Mono.dep_at hdu (i := 2) (d := 82) rfl rfl rfl) rfl) ?_
                exact rfl
              · intro a u hbu hsu hdu
                refine Mono.if_no (Mono.want_no (c := false) rfl rfl (Mono.dep_at hdu (i := 2) (d := 82) rfl rfl rfl) rfl) ?_
                exact rfl
              · intro a u hbu hsu hdu
                refine Mono.if_no (Mono.want_no (c := false) rfl rfl (Mono.dep_at hdu (i := 2) (d := 82) rfl rfl rfl) rfl) ?_
                exact rfl
              · intro a u hbu hsu hdu
                refine Mono.if_no (Mono.want_no (c := false) rfl rfl (Mono.dep_at hdu (i := 2) (d := 82) rfl rfl rfl) rfl) ?_
                exact rfl
              · intro a u hbu hsu hdu
                refine Mono.if_no (Mono.want_no (c := false) rfl rfl (Mono.dep_at hdu (i := 2) (d := 82) rfl rfl rfl) rfl) ?_
                exact rfl
              · intro a u hbu hsu hdu
                refine Mono.if_want rfl ?_
                have z82 : a.eval (.tmp 82) = .bool false := Mono.dep_at hdu (i := 2) (d := 82) rfl rfl rfl
                simp [Act.eval] at z82
                have z89 : a.eval (.tmp 89) = undef := Mono.dep_at hdu (i := 9) (d := 89) rfl rfl rfl
                simp [Act.eval] at z89
                exact Mono.ok_val (.bool false) (by simp [execOp, z82, z89, go_sem, go_sem]) rfl
              · intro a u hbu hsu hdu
                refine Mono.if_want rfl ?_
                exact Mono.ok_move (.tmp 90) rfl (Mono.dep_at hdu (i := 10) (d := 90) rfl rfl rfl)
              · intro a u hbu hsu hdu
                refine Mono.if_want (Mono.want_at (c := false) rfl rfl (Mono.dep_at hdu (i := 11) (d := 91) rfl rfl rfl) rfl) ?_
                exact Mono.ok_move (.tmp 17) rfl (hsu 17 (by decide))
              · intro a u hbu hsu hdu
                refine Mono.if_want (Mono.want_at (c := false) rfl rfl (Mono.dep_at hdu (i := 11) (d := 91) rfl rfl rfl) rfl) ?_
                have z92 : a.eval (.tmp 92) = .int .i64 2001 := Mono.dep_at hdu (i := 12) (d := 92) rfl rfl rfl
                simp [Act.eval] at z92
                exact Mono.ok_val (.bool false) (by simp [execOp, z92, go_sem, go_sem]) rfl
              · intro a u hbu hsu hdu
                refine Mono.if_want (Mono.want_at (c := false) rfl rfl (Mono.dep_at hdu (i := 11) (d := 91) rfl rfl rfl) rfl) ?_
                exact Mono.ok_move (.tmp 93) rfl (Mono.dep_at hdu (i := 13) (d := 93) rfl rfl rfl)
              · intro a u hbu hsu hdu
                refine Mono.if_no (Mono.want_no (c := false) rfl rfl (Mono.dep_at hdu (i := 14) (d := 94) rfl rfl rfl) rfl) ?_
                exact rfl
              · intro a u hbu hsu hdu
                refine Mono.if_no (Mono.want_no (c := false) rfl rfl (Mono.dep_at hdu (i := 14) (d := 94) rfl rfl rfl) rfl) ?_
                exact rfl
              · intro a u hbu hsu hdu
                refine Mono.if_no (Mono.want_no (c := false) rfl rfl (Mono.dep_at hdu (i := 14) (d := 94) rfl rfl rfl) rfl) ?_
                exact rfl
              · intro a u hbu hsu hdu
                refine Mono.if_no (Mono.want_no (c := false) rfl rfl (Mono.dep_at hdu (i := 14) (d := 94) rfl rfl rfl) rfl) ?_
                exact rfl
              · intro a u hbu hsu hdu
                refine Mono.if_no (Mono.want_no (c := false) rfl rfl (Mono.dep_at hdu (i := 14) (d := 94) rfl rfl rfl) rfl) ?_
                exact rfl
              · intro a u hbu hsu hdu
                refine Mono.if_no (Mono.want_no (c := false) rfl rfl (Mono.dep_at hdu (i := 14) (d := 94) rfl rfl rfl) rfl) ?_
                exact rfl
              · intro a u hbu hsu hdu
                refine Mono.if_no (Mono.want_no (c := false) rfl rfl (Mono.dep_at hdu (i := 14) (d := 94) rfl rfl rfl) rfl) ?_
                exact rfl
              · intro a u hbu hsu hdu
                refine Mono.if_no (Mono.want_no (c := false) rfl rfl (Mono.dep_at hdu (i := 14) (d := 94) rfl rfl rfl) rfl) ?_
                exact rfl
              · intro a u hbu hsu hdu
                refine Mono.if_want (Mono.want_at (c := false) rfl rfl (Mono.dep_at hdu (i := 11) (d := 91) rfl rfl rfl) rfl) ?_
                have z94 : a.eval (.tmp 94) = .bool false := Mono.dep_at hdu (i := 14) (d := 94) rfl rfl rfl
                simp [Act.eval] at z94
                have z102 : a.eval (.tmp 102) = undef := Mono.dep_at hdu (i := 22) (d := 102) rfl rfl rfl
                simp [Act.eval] at z102
                exact Mono.ok_val (.bool false) (by simp [execOp, z94, z102, go_sem, go_sem]) rfl
              · intro a u hbu hsu hdu
                refine Mono.if_want rfl ?_
                have z91 : a.eval (.tmp 91) = .bool false := Mono.dep_at hdu (i := 11) (d := 91) rfl rfl rfl
                simp [Act.eval] at z91
                have z103 : a.eval (.tmp 103) = .bool false := Mono.dep_at hdu (i := 23) (d := 103) rfl rfl rfl
                simp [Act.eval] at z103
                exact Mono.ok_val (.bool false) (by simp [execOp, z91, z103, go_sem, go_sem]) rfl
            intro u hu
            simp only [Mono.Fin]
            rintro _ rfl _ rfl _ rfl _ rfl _ rfl _ rfl _ rfl _ rfl _ rfl _ rfl _ rfl _ rfl _ rfl _ rfl _ rfl _ rfl _ rfl _ rfl _ rfl _ rfl _ rfl _ rfl _ rfl _ rfl _ rfl
            simp [Act.put]
            have hbA := hbY.trans (hu.mono hbYs)
            have hown2 := hown.below (hbR.trans (hu.mono hbR.size))
            have hbw2 := hbw.trans (hbA.mono hbw.size)
            have K1 : ([] : List Int).length + xs.length ≤ maxLen := by simp [maxLen]; rw [HXL.out]; omega
            have K2 : (([] : List Int).length + xs.length) * 1 ≤ 140737488355328 := by simp; rw [HXL.out]; omega
            have K4 : (List.replicate j (aO xs)).length + 1 ≤ maxLen := by simp [maxLen]; omega
            have K5 : ((List.replicate j (aO xs)).length + 1) * 40 ≤ 140737488355328 := by simp; omega
            have HRNu := Lib.hid (HRN.out.below hbw2)
            have TA := hbA.size
            have HO2 := Lib.hid hown2
            clear hown2 hown hu hbR hbYs hbY
            go_wp2_with (first
              | (refine wpl_empty rfl 32 5 rfl .u8 (fun _ => by kernel_rfl) ?_; go_must (intro y1 hown1 hb1 hs1; clear hs1; have hrd1 := HRNu.out.below hb1))
              | (at_builtin; have _t := hown1; clear _t; go_must (obtain ⟨i0, hi, hz0, hz1, hz2⟩ := info_parts Wire.info5; refine wpl_append rfl (.tmp 106) (.tmp 107) 32 rfl .u8 u.heap.size 5 1 i0 (.int .u8 0) Tryd.underlying32 hi hz0 hz1 hz2 rfl (.slice (some ⟨u.heap.size, 0, none⟩) 0 0) _ [] xs rfl rfl hown1 hrd1 K1 K2 (by have := hb1.size; omega) ?_; intro v4 y4 hv4 hg4; rw [List.nil_append] at hv4; clear hi hz0 hz1 hz2; obtain ⟨p4, c4, rfl, kk1, kk2, kk3, kk4⟩ := hv4.reads; have hb4 := hb1.grown hg4 hb1.size (fun q e => by have e' : u.heap.size = q := Option.some.inj e; omega); clear hown1 hrd1 hb1 kk1 kk2 kk3 kk4 hg4 K1 K2; have hd4 := hv4.reads; have hO4 := HO2.out.below hb4; have hap4 : Apart (.slice pl nl cl) (aO xs, .slice p4 xs.length c4) := (fun h0 q hq e => by obtain ⟨g', e1, _, e2, _⟩ := hv4.form h0; have h1 := (HO2.out.lt q hq).2; rw [show (aO xs, Value.slice p4 xs.length c4).2 = .slice p4 xs.length c4 from rfl, e1] at e; have e3 : g' = q := Option.some.inj e; omega)))
              | (obtain ⟨i41, z41, i1, i2, i3, i4, i5⟩ := info41; refine wpl_push 23 35 40 110 (.tmp 109) (.tmp 105) rfl rfl rfl rfl rfl (aO xs) (.slice p4 xs.length c4) rfl (Avp.build22 _ _) wX.heap.size i41 z41 Tryd.underlying23 i1 i2 i3 i4 i5 (.slice pl nl cl) (List.replicate j (aO xs)) (fun _ => rfl) (fun _ => rfl) hO4 hd4 hap4 K4 K5 (by have := hb4.size; omega) ?_; go_must (clear i1 i2 i3 i4 i5; intro v6 y6 hv6 hg6; have hbl6 := (hbA.trans (hb4.mono (by omega))).grown hg6 (by have := hb4.size; omega) (fun q e => (hO4.lt q e).1); clear hO4 hd4 hap4 hg6 hb4)))
            go_roundw
            case rel => exact ⟨j + 1, by go_num, by omega, by rw [List.replicate_succ']; exact hv6, hbl6⟩
            case measure => simp [intOf]; omega
          · obtain rfl : j = k + 1 := by omega
            have HV := VM
            go_wp2_with (first
              | (go_at_call 11; go_must (refine PO.out.mono ?_; rintro e y0 ⟨vo, rfl, hvo, hb0⟩; clear PO))
              | (go_at_call 10; go_must (refine (PJ.out _ _ y0 (k + 1) (reads_one_rule (hatW.ext hb0)) hvo.reads).mono ?_; rintro e y2 ⟨v', e2, hfl, hb2⟩; rw [HV.out] at e2 hfl; obtain rfl := e2; obtain ⟨gF, d, rfl, hgF, hatF, hrowF⟩ := hfl; have hbR := hb0.trans (hb2.mono hb0.size); clear hvo hb0 hb2)))
            have hbY := hbl.trans (hbR.mono hbl.size)
            have hbYs := hbY.size
            obtain ⟨pd, cd, rfl, _, _, _, _⟩ := hrowF.reads
            have HD2 := Lib.hid (show Reads .u8 y2 (.slice pd l cd) xs by have : Reads .u8 y2 (.slice pd xs.length cd) xs := hrowF.reads; rwa [HXL.out] at this)
            have hatF' : At y2 gF 35 (row (aO xs) (.slice pd xs.length cd)).toArray := hatF
            rw [HXL.out] at hatF'
            clear hatF hrowF
            have hatF := hatF'
            have hbwy := hbw.trans (hbY.mono hbw.size)
            refine Mono.wp_region_mono [some 80, some 81, some 82, some 83, some 84, some 85, some 86, some 87, some 88, some 89, some 90, some 91, some 92, some 93, some 94, some 95, some 96, some 97, some 98, some 99, some 100, some 101, some 102, some 103, some 104] [Mono.isV (.int .i64 5009), Mono.isV (.bool false), Mono.isV (.bool false), Mono.isV (undef), Mono.isV (undef), Mono.isV (undef), Mono.isV (undef), Mono.isV (undef), Mono.isV (undef), Mono.isV (undef), Mono.isV (.bool false), Mono.isV (.bool false), Mono.isV (.int .i64 5009), Mono.isV (.bool true), Mono.isV (.bool true), Mono.isV (.slice (some ⟨gF, 0, none⟩) 1 1), Mono.isV (.pointer (some ⟨gF, 0, none⟩)), Mono.isV (.pointer (some ⟨gF, 4, none⟩)), Mono.isV (.slice pd l cd), Mono.isV (.string (strOfNums xs)), Mono.isV (.slice p l c), Mono.isV (.string (strOfNums xs)), Mono.isV (.bool false), Mono.isV (.bool false), Mono.isV (.bool false)] (by kernel_rfl) (by kernel_rfl) ?_ ?_
            · simp only [Mono.OpGoals, and_true]
              refine ⟨?_, ?_, ?_, ?_, ?_, ?_, ?_, ?_, ?_, ?_, ?_, ?_, ?_, ?_, ?_, ?_, ?_, ?_, ?_, ?_, ?_, ?_, ?_, ?_, ?_⟩
              · intro a u hbu hsu hdu
                have q4 := (hatF.ext hbu).cell 4; simp [row] at q4
                refine Mono.if_want rfl ?_
                exact Mono.ok_move (.tmp 17) rfl (hsu 17 (by decide))
              · intro a u hbu hsu hdu
                have q4 := (hatF.ext hbu).cell 4; simp [row] at q4
                refine Mono.if_want rfl ?_
                have z80 : a.eval (.tmp 80) = .int .i64 5009 := Mono.dep_at hdu (i := 0) (d := 80) rfl rfl rfl
                simp [Act.eval] at z80
                exact Mono.ok_val (.bool false) (by simp [execOp, z80, go_sem, q4]) rfl
              · intro a u hbu hsu hdu
                have q4 := (hatF.ext hbu).cell 4; simp [row] at q4
                refine Mono.if_want rfl ?_
                exact Mono.ok_move (.tmp 81) rfl (Mono.dep_at hdu (i := 1) (d := 81) rfl rfl rfl)
              · intro a u hbu hsu hdu
                have q4 := (hatF.ext hbu).cell 4; simp [row] at q4
                refine Mono.if_no (Mono.want_no (c := false) rfl rfl (Mono.dep_at hdu (i := 2) (d := 82) rfl rfl rfl) rfl) ?_
                exact rfl
              · intro a u hbu hsu hdu
                have q4 := (hatF.ext hbu).cell 4; simp [row] at q4
                refine Mono.if_no (Mono.want_no (c := false) rfl rfl (Mono.dep_at hdu (i := 2) (d := 82) rfl rfl rfl) rfl) ?_
                exact rfl
              · intro a u hbu hsu hdu
                have q4 := (hatF.ext hbu).cell 4; simp [row] at q4
                refine Mono.if_no (Mono.want_no (c := false) rfl rfl (Mono.dep_at hdu (i := 2) (d := 82) rfl rfl rfl) rfl) ?_
                exact rfl
              · intro a u hbu hsu hdu
                have q4 := (hatF.ext hbu).cell 4; simp [row] at q4
                refine Mono.if_no (Mono.want_no (c := false) rfl rfl (Mono.dep_at hdu (i := 2) (d := 82) rfl rfl rfl) rfl) ?_
                exact rfl
              · intro a u hbu hsu hdu
                have q4 := (hatF.ext hbu).cell 4; simp [row] at q4
                refine Mono.if_no (Mono.want_no (c := false) rfl rfl (Mono.dep_at hdu (i := 2) (d := 82) rfl rfl rfl) rfl) ?_
                exact rfl
              · intro a u hbu hsu hdu
                have q4 := (hatF.ext hbu).cell 4; simp [row] at q4
                refine Mono.if_no (Mono.want_no (c := false) rfl rfl (Mono.dep_at hdu (i := 2) (d := 82) rfl rfl rfl) rfl) ?_
                exact rfl
              · intro a u hbu hsu hdu
                have q4 := (hatF.ext hbu).cell 4; simp [row] at q4
                refine Mono.if_no (Mono.want_no (c := false) rfl rfl (Mono.dep_at hdu (i := 2) (d := 82) rfl rfl rfl) rfl) ?_
                exact rfl
              · intro a u hbu hsu hdu
                have q4 := (hatF.ext hbu).cell 4; simp [row] at q4
                refine Mono.if_want rfl ?_
                have z82 : a.eval (.tmp 82) = .bool false := Mono.dep_at hdu (i := 2) (d := 82) rfl rfl rfl
                simp [Act.eval] at z82
                have z89 : a.eval (.tmp 89) = undef := Mono.dep_at hdu (i := 9) (d := 89) rfl rfl rfl
                simp [Act.eval] at z89
                exact Mono.ok_val (.bool false) (by simp [execOp, z82, z89, go_sem, q4]) rfl
              · intro a u hbu hsu hdu
                have q4 := (hatF.ext hbu).cell 4; simp [row] at q4
                refine Mono.if_want rfl ?_
                exact Mono.ok_move (.tmp 90) rfl (Mono.dep_at hdu (i := 10) (d := 90) rfl rfl rfl)
              · intro a u hbu hsu hdu
                have q4 := (hatF.ext hbu).cell 4; simp [row] at q4
                refine Mono.if_want (Mono.want_at (c := false) rfl rfl (Mono.dep_at hdu (i := 11) (d := 91) rfl rfl rfl) rfl) ?_
                exact Mono.ok_move (.tmp 17) rfl (hsu 17 (by decide))
              · intro a u hbu hsu hdu
                have q4 := (hatF.ext hbu).cell 4; simp [row] at q4
                refine Mono.if_want (Mono.want_at (c := false) rfl rfl (Mono.dep_at hdu (i := 11) (d := 91) rfl rfl rfl) rfl) ?_
                have z92 : a.eval (.tmp 92) = .int .i64 5009 := Mono.dep_at hdu (i := 12) (d := 92) rfl rfl rfl
                simp [Act.eval] at z92
                exact Mono.ok_val (.bool true) (by simp [execOp, z92, go_sem, q4]) rfl
              · intro a u hbu hsu hdu
                have q4 := (hatF.ext hbu).cell 4; simp [row] at q4
                refine Mono.if_want (Mono.want_at (c := false) rfl rfl (Mono.dep_at hdu (i := 11) (d := 91) rfl rfl rfl) rfl) ?_
                exact Mono.ok_move (.tmp 93) rfl (Mono.dep_at hdu (i := 13) (d := 93) rfl rfl rfl)
              · intro a u hbu hsu hdu
                have q4 := (hatF.ext hbu).cell 4; simp [row] at q4
                refine Mono.if_want (Mono.want_at (c := true) rfl rfl (Mono.dep_at hdu (i := 14) (d := 94) rfl rfl rfl) rfl) ?_
                exact Mono.ok_move (.tmp 15) rfl (hsu 15 (by decide))
              · intro a u hbu hsu hdu
                have q4 := (hatF.ext hbu).cell 4; simp [row] at q4
                refine Mono.if_want (Mono.want_at (c := true) rfl rfl (Mono.dep_at hdu (i := 14) (d := 94) rfl rfl rfl) rfl) ?_
                have z95 : a.eval (.tmp 95) = .slice (some ⟨gF, 0, none⟩) 1 1 := Mono.dep_at hdu (i := 15) (d := 95) rfl rfl rfl
                simp [Act.eval] at z95
                exact Mono.ok_val (.pointer (some ⟨gF, 0, none⟩)) (by simp [execOp, z95, go_sem, q4]) rfl
              · intro a u hbu hsu hdu
                have q4 := (hatF.ext hbu).cell 4; simp [row] at q4
                refine Mono.if_want (Mono.want_at (c := true) rfl rfl (Mono.dep_at hdu (i := 14) (d := 94) rfl rfl rfl) rfl) ?_
                have z96 : a.eval (.tmp 96) = .pointer (some ⟨gF, 0, none⟩) := Mono.dep_at hdu (i := 16) (d := 96) rfl rfl rfl
                simp [Act.eval] at z96
                exact Mono.ok_val (.pointer (some ⟨gF, 4, none⟩)) (by simp [execOp, z96, go_sem, q4]) rfl
              · intro a u hbu hsu hdu
                have q4 := (hatF.ext hbu).cell 4; simp [row] at q4
                refine Mono.if_want (Mono.want_at (c := true) rfl rfl (Mono.dep_at hdu (i := 14) (d := 94) rfl rfl rfl) rfl) ?_
                have z97 : a.eval (.tmp 97) = .pointer (some ⟨gF, 4, none⟩) := Mono.dep_at hdu (i := 17) (d := 97) rfl rfl rfl
                simp [Act.eval] at z97
                exact Mono.ok_val (.slice pd l cd) (by simp [execOp, z97, go_sem, q4]) rfl
              · intro a u hbu hsu hdu
                have q4 := (hatF.ext hbu).cell 4; simp [row] at q4
                refine Mono.if_want (Mono.want_at (c := true) rfl rfl (Mono.dep_at hdu (i := 14) (d := 94) rfl rfl rfl) rfl) ?_
                have z98 : a.eval (.tmp 98) = .slice pd l cd := Mono.dep_at hdu (i := 18) (d := 98) rfl rfl rfl
                exact Mono.ok_conv 32 9 (.tmp 98) rfl _ (by rw [z98]; exact Avp.string23 (HD2.out.below hbu)) rfl
              · intro a u hbu hsu hdu
                have q4 := (hatF.ext hbu).cell 4; simp [row] at q4
                refine Mono.if_want (Mono.want_at (c := true) rfl rfl (Mono.dep_at hdu (i := 14) (d := 94) rfl rfl rfl) rfl) ?_
                exact Mono.ok_move (.tmp 3) rfl (hsu 3 (by decide))
              · intro a u hbu hsu hdu
                have q4 := (hatF.ext hbu).cell 4; simp [row] at q4
                refine Mono.if_want (Mono.want_at (c := true) rfl rfl (Mono.dep_at hdu (i := 14) (d := 94) rfl rfl rfl) rfl) ?_
                have z100 : a.eval (.tmp 100) = .slice p l c := Mono.dep_at hdu (i := 20) (d := 100) rfl rfl rfl
                exact Mono.ok_conv 32 9 (.tmp 100) rfl _ (by rw [z100]; exact Avp.string23 (HRN.out.below (hbwy.trans (hbu.mono hbwy.size)))) rfl
              · intro a u hbu hsu hdu
                have q4 := (hatF.ext hbu).cell 4; simp [row] at q4
                refine Mono.if_want (Mono.want_at (c := true) rfl rfl (Mono.dep_at hdu (i := 14) (d := 94) rfl rfl rfl) rfl) ?_
                have z99 : a.eval (.tmp 99) = .string (strOfNums xs) := Mono.dep_at hdu (i := 19) (d := 99) rfl rfl rfl
                simp [Act.eval] at z99
                have z101 : a.eval (.tmp 101) = .string (strOfNums xs) := Mono.dep_at hdu (i := 21) (d := 101) rfl rfl rfl
                simp [Act.eval] at z101
                exact Mono.ok_val (.bool false) (by simp [execOp, z99, z101, go_sem, q4]) rfl
              · intro a u hbu hsu hdu
                have q4 := (hatF.ext hbu).cell 4; simp [row] at q4
                refine Mono.if_want (Mono.want_at (c := false) rfl rfl (Mono.dep_at hdu (i := 11) (d := 91) rfl rfl rfl) rfl) ?_
                have z94 : a.eval (.tmp 94) = .bool true := Mono.dep_at hdu (i := 14) (d := 94) rfl rfl rfl
                simp [Act.eval] at z94
                have z102 : a.eval (.tmp 102) = .bool false := Mono.dep_at hdu (i := 22) (d := 102) rfl rfl rfl
                simp [Act.eval] at z102
                exact Mono.ok_val (.bool false) (by simp [execOp, z94, z102, go_sem, q4]) rfl
              · intro a u hbu hsu hdu
                have q4 := (hatF.ext hbu).cell 4; simp [row] at q4
                refine Mono.if_want rfl ?_
                have z91 : a.eval (.tmp 91) = .bool false := Mono.dep_at hdu (i := 11) (d := 91) rfl rfl rfl
                simp [Act.eval] at z91
                have z103 : a.eval (.tmp 103) = .bool false := Mono.dep_at hdu (i := 23) (d := 103) rfl rfl rfl
                simp [Act.eval] at z103
                exact Mono.ok_val (.bool false) (by simp [execOp, z91, z103, go_sem, q4]) rfl
            intro u hu
            simp only [Mono.Fin]
            rintro _ rfl _ rfl _ rfl _ rfl _ rfl _ rfl _ rfl _ rfl _ rfl _ rfl _ rfl _ rfl _ rfl _ rfl _ rfl _ rfl _ rfl _ rfl _ rfl _ rfl _ rfl _ rfl _ rfl _ rfl _ rfl
            simp [Act.put]
            have hbA := hbY.trans (hu.mono hbYs)
            have hown2 := hown.below (hbR.trans (hu.mono hbR.size))
            have hbw2 := hbw.trans (hbA.mono hbw.size)
            have K1 : ([] : List Int).length + xs.length ≤ maxLen := by simp [maxLen]; rw [HXL.out]; omega
            have K2 : (([] : List Int).length + xs.length) * 1 ≤ 140737488355328 := by simp; rw [HXL.out]; omega
            have K4 : (List.replicate (k + 1) (aO xs)).length + 1 ≤ maxLen := by simp [maxLen]; omega
            have K5 : ((List.replicate (k + 1) (aO xs)).length + 1) * 40 ≤ 140737488355328 := by simp; omega
            have HRNu := Lib.hid (HRN.out.below hbw2)
            have TA := hbA.size
            have HO2 := Lib.hid hown2
            clear hown2 hown hu hbR hbYs hbY
            go_wp2_with (first
              | (refine wpl_empty rfl 32 5 rfl .u8 (fun _ => by kernel_rfl) ?_; go_must (intro y1 hown1 hb1 hs1; clear hs1; have hrd1 := HRNu.out.below hb1))
              | (at_builtin; have _t := hown1; clear _t; go_must (obtain ⟨i0, hi, hz0, hz1, hz2⟩ := info_parts Wire.info5; refine wpl_append rfl (.tmp 106) (.tmp 107) 32 rfl .u8 u.heap.size 5 1 i0 (.int .u8 0) Tryd.underlying32 hi hz0 hz1 hz2 rfl (.slice (some ⟨u.heap.size, 0, none⟩) 0 0) _ [] xs rfl rfl hown1 hrd1 K1 K2 (by have := hb1.size; omega) ?_; intro v4 y4 hv4 hg4; rw [List.nil_append] at hv4; clear hi hz0 hz1 hz2; obtain ⟨p4, c4, rfl, kk1, kk2, kk3, kk4⟩ := hv4.reads; have hb4 := hb1.grown hg4 hb1.size (fun q e => by have e' : u.heap.size = q := Option.some.inj e; omega); clear hown1 hrd1 hb1 kk1 kk2 kk3 kk4 hg4 K1 K2; have hd4 := hv4.reads; have hO4 := HO2.out.below hb4; have hap4 : Apart (.slice pl nl cl) (aO xs, .slice p4 xs.length c4) := (fun h0 q hq e => by obtain ⟨g', e1, _, e2, _⟩ := hv4.form h0; have h1 := (HO2.out.lt q hq).2; rw [show (aO xs, Value.slice p4 xs.length c4).2 = .slice p4 xs.length c4 from rfl, e1] at e; have e3 : g' = q := Option.some.inj e; omega)))
              | (obtain ⟨i41, z41, i1, i2, i3, i4, i5⟩ := info41; refine wpl_push 23 35 40 110 (.tmp 109) (.tmp 105) rfl rfl rfl rfl rfl (aO xs) (.slice p4 xs.length c4) rfl (Avp.build22 _ _) wX.heap.size i41 z41 Tryd.underlying23 i1 i2 i3 i4 i5 (.slice pl nl cl) (List.replicate (k + 1) (aO xs)) (fun _ => rfl) (fun _ => rfl) hO4 hd4 hap4 K4 K5 (by have := hb4.size; omega) ?_; go_must (clear i1 i2 i3 i4 i5; intro v6 y6 hv6 hg6; have hbl6 := (hbA.trans (hb4.mono (by omega))).grown hg6 (by have := hb4.size; omega) (fun q e => (hO4.lt q e).1); clear hO4 hd4 hap4 hg6 hb4)))
            go_roundw
            case rel => exact ⟨k + 1 + 1, by go_num, by omega, by rw [List.replicate_succ']; exact hv6, hbl6⟩
            case measure => simp [intOf]; omega
      · go_wp2_with fail
        go_ret
        exact ⟨rfl, hbw.trans (hbl.mono hbw.size)⟩
end Go.Proofs.YtjfmahodbdianaaDoor.Dict
