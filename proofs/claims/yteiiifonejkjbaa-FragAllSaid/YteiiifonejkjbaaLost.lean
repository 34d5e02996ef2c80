/-
  FragLost (5): the walk.
-/
import Derived.Test.YteiiifonejkjbaaLost0
import Derived.Test.YteiiifonejkjbaaNil
namespace Go.Proofs.Yteiiifonejkjbaa.Bx
open Go.RowKit Mem Cells Ops Pcs Go.Maps Go.Proofs.Yteiiifonejkjbaa.Open
set_option linter.unusedVariables false
set_option linter.unusedSimpArgs false
attribute [local go_sem] Oper.semAt_some

theorem wrapI64 (x : Int) (h1 : -9223372036854775808 ≤ x) (h2 : x ≤ 9223372036854775807) : IntKind.i64.wrap x = x := by
  simp [IntKind.wrap, IntKind.bits, IntKind.signed]
  omega
theorem wrapU8 (x : Int) (h1 : 0 ≤ x) (h2 : x ≤ 255) : IntKind.u8.wrap x = x := by
  simp [IntKind.wrap, IntKind.bits, IntKind.signed]
  omega
theorem pc_ok (i : Nat) (h : i < 100) : (pc i).ok := by
  refine ⟨by simp [pc]; omega, by simp [pc], by simp [pc]; omega, ?_⟩
  intro z hz
  simp [pc] at hz
  omega
theorem pO_ok (xs : List Int) (h : bytesOk xs) : (pO xs).ok := ⟨by simp [pO], by simp [pO], by simp [pO], h⟩
theorem build1 (a : Int) (u : World) : (Instr.buildSlice 30 1 #[(0, .int .u8 a)]).run Try.prog u = .ok (.slice (some ⟨u.heap.size, 0, none⟩) 1 1) (u.alloc (.cells #[.int .u8 a] 5)) := by kernel_rfl
theorem stL_wait (gone i : Nat) : (stL gone i).wait = if i ≤ gone then [] else wl gone i := by
  unfold stL
  split <;> rfl
set_option maxRecDepth 100000 in
set_option maxHeartbeats 8000000 in
theorem lost_ (w : World) (n lo : Int) (v : Value) (xs : List Int) (hr : Reads .u8 w v xs) (hb : xs.length ≤ 140737488355328) (hn : 0 ≤ n ∧ n ≤ 255) (hl : 0 ≤ lo ∧ lo ≤ 255) (hbk : bytesOk xs) :
    Calls Try.prog 5 #[.int .u8 n, .int .u8 lo, v] w (Chunk.TrueB w) := by
  obtain ⟨W0, hW0⟩ : ∃ W0, w = W0 := ⟨w, rfl⟩
  rw [hW0] at hr ⊢
  clear hW0
  obtain ⟨p, cp, hv, hc1, hc2, _⟩ := id hr
  obtain ⟨L, hL⟩ : ∃ L, xs.length = L := ⟨_, rfl⟩
  rw [hL] at hv
  subst hv
  have HL := Lib.hid hL
  have HR := Lib.hid hr
  have HBB := Lib.hid hb
  have HBK := Lib.hid hbk
  clear hL hr hb hbk
  go_enter Try.func5, Try.ntmps5
  go_upto_region 3 with fail
  obtain ⟨k, hk⟩ : ∃ k : Nat, n % 10 + 1 = (k : Int) := ⟨(n % 10 + 1).toNat, by omega⟩
  have hk1 : 0 < k := by omega
  have hk2 : k ≤ 10 := by omega
  rw [hk]
  obtain ⟨gone, hgo⟩ : ∃ gone : Nat, lo % (k : Int) = (gone : Int) := ⟨(lo % (k : Int)).toNat, by have := Int.emod_nonneg lo (show (k : Int) ≠ 0 by omega); omega⟩
  have hg : gone < k := by have := Int.emod_lt_of_pos lo (show (0 : Int) < (k : Int) by omega); omega
  rw [hgo]
  clear hk hgo hc1 hc2
  go_upto_region 8 with (first
    | (go_at_call 15; go_must (refine (newBox 0 _).mono ?_; rintro e w1 ⟨g, b1, b2, rfl, hbx, hb1, hg1, hg2, hg3⟩; have HBX1 := Lib.hid hbx; have HB1 := Lib.hid hb1; have HG := Lib.hid (And.intro hg1 (And.intro hg2 hg3)); clear hbx hb1 hg1 hg2 hg3))
    | (go_at_call 14; go_must (refine (Chunk.answers _).mono ?_; rintro e w2 ⟨rfl, hb2⟩; have HBX2 := Lib.hid (HBX1.out.below hb2); have HB2 := Lib.hid (HB1.out.trans (hb2.mono HB1.out.size)); clear hb2)))
  have HBXK := Lib.hid (fun k (h : BX g b1 b2 k) => show W0.heap.size ≤ k by have h1 := HG.out; rcases h with rfl | rfl | rfl; exact h1.1; exact h1.2.1; exact h1.2.2)
  have hgz : (gone : Int) < 10 := by omega
  have hkz : (k : Int) ≤ 10 := by omega
  go_loopw [10, 11] (fun v10 v11 wr => ∃ (i t : Nat), v10 = .int .i64 (t : Int) ∧ v11 = .int .i64 (i : Int) ∧ Hid (i ≤ k ∧ t = min i gone) ∧ Hid (Box 0 wr g b1 b2 (stL gone i)) ∧ Hid (Below W0.heap.size W0 wr)) (fun _ v11 _ => k - (intOf v11).toNat)
  case atStart => exact ⟨0, 0, rfl, rfl, ⟨Nat.zero_le _, by omega⟩, by rw [stL_start]; exact HBX2.out, HB2.out⟩
  case round =>
    clear HBX1 HB1 HBX2 HB2
    obtain ⟨i, t, rfl, rfl, HI, HBXR, HBL⟩ := hrel
    have hti : (t : Int) ≤ 10 := by have := HI.out; omega
    by_cases hlt : i < k
    · have hltz : (i : Int) < (k : Int) := by omega
      have hltb : decide ((i : Int) < (k : Int)) = true := decide_eq_true hltz
      by_cases hig : i = gone
      · have hieq : ((i : Int) == (gone : Int)) = true := by rw [hig]; simp
        have HIG := Lib.hid hig
        clear hig
        go_wp2_with fail
        go_roundw
        case rel => exact ⟨i + 1, t, rfl, by go_num, ⟨by omega, by have := HI.out; have := HIG.out; omega⟩, by have h1 := HBXR.out; rw [HIG.out, stL_skip, ← HIG.out] at h1; rw [← HIG.out]; exact h1, HBL.out⟩
        case measure => simp [intOf]; omega
      · have hieq : ((i : Int) == (gone : Int)) = false := by simp; omega
        have PP := Lib.hid (show Calls Try.prog 16 #[.pointer (some ⟨g, 0, none⟩), .agg #[.int .u32 i, .int .u16 0, .int .u16 i, .bool true, .bool true, .bool false, .slice (some ⟨wr.heap.size, 0, none⟩) 1 1]] (wr.alloc (.cells #[.int .u8 i] 5)) _ from
          put (HBXR.out.below ((Below.refl _ _).alloc (Nat.le_refl _) _)) (pc i) (.slice (some ⟨wr.heap.size, 0, none⟩) 1 1) (Reads.one .u8 wr i 5) (pc_ok i (by omega)) (by rw [stL_wait]; split <;> simp [wl] <;> omega) (by omega))
        have hba := (Below.refl wr.heap.size wr).alloc (Nat.le_refl _) (.cells #[.int .u8 i] 5)
        have HBA := Lib.hid (HBL.out.trans (hba.mono HBL.out.size))
        clear hba
        by_cases hlg : i < gone
        · have hp := lost_a gone i hlg (by omega)
          have HP := Lib.hid hp
          clear hp hig
          go_wp2_with (go_at_call 16; go_must (refine PP.out.mono ?_; rintro e w3 ⟨v3, he3, hv3, hbx3, hb3⟩; rw [HP.out] at he3 hv3 hbx3; subst he3; have HBX3 := Lib.hid hbx3; have HB3 := Lib.hid (HBA.out.trans (hb3.below (B := W0.heap.size) HBXK.out HBA.out.size)); obtain ⟨p3, c3, hvv, _⟩ := hv3.shape; subst hvv; clear hv3 hbx3 hb3 PP))
          go_roundw
          case rel => exact ⟨i + 1, t + 1, by go_num, by go_num, ⟨by omega, by have := HI.out; omega⟩, HBX3.out, HB3.out⟩
          case measure => simp [intOf]; omega
        · have hp := lost_b gone i (by omega) (by omega)
          have HP := Lib.hid hp
          have HNI := Lib.hid (And.intro hig hlg)
          clear hp hig hlg
          go_wp2_with (go_at_call 16; go_must (refine PP.out.mono ?_; rintro e w3 ⟨v3, he3, hv3, hbx3, hb3⟩; rw [HP.out] at he3 hv3 hbx3; subst he3; have HBX3 := Lib.hid hbx3; have HB3 := Lib.hid (HBA.out.trans (hb3.below (B := W0.heap.size) HBXK.out HBA.out.size)); obtain ⟨p3, c3, hvv, _⟩ := hv3.shape; subst hvv; clear hv3 hbx3 hb3 PP))
          go_roundw
          case rel => exact ⟨i + 1, t, by go_num, by go_num, ⟨by omega, by have := HI.out; have := HNI.out; omega⟩, HBX3.out, HB3.out⟩
          case measure => simp [intOf]; omega
    · have hltz : ¬ (i : Int) < (k : Int) := by omega
      have hltb : decide ((i : Int) < (k : Int)) = false := decide_eq_false hltz
      have htg : t = gone := by have := HI.out; omega
      subst htg
      have hik : i = k := by have := HI.out; omega
      rw [hik] at HBXR
      clear hik
      have hL0 : (0 : Int) ≤ (L : Int) := by omega
      have hLm : (L : Int) ≤ 140737488355328 := by have := HBB.out; rw [HL.out] at this; omega
      by_cases hl0 : 0 < L
      · have l0z : (0 : Int) < (L : Int) := by omega
        have l0b : decide ((0 : Int) < (L : Int)) = true := decide_eq_true l0z
        by_cases hl2 : L ≤ 256
        · have l2z : (L : Int) ≤ 256 := by omega
          have l2b : decide ((L : Int) ≤ 256) = true := decide_eq_true l2z
          have hp := lost_o t k hg xs (by rw [HL.out]; exact hl0) (by rw [HL.out]; exact hl2)
          have HP := Lib.hid hp
          clear hp
          go_upto_region 19 with (first
            | ((with_reducible refine wpl_empty rfl 30 5 rfl .u8 (fun _ => by kernel_rfl) ?_); go_must (intro w5 hown5 hb5 hs5; have HO5 := Lib.hid hown5; have HBX5 := Lib.hid (HBXR.out.below hb5); have HB5 := Lib.hid (HBL.out.trans (hb5.mono HBL.out.size)); have HS5 := Lib.hid hb5.size; have HBW5 := Lib.hid hb5; clear hown5 hb5 hs5))
            | (at_builtin; have _t := HO5; clear _t; go_must (obtain ⟨i0, hi, hz0, hz1, hz2⟩ := info_parts Chunk.info5; refine wpl_append rfl (.tmp 74) (.tmp 75) 30 rfl .u8 wr.heap.size 5 1 i0 (.int .u8 0) Try.underlying30 hi hz0 hz1 hz2 rfl (.slice (some ⟨wr.heap.size, 0, none⟩) 0 0) _ [] xs rfl rfl HO5.out (HL.out ▸ HR.out.below HB5.out) (by rw [HL.out]; simp [maxLen]; omega) (by rw [HL.out]; simp; omega) HS5.out ?_; clear hi hz0 hz1 hz2; intro v6 w6 hv6 hg6; rw [List.nil_append] at hv6; have HBX6 := Lib.hid (HBXR.out.below (HBW5.out.grown hg6 HBW5.out.size (fun q e => by cases e; exact Nat.le_refl _))); have HV6 := Lib.hid hv6; have HB6 := Lib.hid (HB5.out.grown hg6 HB5.out.size (fun q e => by cases e; exact HBL.out.size)); obtain ⟨p6, c6, hvv, _⟩ := id hv6.reads; rw [HL.out] at hvv; subst hvv; have PO := Lib.hid (show Calls Try.prog 16 #[.pointer (some ⟨g, 0, none⟩), .agg #[.int .u32 500, .int .u16 1, .int .u16 0, .bool true, .bool true, .bool false, .slice p6 L c6]] w6 _ from put HBX6.out (pO xs) (.slice p6 L c6) (by have := hv6.reads; exact this) (pO_ok xs HBK.out) (by rw [stL_wait]; split <;> simp [wl] <;> omega) (by omega)); clear hv6 hg6 HO5))
            | (go_at_call 16; go_must (refine PO.out.mono ?_; rintro e w7 ⟨v7, he7, hv7, hbx7, hb7⟩; rw [HP.out] at he7 hv7 hbx7; subst he7; have HBX7 := Lib.hid hbx7; have HB7 := Lib.hid (HB6.out.trans (hb7.below (B := W0.heap.size) HBXK.out HB6.out.size)); have HV7 := Lib.hid hv7; clear hv7 hbx7 hb7 PO)))
          obtain ⟨gl, cl, hvv, _, _, _, hgl⟩ := HV7.out.block (by simp)
          subst hvv
          obtain ⟨pm, cm, hra, hrow⟩ := HV7.out.elem 0 _ rfl
          rw [show (⟨1, xs⟩ : G).data.length = L from HL.out] at hra hrow
          have HCE := Lib.hid (show w7.cell? ⟨gl, 1, none⟩ = some (.slice pm L cm) from hra 1 _ rfl)
          have HRO := Lib.hid hrow
          have HGL := Lib.hid hgl
          simp only [List.length_singleton]
          clear hra hrow hgl HV7
          refine Mono.wp_region_mono [some 81, some 82, some 83, some 84, some 85, some 86, some 87, some 88, some 89, some 90, some 91, some 92, some 93, some 94, some 95, some 96, some 97] [Mono.isV (.int .i64 0), Mono.isV (.bool false), Mono.isV (.bool false), Mono.isV (.slice (some ⟨gl, 0, none⟩) 1 cl), Mono.isV (.int .i64 1), Mono.isV (.bool false), Mono.isV (.bool false), Mono.isV (.bool false), Mono.isV (.slice (some ⟨gl, 0, none⟩) 1 cl), Mono.isV (.pointer (some ⟨gl, 0, none⟩)), Mono.isV (.pointer (some ⟨gl, 1, none⟩)), Mono.isV (.slice pm L cm), Mono.isV (.string (strOfNums xs)), Mono.isV (.slice p L cp), Mono.isV (.string (strOfNums xs)), Mono.isV (.bool false), Mono.isV (.bool false)] (by kernel_rfl) (by kernel_rfl) ?_ ?_
          · simp only [Mono.OpGoals, and_true]
            refine ⟨?_, ?_, ?_, ?_, ?_, ?_, ?_, ?_, ?_, ?_, ?_, ?_, ?_, ?_, ?_, ?_, ?_⟩
            · intro a u hbu hsu hdu
              have c1 := (hbu.cell (p := ⟨gl, 1, none⟩) HGL.out).trans HCE.out
              refine Mono.if_want rfl ?_
              exact Mono.ok_move (.tmp 15) rfl (hsu 15 (by decide))
            · intro a u hbu hsu hdu
              have c1 := (hbu.cell (p := ⟨gl, 1, none⟩) HGL.out).trans HCE.out
              refine Mono.if_want rfl ?_
              have z81 : a.eval (.tmp 81) = .int .i64 0 := Mono.dep_at hdu (i := 0) (d := 81) rfl rfl rfl
              simp [Act.eval] at z81
              exact Mono.ok_val (.bool false) (by simp [execOp, z81, go_sem, c1]) rfl
            · intro a u hbu hsu hdu
              have c1 := (hbu.cell (p := ⟨gl, 1, none⟩) HGL.out).trans HCE.out
              refine Mono.if_want rfl ?_
              exact Mono.ok_move (.tmp 82) rfl (Mono.dep_at hdu (i := 1) (d := 82) rfl rfl rfl)
            · intro a u hbu hsu hdu
              have c1 := (hbu.cell (p := ⟨gl, 1, none⟩) HGL.out).trans HCE.out
              refine Mono.if_want (Mono.want_at (c := false) rfl rfl (Mono.dep_at hdu (i := 2) (d := 83) rfl rfl rfl) rfl) ?_
              exact Mono.ok_move (.tmp 14) rfl (hsu 14 (by decide))
            · intro a u hbu hsu hdu
              have c1 := (hbu.cell (p := ⟨gl, 1, none⟩) HGL.out).trans HCE.out
              refine Mono.if_want (Mono.want_at (c := false) rfl rfl (Mono.dep_at hdu (i := 2) (d := 83) rfl rfl rfl) rfl) ?_
              have z84 : a.eval (.tmp 84) = .slice (some ⟨gl, 0, none⟩) 1 cl := Mono.dep_at hdu (i := 3) (d := 84) rfl rfl rfl
              simp [Act.eval] at z84
              exact Mono.ok_val (.int .i64 1) (by simp [execOp, z84, go_sem, c1]) rfl
            · intro a u hbu hsu hdu
              have c1 := (hbu.cell (p := ⟨gl, 1, none⟩) HGL.out).trans HCE.out
              refine Mono.if_want (Mono.want_at (c := false) rfl rfl (Mono.dep_at hdu (i := 2) (d := 83) rfl rfl rfl) rfl) ?_
              have z85 : a.eval (.tmp 85) = .int .i64 1 := Mono.dep_at hdu (i := 4) (d := 85) rfl rfl rfl
              simp [Act.eval] at z85
              exact Mono.ok_val (.bool false) (by simp [execOp, z85, go_sem, c1]) rfl
            · intro a u hbu hsu hdu
              have c1 := (hbu.cell (p := ⟨gl, 1, none⟩) HGL.out).trans HCE.out
              refine Mono.if_want rfl ?_
              have z83 : a.eval (.tmp 83) = .bool false := Mono.dep_at hdu (i := 2) (d := 83) rfl rfl rfl
              simp [Act.eval] at z83
              have z86 : a.eval (.tmp 86) = .bool false := Mono.dep_at hdu (i := 5) (d := 86) rfl rfl rfl
              simp [Act.eval] at z86
              exact Mono.ok_val (.bool false) (by simp [execOp, z83, z86, go_sem, c1]) rfl
            · intro a u hbu hsu hdu
              have c1 := (hbu.cell (p := ⟨gl, 1, none⟩) HGL.out).trans HCE.out
              refine Mono.if_want rfl ?_
              exact Mono.ok_move (.tmp 87) rfl (Mono.dep_at hdu (i := 6) (d := 87) rfl rfl rfl)
            · intro a u hbu hsu hdu
              have c1 := (hbu.cell (p := ⟨gl, 1, none⟩) HGL.out).trans HCE.out
              refine Mono.if_want (Mono.want_at (c := false) rfl rfl (Mono.dep_at hdu (i := 7) (d := 88) rfl rfl rfl) rfl) ?_
              exact Mono.ok_move (.tmp 14) rfl (hsu 14 (by decide))
            · intro a u hbu hsu hdu
              have c1 := (hbu.cell (p := ⟨gl, 1, none⟩) HGL.out).trans HCE.out
              refine Mono.if_want (Mono.want_at (c := false) rfl rfl (Mono.dep_at hdu (i := 7) (d := 88) rfl rfl rfl) rfl) ?_
              have z89 : a.eval (.tmp 89) = .slice (some ⟨gl, 0, none⟩) 1 cl := Mono.dep_at hdu (i := 8) (d := 89) rfl rfl rfl
              simp [Act.eval] at z89
              exact Mono.ok_val (.pointer (some ⟨gl, 0, none⟩)) (by simp [execOp, z89, go_sem, c1]) rfl
            · intro a u hbu hsu hdu
              have c1 := (hbu.cell (p := ⟨gl, 1, none⟩) HGL.out).trans HCE.out
              refine Mono.if_want (Mono.want_at (c := false) rfl rfl (Mono.dep_at hdu (i := 7) (d := 88) rfl rfl rfl) rfl) ?_
              have z90 : a.eval (.tmp 90) = .pointer (some ⟨gl, 0, none⟩) := Mono.dep_at hdu (i := 9) (d := 90) rfl rfl rfl
              simp [Act.eval] at z90
              exact Mono.ok_val (.pointer (some ⟨gl, 1, none⟩)) (by simp [execOp, z90, go_sem, c1]) rfl
            · intro a u hbu hsu hdu
              have c1 := (hbu.cell (p := ⟨gl, 1, none⟩) HGL.out).trans HCE.out
              refine Mono.if_want (Mono.want_at (c := false) rfl rfl (Mono.dep_at hdu (i := 7) (d := 88) rfl rfl rfl) rfl) ?_
              have z91 : a.eval (.tmp 91) = .pointer (some ⟨gl, 1, none⟩) := Mono.dep_at hdu (i := 10) (d := 91) rfl rfl rfl
              simp [Act.eval] at z91
              exact Mono.ok_val (.slice pm L cm) (by simp [execOp, z91, go_sem, c1]) rfl
            · intro a u hbu hsu hdu
              have c1 := (hbu.cell (p := ⟨gl, 1, none⟩) HGL.out).trans HCE.out
              refine Mono.if_want (Mono.want_at (c := false) rfl rfl (Mono.dep_at hdu (i := 7) (d := 88) rfl rfl rfl) rfl) ?_
              have z92 : a.eval (.tmp 92) = .slice pm L cm := Mono.dep_at hdu (i := 11) (d := 92) rfl rfl rfl
              exact Mono.ok_conv 30 9 (.tmp 92) rfl _ (by rw [z92]; have h1 := (Row.below HRO.out hbu).reads; exact Chunk.string30 h1) rfl
            · intro a u hbu hsu hdu
              have c1 := (hbu.cell (p := ⟨gl, 1, none⟩) HGL.out).trans HCE.out
              refine Mono.if_want (Mono.want_at (c := false) rfl rfl (Mono.dep_at hdu (i := 7) (d := 88) rfl rfl rfl) rfl) ?_
              exact Mono.ok_move (.tmp 2) rfl (hsu 2 (by decide))
            · intro a u hbu hsu hdu
              have c1 := (hbu.cell (p := ⟨gl, 1, none⟩) HGL.out).trans HCE.out
              refine Mono.if_want (Mono.want_at (c := false) rfl rfl (Mono.dep_at hdu (i := 7) (d := 88) rfl rfl rfl) rfl) ?_
              have z94 : a.eval (.tmp 94) = .slice p L cp := Mono.dep_at hdu (i := 13) (d := 94) rfl rfl rfl
              exact Mono.ok_conv 30 9 (.tmp 94) rfl _ (by rw [z94]; exact Chunk.string30 (HR.out.below (HB7.out.trans (hbu.mono HB7.out.size)))) rfl
            · intro a u hbu hsu hdu
              have c1 := (hbu.cell (p := ⟨gl, 1, none⟩) HGL.out).trans HCE.out
              refine Mono.if_want (Mono.want_at (c := false) rfl rfl (Mono.dep_at hdu (i := 7) (d := 88) rfl rfl rfl) rfl) ?_
              have z93 : a.eval (.tmp 93) = .string (strOfNums xs) := Mono.dep_at hdu (i := 12) (d := 93) rfl rfl rfl
              simp [Act.eval] at z93
              have z95 : a.eval (.tmp 95) = .string (strOfNums xs) := Mono.dep_at hdu (i := 14) (d := 95) rfl rfl rfl
              simp [Act.eval] at z95
              exact Mono.ok_val (.bool false) (by simp [execOp, z93, z95, go_sem, c1]) rfl
            · intro a u hbu hsu hdu
              have c1 := (hbu.cell (p := ⟨gl, 1, none⟩) HGL.out).trans HCE.out
              refine Mono.if_want rfl ?_
              have z88 : a.eval (.tmp 88) = .bool false := Mono.dep_at hdu (i := 7) (d := 88) rfl rfl rfl
              simp [Act.eval] at z88
              have z96 : a.eval (.tmp 96) = .bool false := Mono.dep_at hdu (i := 15) (d := 96) rfl rfl rfl
              simp [Act.eval] at z96
              exact Mono.ok_val (.bool false) (by simp [execOp, z88, z96, go_sem, c1]) rfl
          intro u hu
          simp only [Mono.Fin]
          rintro _ rfl _ rfl _ rfl _ rfl _ rfl _ rfl _ rfl _ rfl _ rfl _ rfl _ rfl _ rfl _ rfl _ rfl _ rfl _ rfl _ rfl
          simp [Act.put]
          have HBX8 := Lib.hid (HBX7.out.below hu)
          have HB8 := Lib.hid (HB7.out.trans (hu.mono HB7.out.size))
          clear hu HCE HRO HGL HBX7 HB7
          obtain ⟨xx, HXX⟩ : ∃ xx, Hid (xx = stO (stL t k) ∧ (xx = stL t k ∨ xx = stO (stL t k))) := ⟨stO (stL t k), rfl, .inr rfl⟩
          have HBXX : Hid (Box 0 u g b1 b2 xx) := by rw [HXX.out.1]; exact HBX8.out
          have HBXB : Hid (Below W0.heap.size W0 u) := HB8.out
          have PG := Lib.hid (show Calls Try.prog 16 #[.pointer (some ⟨g, 0, none⟩), .agg #[.int .u32 t, .int .u16 0, .int .u16 t, .bool true, .bool true, .bool false, .slice (some ⟨u.heap.size, 0, none⟩) 1 1]] (u.alloc (.cells #[.int .u8 t] 5)) _ from
            put (HBXX.out.below ((Below.refl _ _).alloc (Nat.le_refl _) _)) (pc t) (.slice (some ⟨u.heap.size, 0, none⟩) 1 1) (Reads.one .u8 u t 5) (pc_ok t (by omega)) (by have h1 : xx.wait = (stL t k).wait := by { rcases HXX.out.2 with e | e <;> rw [e] <;> rfl }; rw [h1, stL_wait]; split <;> simp [wl] <;> omega) (by omega))
          have HP := Lib.hid (lost_c t k hg hk2 xx HXX.out.2)
          have hba := (Below.refl u.heap.size u).alloc (Nat.le_refl _) (.cells #[.int .u8 t] 5)
          have HBA := Lib.hid (HBXB.out.trans (hba.mono HBXB.out.size))
          obtain ⟨m, hm⟩ : ∃ m : Nat, k - t = m := ⟨_, rfl⟩
          have hml : (msgs t k).length = m := by simp [msgs, hm]
          have hmz : (k : Int) - (t : Int) = (m : Int) := by omega
          have hm10 : m ≤ 10 := by omega
          have HML := Lib.hid hml
          have HKM := Lib.hid hm
          clear hba hml hm
          go_upto_region 22 with (go_at_call 16; have _t := PG; clear _t; go_must (refine PG.out.mono ?_; rintro e w8 ⟨v8, he8, hv8, hbx8, hb8⟩; rw [HP.out] at he8 hv8; subst he8; have HV8 := Lib.hid hv8; have HB8 := Lib.hid (HBA.out.trans (hb8.below (B := W0.heap.size) HBXK.out HBA.out.size)); clear hv8 hbx8 hb8 PG))
          obtain ⟨gm, cmm, hvv, _, _, _, hgl⟩ := HV8.out.block (by rw [HML.out]; omega)
          rw [HML.out] at hvv
          subst hvv
          have HGL := Lib.hid hgl
          clear hgl
          go_upto_region 25 with fail
          go_loopw [18] (fun v18 wr => ∃ i : Nat, v18 = .int .i64 (i : Int) ∧ Hid (i ≤ m) ∧ Hid (Below w8.heap.size w8 wr)) (fun v18 _ => m - (intOf v18).toNat)
          case atStart => exact ⟨0, rfl, Nat.zero_le _, Below.refl _ _⟩
          case round =>
            obtain ⟨i, rfl, HI, HBR⟩ := hrel
            by_cases hlt : i < m
            · have hltz : (i : Int) < (m : Int) := by omega
              have hltb : decide ((i : Int) < (m : Int)) = true := decide_eq_true hltz
              have hel : (msgs t k)[i]? = some ⟨0, [((t + i : Nat) : Int)]⟩ := by simp [msgs, HKM.out, hlt]
              obtain ⟨pm, cm, hra, hrow⟩ := HV8.out.elem i _ hel
              have HRO := Lib.hid (Row.below hrow HBR.out)
              have HCE := Lib.hid ((HBR.out.cell (p := ⟨gm, i * 2 + 1, none⟩) HGL.out).trans (show w8.cell? ⟨gm, i * 2 + 1, none⟩ = some (.slice pm 1 cm) from hra 1 _ rfl))
              have HGL2 := HGL
              have HGL := Lib.hid (Nat.lt_of_lt_of_le HGL2.out HBR.out.size)
              clear hra hrow hel
              have hni : ¬ m ≤ i := by omega
              have hw64 := wrapI64 ((t : Int) + (i : Int)) (by omega) (by omega)
              have hw8 := wrapU8 ((t : Int) + (i : Int)) (by omega) (by omega)
              go_upto_region 27 with fail
              refine Mono.wp_region_mono [some 127, some 128, some 129, some 130, some 131, some 132, some 133, some 134, some 135, some 136, some 137, some 138, some 139] [Mono.isV (.slice (some ⟨gm, 0, none⟩) m cmm), Mono.isV (.int .i64 (i : Int)), Mono.isV (.pointer (some ⟨gm, i * 2, none⟩)), Mono.isV (.pointer (some ⟨gm, i * 2 + 1, none⟩)), Mono.isV (.slice pm 1 cm), Mono.isV (.string (strOfNums [((t + i : Nat) : Int)])), Mono.isV (.int .i64 (t : Int)), Mono.isV (.int .i64 (i : Int)), Mono.isV (.int .i64 ((t : Int) + (i : Int))), Mono.isV (.int .u8 ((t : Int) + (i : Int))), readsP .u8 [((t + i : Nat) : Int)], Mono.isV (.string (strOfNums ([((t + i : Nat) : Int)]))), Mono.isV (.bool false)] (by kernel_rfl) (by kernel_rfl) ?_ ?_
              · simp only [Mono.OpGoals, and_true]
                refine ⟨?_, ?_, ?_, ?_, ?_, ?_, ?_, ?_, ?_, ?_, ?_, ?_, ?_⟩
                · intro a u hbu hsu hdu
                  have c1 := (hbu.cell (p := ⟨gm, i * 2 + 1, none⟩) HGL.out).trans HCE.out
                  refine Mono.if_want rfl ?_
                  exact Mono.ok_move (.tmp 16) rfl (hsu 16 (by decide))
                · intro a u hbu hsu hdu
                  have c1 := (hbu.cell (p := ⟨gm, i * 2 + 1, none⟩) HGL.out).trans HCE.out
                  refine Mono.if_want rfl ?_
                  exact Mono.ok_move (.tmp 18) rfl (hsu 18 (by decide))
                · intro a u hbu hsu hdu
                  have c1 := (hbu.cell (p := ⟨gm, i * 2 + 1, none⟩) HGL.out).trans HCE.out
                  refine Mono.if_want rfl ?_
                  have z127 : a.eval (.tmp 127) = .slice (some ⟨gm, 0, none⟩) m cmm := Mono.dep_at hdu (i := 0) (d := 127) rfl rfl rfl
                  simp [Act.eval] at z127
                  have z128 : a.eval (.tmp 128) = .int .i64 (i : Int) := Mono.dep_at hdu (i := 1) (d := 128) rfl rfl rfl
                  simp [Act.eval] at z128
                  exact Mono.ok_val (.pointer (some ⟨gm, i * 2, none⟩)) (by simp [execOp, z127, z128, go_sem, c1, hni, hw64]) rfl
                · intro a u hbu hsu hdu
                  have c1 := (hbu.cell (p := ⟨gm, i * 2 + 1, none⟩) HGL.out).trans HCE.out
                  refine Mono.if_want rfl ?_
                  have z129 : a.eval (.tmp 129) = .pointer (some ⟨gm, i * 2, none⟩) := Mono.dep_at hdu (i := 2) (d := 129) rfl rfl rfl
                  simp [Act.eval] at z129
                  exact Mono.ok_val (.pointer (some ⟨gm, i * 2 + 1, none⟩)) (by simp [execOp, z129, go_sem, c1, hni, hw64]) rfl
                · intro a u hbu hsu hdu
                  have c1 := (hbu.cell (p := ⟨gm, i * 2 + 1, none⟩) HGL.out).trans HCE.out
                  refine Mono.if_want rfl ?_
                  have z130 : a.eval (.tmp 130) = .pointer (some ⟨gm, i * 2 + 1, none⟩) := Mono.dep_at hdu (i := 3) (d := 130) rfl rfl rfl
                  simp [Act.eval] at z130
                  exact Mono.ok_val (.slice pm 1 cm) (by simp [execOp, z130, go_sem, c1, hni, hw64]) rfl
                · intro a u hbu hsu hdu
                  have c1 := (hbu.cell (p := ⟨gm, i * 2 + 1, none⟩) HGL.out).trans HCE.out
                  refine Mono.if_want rfl ?_
                  have z131 : a.eval (.tmp 131) = .slice pm 1 cm := Mono.dep_at hdu (i := 4) (d := 131) rfl rfl rfl
                  exact Mono.ok_conv 30 9 (.tmp 131) rfl _ (by rw [z131]; exact Chunk.string30 (xs := [((t + i : Nat) : Int)]) (Row.below HRO.out hbu).reads) rfl
                · intro a u hbu hsu hdu
                  have c1 := (hbu.cell (p := ⟨gm, i * 2 + 1, none⟩) HGL.out).trans HCE.out
                  refine Mono.if_want rfl ?_
                  exact Mono.ok_move (.tmp 8) rfl (hsu 8 (by decide))
                · intro a u hbu hsu hdu
                  have c1 := (hbu.cell (p := ⟨gm, i * 2 + 1, none⟩) HGL.out).trans HCE.out
                  refine Mono.if_want rfl ?_
                  exact Mono.ok_move (.tmp 18) rfl (hsu 18 (by decide))
                · intro a u hbu hsu hdu
                  have c1 := (hbu.cell (p := ⟨gm, i * 2 + 1, none⟩) HGL.out).trans HCE.out
                  refine Mono.if_want rfl ?_
                  have z133 : a.eval (.tmp 133) = .int .i64 (t : Int) := Mono.dep_at hdu (i := 6) (d := 133) rfl rfl rfl
                  simp [Act.eval] at z133
                  have z134 : a.eval (.tmp 134) = .int .i64 (i : Int) := Mono.dep_at hdu (i := 7) (d := 134) rfl rfl rfl
                  simp [Act.eval] at z134
                  exact Mono.ok_val (.int .i64 ((t : Int) + (i : Int))) (by simp [execOp, z133, z134, go_sem, c1, hni, hw64]) rfl
                · intro a u hbu hsu hdu
                  have c1 := (hbu.cell (p := ⟨gm, i * 2 + 1, none⟩) HGL.out).trans HCE.out
                  refine Mono.if_want rfl ?_
                  have z135 : a.eval (.tmp 135) = .int .i64 ((t : Int) + (i : Int)) := Mono.dep_at hdu (i := 8) (d := 135) rfl rfl rfl
                  simp [Act.eval] at z135
                  exact Mono.ok_val (.int .u8 ((t : Int) + (i : Int))) (by simp [execOp, z135, go_sem, hw8]) rfl
                · intro a u hbu hsu hdu
                  have c1 := (hbu.cell (p := ⟨gm, i * 2 + 1, none⟩) HGL.out).trans HCE.out
                  refine Mono.if_want rfl ?_
                  have z136 : a.eval (.tmp 136) = .int .u8 ((t : Int) + (i : Int)) := Mono.dep_at hdu (i := 9) (d := 136) rfl rfl rfl
                  simp [Act.eval] at z136
                  exact Mono.ok_valW (.slice (some ⟨u.heap.size, 0, none⟩) 1 1) (u.alloc (.cells #[.int .u8 ((t : Int) + (i : Int))] 5)) (by simp [execOp, Act.eval, z136, Sem.run_bind, build1, Result.andThen]) ((Below.refl _ _).alloc (Nat.le_refl _) _) (by rw [Int.natCast_add]; exact Reads.one .u8 u _ 5)
                · intro a u hbu hsu hdu
                  have c1 := (hbu.cell (p := ⟨gm, i * 2 + 1, none⟩) HGL.out).trans HCE.out
                  refine Mono.if_want rfl ?_
                  exact Mono.ok_conv 30 9 (.tmp 137) rfl _ (Chunk.string30 (Mono.dep_at hdu (i := 10) (d := 137) rfl rfl rfl)) rfl
                · intro a u hbu hsu hdu
                  have c1 := (hbu.cell (p := ⟨gm, i * 2 + 1, none⟩) HGL.out).trans HCE.out
                  refine Mono.if_want rfl ?_
                  have z132 : a.eval (.tmp 132) = .string (strOfNums [((t + i : Nat) : Int)]) := Mono.dep_at hdu (i := 5) (d := 132) rfl rfl rfl
                  simp [Act.eval] at z132
                  have z138 : a.eval (.tmp 138) = .string (strOfNums ([((t + i : Nat) : Int)])) := Mono.dep_at hdu (i := 11) (d := 138) rfl rfl rfl
                  simp [Act.eval] at z138
                  exact Mono.ok_val (.bool false) (by simp [execOp, z132, z138, go_sem, c1, hni, hw64]) rfl
              intro u hu
              simp only [Mono.Fin]
              rintro _ rfl _ rfl _ rfl _ rfl _ rfl _ rfl _ rfl _ rfl _ rfl _ rfl v137 h137 _ rfl _ rfl
              have HB9 := Lib.hid (HBR.out.trans (hu.mono HBR.out.size))
              clear hu
              simp [Act.put]
              go_wp2_with fail
              go_roundw
              case rel => exact ⟨i + 1, by go_num, hlt, HB9.out⟩
              case measure => simp [intOf]; omega
            · have hltz : ¬ (i : Int) < (m : Int) := by omega
              have hltb : decide ((i : Int) < (m : Int)) = false := decide_eq_false hltz
              go_wp2_with fail
              go_ret
              exact ⟨rfl, HB8.out.trans (HBR.out.mono HB8.out.size)⟩
        · have l2z : ¬ (L : Int) ≤ 256 := by omega
          have l2b : decide ((L : Int) ≤ 256) = false := decide_eq_false l2z
          obtain ⟨xx, HXX⟩ : ∃ xx, Hid (xx = stL t k ∧ (xx = stL t k ∨ xx = stO (stL t k))) := ⟨stL t k, rfl, .inl rfl⟩
          have HBXX : Hid (Box 0 wr g b1 b2 xx) := by rw [HXX.out.1]; exact HBXR.out
          have HBXB : Hid (Below W0.heap.size W0 wr) := HBL.out
          have PG := Lib.hid (show Calls Try.prog 16 #[.pointer (some ⟨g, 0, none⟩), .agg #[.int .u32 t, .int .u16 0, .int .u16 t, .bool true, .bool true, .bool false, .slice (some ⟨wr.heap.size, 0, none⟩) 1 1]] (wr.alloc (.cells #[.int .u8 t] 5)) _ from
            put (HBXX.out.below ((Below.refl _ _).alloc (Nat.le_refl _) _)) (pc t) (.slice (some ⟨wr.heap.size, 0, none⟩) 1 1) (Reads.one .u8 wr t 5) (pc_ok t (by omega)) (by have h1 : xx.wait = (stL t k).wait := by { rcases HXX.out.2 with e | e <;> rw [e] <;> rfl }; rw [h1, stL_wait]; split <;> simp [wl] <;> omega) (by omega))
          have HP := Lib.hid (lost_c t k hg hk2 xx HXX.out.2)
          have hba := (Below.refl wr.heap.size wr).alloc (Nat.le_refl _) (.cells #[.int .u8 t] 5)
          have HBA := Lib.hid (HBXB.out.trans (hba.mono HBXB.out.size))
          obtain ⟨m, hm⟩ : ∃ m : Nat, k - t = m := ⟨_, rfl⟩
          have hml : (msgs t k).length = m := by simp [msgs, hm]
          have hmz : (k : Int) - (t : Int) = (m : Int) := by omega
          have hm10 : m ≤ 10 := by omega
          have HML := Lib.hid hml
          have HKM := Lib.hid hm
          clear hba hml hm
          go_upto_region 22 with (go_at_call 16; have _t := PG; clear _t; go_must (refine PG.out.mono ?_; rintro e w8 ⟨v8, he8, hv8, hbx8, hb8⟩; rw [HP.out] at he8 hv8; subst he8; have HV8 := Lib.hid hv8; have HB8 := Lib.hid (HBA.out.trans (hb8.below (B := W0.heap.size) HBXK.out HBA.out.size)); clear hv8 hbx8 hb8 PG))
          obtain ⟨gm, cmm, hvv, _, _, _, hgl⟩ := HV8.out.block (by rw [HML.out]; omega)
          rw [HML.out] at hvv
          subst hvv
          have HGL := Lib.hid hgl
          clear hgl
          go_upto_region 25 with fail
          go_loopw [18] (fun v18 wr => ∃ i : Nat, v18 = .int .i64 (i : Int) ∧ Hid (i ≤ m) ∧ Hid (Below w8.heap.size w8 wr)) (fun v18 _ => m - (intOf v18).toNat)
          case atStart => exact ⟨0, rfl, Nat.zero_le _, Below.refl _ _⟩
          case round =>
            obtain ⟨i, rfl, HI, HBR⟩ := hrel
            by_cases hlt : i < m
            · have hltz : (i : Int) < (m : Int) := by omega
              have hltb : decide ((i : Int) < (m : Int)) = true := decide_eq_true hltz
              have hel : (msgs t k)[i]? = some ⟨0, [((t + i : Nat) : Int)]⟩ := by simp [msgs, HKM.out, hlt]
              obtain ⟨pm, cm, hra, hrow⟩ := HV8.out.elem i _ hel
              have HRO := Lib.hid (Row.below hrow HBR.out)
              have HCE := Lib.hid ((HBR.out.cell (p := ⟨gm, i * 2 + 1, none⟩) HGL.out).trans (show w8.cell? ⟨gm, i * 2 + 1, none⟩ = some (.slice pm 1 cm) from hra 1 _ rfl))
              have HGL2 := HGL
              have HGL := Lib.hid (Nat.lt_of_lt_of_le HGL2.out HBR.out.size)
              clear hra hrow hel
              have hni : ¬ m ≤ i := by omega
              have hw64 := wrapI64 ((t : Int) + (i : Int)) (by omega) (by omega)
              have hw8 := wrapU8 ((t : Int) + (i : Int)) (by omega) (by omega)
              go_upto_region 27 with fail
              refine Mono.wp_region_mono [some 127, some 128, some 129, some 130, some 131, some 132, some 133, some 134, some 135, some 136, some 137, some 138, some 139] [Mono.isV (.slice (some ⟨gm, 0, none⟩) m cmm), Mono.isV (.int .i64 (i : Int)), Mono.isV (.pointer (some ⟨gm, i * 2, none⟩)), Mono.isV (.pointer (some ⟨gm, i * 2 + 1, none⟩)), Mono.isV (.slice pm 1 cm), Mono.isV (.string (strOfNums [((t + i : Nat) : Int)])), Mono.isV (.int .i64 (t : Int)), Mono.isV (.int .i64 (i : Int)), Mono.isV (.int .i64 ((t : Int) + (i : Int))), Mono.isV (.int .u8 ((t : Int) + (i : Int))), readsP .u8 [((t + i : Nat) : Int)], Mono.isV (.string (strOfNums ([((t + i : Nat) : Int)]))), Mono.isV (.bool false)] (by kernel_rfl) (by kernel_rfl) ?_ ?_
              · simp only [Mono.OpGoals, and_true]
                refine ⟨?_, ?_, ?_, ?_, ?_, ?_, ?_, ?_, ?_, ?_, ?_, ?_, ?_⟩
                · intro a u hbu hsu hdu
                  have c1 := (hbu.cell (p := ⟨gm, i * 2 + 1, none⟩) HGL.out).trans HCE.out
                  refine Mono.if_want rfl ?_
                  exact Mono.ok_move (.tmp 16) rfl (hsu 16 (by decide))
                · intro a u hbu hsu hdu
                  have c1 := (hbu.cell (p := ⟨gm, i * 2 + 1, none⟩) HGL.out).trans HCE.out
                  refine Mono.if_want rfl ?_
                  exact Mono.ok_move (.tmp 18) rfl (hsu 18 (by decide))
                · intro a u hbu hsu hdu
                  have c1 := (hbu.cell (p := ⟨gm, i * 2 + 1, none⟩) HGL.out).trans HCE.out
                  refine Mono.if_want rfl ?_
                  have z127 : a.eval (.tmp 127) = .slice (some ⟨gm, 0, none⟩) m cmm := Mono.dep_at hdu (i := 0) (d := 127) rfl rfl rfl
                  simp [Act.eval] at z127
                  have z128 : a.eval (.tmp 128) = .int .i64 (i : Int) := Mono.dep_at hdu (i := 1) (d := 128) rfl rfl rfl
                  simp [Act.eval] at z128
                  exact Mono.ok_val (.pointer (some ⟨gm, i * 2, none⟩)) (by simp [execOp, z127, z128, go_sem, c1, hni, hw64]) rfl
                · intro a u hbu hsu hdu
                  have c1 := (hbu.cell (p := ⟨gm, i * 2 + 1, none⟩) HGL.out).trans HCE.out
                  refine Mono.if_want rfl ?_
                  have z129 : a.eval (.tmp 129) = .pointer (some ⟨gm, i * 2, none⟩) := Mono.dep_at hdu (i := 2) (d := 129) rfl rfl rfl
                  simp [Act.eval] at z129
                  exact Mono.ok_val (.pointer (some ⟨gm, i * 2 + 1, none⟩)) (by simp [execOp, z129, go_sem, c1, hni, hw64]) rfl
                · intro a u hbu hsu hdu
                  have c1 := (hbu.cell (p := ⟨gm, i * 2 + 1, none⟩) HGL.out).trans HCE.out
                  refine Mono.if_want rfl ?_
                  have z130 : a.eval (.tmp 130) = .pointer (some ⟨gm, i * 2 + 1, none⟩) := Mono.dep_at hdu (i := 3) (d := 130) rfl rfl rfl
                  simp [Act.eval] at z130
                  exact Mono.ok_val (.slice pm 1 cm) (by simp [execOp, z130, go_sem, c1, hni, hw64]) rfl
                · intro a u hbu hsu hdu
                  have c1 := (hbu.cell (p := ⟨gm, i * 2 + 1, none⟩) HGL.out).trans HCE.out
                  refine Mono.if_want rfl ?_
                  have z131 : a.eval (.tmp 131) = .slice pm 1 cm := Mono.dep_at hdu (i := 4) (d := 131) rfl rfl rfl
                  exact Mono.ok_conv 30 9 (.tmp 131) rfl _ (by rw [z131]; exact Chunk.string30 (xs := [((t + i : Nat) : Int)]) (Row.below HRO.out hbu).reads) rfl
                · intro a u hbu hsu hdu
                  have c1 := (hbu.cell (p := ⟨gm, i * 2 + 1, none⟩) HGL.out).trans HCE.out
                  refine Mono.if_want rfl ?_
                  exact Mono.ok_move (.tmp 8) rfl (hsu 8 (by decide))
                · intro a u hbu hsu hdu
                  have c1 := (hbu.cell (p := ⟨gm, i * 2 + 1, none⟩) HGL.out).trans HCE.out
                  refine Mono.if_want rfl ?_
                  exact Mono.ok_move (.tmp 18) rfl (hsu 18 (by decide))
                · intro a u hbu hsu hdu
                  have c1 := (hbu.cell (p := ⟨gm, i * 2 + 1, none⟩) HGL.out).trans HCE.out
                  refine Mono.if_want rfl ?_
                  have z133 : a.eval (.tmp 133) = .int .i64 (t : Int) := Mono.dep_at hdu (i := 6) (d := 133) rfl rfl rfl
                  simp [Act.eval] at z133
                  have z134 : a.eval (.tmp 134) = .int .i64 (i : Int) := Mono.dep_at hdu (i := 7) (d := 134) rfl rfl rfl
                  simp [Act.eval] at z134
                  exact Mono.ok_val (.int .i64 ((t : Int) + (i : Int))) (by simp [execOp, z133, z134, go_sem, c1, hni, hw64]) rfl
                · intro a u hbu hsu hdu
                  have c1 := (hbu.cell (p := ⟨gm, i * 2 + 1, none⟩) HGL.out).trans HCE.out
                  refine Mono.if_want rfl ?_
                  have z135 : a.eval (.tmp 135) = .int .i64 ((t : Int) + (i : Int)) := Mono.dep_at hdu (i := 8) (d := 135) rfl rfl rfl
                  simp [Act.eval] at z135
                  exact Mono.ok_val (.int .u8 ((t : Int) + (i : Int))) (by simp [execOp, z135, go_sem, hw8]) rfl
                · intro a u hbu hsu hdu
                  have c1 := (hbu.cell (p := ⟨gm, i * 2 + 1, none⟩) HGL.out).trans HCE.out
                  refine Mono.if_want rfl ?_
                  have z136 : a.eval (.tmp 136) = .int .u8 ((t : Int) + (i : Int)) := Mono.dep_at hdu (i := 9) (d := 136) rfl rfl rfl
                  simp [Act.eval] at z136
                  exact Mono.ok_valW (.slice (some ⟨u.heap.size, 0, none⟩) 1 1) (u.alloc (.cells #[.int .u8 ((t : Int) + (i : Int))] 5)) (by simp [execOp, Act.eval, z136, Sem.run_bind, build1, Result.andThen]) ((Below.refl _ _).alloc (Nat.le_refl _) _) (by rw [Int.natCast_add]; exact Reads.one .u8 u _ 5)
                · intro a u hbu hsu hdu
                  have c1 := (hbu.cell (p := ⟨gm, i * 2 + 1, none⟩) HGL.out).trans HCE.out
                  refine Mono.if_want rfl ?_
                  exact Mono.ok_conv 30 9 (.tmp 137) rfl _ (Chunk.string30 (Mono.dep_at hdu (i := 10) (d := 137) rfl rfl rfl)) rfl
                · intro a u hbu hsu hdu
                  have c1 := (hbu.cell (p := ⟨gm, i * 2 + 1, none⟩) HGL.out).trans HCE.out
                  refine Mono.if_want rfl ?_
                  have z132 : a.eval (.tmp 132) = .string (strOfNums [((t + i : Nat) : Int)]) := Mono.dep_at hdu (i := 5) (d := 132) rfl rfl rfl
                  simp [Act.eval] at z132
                  have z138 : a.eval (.tmp 138) = .string (strOfNums ([((t + i : Nat) : Int)])) := Mono.dep_at hdu (i := 11) (d := 138) rfl rfl rfl
                  simp [Act.eval] at z138
                  exact Mono.ok_val (.bool false) (by simp [execOp, z132, z138, go_sem, c1, hni, hw64]) rfl
              intro u hu
              simp only [Mono.Fin]
              rintro _ rfl _ rfl _ rfl _ rfl _ rfl _ rfl _ rfl _ rfl _ rfl _ rfl v137 h137 _ rfl _ rfl
              have HB9 := Lib.hid (HBR.out.trans (hu.mono HBR.out.size))
              clear hu
              simp [Act.put]
              go_wp2_with fail
              go_roundw
              case rel => exact ⟨i + 1, by go_num, hlt, HB9.out⟩
              case measure => simp [intOf]; omega
            · have hltz : ¬ (i : Int) < (m : Int) := by omega
              have hltb : decide ((i : Int) < (m : Int)) = false := decide_eq_false hltz
              go_wp2_with fail
              go_ret
              exact ⟨rfl, HB8.out.trans (HBR.out.mono HB8.out.size)⟩
      · have l0z : ¬ (0 : Int) < (L : Int) := by omega
        have l0b : decide ((0 : Int) < (L : Int)) = false := decide_eq_false l0z
        obtain ⟨xx, HXX⟩ : ∃ xx, Hid (xx = stL t k ∧ (xx = stL t k ∨ xx = stO (stL t k))) := ⟨stL t k, rfl, .inl rfl⟩
        have HBXX : Hid (Box 0 wr g b1 b2 xx) := by rw [HXX.out.1]; exact HBXR.out
        have HBXB : Hid (Below W0.heap.size W0 wr) := HBL.out
        have PG := Lib.hid (show Calls Try.prog 16 #[.pointer (some ⟨g, 0, none⟩), .agg #[.int .u32 t, .int .u16 0, .int .u16 t, .bool true, .bool true, .bool false, .slice (some ⟨wr.heap.size, 0, none⟩) 1 1]] (wr.alloc (.cells #[.int .u8 t] 5)) _ from
          put (HBXX.out.below ((Below.refl _ _).alloc (Nat.le_refl _) _)) (pc t) (.slice (some ⟨wr.heap.size, 0, none⟩) 1 1) (Reads.one .u8 wr t 5) (pc_ok t (by omega)) (by have h1 : xx.wait = (stL t k).wait := by { rcases HXX.out.2 with e | e <;> rw [e] <;> rfl }; rw [h1, stL_wait]; split <;> simp [wl] <;> omega) (by omega))
        have HP := Lib.hid (lost_c t k hg hk2 xx HXX.out.2)
        have hba := (Below.refl wr.heap.size wr).alloc (Nat.le_refl _) (.cells #[.int .u8 t] 5)
        have HBA := Lib.hid (HBXB.out.trans (hba.mono HBXB.out.size))
        obtain ⟨m, hm⟩ : ∃ m : Nat, k - t = m := ⟨_, rfl⟩
        have hml : (msgs t k).length = m := by simp [msgs, hm]
        have hmz : (k : Int) - (t : Int) = (m : Int) := by omega
        have hm10 : m ≤ 10 := by omega
        have HML := Lib.hid hml
        have HKM := Lib.hid hm
        clear hba hml hm
        go_upto_region 22 with (go_at_call 16; have _t := PG; clear _t; go_must (refine PG.out.mono ?_; rintro e w8 ⟨v8, he8, hv8, hbx8, hb8⟩; rw [HP.out] at he8 hv8; subst he8; have HV8 := Lib.hid hv8; have HB8 := Lib.hid (HBA.out.trans (hb8.below (B := W0.heap.size) HBXK.out HBA.out.size)); clear hv8 hbx8 hb8 PG))
        obtain ⟨gm, cmm, hvv, _, _, _, hgl⟩ := HV8.out.block (by rw [HML.out]; omega)
        rw [HML.out] at hvv
        subst hvv
        have HGL := Lib.hid hgl
        clear hgl
        go_upto_region 25 with fail
        go_loopw [18] (fun v18 wr => ∃ i : Nat, v18 = .int .i64 (i : Int) ∧ Hid (i ≤ m) ∧ Hid (Below w8.heap.size w8 wr)) (fun v18 _ => m - (intOf v18).toNat)
        case atStart => exact ⟨0, rfl, Nat.zero_le _, Below.refl _ _⟩
        case round =>
          obtain ⟨i, rfl, HI, HBR⟩ := hrel
          by_cases hlt : i < m
          · have hltz : (i : Int) < (m : Int) := by omega
            have hltb : decide ((i : Int) < (m : Int)) = true := decide_eq_true hltz
            have hel : (msgs t k)[i]? = some ⟨0, [((t + i : Nat) : Int)]⟩ := by simp [msgs, HKM.out, hlt]
            obtain ⟨pm, cm, hra, hrow⟩ := HV8.out.elem i _ hel
            have HRO := Lib.hid (Row.below hrow HBR.out)
            have HCE := Lib.hid ((HBR.out.cell (p := ⟨gm, i * 2 + 1, none⟩) HGL.out).trans (show w8.cell? ⟨gm, i * 2 + 1, none⟩ = some (.slice pm 1 cm) from hra 1 _ rfl))
            have HGL2 := HGL
            have HGL := Lib.hid (Nat.lt_of_lt_of_le HGL2.out HBR.out.size)
            clear hra hrow hel
            have hni : ¬ m ≤ i := by omega
            have hw64 := wrapI64 ((t : Int) + (i : Int)) (by omega) (by omega)
            have hw8 := wrapU8 ((t : Int) + (i : Int)) (by omega) (by omega)
            go_upto_region 27 with fail
            refine Mono.wp_region_mono [some 127, some 128, some 129, some 130, some 131, some 132, some 133, some 134, some 135, some 136, some 137, some 138, some 139] [Mono.isV (.slice (some ⟨gm, 0, none⟩) m cmm), Mono.isV (.int .i64 (i : Int)), Mono.isV (.pointer (some ⟨gm, i * 2, none⟩)), Mono.isV (.pointer (some ⟨gm, i * 2 + 1, none⟩)), Mono.isV (.slice pm 1 cm), Mono.isV (.string (strOfNums [((t + i : Nat) : Int)])), Mono.isV (.int .i64 (t : Int)), Mono.isV (.int .i64 (i : Int)), Mono.isV (.int .i64 ((t : Int) + (i : Int))), Mono.isV (.int .u8 ((t : Int) + (i : Int))), readsP .u8 [((t + i : Nat) : Int)], Mono.isV (.string (strOfNums ([((t + i : Nat) : Int)]))), Mono.isV (.bool false)] (by kernel_rfl) (by kernel_rfl) ?_ ?_
            · simp only [Mono.OpGoals, and_true]
              refine ⟨?_, ?_, ?_, ?_, ?_, ?_, ?_, ?_, ?_, ?_, ?_, ?_, ?_⟩
              · intro a u hbu hsu hdu
                have c1 := (hbu.cell (p := ⟨gm, i * 2 + 1, none⟩) HGL.out).trans HCE.out
                refine Mono.if_want rfl ?_
                exact Mono.ok_move (.tmp 16) rfl (hsu 16 (by decide))
              · intro a u hbu hsu hdu
                have c1 := (hbu.cell (p := ⟨gm, i * 2 + 1, none⟩) HGL.out).trans HCE.out
                refine Mono.if_want rfl ?_
                exact Mono.ok_move (.tmp 18) rfl (hsu 18 (by decide))
              · intro a u hbu hsu hdu
                have c1 := (hbu.cell (p := ⟨gm, i * 2 + 1, none⟩) HGL.out).trans HCE.out
                refine Mono.if_want rfl ?_
                have z127 : a.eval (.tmp 127) = .slice (some ⟨gm, 0, none⟩) m cmm := Mono.dep_at hdu (i := 0) (d := 127) rfl rfl rfl
                simp [Act.eval] at z127
                have z128 : a.eval (.tmp 128) = .int .i64 (i : Int) := Mono.dep_at hdu (i := 1) (d := 128) rfl rfl rfl
                simp [Act.eval] at z128
                exact Mono.ok_val (.pointer (some ⟨gm, i * 2, none⟩)) (by simp [execOp, z127, z128, go_sem, c1, hni, hw64]) rfl
              · intro a u hbu hsu hdu
                have c1 := (hbu.cell (p := ⟨gm, i * 2 + 1, none⟩) HGL.out).trans HCE.out
                refine Mono.if_want rfl ?_
                have z129 : a.eval (.tmp 129) = .pointer (some ⟨gm, i * 2, none⟩) := Mono.dep_at hdu (i := 2) (d := 129) rfl rfl rfl
                simp [Act.eval] at z129
                exact Mono.ok_val (.pointer (some ⟨gm, i * 2 + 1, none⟩)) (by simp [execOp, z129, go_sem, c1, hni, hw64]) rfl
              · intro a u hbu hsu hdu
                have c1 := (hbu.cell (p := ⟨gm, i * 2 + 1, none⟩) HGL.out).trans HCE.out
                refine Mono.if_want rfl ?_
                have z130 : a.eval (.tmp 130) = .pointer (some ⟨gm, i * 2 + 1, none⟩) := Mono.dep_at hdu (i := 3) (d := 130) rfl rfl rfl
                simp [Act.eval] at z130
                exact Mono.ok_val (.slice pm 1 cm) (by simp [execOp, z130, go_sem, c1, hni, hw64]) rfl
              · intro a u hbu hsu hdu
                have c1 := (hbu.cell (p := ⟨gm, i * 2 + 1, none⟩) HGL.out).trans HCE.out
                refine Mono.if_want rfl ?_
                have z131 : a.eval (.tmp 131) = .slice pm 1 cm := Mono.dep_at hdu (i := 4) (d := 131) rfl rfl rfl
                exact Mono.ok_conv 30 9 (.tmp 131) rfl _ (by rw [z131]; exact Chunk.string30 (xs := [((t + i : Nat) : Int)]) (Row.below HRO.out hbu).reads) rfl
              · intro a u hbu hsu hdu
                have c1 := (hbu.cell (p := ⟨gm, i * 2 + 1, none⟩) HGL.out).trans HCE.out
                refine Mono.if_want rfl ?_
                exact Mono.ok_move (.tmp 8) rfl (hsu 8 (by decide))
              · intro a u hbu hsu hdu
                have c1 := (hbu.cell (p := ⟨gm, i * 2 + 1, none⟩) HGL.out).trans HCE.out
                refine Mono.if_want rfl ?_
                exact Mono.ok_move (.tmp 18) rfl (hsu 18 (by decide))
              · intro a u hbu hsu hdu
                have c1 := (hbu.cell (p := ⟨gm, i * 2 + 1, none⟩) HGL.out).trans HCE.out
                refine Mono.if_want rfl ?_
                have z133 : a.eval (.tmp 133) = .int .i64 (t : Int) := Mono.dep_at hdu (i := 6) (d := 133) rfl rfl rfl
                simp [Act.eval] at z133
                have z134 : a.eval (.tmp 134) = .int .i64 (i : Int) := Mono.dep_at hdu (i := 7) (d := 134) rfl rfl rfl
                simp [Act.eval] at z134
                exact Mono.ok_val (.int .i64 ((t : Int) + (i : Int))) (by simp [execOp, z133, z134, go_sem, c1, hni, hw64]) rfl
              · intro a u hbu hsu hdu
                have c1 := (hbu.cell (p := ⟨gm, i * 2 + 1, none⟩) HGL.out).trans HCE.out
                refine Mono.if_want rfl ?_
                have z135 : a.eval (.tmp 135) = .int .i64 ((t : Int) + (i : Int)) := Mono.dep_at hdu (i := 8) (d := 135) rfl rfl rfl
                simp [Act.eval] at z135
                exact Mono.ok_val (.int .u8 ((t : Int) + (i : Int))) (by simp [execOp, z135, go_sem, hw8]) rfl
              · intro a u hbu hsu hdu
                have c1 := (hbu.cell (p := ⟨gm, i * 2 + 1, none⟩) HGL.out).trans HCE.out
                refine Mono.if_want rfl ?_
                have z136 : a.eval (.tmp 136) = .int .u8 ((t : Int) + (i : Int)) := Mono.dep_at hdu (i := 9) (d := 136) rfl rfl rfl
                simp [Act.eval] at z136
                exact Mono.ok_valW (.slice (some ⟨u.heap.size, 0, none⟩) 1 1) (u.alloc (.cells #[.int .u8 ((t : Int) + (i : Int))] 5)) (by simp [execOp, Act.eval, z136, Sem.run_bind, build1, Result.andThen]) ((Below.refl _ _).alloc (Nat.le_refl _) _) (by rw [Int.natCast_add]; exact Reads.one .u8 u _ 5)
              · intro a u hbu hsu hdu
                have c1 := (hbu.cell (p := ⟨gm, i * 2 + 1, none⟩) HGL.out).trans HCE.out
                refine Mono.if_want rfl ?_
                exact Mono.ok_conv 30 9 (.tmp 137) rfl _ (Chunk.string30 (Mono.dep_at hdu (i := 10) (d := 137) rfl rfl rfl)) rfl
              · intro a u hbu hsu hdu
                have c1 := (hbu.cell (p := ⟨gm, i * 2 + 1, none⟩) HGL.out).trans HCE.out
                refine Mono.if_want rfl ?_
                have z132 : a.eval (.tmp 132) = .string (strOfNums [((t + i : Nat) : Int)]) := Mono.dep_at hdu (i := 5) (d := 132) rfl rfl rfl
                simp [Act.eval] at z132
                have z138 : a.eval (.tmp 138) = .string (strOfNums ([((t + i : Nat) : Int)])) := Mono.dep_at hdu (i := 11) (d := 138) rfl rfl rfl
                simp [Act.eval] at z138
                exact Mono.ok_val (.bool false) (by simp [execOp, z132, z138, go_sem, c1, hni, hw64]) rfl
            intro u hu
            simp only [Mono.Fin]
            rintro _ rfl _ rfl _ rfl _ rfl _ rfl _ rfl _ rfl _ rfl _ rfl _ rfl v137 h137 _ rfl _ rfl
            have HB9 := Lib.hid (HBR.out.trans (hu.mono HBR.out.size))
            clear hu
            simp [Act.put]
            go_wp2_with fail
            go_roundw
            case rel => exact ⟨i + 1, by go_num, hlt, HB9.out⟩
            case measure => simp [intOf]; omega
          · have hltz : ¬ (i : Int) < (m : Int) := by omega
            have hltb : decide ((i : Int) < (m : Int)) = false := decide_eq_false hltz
            go_wp2_with fail
            go_ret
            exact ⟨rfl, HB8.out.trans (HBR.out.mono HB8.out.size)⟩
end Go.Proofs.Yteiiifonejkjbaa.Bx
