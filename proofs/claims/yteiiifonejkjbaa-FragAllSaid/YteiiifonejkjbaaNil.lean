/-
  FragNil (8): the walk.
-/
import Derived.Test.YteiiifonejkjbaaBox4
namespace Go.Proofs.Yteiiifonejkjbaa.Bx
open Go.RowKit Mem Cells Ops Pcs Go.Maps Go.Proofs.Yteiiifonejkjbaa.Open
set_option linter.unusedVariables false
set_option linter.unusedSimpArgs false
attribute [local go_sem] Oper.semAt_some

theorem Box.rebase {Z Z' : Nat} {w : World} {g b1 b2 : Nat} (h : Box Z w g b1 b2 s0) : Box Z' w g b1 b2 s0 := by
  obtain ⟨vs, vw, m1, m2, h⟩ := h
  exact ⟨vs, vw, m1, m2, ⟨h.row, h.map1, h.map2, h.ne, h.says1, h.says2, fun a ha => absurd ha (by simp [s0]), fun y hy => absurd hy (by simp [s0]), h.ok⟩⟩
theorem Box.below {Z : Nat} {w w' : World} {g b1 b2 : Nat} {x : S} (h : Box Z w g b1 b2 x) (hb : Below w.heap.size w w') : Box Z w' g b1 b2 x := by
  obtain ⟨vs, vw, m1, m2, h⟩ := h
  exact ⟨vs, vw, m1, m2, h.below hb⟩
/-- Bytes of others turn. -/
theorem Box.grownIn {Z : Nat} {w w' : World} {g b1 b2 : Nat} {x : S} (h : Box Z w g b1 b2 x) {q : Nat} {cs : Array Value} (hg : w.grownBy w' (some q)) (hat : At w q 5 cs) (hq : q < Z) : Box Z w' g b1 b2 x := by
  obtain ⟨vs, vw, m1, m2, h⟩ := h
  exact ⟨vs, vw, m1, m2, ⟨h.row.kept' hg (fun e => at_ne hat h.row (by decide) (Option.some.inj e)), h.map1.kept hg (fun e => h.map1.ne_at hat (Option.some.inj e)), h.map2.kept hg (fun e => h.map2.ne_at hat (Option.some.inj e)), h.ne, h.says1, h.says2,
    fun a ha => (h.rows1 a ha).kept hg (.inr (fun e => by have := ((h.rows1 a ha).lt q e).1; omega)), fun y hy => (h.rows2 y hy).kept hg (.inr (fun e => by have := ((h.rows2 y hy).lt q e).1; omega)), h.ok⟩⟩
theorem Box.lt {Z : Nat} {w : World} {g b1 b2 : Nat} {x : S} (h : Box Z w g b1 b2 x) : g < w.heap.size ∧ b1 < w.heap.size ∧ b2 < w.heap.size := by
  obtain ⟨vs, vw, m1, m2, h⟩ := h
  exact h.lt
def pN1 (c : Int) : A := ⟨1, 0, 0, true, false, false, [c, c]⟩
def pN2 : A := ⟨2, 0, 0, false, true, false, [9]⟩
def sN (c : Int) : S := ⟨[pN1 c], [], fun _ => 0⟩
theorem putN1 (c : Int) : putF s0 (pN1 c) = (sN c, [], 0) := by rfl
theorem putN2 (c : Int) : (putF (sN c) pN2).2 = ([⟨0, [c, c, 9]⟩], 0) := by rfl
theorem pN1_ok (c : Int) (h : 0 ≤ c ∧ c ≤ 255) : (pN1 c).ok := by
  refine ⟨by simp [pN1], by simp [pN1], by simp [pN1], ?_⟩
  intro z hz
  simp [pN1] at hz
  omega
theorem pN2_ok : pN2.ok := ⟨by simp [pN2], by simp [pN2], by simp [pN2], fun z hz => by simp [pN2] at hz; omega⟩

theorem build3 (a b c : Int) (u : World) : (Instr.buildSlice 30 3 #[(0, .int .u8 a), (1, .int .u8 b), (2, .int .u8 c)]).run Try.prog u = .ok (.slice (some ⟨u.heap.size, 0, none⟩) 3 3) (u.alloc (.cells #[.int .u8 a, .int .u8 b, .int .u8 c] 5)) := by kernel_rfl
set_option maxRecDepth 100000 in
set_option maxHeartbeats 4000000 in
theorem nil_ (w : World) (s c : Int) (v : Value) (xs : List Int) (hr : Reads .u8 w v xs) (hb : xs.length ≤ 140737488355328) (hs : 0 ≤ s ∧ s ≤ 65535) (hc : 0 ≤ c ∧ c ≤ 255) :
    Calls Try.prog 8 #[.agg #[.int .u16 s, v], .int .u8 c] w (Chunk.TrueB w) := by
  obtain ⟨W0, hW0⟩ : ∃ W0, w = W0 := ⟨w, rfl⟩
  rw [hW0] at hr ⊢
  clear hW0
  obtain ⟨p, cp, hv, _⟩ := id hr
  obtain ⟨L, hL⟩ : ∃ L, xs.length = L := ⟨_, rfl⟩
  rw [hL] at hv
  subst hv
  have HL := Lib.hid hL
  have HR := Lib.hid hr
  have HBB := Lib.hid hb
  have HC := Lib.hid hc
  clear hL hr hb
  have P1 := Lib.hid (fun (b : Nat) (u : World) => show Calls Try.prog 16 #[.pointer none, .agg #[.int .u32 0, .int .u16 0, .int .u16 0, .bool false, .bool false, .bool false, .slice (some ⟨b, 0, none⟩) 1 1]] u _ from put_nil ⟨0, 0, 0, false, false, false, [1]⟩ (.slice (some ⟨b, 0, none⟩) 1 1) u)
  go_enter Try.func8, Try.ntmps8
  go_upto_region 9 with (first
    | ((with_reducible refine wpl_boxAt rfl 32 (.tmp 0) rfl #[.int .u16 s, .slice p L cp] ?_ ?_); rfl; go_must (intro w1 hat1 hb1 hs1; have HB1 := Lib.hid hb1; have q0 := hat1.cell 0; have q1 := hat1.cell 1; simp at q0 q1; clear hb1 hs1 hat1))
    | (go_at_call 11; go_must (refine (Chunk.own11 _ s _ xs (HR.out.below HB1.out) HBB.out).mono ?_; rintro e w2 ⟨v2, rfl, hv2, hb2⟩; obtain ⟨p2, c2, hvv, _⟩ := id hv2.reads; rw [HL.out] at hvv; subst hvv; have HB2 := Lib.hid (HB1.out.trans (hb2.mono HB1.out.size)); clear hb2 hv2 q0 q1))
    | (go_at_call 10; go_must (refine (Chunk.cut_bad _ none s 5 p2 L c2 false (by simp [Chunk.cutE]) (by have := HBB.out; have := HL.out; omega) hs (by omega)).mono ?_; rintro e w3 ⟨he, hb3⟩; rw [show Chunk.cutE (none : Option Addr).isNone L s 5 = 1 from by simp [Chunk.cutE]] at he; subst he; have HB3 := Lib.hid (HB2.out.trans (hb3.mono HB2.out.size)); clear hb3))
    | (go_at_call 16; go_must (refine (P1.out _ _).mono ?_; rintro e w4 ⟨rfl, hb4⟩; have hba := (Below.refl w3.heap.size w3).alloc (Nat.le_refl _) (.cells #[.int .u8 1] 5); have HB4 := Lib.hid (HB3.out.trans ((hba.trans (hb4.mono hba.size)).mono HB3.out.size)); clear hb4 hba))
    | (go_at_call 15; go_must (refine (newBox 0 _).mono ?_; rintro e w5 ⟨g, b1, b2, rfl, hbx, hb5, hg1, hg2, hg3⟩; have HBX := Lib.hid hbx; have HB5 := Lib.hid (HB4.out.trans (hb5.mono HB4.out.size)); have HG1 := Lib.hid (And.intro hg1 (And.intro hg2 hg3)); clear hbx hb5 hg1 hg2 hg3))
    | (go_at_call 14; go_must (refine (Chunk.answers _).mono ?_; rintro e w6 ⟨rfl, hb6⟩; have HBX6 := Lib.hid (HBX.out.below hb6); have HB6 := Lib.hid (HB5.out.trans (hb6.mono HB5.out.size)); clear hb6))
    | (go_at_call 19; go_must (refine (held_nil _).mono ?_; rintro e w7 ⟨rfl, hb7⟩; have HBX7 := Lib.hid (HBX6.out.below hb7); have HB7 := Lib.hid (HB6.out.trans (hb7.mono HB6.out.size)); clear hb7)))
  obtain ⟨w8, hw8⟩ : ∃ w8, w7.alloc (.cells #[.int .u8 c, .int .u8 c] 5) = w8 := ⟨_, rfl⟩
  have hba := (Below.refl w7.heap.size w7).alloc (Nat.le_refl _) (.cells #[.int .u8 c, .int .u8 c] 5)
  have hat8 : At w8 w7.heap.size 5 #[.int .u8 c, .int .u8 c] := by rw [← hw8]; exact At.new _ _ _
  have hrd8 : Reads .u8 w8 (.slice (some ⟨w7.heap.size, 0, none⟩) 2 2) (pN1 c).data := by
    rw [← hw8]
    exact Reads.alloc .u8 w7 [c, c] 5 (0, 0) 2 (Nat.le_refl _) (by simp [maxLen])
  have hsz8 : w8.heap.size = w7.heap.size + 1 := by rw [← hw8]; simp
  rw [hw8] at hba ⊢
  have HBX8 := Lib.hid (Box.rebase (Z' := w7.heap.size + 1) (HBX7.out.below hba))
  have HB8 := Lib.hid (HB7.out.trans (hba.mono HB7.out.size))
  have HG8 := Lib.hid (show w7.heap.size < w8.heap.size by omega)
  have P2 := Lib.hid (show Calls Try.prog 16 #[.pointer (some ⟨g, 0, none⟩), .agg #[.int .u32 1, .int .u16 0, .int .u16 0, .bool true, .bool false, .bool false, .slice (some ⟨w7.heap.size, 0, none⟩) 2 2]] w8 _ from put HBX8.out (pN1 c) (.slice (some ⟨w7.heap.size, 0, none⟩) 2 2) hrd8 (pN1_ok c HC.out) (by simp [s0]) (by omega))
  have HAT8 := Lib.hid hat8
  have HW07 := Lib.hid HB7.out.size
  clear hat8 hrd8 hsz8 hba hw8
  obtain ⟨c', hc'⟩ : ∃ c', IntKind.u8.wrap (c + 1) = c' := ⟨_, rfl⟩
  have HG := Lib.hid (show W0.heap.size ≤ g ∧ W0.heap.size ≤ b1 ∧ W0.heap.size ≤ b2 by have h1 := HG1.out; have h2 := HB4.out.size; omega)
  have P3 := Lib.hid (fun (u : World) (h : Box (w7.heap.size + 1) u g b1 b2 (sN c)) (hz : w7.heap.size + 1 ≤ u.heap.size) => show Calls Try.prog 16 #[.pointer (some ⟨g, 0, none⟩), .agg #[.int .u32 2, .int .u16 0, .int .u16 0, .bool false, .bool true, .bool false, .slice (some ⟨u.heap.size, 0, none⟩) 1 1]] (u.alloc (.cells #[.int .u8 9] 5)) _ from
    put (h.below ((Below.refl _ _).alloc (Nat.le_refl _) _)) pN2 (.slice (some ⟨u.heap.size, 0, none⟩) 1 1) (Reads.one .u8 u 9 5) pN2_ok (by simp [sN]) (by simp; omega))
  go_upto_region 12 with (first
    | (go_at_call 16; have _t := HBX8; clear _t; go_must (refine P2.out.mono ?_; rintro e w9 ⟨v9, he9, hv9, hbx9, hb9⟩; subst he9; have HBX9 := Lib.hid (show Box (w7.heap.size + 1) w9 g b1 b2 (sN c) from hbx9); have HBB9 := Lib.hid hb9; have HB9 := Lib.hid (HB8.out.trans (hb9.below (B := W0.heap.size) (by have h1 := HG.out; rintro k (rfl | rfl | rfl); exact h1.1; exact h1.2.1; exact h1.2.2) HB8.out.size)); have HAT9 := Lib.hid (show At w9 w7.heap.size 5 #[.int .u8 c, .int .u8 c] from by have h2 := HBX8.out; obtain ⟨_, _, _, _, h2⟩ := h2; unfold At; rw [hb9.block _ HAT8.out.lt (by rintro (e | e | e); exact at_ne HAT8.out h2.row (by decide) e; exact h2.map1.ne_at HAT8.out e.symm; exact h2.map2.ne_at HAT8.out e.symm)]; exact HAT8.out); have HS9 := Lib.hid hb9.size; clear hv9 hbx9 hb9 HBX8))
    | ((with_reducible refine wpl_storeC rfl 5 (.tmp 59) (.tmp 58) rfl rfl w7.heap.size 0 5 #[.int .u8 c, .int .u8 c] #[.int .u8 c', .int .u8 c] (.int .u8 c') ?_ ?_ HAT9.out ?_ (by kernel_rfl) ?_ ?_ ?_); rfl; (rw [← hc']; rfl); exact (show (0 : Nat) < 2 by decide); rfl; rfl; go_must (intro w10 hat10 hg10; have HBX10 := Lib.hid (HBX9.out.grownIn hg10 HAT9.out (by omega)); have HB10 := Lib.hid (HB9.out.grown hg10 HB9.out.size (fun q e => by cases e; exact HW07.out)); have HS10 := Lib.hid (Nat.le_trans HS9.out hg10.size); clear hat10 hg10))
    | (go_at_call 16; go_must (refine (P3.out w10 HBX10.out (by have := HG8.out; have := HS10.out; omega)).mono ?_; rintro e w11 ⟨v11, he11, hv11, hbx11, hb11⟩; rw [show (putF (sN c) pN2).2.2 = 0 from rfl] at he11; subst he11; have HV11 := Lib.hid (show OwnG _ w11 v11 [⟨0, [c, c, 9]⟩] from hv11); have hba := HB10.out.trans (((Below.refl w10.heap.size w10).alloc (Nat.le_refl _) (.cells #[.int .u8 9] 5)).mono HB10.out.size); have HB11 := Lib.hid (hba.trans (hb11.below (B := W0.heap.size) (by have h1 := HG.out; rintro k (rfl | rfl | rfl); exact h1.1; exact h1.2.1; exact h1.2.2) hba.size)); clear hv11 hbx11 hb11 hba)))
  obtain ⟨gl, cl, hv, _, _, _, hgl⟩ := HV11.out.block (by simp)
  subst hv
  obtain ⟨pm, cm, hra, hrow⟩ := HV11.out.elem 0 _ rfl
  have HCE := Lib.hid (show w11.cell? ⟨gl, 1, none⟩ = some (.slice pm 3 cm) from hra 1 _ rfl)
  have HRO := Lib.hid hrow
  have HGL := Lib.hid hgl
  simp only [List.length_singleton]
  clear hra hrow hgl
  refine Mono.wp_region_mono [some 67, some 68, some 69, some 70, some 71, some 72, some 73, some 74, some 75, some 76, some 77, some 78, some 79, some 80, some 81, some 82, some 83, some 84, some 85, some 4] [Mono.isV (.int .i64 0), Mono.isV (.bool true), Mono.isV (.bool true), Mono.isV (.slice (some ⟨gl, 0, none⟩) 1 cl), Mono.isV (.int .i64 1), Mono.isV (.bool true), Mono.isV (.bool true), Mono.isV (.bool true), Mono.isV (.slice (some ⟨gl, 0, none⟩) 1 cl), Mono.isV (.pointer (some ⟨gl, 0, none⟩)), Mono.isV (.pointer (some ⟨gl, 1, none⟩)), Mono.isV (.slice pm 3 cm), Mono.isV (.string (strOfNums [c, c, 9])), Mono.isV (.int .u8 c), Mono.isV (.int .u8 c), readsP .u8 [c, c, 9], Mono.isV (.string (strOfNums ([c, c, 9]))), Mono.isV (.bool true), Mono.isV (.bool true), Mono.isV (.bool true)] (by kernel_rfl) (by kernel_rfl) ?_ ?_
  · simp only [Mono.OpGoals, and_true]
    refine ⟨?_, ?_, ?_, ?_, ?_, ?_, ?_, ?_, ?_, ?_, ?_, ?_, ?_, ?_, ?_, ?_, ?_, ?_, ?_, ?_⟩
    · intro a u hbu hsu hdu
      have c1 := (hbu.cell (p := ⟨gl, 1, none⟩) HGL.out).trans HCE.out
      refine Mono.if_want rfl ?_
      exact Mono.ok_move (.tmp 14) rfl (hsu 14 (by decide))
    · intro a u hbu hsu hdu
      have c1 := (hbu.cell (p := ⟨gl, 1, none⟩) HGL.out).trans HCE.out
      refine Mono.if_want rfl ?_
      have z67 : a.eval (.tmp 67) = .int .i64 0 := Mono.dep_at hdu (i := 0) (d := 67) rfl rfl rfl
      simp [Act.eval] at z67
      exact Mono.ok_val (.bool true) (by simp [execOp, z67, go_sem, c1]) rfl
    · intro a u hbu hsu hdu
      have c1 := (hbu.cell (p := ⟨gl, 1, none⟩) HGL.out).trans HCE.out
      refine Mono.if_want rfl ?_
      exact Mono.ok_move (.tmp 68) rfl (Mono.dep_at hdu (i := 1) (d := 68) rfl rfl rfl)
    · intro a u hbu hsu hdu
      have c1 := (hbu.cell (p := ⟨gl, 1, none⟩) HGL.out).trans HCE.out
      refine Mono.if_want (Mono.want_at (c := true) rfl rfl (Mono.dep_at hdu (i := 2) (d := 69) rfl rfl rfl) rfl) ?_
      exact Mono.ok_move (.tmp 13) rfl (hsu 13 (by decide))
    · intro a u hbu hsu hdu
      have c1 := (hbu.cell (p := ⟨gl, 1, none⟩) HGL.out).trans HCE.out
      refine Mono.if_want (Mono.want_at (c := true) rfl rfl (Mono.dep_at hdu (i := 2) (d := 69) rfl rfl rfl) rfl) ?_
      have z70 : a.eval (.tmp 70) = .slice (some ⟨gl, 0, none⟩) 1 cl := Mono.dep_at hdu (i := 3) (d := 70) rfl rfl rfl
      simp [Act.eval] at z70
      exact Mono.ok_val (.int .i64 1) (by simp [execOp, z70, go_sem, c1]) rfl
    · intro a u hbu hsu hdu
      have c1 := (hbu.cell (p := ⟨gl, 1, none⟩) HGL.out).trans HCE.out
      refine Mono.if_want (Mono.want_at (c := true) rfl rfl (Mono.dep_at hdu (i := 2) (d := 69) rfl rfl rfl) rfl) ?_
      have z71 : a.eval (.tmp 71) = .int .i64 1 := Mono.dep_at hdu (i := 4) (d := 71) rfl rfl rfl
      simp [Act.eval] at z71
      exact Mono.ok_val (.bool true) (by simp [execOp, z71, go_sem, c1]) rfl
    · intro a u hbu hsu hdu
      have c1 := (hbu.cell (p := ⟨gl, 1, none⟩) HGL.out).trans HCE.out
      refine Mono.if_want rfl ?_
      have z69 : a.eval (.tmp 69) = .bool true := Mono.dep_at hdu (i := 2) (d := 69) rfl rfl rfl
      simp [Act.eval] at z69
      have z72 : a.eval (.tmp 72) = .bool true := Mono.dep_at hdu (i := 5) (d := 72) rfl rfl rfl
      simp [Act.eval] at z72
      exact Mono.ok_val (.bool true) (by simp [execOp, z69, z72, go_sem, c1]) rfl
    · intro a u hbu hsu hdu
      have c1 := (hbu.cell (p := ⟨gl, 1, none⟩) HGL.out).trans HCE.out
      refine Mono.if_want rfl ?_
      exact Mono.ok_move (.tmp 73) rfl (Mono.dep_at hdu (i := 6) (d := 73) rfl rfl rfl)
    · intro a u hbu hsu hdu
      have c1 := (hbu.cell (p := ⟨gl, 1, none⟩) HGL.out).trans HCE.out
      refine Mono.if_want (Mono.want_at (c := true) rfl rfl (Mono.dep_at hdu (i := 7) (d := 74) rfl rfl rfl) rfl) ?_
      exact Mono.ok_move (.tmp 13) rfl (hsu 13 (by decide))
    · intro a u hbu hsu hdu
      have c1 := (hbu.cell (p := ⟨gl, 1, none⟩) HGL.out).trans HCE.out
      refine Mono.if_want (Mono.want_at (c := true) rfl rfl (Mono.dep_at hdu (i := 7) (d := 74) rfl rfl rfl) rfl) ?_
      have z75 : a.eval (.tmp 75) = .slice (some ⟨gl, 0, none⟩) 1 cl := Mono.dep_at hdu (i := 8) (d := 75) rfl rfl rfl
      simp [Act.eval] at z75
      exact Mono.ok_val (.pointer (some ⟨gl, 0, none⟩)) (by simp [execOp, z75, go_sem, c1]) rfl
    · intro a u hbu hsu hdu
      have c1 := (hbu.cell (p := ⟨gl, 1, none⟩) HGL.out).trans HCE.out
      refine Mono.if_want (Mono.want_at (c := true) rfl rfl (Mono.dep_at hdu (i := 7) (d := 74) rfl rfl rfl) rfl) ?_
      have z76 : a.eval (.tmp 76) = .pointer (some ⟨gl, 0, none⟩) := Mono.dep_at hdu (i := 9) (d := 76) rfl rfl rfl
      simp [Act.eval] at z76
      exact Mono.ok_val (.pointer (some ⟨gl, 1, none⟩)) (by simp [execOp, z76, go_sem, c1]) rfl
    · intro a u hbu hsu hdu
      have c1 := (hbu.cell (p := ⟨gl, 1, none⟩) HGL.out).trans HCE.out
      refine Mono.if_want (Mono.want_at (c := true) rfl rfl (Mono.dep_at hdu (i := 7) (d := 74) rfl rfl rfl) rfl) ?_
      have z77 : a.eval (.tmp 77) = .pointer (some ⟨gl, 1, none⟩) := Mono.dep_at hdu (i := 10) (d := 77) rfl rfl rfl
      simp [Act.eval] at z77
      exact Mono.ok_val (.slice pm 3 cm) (by simp [execOp, z77, go_sem, c1]) rfl
    · intro a u hbu hsu hdu
      have c1 := (hbu.cell (p := ⟨gl, 1, none⟩) HGL.out).trans HCE.out
      refine Mono.if_want (Mono.want_at (c := true) rfl rfl (Mono.dep_at hdu (i := 7) (d := 74) rfl rfl rfl) rfl) ?_
      have z78 : a.eval (.tmp 78) = .slice pm 3 cm := Mono.dep_at hdu (i := 11) (d := 78) rfl rfl rfl
      exact Mono.ok_conv 30 9 (.tmp 78) rfl _ (by rw [z78]; exact Chunk.string30 (xs := [c, c, 9]) (Row.below HRO.out hbu).reads) rfl
    · intro a u hbu hsu hdu
      have c1 := (hbu.cell (p := ⟨gl, 1, none⟩) HGL.out).trans HCE.out
      refine Mono.if_want (Mono.want_at (c := true) rfl rfl (Mono.dep_at hdu (i := 7) (d := 74) rfl rfl rfl) rfl) ?_
      exact Mono.ok_move (.tmp 1) rfl (hsu 1 (by decide))
    · intro a u hbu hsu hdu
      have c1 := (hbu.cell (p := ⟨gl, 1, none⟩) HGL.out).trans HCE.out
      refine Mono.if_want (Mono.want_at (c := true) rfl rfl (Mono.dep_at hdu (i := 7) (d := 74) rfl rfl rfl) rfl) ?_
      exact Mono.ok_move (.tmp 1) rfl (hsu 1 (by decide))
    · intro a u hbu hsu hdu
      have c1 := (hbu.cell (p := ⟨gl, 1, none⟩) HGL.out).trans HCE.out
      refine Mono.if_want (Mono.want_at (c := true) rfl rfl (Mono.dep_at hdu (i := 7) (d := 74) rfl rfl rfl) rfl) ?_
      have z80 : a.eval (.tmp 80) = .int .u8 c := Mono.dep_at hdu (i := 13) (d := 80) rfl rfl rfl
      have z81 : a.eval (.tmp 81) = .int .u8 c := Mono.dep_at hdu (i := 14) (d := 81) rfl rfl rfl
      simp [Act.eval] at z80 z81
      exact Mono.ok_valW (.slice (some ⟨u.heap.size, 0, none⟩) 3 3) (u.alloc (.cells #[.int .u8 c, .int .u8 c, .int .u8 9] 5)) (by simp [execOp, Act.eval, z80, z81, Sem.run_bind, build3, Result.andThen]) ((Below.refl _ _).alloc (Nat.le_refl _) _) (Reads.alloc .u8 u [c, c, 9] 5 (0, 0) 3 (Nat.le_refl _) (by simp [maxLen]))
    · intro a u hbu hsu hdu
      have c1 := (hbu.cell (p := ⟨gl, 1, none⟩) HGL.out).trans HCE.out
      refine Mono.if_want (Mono.want_at (c := true) rfl rfl (Mono.dep_at hdu (i := 7) (d := 74) rfl rfl rfl) rfl) ?_
      exact Mono.ok_conv 30 9 (.tmp 82) rfl _ (Chunk.string30 (Mono.dep_at hdu (i := 15) (d := 82) rfl rfl rfl)) rfl
    · intro a u hbu hsu hdu
      have c1 := (hbu.cell (p := ⟨gl, 1, none⟩) HGL.out).trans HCE.out
      refine Mono.if_want (Mono.want_at (c := true) rfl rfl (Mono.dep_at hdu (i := 7) (d := 74) rfl rfl rfl) rfl) ?_
      have z79 : a.eval (.tmp 79) = .string (strOfNums [c, c, 9]) := Mono.dep_at hdu (i := 12) (d := 79) rfl rfl rfl
      simp [Act.eval] at z79
      have z83 : a.eval (.tmp 83) = .string (strOfNums ([c, c, 9])) := Mono.dep_at hdu (i := 16) (d := 83) rfl rfl rfl
      simp [Act.eval] at z83
      exact Mono.ok_val (.bool true) (by simp [execOp, z79, z83, go_sem, c1]) rfl
    · intro a u hbu hsu hdu
      have c1 := (hbu.cell (p := ⟨gl, 1, none⟩) HGL.out).trans HCE.out
      refine Mono.if_want rfl ?_
      have z74 : a.eval (.tmp 74) = .bool true := Mono.dep_at hdu (i := 7) (d := 74) rfl rfl rfl
      simp [Act.eval] at z74
      have z84 : a.eval (.tmp 84) = .bool true := Mono.dep_at hdu (i := 17) (d := 84) rfl rfl rfl
      simp [Act.eval] at z84
      exact Mono.ok_val (.bool true) (by simp [execOp, z74, z84, go_sem, c1]) rfl
    · intro a u hbu hsu hdu
      have c1 := (hbu.cell (p := ⟨gl, 1, none⟩) HGL.out).trans HCE.out
      refine Mono.if_want rfl ?_
      exact Mono.ok_assign (.tmp 85) rfl (Mono.dep_at hdu (i := 18) (d := 85) rfl rfl rfl)
  intro u hu
  simp only [Mono.Fin]
  rintro _ rfl _ rfl _ rfl _ rfl _ rfl _ rfl _ rfl _ rfl _ rfl _ rfl _ rfl _ rfl _ rfl _ rfl _ rfl v82 h82 _ rfl _ rfl _ rfl _ rfl
  simp [Act.put]
  go_wp2_with fail
  go_ret
  exact ⟨rfl, HB11.out.trans (hu.mono HB11.out.size)⟩
end Go.Proofs.Yteiiifonejkjbaa.Bx
