/-
  The law MsgHop: plain part, and the walk.
-/
import Derived.Test.YtcekkppjalipfaaMsg6
import Derived.Test.YtcekkppjalipfaaReg
namespace Go.Proofs.Ytcekkppjalipfaa.Avp
open Go.RowKit Mem Cells Avps Wire Ops
set_option linter.unusedVariables false
set_option linter.unusedSimpArgs false

theorem hop_plain (m : M) (h : Int) : (∃ e, e ≠ 0 ∧ putM m = ([], e) ∧ putM { m with hop := h } = ([], e)) ∨
    ∃ A B, A.length = 12 ∧ (A.length + B.length ≤ 4096) ∧ putM m = (A ++ (bytesOf m.hop 4 4 ++ B), 0) ∧ putM { m with hop := h } = (A ++ (bytesOf h 4 4 ++ B), 0) := by
  have e2 : mixB { m with hop := h } = mixB m := rfl
  have e3 : flagM { m with hop := h } = flagM m := rfl
  unfold putM headM
  simp only [e2, e3]
  by_cases h1 : 16777215 < m.code
  · exact .inl ⟨11, by decide, by rw [if_pos h1], by rw [if_pos h1]⟩
  by_cases h2 : mixB m = true
  · exact .inl ⟨2, by decide, by rw [if_neg h1, if_pos h2], by rw [if_neg h1, if_pos h2]⟩
  by_cases h3 : (putOf m.avps).2 = 0
  · by_cases h4 : 4096 < 20 + (putOf m.avps).1.length
    · exact .inl ⟨4, by decide, by rw [if_neg h1, if_neg h2, if_neg (by simpa using h3), if_pos h4], by rw [if_neg h1, if_neg h2, if_neg (by simpa using h3), if_pos h4]⟩
    · refine .inr ⟨[1] ++ bytesOf (20 + ((putOf m.avps).1.length : Int)) 3 3 ++ [flagM m] ++ bytesOf m.code 3 3 ++ bytesOf m.app 4 4, bytesOf m.fin 4 4 ++ (putOf m.avps).1, by simp [bytesOf_length], by simp [bytesOf_length]; omega, ?_, ?_⟩
      · rw [if_neg h1, if_neg h2, if_neg (by simpa using h3), if_neg h4]; simp
      · rw [if_neg h1, if_neg h2, if_neg (by simpa using h3), if_neg h4]; simp
  · exact .inl ⟨(putOf m.avps).2, h3, by rw [if_neg h1, if_neg h2, if_pos h3], by rw [if_neg h1, if_neg h2, if_pos h3]⟩

set_option maxRecDepth 100000 in
set_option maxHeartbeats 1600000 in
theorem hop (m : M) (p : Option Addr) (c : Nat) (z : Int) (w : World) (hh : u32 z) (hr : ReadsL w (.slice p m.avps.length c) m.avps) (hok : m.ok) (hd : ∀ a ∈ m.avps, a.data.length ≤ 140737488351232) :
    Calls Try.prog 4 #[.agg (rowM m (.slice p m.avps.length c)), .int .u32 z] w fun e w' => e = .returned (.bool true) ∧ Below w.heap.size w w' := by
  have hh0 : 0 ≤ z ∧ z ≤ 4294967295 := hh
  have hone : (Value.slice p m.avps.length c).oneCell' = true := rfl
  have PO := Lib.hid (fun u (h : ReadsL u (.slice p m.avps.length c) m.avps) => own m p c u h (fun a ha => by have := hd a ha; omega))
  obtain ⟨m1, hm1⟩ : ∃ m1, ({ m with avps := m.avps.take 200 } : M) = m1 := ⟨_, rfl⟩
  obtain ⟨m2, hm2⟩ : ∃ m2, ({ m1 with hop := z } : M) = m2 := ⟨_, rfl⟩
  have hav : m2.avps = m1.avps := by rw [← hm2]
  have ok1 : m1.ok := by rw [← hm1]; exact ⟨hok.1, hok.2.1, hok.2.2.1, hok.2.2.2.1, fun a ha => hok.2.2.2.2 a (List.mem_of_mem_take ha)⟩
  have ok2 : m2.ok := by rw [← hm2]; exact ⟨ok1.1, ok1.2.1, hh, ok1.2.2.2.1, ok1.2.2.2.2⟩
  have hd1 : ∀ a ∈ m1.avps, a.data.length ≤ 140737488355300 := by rw [← hm1]; exact fun a ha => by have := hd a (List.mem_of_mem_take ha); omega
  have hd2 : ∀ a ∈ m2.avps, a.data.length ≤ 140737488355300 := by rw [hav]; exact hd1
  have P1 := Lib.hid (fun q k u (h : ReadsL u (.slice q m1.avps.length k) m1.avps) => msgPut m1 q k u h ok1 hd1)
  have P2 := Lib.hid (fun q k u (h : ReadsL u (.slice q m1.avps.length k) m1.avps) => by have := msgPut m2 q k u (by rw [hav]; exact h) ok2 hd2; rwa [hav] at this)
  have ROW := Lib.hid (fun q k => show (rowM m1 (.slice q m1.avps.length k)).set! 6 (.int .u32 z) = rowM m2 (.slice q m1.avps.length k) by rw [← hm2]; rfl)
  rw [hm1] at PO
  have HR := Lib.hid hr
  have PL := hop_plain m1 z
  rw [hm2] at PL
  rcases PL with ⟨er, he0, e1, e2⟩ | ⟨A, B, hA, hB, e1, e2⟩
  · rw [e1] at P1
    rw [e2] at P2
    have hb1 : (er == 0) = false := by simpa using he0
    clear e1 e2 hm1 hm2 hav ok1 ok2 hd1 hd2 hr hok hd hh
    go_enter Try.func4, Try.ntmps4
    go_wp2_with (first
      | ((with_reducible refine wpl_boxAt rfl 25 (.tmp 0) rfl (rowM m (.slice p m.avps.length c)) ?_ ?_); rfl; go_must (intro w0 hat0 hb0 hs0; clear hs0))
      | ((with_reducible refine wpl_loadAt rfl 25 (.tmp 2) rfl w.heap.size 25 (rowM m (.slice p m.avps.length c)) hat0 _ Try.underlying25 rfl (by kernel_rfl) ?_ ?_); rfl)
      | (go_at_call 11; have _t := hb0; clear _t; go_must (refine (PO.out _ (HR.out.below hb0)).mono ?_; rintro e w1 ⟨p1, n1, c1, rfl, hv1, hb1⟩; obtain ⟨_, _, ee, _⟩ := hv1.reads.shape; cases ee; have hb01 := hb0.trans (hb1.mono hb0.size); have hat1 := hat0.ext hb1; clear hat0; clear hb0 hb1; have hat0 := hat1; clear hat1; have HB := Lib.hid hb01; clear hb01; have hL1 := hv1.reads; clear hv1; have T0 := hat0.lt))
      | ((with_reducible refine wpl_allocAt rfl 25 rfl (rowM ⟨false, false, false, false, 0, 0, 0, 0, []⟩ (.slice none 0 0)) (by kernel_rfl) ?_); go_must (intro w2 hatn hu hs2; have hat1 := hat0.ext hu; clear hat0 hs2; have hat0 := hat1; clear hat1))
      | ((with_reducible refine wpl_storeR rfl 25 (.tmp 5) (.tmp 11) rfl rfl w1.heap.size 25 _ (rowM m1 (.slice p1 m1.avps.length c1)) ?_ ?_ hatn (by kernel_rfl) ?_ ?_ ?_); rfl; rfl; rfl; (simp [rowM, Value.oneCell']); go_must (intro w3 hatn3 hg3; have hu3 := below_grown hu hg3 hu.size (Nat.le_refl _); have hat1 := hat0.grown hg3 (by omega); clear hat0 hatn hu hg3; have hat0 := hat1; have hatn := hatn3; have hu := hu3; clear hat1 hatn3 hu3))
      | ((with_reducible refine wpl_storeC rfl 22 (.tmp 13) (.tmp 12) rfl rfl w1.heap.size 6 25 (rowM m1 (.slice p1 m1.avps.length c1)) (rowM m2 (.slice p1 m1.avps.length c1)) (.int .u32 z) ?_ ?_ hatn ?_ (by kernel_rfl) ?_ ?_ ?_); rfl; rfl; (show (6 : Nat) < 9; decide); rfl; exact ROW.out p1 c1; go_must (intro w4 hatn4 hg4; have hu4 := below_grown hu hg4 hu.size (Nat.le_refl _); have hat1 := hat0.grown hg4 (by omega); clear hat0 hatn hu hg4; have hat0 := hat1; have hatn := hatn4; have hu := hu4; clear hat1 hatn4 hu4))
      | (go_at_call 11; have _t := hatn; clear _t; go_must (refine (PO.out _ (HR.out.below (HB.out.trans (hu.mono HB.out.size)))).mono ?_; rintro e w5 ⟨p5, n5, c5, rfl, hv5, hb⟩; obtain ⟨_, _, ee, _⟩ := hv5.reads.shape; cases ee; have hL5 := hv5.reads; clear hv5; have hu1 := hu.trans (hb.mono hu.size); have hat1 := hat0.ext hb; have hatn1 := hatn.ext hb; clear hu hat0 hatn; have hu := hu1; have hat0 := hat1; have hatn := hatn1; clear hu1 hat1 hatn1; clear hb))
      | (go_at_call 10; have _t := hL5; clear _t; go_must (refine (P1.out _ _ _ hL5).mono ?_; clear hL5; rintro e w6 ⟨v6, rfl, hr6, hb⟩; have hu1 := hu.trans (hb.mono hu.size); have hat1 := hat0.ext hb; have hatn1 := hatn.ext hb; clear hu hat0 hatn; have hu := hu1; have hat0 := hat1; have hatn := hatn1; clear hu1 hat1 hatn1; clear hb; have hx6 := hr6.reads; clear hr6; obtain ⟨p6, c6, rfl, _, _, _, _⟩ := id hx6))
      | ((with_reducible refine wpl_loadAt rfl 25 (.tmp 5) rfl w1.heap.size 25 (rowM m2 (.slice p1 m1.avps.length c1)) hatn _ Try.underlying25 rfl (by kernel_rfl) ?_ ?_); rfl)
      | (go_at_call 10; have _t := hx6; clear _t; go_must (refine (P2.out _ _ _ (hL1.below hu)).mono ?_; clear hL1; rintro e w7 ⟨v7, rfl, hr7, hb⟩; have hu1 := hu.trans (hb.mono hu.size); have hat1 := hat0.ext hb; have hatn1 := hatn.ext hb; clear hu hat0 hatn; have hu := hu1; have hat0 := hat1; have hatn := hatn1; clear hu1 hat1 hatn1; have hx := hx6.below hb; clear hb hx6; have hx6 := hx; clear hx; have hx7 := hr7.reads; clear hr7; obtain ⟨p7, c7, rfl, _, _, _, _⟩ := id hx7))
      | (go_at_call 13; go_must (refine (answers _).mono ?_; rintro e w8 ⟨rfl, hb⟩; have hx6' := hx6.below hb; have hx7' := hx7.below hb; have hu1 := hu.trans (hb.mono hu.size); have hat1 := hat0.ext hb; have hatn1 := hatn.ext hb; clear hu hat0 hatn; have hu := hu1; have hat0 := hat1; have hatn := hatn1; clear hu1 hat1 hatn1; clear hb hx6 hx7; have hx6 := hx6'; have hx7 := hx7'; clear hx6' hx7')))
    go_ret
    exact ⟨rfl, HB.out.trans (hu.mono HB.out.size)⟩
  · have HA := Lib.hid hA
    have l6 : (A ++ (bytesOf m1.hop 4 4 ++ B)).length = 16 + B.length := by simp [bytesOf_length, hA]; omega
    have l7 : (A ++ (bytesOf z 4 4 ++ B)).length = 16 + B.length := by simp [bytesOf_length, hA]; omega
    have f6 : (A ++ (bytesOf m1.hop 4 4 ++ B)).take 12 = A := by rw [← hA]; simp
    have f7 : (A ++ (bytesOf z 4 4 ++ B)).take 12 = A := by rw [← hA]; simp
    have g6 : (A ++ (bytesOf m1.hop 4 4 ++ B)).drop 16 = B := by
      rw [← List.append_assoc, List.drop_append_of_le_length (by simp [bytesOf_length, hA])]; simp [bytesOf_length, hA]
    have g7 : (A ++ (bytesOf z 4 4 ++ B)).drop 16 = B := by
      rw [← List.append_assoc, List.drop_append_of_le_length (by simp [bytesOf_length, hA])]; simp [bytesOf_length, hA]
    have k7 : ((A ++ (bytesOf z 4 4 ++ B)).drop 12).take 4 = bytesOf z 4 4 := by
      rw [← hA, List.drop_left, List.take_append_of_le_length (by simp [bytesOf_length])]; exact List.take_of_length_le (by simp [bytesOf_length])
    obtain ⟨X, hX⟩ : ∃ X, A ++ (bytesOf m1.hop 4 4 ++ B) = X := ⟨_, rfl⟩
    obtain ⟨Y, hY⟩ : ∃ Y, A ++ (bytesOf z 4 4 ++ B) = Y := ⟨_, rfl⟩
    rw [hX] at l6 f6 g6 e1
    rw [hY] at l7 f7 g7 k7 e2
    rw [e1] at P1
    rw [e2] at P2
    obtain ⟨Z, hZ⟩ : ∃ Z, bytesOf z 4 4 = Z := ⟨_, rfl⟩
    rw [hZ] at k7
    have PC := Lib.hid (fun u => by have := refPut (.slice none 0 0) [] z 4 u (by omega) Reads.sub0 (by simp); rw [show putted [] z 4 = Z from by rw [putted4, hZ]; rfl] at this; exact this)
    have L6 := Lib.hid l6
    have L7 := Lib.hid l7
    have F6 := Lib.hid f6
    have F7 := Lib.hid f7
    have G6 := Lib.hid g6
    have G7 := Lib.hid g7
    have K7 := Lib.hid k7
    have l67 : X.length = Y.length := by omega
    have L67 := Lib.hid l67
    obtain ⟨N, hN⟩ : ∃ N, Y.length = N := ⟨_, rfl⟩
    clear e1 e2 hm1 hm2 hav ok1 ok2 hd1 hd2 hr hok hd hh hX hY hZ l6 l7 f6 f7 g6 g7 k7 l67 hA hN
    go_enter Try.func4, Try.ntmps4
    go_wp2_with (first
      | ((with_reducible refine wpl_boxAt rfl 25 (.tmp 0) rfl (rowM m (.slice p m.avps.length c)) ?_ ?_); rfl; go_must (intro w0 hat0 hb0 hs0; clear hs0))
      | ((with_reducible refine wpl_loadAt rfl 25 (.tmp 2) rfl w.heap.size 25 (rowM m (.slice p m.avps.length c)) hat0 _ Try.underlying25 rfl (by kernel_rfl) ?_ ?_); rfl)
      | (go_at_call 11; have _t := hb0; clear _t; go_must (refine (PO.out _ (HR.out.below hb0)).mono ?_; rintro e w1 ⟨p1, n1, c1, rfl, hv1, hb1⟩; obtain ⟨_, _, ee, _⟩ := hv1.reads.shape; cases ee; have hb01 := hb0.trans (hb1.mono hb0.size); have hat1 := hat0.ext hb1; clear hat0; clear hb0 hb1; have hat0 := hat1; clear hat1; have HB := Lib.hid hb01; clear hb01; have hL1 := hv1.reads; clear hv1; have T0 := hat0.lt))
      | ((with_reducible refine wpl_allocAt rfl 25 rfl (rowM ⟨false, false, false, false, 0, 0, 0, 0, []⟩ (.slice none 0 0)) (by kernel_rfl) ?_); go_must (intro w2 hatn hu hs2; have hat1 := hat0.ext hu; clear hat0 hs2; have hat0 := hat1; clear hat1))
      | ((with_reducible refine wpl_storeR rfl 25 (.tmp 5) (.tmp 11) rfl rfl w1.heap.size 25 _ (rowM m1 (.slice p1 m1.avps.length c1)) ?_ ?_ hatn (by kernel_rfl) ?_ ?_ ?_); rfl; rfl; rfl; (simp [rowM, Value.oneCell']); go_must (intro w3 hatn3 hg3; have hu3 := below_grown hu hg3 hu.size (Nat.le_refl _); have hat1 := hat0.grown hg3 (by omega); clear hat0 hatn hu hg3; have hat0 := hat1; have hatn := hatn3; have hu := hu3; clear hat1 hatn3 hu3))
      | ((with_reducible refine wpl_storeC rfl 22 (.tmp 13) (.tmp 12) rfl rfl w1.heap.size 6 25 (rowM m1 (.slice p1 m1.avps.length c1)) (rowM m2 (.slice p1 m1.avps.length c1)) (.int .u32 z) ?_ ?_ hatn ?_ (by kernel_rfl) ?_ ?_ ?_); rfl; rfl; (show (6 : Nat) < 9; decide); rfl; exact ROW.out p1 c1; go_must (intro w4 hatn4 hg4; have hu4 := below_grown hu hg4 hu.size (Nat.le_refl _); have hat1 := hat0.grown hg4 (by omega); clear hat0 hatn hu hg4; have hat0 := hat1; have hatn := hatn4; have hu := hu4; clear hat1 hatn4 hu4))
      | (go_at_call 11; have _t := hatn; clear _t; go_must (refine (PO.out _ (HR.out.below (HB.out.trans (hu.mono HB.out.size)))).mono ?_; rintro e w5 ⟨p5, n5, c5, rfl, hv5, hb⟩; obtain ⟨_, _, ee, _⟩ := hv5.reads.shape; cases ee; have hL5 := hv5.reads; clear hv5; have hu1 := hu.trans (hb.mono hu.size); have hat1 := hat0.ext hb; have hatn1 := hatn.ext hb; clear hu hat0 hatn; have hu := hu1; have hat0 := hat1; have hatn := hatn1; clear hu1 hat1 hatn1; clear hb))
      | (go_at_call 10; have _t := hL5; clear _t; go_must (refine (P1.out _ _ _ hL5).mono ?_; clear hL5; rintro e w6 ⟨v6, rfl, hr6, hb⟩; have hu1 := hu.trans (hb.mono hu.size); have hat1 := hat0.ext hb; have hatn1 := hatn.ext hb; clear hu hat0 hatn; have hu := hu1; have hat0 := hat1; have hatn := hatn1; clear hu1 hat1 hatn1; clear hb; have hx6 := hr6.reads; clear hr6; obtain ⟨p6, c6, rfl, _, _, _, _⟩ := id hx6; rw [L67.out] at hx6 ⊢))
      | ((with_reducible refine wpl_loadAt rfl 25 (.tmp 5) rfl w1.heap.size 25 (rowM m2 (.slice p1 m1.avps.length c1)) hatn _ Try.underlying25 rfl (by kernel_rfl) ?_ ?_); rfl)
      | (go_at_call 10; have _t := hx6; clear _t; go_must (refine (P2.out _ _ _ (hL1.below hu)).mono ?_; clear hL1; rintro e w7 ⟨v7, rfl, hr7, hb⟩; have hu1 := hu.trans (hb.mono hu.size); have hat1 := hat0.ext hb; have hatn1 := hatn.ext hb; clear hu hat0 hatn; have hu := hu1; have hat0 := hat1; have hatn := hatn1; clear hu1 hat1 hatn1; have hx := hx6.below hb; clear hb hx6; have hx6 := hx; clear hx; have hx7 := hr7.reads; clear hr7; obtain ⟨p7, c7, rfl, _, _, _, _⟩ := id hx7))
      | (go_at_call 13; go_must (refine (answers _).mono ?_; rintro e w8 ⟨rfl, hb⟩; have hx6' := hx6.below hb; have hx7' := hx7.below hb; have hu1 := hu.trans (hb.mono hu.size); have hat1 := hat0.ext hb; have hatn1 := hatn.ext hb; clear hu hat0 hatn; have hu := hu1; have hat0 := hat1; have hatn := hatn1; clear hu1 hat1 hatn1; clear hb hx6 hx7; have hx6 := hx6'; have hx7 := hx7'; clear hx6' hx7')))
    have hN : 16 ≤ Y.length := by rw [L7.out]; omega
    have hbw := HB.out.trans (hu.mono HB.out.size)
    have hx6 := hx6
    clear hat0 hatn
    refine Mono.wp_region_mono [some 41, some 42, some 43, some 44, some 45, some 46, some 47, some 48, some 49, some 50, some 51, some 52, some 53, some 54, some 55, some 56, some 57, some 58, some 59, some 60, some 61, some 62, some 63, some 64, some 65, some 66, some 4] [Mono.isV (.slice p6 Y.length c6), readsP .u8 A, Mono.isV (.string (strOfNums (A))), Mono.isV (.slice p7 Y.length c7), readsP .u8 A, Mono.isV (.string (strOfNums (A))), Mono.isV (.bool true), Mono.isV (.bool true), Mono.isV (.slice p6 Y.length c6), readsP .u8 B, Mono.isV (.string (strOfNums (B))), Mono.isV (.slice p7 Y.length c7), readsP .u8 B, Mono.isV (.string (strOfNums (B))), Mono.isV (.bool true), Mono.isV (.bool true), Mono.isV (.bool true), Mono.isV (.slice p7 Y.length c7), readsP .u8 Z, Mono.isV (.string (strOfNums (Z))), Mono.isV (.int .u32 z), Mono.isV (.int .u64 z), readsP .u8 Z, Mono.isV (.string (strOfNums (Z))), Mono.isV (.bool true), Mono.isV (.bool true), Mono.isV (.bool true)] (by kernel_rfl) (by kernel_rfl) ?_ ?_
    · simp only [Mono.OpGoals, and_true]
      refine ⟨?_, ?_, ?_, ?_, ?_, ?_, ?_, ?_, ?_, ?_, ?_, ?_, ?_, ?_, ?_, ?_, ?_, ?_, ?_, ?_, ?_, ?_, ?_, ?_, ?_, ?_, ?_⟩
      · intro a u hbu hsu hdu
        have r6 := hx6.below hbu; have r7 := hx7.below hbu; have n67 := L67.out
        refine Mono.if_want rfl ?_
        exact Mono.ok_move (.tmp 6) rfl (hsu 6 (by decide))
      · intro a u hbu hsu hdu
        have r6 := hx6.below hbu; have r7 := hx7.below hbu; have n67 := L67.out
        refine Mono.if_want rfl ?_
        have z41 : a.eval (.tmp 41) = .slice p6 Y.length c6 := Mono.dep_at hdu (i := 0) (d := 41) rfl rfl rfl
        obtain ⟨i0, hi, hz0, hz1, hz2⟩ := info_parts info5
        exact Mono.ok_sub_h 26 (.tmp 41) (.const (.int .i64 12)) rfl _ i0 Try.underlying26 hi hz1 _ _ _ _ z41 rfl (r6) (by omega) (by omega) (F6.out) (fun _ h => h)
      · intro a u hbu hsu hdu
        have r6 := hx6.below hbu; have r7 := hx7.below hbu; have n67 := L67.out
        refine Mono.if_want rfl ?_
        exact Mono.ok_conv 26 9 (.tmp 42) rfl _ (string23 (Mono.dep_at hdu (i := 1) (d := 42) rfl rfl rfl)) rfl
      · intro a u hbu hsu hdu
        have r6 := hx6.below hbu; have r7 := hx7.below hbu; have n67 := L67.out
        refine Mono.if_want rfl ?_
        exact Mono.ok_move (.tmp 8) rfl (hsu 8 (by decide))
      · intro a u hbu hsu hdu
        have r6 := hx6.below hbu; have r7 := hx7.below hbu; have n67 := L67.out
        refine Mono.if_want rfl ?_
        have z44 : a.eval (.tmp 44) = .slice p7 Y.length c7 := Mono.dep_at hdu (i := 3) (d := 44) rfl rfl rfl
        obtain ⟨i0, hi, hz0, hz1, hz2⟩ := info_parts info5
        exact Mono.ok_sub_h 26 (.tmp 44) (.const (.int .i64 12)) rfl _ i0 Try.underlying26 hi hz1 _ _ _ _ z44 rfl (r7) (by omega) (by omega) (F7.out) (fun _ h => h)
      · intro a u hbu hsu hdu
        have r6 := hx6.below hbu; have r7 := hx7.below hbu; have n67 := L67.out
        refine Mono.if_want rfl ?_
        exact Mono.ok_conv 26 9 (.tmp 45) rfl _ (string23 (Mono.dep_at hdu (i := 4) (d := 45) rfl rfl rfl)) rfl
      · intro a u hbu hsu hdu
        have r6 := hx6.below hbu; have r7 := hx7.below hbu; have n67 := L67.out
        refine Mono.if_want rfl ?_
        have z43 : a.eval (.tmp 43) = .string (strOfNums (A)) := Mono.dep_at hdu (i := 2) (d := 43) rfl rfl rfl
        simp [Act.eval] at z43
        have z46 : a.eval (.tmp 46) = .string (strOfNums (A)) := Mono.dep_at hdu (i := 5) (d := 46) rfl rfl rfl
        simp [Act.eval] at z46
        exact Mono.ok_val (.bool true) (by simp [execOp, z43, z46, go_sem]) rfl
      · intro a u hbu hsu hdu
        have r6 := hx6.below hbu; have r7 := hx7.below hbu; have n67 := L67.out
        refine Mono.if_want rfl ?_
        exact Mono.ok_move (.tmp 47) rfl (Mono.dep_at hdu (i := 6) (d := 47) rfl rfl rfl)
      · intro a u hbu hsu hdu
        have r6 := hx6.below hbu; have r7 := hx7.below hbu; have n67 := L67.out
        refine Mono.if_want (Mono.want_at (c := true) rfl rfl (Mono.dep_at hdu (i := 7) (d := 48) rfl rfl rfl) rfl) ?_
        exact Mono.ok_move (.tmp 6) rfl (hsu 6 (by decide))
      · intro a u hbu hsu hdu
        have r6 := hx6.below hbu; have r7 := hx7.below hbu; have n67 := L67.out
        refine Mono.if_want (Mono.want_at (c := true) rfl rfl (Mono.dep_at hdu (i := 7) (d := 48) rfl rfl rfl) rfl) ?_
        have z49 : a.eval (.tmp 49) = .slice p6 Y.length c6 := Mono.dep_at hdu (i := 8) (d := 49) rfl rfl rfl
        obtain ⟨i0, hi, hz0, hz1, hz2⟩ := info_parts info5
        exact Mono.ok_sub_l 26 (.tmp 49) (.const (.int .i64 16)) rfl _ i0 Try.underlying26 hi hz1 _ _ _ _ z49 rfl (r6) (by omega) (by omega) (G6.out) (fun _ h => h)
      · intro a u hbu hsu hdu
        have r6 := hx6.below hbu; have r7 := hx7.below hbu; have n67 := L67.out
        refine Mono.if_want (Mono.want_at (c := true) rfl rfl (Mono.dep_at hdu (i := 7) (d := 48) rfl rfl rfl) rfl) ?_
        exact Mono.ok_conv 26 9 (.tmp 50) rfl _ (string23 (Mono.dep_at hdu (i := 9) (d := 50) rfl rfl rfl)) rfl
      · intro a u hbu hsu hdu
        have r6 := hx6.below hbu; have r7 := hx7.below hbu; have n67 := L67.out
        refine Mono.if_want (Mono.want_at (c := true) rfl rfl (Mono.dep_at hdu (i := 7) (d := 48) rfl rfl rfl) rfl) ?_
        exact Mono.ok_move (.tmp 8) rfl (hsu 8 (by decide))
      · intro a u hbu hsu hdu
        have r6 := hx6.below hbu; have r7 := hx7.below hbu; have n67 := L67.out
        refine Mono.if_want (Mono.want_at (c := true) rfl rfl (Mono.dep_at hdu (i := 7) (d := 48) rfl rfl rfl) rfl) ?_
        have z52 : a.eval (.tmp 52) = .slice p7 Y.length c7 := Mono.dep_at hdu (i := 11) (d := 52) rfl rfl rfl
        obtain ⟨i0, hi, hz0, hz1, hz2⟩ := info_parts info5
        exact Mono.ok_sub_l 26 (.tmp 52) (.const (.int .i64 16)) rfl _ i0 Try.underlying26 hi hz1 _ _ _ _ z52 rfl (r7) (by omega) (by omega) (G7.out) (fun _ h => h)
      · intro a u hbu hsu hdu
        have r6 := hx6.below hbu; have r7 := hx7.below hbu; have n67 := L67.out
        refine Mono.if_want (Mono.want_at (c := true) rfl rfl (Mono.dep_at hdu (i := 7) (d := 48) rfl rfl rfl) rfl) ?_
        exact Mono.ok_conv 26 9 (.tmp 53) rfl _ (string23 (Mono.dep_at hdu (i := 12) (d := 53) rfl rfl rfl)) rfl
      · intro a u hbu hsu hdu
        have r6 := hx6.below hbu; have r7 := hx7.below hbu; have n67 := L67.out
        refine Mono.if_want (Mono.want_at (c := true) rfl rfl (Mono.dep_at hdu (i := 7) (d := 48) rfl rfl rfl) rfl) ?_
        have z51 : a.eval (.tmp 51) = .string (strOfNums (B)) := Mono.dep_at hdu (i := 10) (d := 51) rfl rfl rfl
        simp [Act.eval] at z51
        have z54 : a.eval (.tmp 54) = .string (strOfNums (B)) := Mono.dep_at hdu (i := 13) (d := 54) rfl rfl rfl
        simp [Act.eval] at z54
        exact Mono.ok_val (.bool true) (by simp [execOp, z51, z54, go_sem]) rfl
      · intro a u hbu hsu hdu
        have r6 := hx6.below hbu; have r7 := hx7.below hbu; have n67 := L67.out
        refine Mono.if_want rfl ?_
        have z48 : a.eval (.tmp 48) = .bool true := Mono.dep_at hdu (i := 7) (d := 48) rfl rfl rfl
        simp [Act.eval] at z48
        have z55 : a.eval (.tmp 55) = .bool true := Mono.dep_at hdu (i := 14) (d := 55) rfl rfl rfl
        simp [Act.eval] at z55
        exact Mono.ok_val (.bool true) (by simp [execOp, z48, z55, go_sem]) rfl
      · intro a u hbu hsu hdu
        have r6 := hx6.below hbu; have r7 := hx7.below hbu; have n67 := L67.out
        refine Mono.if_want rfl ?_
        exact Mono.ok_move (.tmp 56) rfl (Mono.dep_at hdu (i := 15) (d := 56) rfl rfl rfl)
      · intro a u hbu hsu hdu
        have r6 := hx6.below hbu; have r7 := hx7.below hbu; have n67 := L67.out
        refine Mono.if_want (Mono.want_at (c := true) rfl rfl (Mono.dep_at hdu (i := 16) (d := 57) rfl rfl rfl) rfl) ?_
        exact Mono.ok_move (.tmp 8) rfl (hsu 8 (by decide))
      · intro a u hbu hsu hdu
        have r6 := hx6.below hbu; have r7 := hx7.below hbu; have n67 := L67.out
        refine Mono.if_want (Mono.want_at (c := true) rfl rfl (Mono.dep_at hdu (i := 16) (d := 57) rfl rfl rfl) rfl) ?_
        have z58 : a.eval (.tmp 58) = .slice p7 Y.length c7 := Mono.dep_at hdu (i := 17) (d := 58) rfl rfl rfl
        obtain ⟨i0, hi, hz0, hz1, hz2⟩ := info_parts info5
        exact Mono.ok_sub 26 (.tmp 58) (.const (.int .i64 12)) (.const (.int .i64 16)) rfl _ i0 Try.underlying26 hi hz1 _ _ _ _ _ z58 rfl rfl (r7) (by omega) (by omega) (by omega) (K7.out) (fun _ h => h)
      · intro a u hbu hsu hdu
        have r6 := hx6.below hbu; have r7 := hx7.below hbu; have n67 := L67.out
        refine Mono.if_want (Mono.want_at (c := true) rfl rfl (Mono.dep_at hdu (i := 16) (d := 57) rfl rfl rfl) rfl) ?_
        exact Mono.ok_conv 26 9 (.tmp 59) rfl _ (string23 (Mono.dep_at hdu (i := 18) (d := 59) rfl rfl rfl)) rfl
      · intro a u hbu hsu hdu
        have r6 := hx6.below hbu; have r7 := hx7.below hbu; have n67 := L67.out
        refine Mono.if_want (Mono.want_at (c := true) rfl rfl (Mono.dep_at hdu (i := 16) (d := 57) rfl rfl rfl) rfl) ?_
        exact Mono.ok_move (.tmp 1) rfl (hsu 1 (by decide))
      · intro a u hbu hsu hdu
        have r6 := hx6.below hbu; have r7 := hx7.below hbu; have n67 := L67.out
        refine Mono.if_want (Mono.want_at (c := true) rfl rfl (Mono.dep_at hdu (i := 16) (d := 57) rfl rfl rfl) rfl) ?_
        have z61 : a.eval (.tmp 61) = .int .u32 z := Mono.dep_at hdu (i := 20) (d := 61) rfl rfl rfl
        simp [Act.eval] at z61
        exact Mono.ok_val (.int .u64 z) (by simp [execOp, z61, go_sem] <;> simp [convert, IntKind.wrap_u64, IntKind.wrap_i64] <;> omega) rfl
      · intro a u hbu hsu hdu
        have r6 := hx6.below hbu; have r7 := hx7.below hbu; have n67 := L67.out
        refine Mono.if_want (Mono.want_at (c := true) rfl rfl (Mono.dep_at hdu (i := 16) (d := 57) rfl rfl rfl) rfl) ?_
        have z62 : a.eval (.tmp 62) = .int .u64 z := Mono.dep_at hdu (i := 21) (d := 62) rfl rfl rfl
        simp [Act.eval] at z62
        refine Mono.ok_call 14 _ _ rfl #[.slice none 0 0, .int .u64 z, .int .i64 4] (by simp [execOp, z62, go_sem]) ((PC.out u).mono ?_)
        rintro e u1 ⟨v1, rfl, hv1, hb1⟩
        exact ⟨_, rfl, hb1, hv1.reads⟩
      · intro a u hbu hsu hdu
        have r6 := hx6.below hbu; have r7 := hx7.below hbu; have n67 := L67.out
        refine Mono.if_want (Mono.want_at (c := true) rfl rfl (Mono.dep_at hdu (i := 16) (d := 57) rfl rfl rfl) rfl) ?_
        exact Mono.ok_conv 26 9 (.tmp 63) rfl _ (string23 (Mono.dep_at hdu (i := 22) (d := 63) rfl rfl rfl)) rfl
      · intro a u hbu hsu hdu
        have r6 := hx6.below hbu; have r7 := hx7.below hbu; have n67 := L67.out
        refine Mono.if_want (Mono.want_at (c := true) rfl rfl (Mono.dep_at hdu (i := 16) (d := 57) rfl rfl rfl) rfl) ?_
        have z60 : a.eval (.tmp 60) = .string (strOfNums (Z)) := Mono.dep_at hdu (i := 19) (d := 60) rfl rfl rfl
        simp [Act.eval] at z60
        have z64 : a.eval (.tmp 64) = .string (strOfNums (Z)) := Mono.dep_at hdu (i := 23) (d := 64) rfl rfl rfl
        simp [Act.eval] at z64
        exact Mono.ok_val (.bool true) (by simp [execOp, z60, z64, go_sem]) rfl
      · intro a u hbu hsu hdu
        have r6 := hx6.below hbu; have r7 := hx7.below hbu; have n67 := L67.out
        refine Mono.if_want rfl ?_
        have z57 : a.eval (.tmp 57) = .bool true := Mono.dep_at hdu (i := 16) (d := 57) rfl rfl rfl
        simp [Act.eval] at z57
        have z65 : a.eval (.tmp 65) = .bool true := Mono.dep_at hdu (i := 24) (d := 65) rfl rfl rfl
        simp [Act.eval] at z65
        exact Mono.ok_val (.bool true) (by simp [execOp, z57, z65, go_sem]) rfl
      · intro a u hbu hsu hdu
        have r6 := hx6.below hbu; have r7 := hx7.below hbu; have n67 := L67.out
        refine Mono.if_want rfl ?_
        exact Mono.ok_assign (.tmp 66) rfl (Mono.dep_at hdu (i := 25) (d := 66) rfl rfl rfl)
    intro u hu
    simp only [Mono.Fin]
    rintro _ rfl v42 h42 _ rfl _ rfl v45 h45 _ rfl _ rfl _ rfl _ rfl v50 h50 _ rfl _ rfl v53 h53 _ rfl _ rfl _ rfl _ rfl _ rfl v59 h59 _ rfl _ rfl _ rfl v63 h63 _ rfl _ rfl _ rfl _ rfl
    simp [Act.put]
    go_wp2
    go_ret
    exact ⟨rfl, hbw.trans (hu.mono hbw.size)⟩
end Go.Proofs.Ytcekkppjalipfaa.Avp
