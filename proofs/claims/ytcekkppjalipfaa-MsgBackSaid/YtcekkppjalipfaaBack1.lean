/-
  Messages there and back: plain.
-/
import Derived.Test.YtcekkppjalipfaaSame3
namespace Go.Proofs.Ytcekkppjalipfaa.Avp
open Go.RowKit Mem Cells Avps Wire Ops
set_option linter.unusedVariables false
set_option linter.unusedSimpArgs false

theorem getM_ok (xs : List Int) (h : ∀ x ∈ xs, 0 ≤ x ∧ x ≤ 255) : ∀ a ∈ (getM xs).1.avps, a.ok := by
  unfold getM
  split
  · exact fun a ha => by cases ha
  split
  · exact fun a ha => by cases ha
  · exact getOf_ok _ (fun x hx => h x (List.mem_of_mem_drop hx))
theorem enc4 (al : List A) : (encAll 0 0 al).length % 4 = 0 := by
  induction al with
  | nil => rfl
  | cons a al ih =>
    rw [encAll_cons, List.length_append]
    have h := encG_length 0 0 a
    have hp : (headN (venB a) + a.data.length + padN a.data.length) % 4 = 0 := by
      unfold padN
      cases venB a
      · show (8 + (a.data.length : Int) + _) % 4 = 0
        split <;> omega
      · show (12 + (a.data.length : Int) + _) % 4 = 0
        split <;> omega
    omega
theorem flag_bits (m : M) : bt (flagM m) 128 = m.req ∧ bt (flagM m) 64 = m.prox ∧ bt (flagM m) 32 = m.fail ∧ bt (flagM m) 16 = m.again := by
  unfold bt flagM
  cases m.req <;> cases m.prox <;> cases m.fail <;> cases m.again <;> decide
theorem flag_bd8 (m : M) : 0 ≤ flagM m ∧ flagM m ≤ 255 := by
  unfold flagM
  cases m.req <;> cases m.prox <;> cases m.fail <;> cases m.again <;> decide
theorem putM_ok {m : M} {Y : List Int} (hok : m.ok) (h : putM m = (Y, 0)) :
    ∃ X, putOf m.avps = (X, 0) ∧ Y = headM m X.length ++ X ∧ 20 + X.length ≤ 4096 ∧ m.code ≤ 16777215 ∧ mixB m = false ∧ X.length % 4 = 0 ∧ (∀ x ∈ X, 0 ≤ x ∧ x ≤ 255) ∧ getOf X = (m.avps, 0, 0) := by
  unfold putM at h
  by_cases h1 : 16777215 < m.code
  · rw [if_pos h1] at h; cases (Prod.mk.inj h).2
  rw [if_neg h1] at h
  by_cases h2 : mixB m = true
  · rw [if_pos h2] at h; cases (Prod.mk.inj h).2
  rw [if_neg h2] at h
  by_cases h3 : (putOf m.avps).2 = 0
  · rw [if_neg (by simpa using h3)] at h
    by_cases h4 : 4096 < 20 + (putOf m.avps).1.length
    · rw [if_pos h4] at h; cases (Prod.mk.inj h).2
    rw [if_neg h4] at h
    obtain ⟨X, hX⟩ : ∃ X, putOf m.avps = (X, 0) := ⟨(putOf m.avps).1, by rw [← h3]⟩
    rw [hX] at h h4
    obtain ⟨k1, k2, k3, k4, k5⟩ := put_ok hX hok.2.2.2.2
    have h4' : ¬ 4096 < 20 + X.length := h4
    exact ⟨X, hX, (Prod.mk.inj h).1.symm, by omega, by omega, by simpa using h2, by rw [k2]; exact enc4 _, k4, k5⟩
  · rw [if_pos h3] at h
    exact absurd (Prod.mk.inj h).2 h3
theorem getM_put {m : M} {Y : List Int} (hok : m.ok) (h : putM m = (Y, 0)) : getM Y = (m, 0) ∧ (∀ y ∈ Y, 0 ≤ y ∧ y ≤ 255) ∧ Y.length ≤ 4096 := by
  obtain ⟨X, hX, rfl, h1, h2, h3, h4, h5, h6⟩ := putM_ok hok h
  obtain ⟨⟨o1, o1'⟩, ⟨o2, o2'⟩, ⟨o3, o3'⟩, ⟨o4, o4'⟩, o5⟩ := hok
  have hl : (headM m X.length ++ X).length = 20 + X.length := by rw [List.length_append, headM_len]
  have b3 : ∀ n : Int, (bytesOf n 3 3).length = 3 := fun n => by rw [bytesOf_length]
  have b4 : ∀ n : Int, (bytesOf n 4 4).length = 4 := fun n => by rw [bytesOf_length]
  have hd : (headM m X.length ++ X).drop 20 = X := by rw [← headM_len m X.length, List.drop_left]
  have g0 : (headM m X.length ++ X).getD 0 0 = 1 := by simp [headM]
  have g1 : getN (headM m X.length ++ X) 1 3 = 20 + X.length := by
    rw [show headM m X.length ++ X = [1] ++ (bytesOf (20 + (X.length : Int)) 3 3 ++ ([flagM m] ++ bytesOf m.code 3 3 ++ bytesOf m.app 4 4 ++ bytesOf m.hop 4 4 ++ bytesOf m.fin 4 4 ++ X)) from by simp [headM], getN_at _ _ _ 1 3 (by simp) (by rw [b3]; rfl) (by omega), bytes_num3 _ (by omega)]
  have g5 : getN (headM m X.length ++ X) 5 3 = m.code := by
    rw [show headM m X.length ++ X = ([1] ++ bytesOf (20 + (X.length : Int)) 3 3 ++ [flagM m]) ++ (bytesOf m.code 3 3 ++ (bytesOf m.app 4 4 ++ bytesOf m.hop 4 4 ++ bytesOf m.fin 4 4 ++ X)) from by simp [headM], getN_at _ _ _ 5 3 (by simp [b3]) (by rw [b3]; rfl) (by omega), bytes_num3 _ (by omega)]
  have g8 : getN (headM m X.length ++ X) 8 4 = m.app := by
    rw [show headM m X.length ++ X = ([1] ++ bytesOf (20 + (X.length : Int)) 3 3 ++ [flagM m] ++ bytesOf m.code 3 3) ++ (bytesOf m.app 4 4 ++ (bytesOf m.hop 4 4 ++ bytesOf m.fin 4 4 ++ X)) from by simp [headM], getN_at _ _ _ 8 4 (by simp [b3]) (by rw [b4]; rfl) (by omega), bytes_num4 _ (by omega)]
  have g12 : getN (headM m X.length ++ X) 12 4 = m.hop := by
    rw [show headM m X.length ++ X = ([1] ++ bytesOf (20 + (X.length : Int)) 3 3 ++ [flagM m] ++ bytesOf m.code 3 3 ++ bytesOf m.app 4 4) ++ (bytesOf m.hop 4 4 ++ (bytesOf m.fin 4 4 ++ X)) from by simp [headM], getN_at _ _ _ 12 4 (by simp [b3, b4]) (by rw [b4]; rfl) (by omega), bytes_num4 _ (by omega)]
  have g16 : getN (headM m X.length ++ X) 16 4 = m.fin := by
    rw [show headM m X.length ++ X = ([1] ++ bytesOf (20 + (X.length : Int)) 3 3 ++ [flagM m] ++ bytesOf m.code 3 3 ++ bytesOf m.app 4 4 ++ bytesOf m.hop 4 4) ++ (bytesOf m.fin 4 4 ++ X) from by simp [headM], getN_at _ _ _ 16 4 (by simp [b3, b4]) (by rw [b4]; rfl) (by omega), bytes_num4 _ (by omega)]
  have g4 : (headM m X.length ++ X).getD 4 0 = flagM m := by
    rw [show headM m X.length ++ X = ([1] ++ bytesOf (20 + (X.length : Int)) 3 3) ++ (flagM m :: (bytesOf m.code 3 3 ++ bytesOf m.app 4 4 ++ bytesOf m.hop 4 4 ++ bytesOf m.fin 4 4 ++ X)) from by simp [headM], List.getD_eq_getElem?_getD, List.getElem?_append_right (by simp [b3])]
    simp [b3]
  obtain ⟨f1, f2, f3, f4⟩ := flag_bits m
  have hv : headV (headM m X.length ++ X) = { m with avps := [] } := by
    unfold headV
    rw [g4, g5, g8, g12, g16, f1, f2, f3, f4]
  have hmx : mixB (headV (headM m X.length ++ X)) = false := by rw [hv]; exact h3
  have hho : headOf (headM m X.length ++ X) = ({ m with avps := [] }, 0) := by
    unfold headOf
    rw [if_neg (by omega), if_neg (by rw [g0]; decide), g1, if_neg (by omega), hl, if_neg (by omega), if_neg, hv]
    rw [hmx]
    simp only [not_or]
    exact ⟨by omega, by omega, by decide⟩
  refine ⟨?_, ?_, by omega⟩
  · unfold getM
    rw [hho, hd, h6]
    simp
  · have fb := flag_bd8 m
    intro y hy
    have w3 := fun n => bytesOf_wf n 3 3
    have w4 := fun n => bytesOf_wf n 4 4
    simp only [headM, List.mem_append, List.mem_singleton] at hy
    rcases hy with ((((((hy | hy) | hy) | hy) | hy) | hy) | hy) | hy
    · omega
    · exact w3 _ y hy
    · omega
    · exact w3 _ y hy
    · exact w4 _ y hy
    · exact w4 _ y hy
    · exact w4 _ y hy
    · exact h5 y hy
theorem put_getM {xs : List Int} {n : M} (hwf : ∀ x ∈ xs, 0 ≤ x ∧ x ≤ 255) (h : getM xs = (n, 0)) : ∃ D, putM n = (D, 0) ∧ D.length = xs.length ∧ n.ok ∧ ∀ a ∈ n.avps, a.data.length ≤ 4096 := by
  unfold getM at h
  by_cases h1 : (headOf xs).2 = 0
  · rw [if_neg (by simpa using h1)] at h
    by_cases h2 : (getOf (xs.drop 20)).2.2 = 0
    · rw [if_neg (by simpa using h2)] at h
      obtain ⟨rfl, _⟩ := Prod.mk.inj h
      have hl := head_fit h1
      obtain ⟨L, k, E, hg⟩ : ∃ L k E, getOf (xs.drop 20) = (L, k, E) := ⟨_, _, _, rfl⟩
      rw [hg] at h2
      have h2' : E = 0 := h2
      subst h2'
      obtain ⟨Z, z1, z2, z3, z4⟩ := got_ok (fun x hx => hwf x (List.mem_of_mem_drop hx)) hg
      rw [hg]
      have hho : headOf xs = (headV xs, 0) ∧ getN xs 1 3 ≤ 4096 ∧ getN xs 1 3 = xs.length ∧ mixB (headV xs) = false := by
        unfold headOf at h1 ⊢
        by_cases k1 : xs.length < 20
        · omega
        rw [if_neg k1] at h1 ⊢
        by_cases k2 : xs.getD 0 0 ≠ 1
        · rw [if_pos k2] at h1; exact absurd h1 (by decide)
        rw [if_neg k2] at h1 ⊢
        by_cases k3 : 4096 < getN xs 1 3
        · rw [if_pos k3] at h1; exact absurd h1 (by decide)
        rw [if_neg k3] at h1 ⊢
        by_cases k4 : (xs.length : Int) < getN xs 1 3
        · rw [if_pos k4] at h1; exact absurd h1 (by decide)
        rw [if_neg k4] at h1 ⊢
        by_cases k5 : getN xs 1 3 < xs.length ∨ getN xs 1 3 % 4 ≠ 0 ∨ mixB (headV xs) = true
        · rw [if_pos k5] at h1; exact absurd h1 (by decide)
        rw [if_neg k5]
        simp only [not_or] at k5
        exact ⟨rfl, by omega, by omega, by simpa using k5.2.2⟩
      obtain ⟨q1, q2, q3, q4⟩ := hho
      rw [q1]
      have c5 := getN3 xs hwf 5
      have c8 := getN4 xs hwf 8
      have c12 := getN4 xs hwf 12
      have c16 := getN4 xs hwf 16
      have hz : Z.length = xs.length - 20 := by rw [z2, List.length_drop]
      refine ⟨headM { headV xs with avps := L } Z.length ++ Z, ?_, ?_, ⟨⟨c5.1, ?_⟩, c8, c12, c16, z3⟩, z4⟩
      · unfold putM
        rw [if_neg (show ¬ 16777215 < ({ headV xs with avps := L } : M).code from by show ¬ 16777215 < getN xs 5 3; omega), if_neg (show ¬ mixB { headV xs with avps := L } = true from by rw [show mixB { headV xs with avps := L } = mixB (headV xs) from rfl, q4]; decide)]
        simp only [z1]
        rw [if_neg (by simp), if_neg (by omega)]
      · rw [List.length_append, headM_len]; omega
      · show getN xs 5 3 ≤ 4294967295; omega
    · rw [if_pos h2] at h
      exact absurd (Prod.mk.inj h).2 h2
  · rw [if_pos h1] at h
    exact absurd (Prod.mk.inj h).2 h1
theorem getM_no {xs : List Int} {n : M} {G : Int} (h : getM xs = (n, G)) (hG : G ≠ 0) : n = noM := by
  unfold getM at h
  repeat' split at h
  all_goals (obtain ⟨rfl, rfl⟩ := Prod.mk.inj h; first | rfl | exact absurd rfl hG)
theorem putM_no {m : M} {Y : List Int} {E : Int} (h : putM m = (Y, E)) (hE : E ≠ 0) : Y = [] := by
  unfold putM at h
  repeat' split at h
  all_goals (obtain ⟨rfl, rfl⟩ := Prod.mk.inj h; first | rfl | exact absurd rfl hE)
set_option maxRecDepth 100000 in
set_option maxHeartbeats 3200000 in
theorem back_AX (m : M) (p : Option Addr) (c : Nat) (pv : Option Addr) (cv : Nat) (xs : List Int) (w : World) (hr : ReadsL w (.slice p m.avps.length c) m.avps) (hok : m.ok) (hd : ∀ a ∈ m.avps, a.data.length ≤ 140737488351232) (hx : Reads .u8 w (.slice pv xs.length cv) xs) (hwf : ∀ x ∈ xs, 0 ≤ x ∧ x ≤ 255) (hb : xs.length ≤ 140737488351232) (E : Int) (e1 : putM m = ([], E)) (hE : E ≠ 0) (G : Int) (e2 : getM xs = (noM, G)) (hG : G ≠ 0) :
    Calls Try.prog 9 #[.agg (rowM m (.slice p m.avps.length c)), .slice pv xs.length cv] w fun e w' => e = .returned (.bool true) ∧ Below w.heap.size w w' := by
  have hone : (Value.slice p m.avps.length c).oneCell' = true := rfl
  have PO := Lib.hid (fun u (h : ReadsL u (.slice p m.avps.length c) m.avps) => own m p c u h (fun a ha => by have := hd a ha; omega))
  have PP := Lib.hid (fun q k u (h : ReadsL u (.slice q ({ m with avps := m.avps.take 200 } : M).avps.length k) ({ m with avps := m.avps.take 200 } : M).avps) => (putM_take m) ▸ msgPut { m with avps := m.avps.take 200 } q k u h ⟨hok.1, hok.2.1, hok.2.2.1, hok.2.2.2.1, fun a ha => hok.2.2.2.2 a (List.mem_of_mem_take ha)⟩ (fun a ha => by have := hd a (List.mem_of_mem_take ha); omega))
  rw [e1] at PP
  have PG2 := Lib.hid (fun v u (h : Reads .u8 u v xs) => msgGet v xs u h hwf (by omega))
  rw [e2] at PG2
  have K1 : ([] : List Int).length + xs.length ≤ maxLen := by simp [maxLen]; omega
  have K2 : (([] : List Int).length + xs.length) * 1 ≤ 140737488355328 := by simp; omega
  have HL := Lib.hid hr
  have HX := Lib.hid hx
  have S1 := Lib.hid (rfl : w = w)
  have S2 := Lib.hid (rfl : w = w)
  have S3 := Lib.hid (rfl : w = w)
  have S4 := Lib.hid (rfl : w = w)
  have S4X := Lib.hid (rfl : w = w)
  have S5 := Lib.hid (rfl : w = w)
  have S6 := Lib.hid (rfl : w = w)
  have S7 := Lib.hid (rfl : w = w)
  obtain ⟨m', hm'⟩ : ∃ m', ({ m with avps := m.avps.take 200 } : M) = m' := ⟨_, rfl⟩
  rw [hm'] at PO PP
  have hne1 : (E == 0) = false := by simpa using hE
  clear hm' hE
  have hne2 : (G == 0) = false := by simpa using hG
  clear hG
  clear e1 e2 hr hok hd hx hwf hb
  go_enter Try.func9, Try.ntmps9
  go_wp2_with (first
    | ((with_reducible refine wpl_boxAt rfl 25 (.tmp 0) rfl (rowM m (.slice p m.avps.length c)) ?_ ?_); rfl; go_must (intro w0 hat0 hu hs0; clear hs0))
    | ((with_reducible refine wpl_loadAt rfl 25 (.tmp 2) rfl w.heap.size 25 (rowM m (.slice p m.avps.length c)) hat0 _ Try.underlying25 rfl (by kernel_rfl) ?_ ?_); rfl)
    | (go_at_call 11; go_must (refine (PO.out _ (HL.out.below hu)).mono ?_; rintro e u1 ⟨p1, n1, c1, rfl, hv, hb⟩; obtain ⟨_, _, ee, _⟩ := hv.reads.shape; cases ee; have hL1 := hv.reads; clear hv; have hu_ := hu.trans (hb.mono hu.size); have hat0_ := hat0.ext hb; clear hu hat0; have hu := hu_; have hat0 := hat0_; clear hu_ hat0_ hb))
    | (go_at_call 10; have _t := hL1; clear _t; go_must (refine (PP.out _ _ _ hL1).mono ?_; clear hL1; rintro e u2 ⟨v2, rfl, hr, hb⟩; have hx1 := hr.reads; clear hr; have hu_ := hu.trans (hb.mono hu.size); have hat0_ := hat0.ext hb; clear hu hat0; have hu := hu_; have hat0 := hat0_; clear hu_ hat0_ hb))
    | (go_at_call 13; go_must (refine (answers _).mono ?_; rintro e u3 ⟨rfl, hb⟩; have hu_ := hu.trans (hb.mono hu.size); have hat0_ := hat0.ext hb; clear hu hat0; have hu := hu_; have hat0 := hat0_; clear hu_ hat0_ hb))
    | ((with_reducible refine wpl_empty rfl 26 5 rfl .u8 (fun _ => by kernel_rfl) ?_); have _t := S3; clear _t; go_must (intro u8 hown hb hs; clear hs S3; have hbs := hb.size; have Tu8_0 := hu.size; have Tu8_1 := hat0.lt; have hu_ := hu.trans (hb.mono hu.size); have hat0_ := hat0.ext hb; clear hu hat0; have hu := hu_; have hat0 := hat0_; clear hu_ hat0_ hb))
    | (at_builtin; have _t := hown; clear _t; go_must (obtain ⟨i0, hi, hz0, hz1, hz2⟩ := info_parts info5; refine wpl_append rfl (.tmp 39) (.tmp 40) 26 rfl .u8 u3.heap.size 5 1 i0 (.int .u8 0) Try.underlying26 hi hz0 hz1 hz2 rfl _ _ [] xs rfl rfl hown (HX.out.below hu) K1 K2 hbs ?_; clear hi hz0 hz1 hz2; intro v2 u9 hv2 hg0; have hg : World.grownBy _ _ (some u3.heap.size) := hg0; clear hg0; rw [List.nil_append] at hv2; have hx2 := hv2.reads; clear hv2; have hu_ := below_grown hu hg hu.size (by omega); have hat0_ := hat0.grown hg (by omega); clear hu hat0; have hu := hu_; have hat0 := hat0_; clear hu_ hat0_ hg; clear hown))
    | (go_at_call 25; have _t := hx2; clear _t; go_must (refine (PG2.out _ _ hx2).mono ?_; clear hx2; rintro e u10 ⟨p10, n10, c10, rfl, hL, hb⟩; have hL10 := hL.reads; clear hL; obtain ⟨_, _, ee, _⟩ := hL10.shape; cases ee; have hu_ := hu.trans (hb.mono hu.size); have hat0_ := hat0.ext hb; clear hu hat0; have hu := hu_; have hat0 := hat0_; clear hu_ hat0_ hb; have h10 := Below.refl u10.heap.size u10))
    | ((with_reducible refine wpl_allocAt rfl 25 rfl zeroM (by kernel_rfl) ?_); have _t := S4; clear _t; go_must (intro u11 hat11 hb hs; clear hs S4; have Tu11_0 := hu.size; have Tu11_1 := hat0.lt; have Tu11_2 := h10.size; have hu_ := hu.trans (hb.mono hu.size); have hat0_ := hat0.ext hb; have h10_ := h10.trans (hb.mono h10.size); clear hu hat0 h10; have hu := hu_; have hat0 := hat0_; have h10 := h10_; clear hu_ hat0_ h10_ hb; have Lu11 := hat11.lt))
    | ((with_reducible refine wpl_storeR rfl 25 (.tmp 9) (.tmp 43) rfl rfl u10.heap.size 25 zeroM (rowM noM (.slice p10 noM.avps.length c10)) ?_ ?_ hat11 (by kernel_rfl) ?_ ?_ ?_); rfl; rfl; rfl; (simp [rowM, Value.oneCell']); go_must (intro u12 hat11' hg; have hu_ := below_grown hu hg hu.size (by omega); have hat0_ := hat0.grown hg (by omega); have h10_ := below_grown h10 hg h10.size (by omega); clear hu hat0 h10; have hu := hu_; have hat0 := hat0_; have h10 := h10_; clear hu_ hat0_ h10_ hg; clear hat11; have hat11 := hat11'; clear hat11'))
    | ((with_reducible refine wpl_loadAt rfl 25 (.tmp 9) rfl u10.heap.size 25 (rowM noM (.slice p10 noM.avps.length c10)) hat11 _ Try.underlying25 rfl (by kernel_rfl) ?_ ?_); rfl)
    | (go_at_call 24; have _t := S4X; clear _t; go_must (refine (sameMsg noM p10 none c10 0 _ (hL10.below h10) (ReadsL.nil _) (fun a ha => by cases ha)).mono ?_; rintro e u13 ⟨rfl, hb⟩; clear S4X; have hu_ := hu.trans (hb.mono hu.size); have hat0_ := hat0.ext hb; have h10_ := h10.trans (hb.mono h10.size); have hat11_ := hat11.ext hb; clear hu hat0 h10 hat11; have hu := hu_; have hat0 := hat0_; have h10 := h10_; have hat11 := hat11_; clear hu_ hat0_ h10_ hat11_ hb)))
  go_ret
  exact ⟨rfl, hu⟩
set_option maxRecDepth 100000 in
set_option maxHeartbeats 3200000 in
theorem back_AY (m : M) (p : Option Addr) (c : Nat) (pv : Option Addr) (cv : Nat) (xs : List Int) (w : World) (hr : ReadsL w (.slice p m.avps.length c) m.avps) (hok : m.ok) (hd : ∀ a ∈ m.avps, a.data.length ≤ 140737488351232) (hx : Reads .u8 w (.slice pv xs.length cv) xs) (hwf : ∀ x ∈ xs, 0 ≤ x ∧ x ≤ 255) (hb : xs.length ≤ 140737488351232) (E : Int) (e1 : putM m = ([], E)) (hE : E ≠ 0) (n : M) (e2 : getM xs = (n, 0)) :
    Calls Try.prog 9 #[.agg (rowM m (.slice p m.avps.length c)), .slice pv xs.length cv] w fun e w' => e = .returned (.bool true) ∧ Below w.heap.size w w' := by
  have hone : (Value.slice p m.avps.length c).oneCell' = true := rfl
  have PO := Lib.hid (fun u (h : ReadsL u (.slice p m.avps.length c) m.avps) => own m p c u h (fun a ha => by have := hd a ha; omega))
  have PP := Lib.hid (fun q k u (h : ReadsL u (.slice q ({ m with avps := m.avps.take 200 } : M).avps.length k) ({ m with avps := m.avps.take 200 } : M).avps) => (putM_take m) ▸ msgPut { m with avps := m.avps.take 200 } q k u h ⟨hok.1, hok.2.1, hok.2.2.1, hok.2.2.2.1, fun a ha => hok.2.2.2.2 a (List.mem_of_mem_take ha)⟩ (fun a ha => by have := hd a (List.mem_of_mem_take ha); omega))
  rw [e1] at PP
  have PG2 := Lib.hid (fun v u (h : Reads .u8 u v xs) => msgGet v xs u h hwf (by omega))
  rw [e2] at PG2
  have K1 : ([] : List Int).length + xs.length ≤ maxLen := by simp [maxLen]; omega
  have K2 : (([] : List Int).length + xs.length) * 1 ≤ 140737488355328 := by simp; omega
  have HL := Lib.hid hr
  have HX := Lib.hid hx
  have S1 := Lib.hid (rfl : w = w)
  have S2 := Lib.hid (rfl : w = w)
  have S3 := Lib.hid (rfl : w = w)
  have S4 := Lib.hid (rfl : w = w)
  have S4X := Lib.hid (rfl : w = w)
  have S5 := Lib.hid (rfl : w = w)
  have S6 := Lib.hid (rfl : w = w)
  have S7 := Lib.hid (rfl : w = w)
  obtain ⟨m', hm'⟩ : ∃ m', ({ m with avps := m.avps.take 200 } : M) = m' := ⟨_, rfl⟩
  rw [hm'] at PO PP
  have hne1 : (E == 0) = false := by simpa using hE
  clear hm' hE
  obtain ⟨D, d1, d2, d3, d4⟩ := put_getM hwf e2
  have PP2 := Lib.hid (fun q k u (h : ReadsL u (.slice q n.avps.length k) n.avps) => msgPut n q k u h d3 (fun a ha => by have := d4 a ha; omega))
  rw [d1] at PP2
  obtain ⟨r1, r2, r3⟩ := getM_put d3 d1
  have PG3 := Lib.hid (fun v u (h : Reads .u8 u v D) => msgGet v D u h r2 (by omega))
  rw [r1] at PG3
  have OK2 := Lib.hid d3.2.2.2.2
  have DL := Lib.hid d2
  clear d1 d2 d3 d4 r1 r2 r3
  clear e1 e2 hr hok hd hx hwf hb
  go_enter Try.func9, Try.ntmps9
  go_wp2_with (first
    | ((with_reducible refine wpl_boxAt rfl 25 (.tmp 0) rfl (rowM m (.slice p m.avps.length c)) ?_ ?_); rfl; go_must (intro w0 hat0 hu hs0; clear hs0))
    | ((with_reducible refine wpl_loadAt rfl 25 (.tmp 2) rfl w.heap.size 25 (rowM m (.slice p m.avps.length c)) hat0 _ Try.underlying25 rfl (by kernel_rfl) ?_ ?_); rfl)
    | (go_at_call 11; go_must (refine (PO.out _ (HL.out.below hu)).mono ?_; rintro e u1 ⟨p1, n1, c1, rfl, hv, hb⟩; obtain ⟨_, _, ee, _⟩ := hv.reads.shape; cases ee; have hL1 := hv.reads; clear hv; have hu_ := hu.trans (hb.mono hu.size); have hat0_ := hat0.ext hb; clear hu hat0; have hu := hu_; have hat0 := hat0_; clear hu_ hat0_ hb))
    | (go_at_call 10; have _t := hL1; clear _t; go_must (refine (PP.out _ _ _ hL1).mono ?_; clear hL1; rintro e u2 ⟨v2, rfl, hr, hb⟩; have hx1 := hr.reads; clear hr; have hu_ := hu.trans (hb.mono hu.size); have hat0_ := hat0.ext hb; clear hu hat0; have hu := hu_; have hat0 := hat0_; clear hu_ hat0_ hb))
    | (go_at_call 13; go_must (refine (answers _).mono ?_; rintro e u3 ⟨rfl, hb⟩; have hu_ := hu.trans (hb.mono hu.size); have hat0_ := hat0.ext hb; clear hu hat0; have hu := hu_; have hat0 := hat0_; clear hu_ hat0_ hb))
    | ((with_reducible refine wpl_empty rfl 26 5 rfl .u8 (fun _ => by kernel_rfl) ?_); have _t := S3; clear _t; go_must (intro u8 hown hb hs; clear hs S3; have hbs := hb.size; have Tu8_0 := hu.size; have Tu8_1 := hat0.lt; have hu_ := hu.trans (hb.mono hu.size); have hat0_ := hat0.ext hb; clear hu hat0; have hu := hu_; have hat0 := hat0_; clear hu_ hat0_ hb))
    | (at_builtin; have _t := hown; clear _t; go_must (obtain ⟨i0, hi, hz0, hz1, hz2⟩ := info_parts info5; refine wpl_append rfl (.tmp 39) (.tmp 40) 26 rfl .u8 u3.heap.size 5 1 i0 (.int .u8 0) Try.underlying26 hi hz0 hz1 hz2 rfl _ _ [] xs rfl rfl hown (HX.out.below hu) K1 K2 hbs ?_; clear hi hz0 hz1 hz2; intro v2 u9 hv2 hg0; have hg : World.grownBy _ _ (some u3.heap.size) := hg0; clear hg0; rw [List.nil_append] at hv2; have hx2 := hv2.reads; clear hv2; have hu_ := below_grown hu hg hu.size (by omega); have hat0_ := hat0.grown hg (by omega); clear hu hat0; have hu := hu_; have hat0 := hat0_; clear hu_ hat0_ hg; clear hown))
    | (go_at_call 25; have _t := hx2; clear _t; go_must (refine (PG2.out _ _ hx2).mono ?_; clear hx2; rintro e u10 ⟨p10, n10, c10, rfl, hL, hb⟩; have hL10 := hL.reads; clear hL; obtain ⟨_, _, ee, _⟩ := hL10.shape; cases ee; have hu_ := hu.trans (hb.mono hu.size); have hat0_ := hat0.ext hb; clear hu hat0; have hu := hu_; have hat0 := hat0_; clear hu_ hat0_ hb; have h10 := Below.refl u10.heap.size u10))
    | ((with_reducible refine wpl_allocAt rfl 25 rfl zeroM (by kernel_rfl) ?_); have _t := S4; clear _t; go_must (intro u11 hat11 hb hs; clear hs S4; have Tu11_0 := hu.size; have Tu11_1 := hat0.lt; have Tu11_2 := h10.size; have hu_ := hu.trans (hb.mono hu.size); have hat0_ := hat0.ext hb; have h10_ := h10.trans (hb.mono h10.size); clear hu hat0 h10; have hu := hu_; have hat0 := hat0_; have h10 := h10_; clear hu_ hat0_ h10_ hb; have Lu11 := hat11.lt))
    | ((with_reducible refine wpl_storeR rfl 25 (.tmp 9) (.tmp 43) rfl rfl u10.heap.size 25 zeroM (rowM n (.slice p10 n.avps.length c10)) ?_ ?_ hat11 (by kernel_rfl) ?_ ?_ ?_); rfl; rfl; rfl; (simp [rowM, Value.oneCell']); go_must (intro u12 hat11' hg; have hu_ := below_grown hu hg hu.size (by omega); have hat0_ := hat0.grown hg (by omega); have h10_ := below_grown h10 hg h10.size (by omega); clear hu hat0 h10; have hu := hu_; have hat0 := hat0_; have h10 := h10_; clear hu_ hat0_ h10_ hg; clear hat11; have hat11 := hat11'; clear hat11'))
    | ((with_reducible refine wpl_loadAt rfl 25 (.tmp 9) rfl u10.heap.size 25 (rowM n (.slice p10 n.avps.length c10)) hat11 _ Try.underlying25 rfl (by kernel_rfl) ?_ ?_); rfl)
    | (go_at_call 10; have _t := S5; clear _t; go_must (refine (PP2.out _ _ _ (hL10.below h10)).mono ?_; clear S5; rintro e u13 ⟨v13, rfl, hr, hb⟩; have hx3 := hr.reads; clear hr; have hu_ := hu.trans (hb.mono hu.size); have hat0_ := hat0.ext hb; have h10_ := h10.trans (hb.mono h10.size); have hat11_ := hat11.ext hb; clear hu hat0 h10 hat11; have hu := hu_; have hat0 := hat0_; have h10 := h10_; have hat11 := hat11_; clear hu_ hat0_ h10_ hat11_ hb; obtain ⟨p13, c13, rfl, _⟩ := id hx3; rw [DL.out] at hx3 ⊢))
    | (go_at_call 25; have _t := hx3; clear _t; go_must (refine (PG3.out _ _ hx3).mono ?_; clear hx3; rintro e u14 ⟨p14, n14, c14, rfl, hL, hb⟩; have hL14 := hL.reads; clear hL; obtain ⟨_, _, ee, _⟩ := hL14.shape; cases ee; have hu_ := hu.trans (hb.mono hu.size); have hat0_ := hat0.ext hb; have h10_ := h10.trans (hb.mono h10.size); have hat11_ := hat11.ext hb; clear hu hat0 h10 hat11; have hu := hu_; have hat0 := hat0_; have h10 := h10_; have hat11 := hat11_; clear hu_ hat0_ h10_ hat11_ hb; have h14 := Below.refl u14.heap.size u14))
    | ((with_reducible refine wpl_allocAt rfl 25 rfl zeroM (by kernel_rfl) ?_); have _t := S6; clear _t; go_must (intro u15 hat15 hb hs; clear hs S6; have Tu15_0 := hu.size; have Tu15_1 := hat0.lt; have Tu15_2 := h10.size; have Tu15_3 := hat11.lt; have Tu15_4 := h14.size; have hu_ := hu.trans (hb.mono hu.size); have hat0_ := hat0.ext hb; have h10_ := h10.trans (hb.mono h10.size); have hat11_ := hat11.ext hb; have h14_ := h14.trans (hb.mono h14.size); clear hu hat0 h10 hat11 h14; have hu := hu_; have hat0 := hat0_; have h10 := h10_; have hat11 := hat11_; have h14 := h14_; clear hu_ hat0_ h10_ hat11_ h14_ hb; have Lu15 := hat15.lt))
    | ((with_reducible refine wpl_storeR rfl 25 (.tmp 13) (.tmp 58) rfl rfl u14.heap.size 25 zeroM (rowM n (.slice p14 n.avps.length c14)) ?_ ?_ hat15 (by kernel_rfl) ?_ ?_ ?_); rfl; rfl; rfl; (simp [rowM, Value.oneCell']); go_must (intro u16 hat15' hg; have hu_ := below_grown hu hg hu.size (by omega); have hat0_ := hat0.grown hg (by omega); have h10_ := below_grown h10 hg h10.size (by omega); have hat11_ := hat11.grown hg (by omega); have h14_ := below_grown h14 hg h14.size (by omega); clear hu hat0 h10 hat11 h14; have hu := hu_; have hat0 := hat0_; have h10 := h10_; have hat11 := hat11_; have h14 := h14_; clear hu_ hat0_ h10_ hat11_ h14_ hg; clear hat15; have hat15 := hat15'; clear hat15'))
    | (refine Mem.wpl_wanted (by rfl) ?_; (refine wpl_loadAt rfl 25 (.tmp 9) rfl u10.heap.size 25 (rowM n (.slice p10 n.avps.length c10)) hat11 _ Try.underlying25 rfl (by kernel_rfl) ?_ ?_); rfl)
    | (refine Mem.wpl_wanted (by rfl) ?_; (refine wpl_loadAt rfl 25 (.tmp 13) rfl u14.heap.size 25 (rowM n (.slice p14 n.avps.length c14)) hat15 _ Try.underlying25 rfl (by kernel_rfl) ?_ ?_); rfl)
    | (go_at_call 24; have _t := S7; clear _t; go_must (refine (sameMsg n _ _ _ _ _ (hL10.below h10) (hL14.below h14) OK2.out).mono ?_; rintro e u17 ⟨rfl, hb⟩; clear S7; have hu_ := hu.trans (hb.mono hu.size); have hat0_ := hat0.ext hb; have h10_ := h10.trans (hb.mono h10.size); have hat11_ := hat11.ext hb; have h14_ := h14.trans (hb.mono h14.size); have hat15_ := hat15.ext hb; clear hu hat0 h10 hat11 h14 hat15; have hu := hu_; have hat0 := hat0_; have h10 := h10_; have hat11 := hat11_; have h14 := h14_; have hat15 := hat15_; clear hu_ hat0_ h10_ hat11_ h14_ hat15_ hb)))
  go_ret
  exact ⟨rfl, hu⟩
set_option maxRecDepth 100000 in
set_option maxHeartbeats 3200000 in
theorem back_BX (m : M) (p : Option Addr) (c : Nat) (pv : Option Addr) (cv : Nat) (xs : List Int) (w : World) (hr : ReadsL w (.slice p m.avps.length c) m.avps) (hok : m.ok) (hd : ∀ a ∈ m.avps, a.data.length ≤ 140737488351232) (hx : Reads .u8 w (.slice pv xs.length cv) xs) (hwf : ∀ x ∈ xs, 0 ≤ x ∧ x ≤ 255) (hb : xs.length ≤ 140737488351232) (Y : List Int) (e1 : putM m = (Y, 0)) (G : Int) (e2 : getM xs = (noM, G)) (hG : G ≠ 0) :
    Calls Try.prog 9 #[.agg (rowM m (.slice p m.avps.length c)), .slice pv xs.length cv] w fun e w' => e = .returned (.bool true) ∧ Below w.heap.size w w' := by
  have hone : (Value.slice p m.avps.length c).oneCell' = true := rfl
  have PO := Lib.hid (fun u (h : ReadsL u (.slice p m.avps.length c) m.avps) => own m p c u h (fun a ha => by have := hd a ha; omega))
  have PP := Lib.hid (fun q k u (h : ReadsL u (.slice q ({ m with avps := m.avps.take 200 } : M).avps.length k) ({ m with avps := m.avps.take 200 } : M).avps) => (putM_take m) ▸ msgPut { m with avps := m.avps.take 200 } q k u h ⟨hok.1, hok.2.1, hok.2.2.1, hok.2.2.2.1, fun a ha => hok.2.2.2.2 a (List.mem_of_mem_take ha)⟩ (fun a ha => by have := hd a (List.mem_of_mem_take ha); omega))
  rw [e1] at PP
  have PG2 := Lib.hid (fun v u (h : Reads .u8 u v xs) => msgGet v xs u h hwf (by omega))
  rw [e2] at PG2
  have K1 : ([] : List Int).length + xs.length ≤ maxLen := by simp [maxLen]; omega
  have K2 : (([] : List Int).length + xs.length) * 1 ≤ 140737488355328 := by simp; omega
  have HL := Lib.hid hr
  have HX := Lib.hid hx
  have S1 := Lib.hid (rfl : w = w)
  have S2 := Lib.hid (rfl : w = w)
  have S3 := Lib.hid (rfl : w = w)
  have S4 := Lib.hid (rfl : w = w)
  have S4X := Lib.hid (rfl : w = w)
  have S5 := Lib.hid (rfl : w = w)
  have S6 := Lib.hid (rfl : w = w)
  have S7 := Lib.hid (rfl : w = w)
  obtain ⟨q1, q2, q3⟩ := getM_put hok e1
  have htk : m.avps.take 200 = m.avps := by
    obtain ⟨X, hX, _⟩ := putM_ok hok e1
    exact List.take_of_length_le (by have := (put_ok hX hok.2.2.2.2).1; omega)
  have hmm : ({ m with avps := m.avps.take 200 } : M) = m := by rw [htk]
  rw [hmm] at PO PP
  have PG1 := Lib.hid (fun v u (h : Reads .u8 u v Y) => msgGet v Y u h q2 (by omega))
  rw [q1] at PG1
  have OK1 := Lib.hid hok.2.2.2.2
  clear q1 q2 q3 htk hmm
  have hne2 : (G == 0) = false := by simpa using hG
  clear hG
  clear e1 e2 hr hok hd hx hwf hb
  go_enter Try.func9, Try.ntmps9
  go_wp2_with (first
    | ((with_reducible refine wpl_boxAt rfl 25 (.tmp 0) rfl (rowM m (.slice p m.avps.length c)) ?_ ?_); rfl; go_must (intro w0 hat0 hu hs0; clear hs0))
    | ((with_reducible refine wpl_loadAt rfl 25 (.tmp 2) rfl w.heap.size 25 (rowM m (.slice p m.avps.length c)) hat0 _ Try.underlying25 rfl (by kernel_rfl) ?_ ?_); rfl)
    | (go_at_call 11; go_must (refine (PO.out _ (HL.out.below hu)).mono ?_; rintro e u1 ⟨p1, n1, c1, rfl, hv, hb⟩; obtain ⟨_, _, ee, _⟩ := hv.reads.shape; cases ee; have hL1 := hv.reads; clear hv; have hu_ := hu.trans (hb.mono hu.size); have hat0_ := hat0.ext hb; clear hu hat0; have hu := hu_; have hat0 := hat0_; clear hu_ hat0_ hb))
    | (go_at_call 10; have _t := hL1; clear _t; go_must (refine (PP.out _ _ _ hL1).mono ?_; clear hL1; rintro e u2 ⟨v2, rfl, hr, hb⟩; have hx1 := hr.reads; clear hr; have hu_ := hu.trans (hb.mono hu.size); have hat0_ := hat0.ext hb; clear hu hat0; have hu := hu_; have hat0 := hat0_; clear hu_ hat0_ hb))
    | (go_at_call 13; go_must (refine (answers _).mono ?_; rintro e u3 ⟨rfl, hb⟩; have hu_ := hu.trans (hb.mono hu.size); have hat0_ := hat0.ext hb; have hx1_ := hx1.below hb; clear hu hat0 hx1; have hu := hu_; have hat0 := hat0_; have hx1 := hx1_; clear hu_ hat0_ hx1_ hb))
    | (go_at_call 25; have _t := hx1; clear _t; go_must (refine (PG1.out _ _ hx1).mono ?_; clear hx1; rintro e u4 ⟨p4, n4, c4, rfl, hL, hb⟩; have hL4 := hL.reads; clear hL; obtain ⟨_, _, ee, _⟩ := hL4.shape; cases ee; have hu_ := hu.trans (hb.mono hu.size); have hat0_ := hat0.ext hb; clear hu hat0; have hu := hu_; have hat0 := hat0_; clear hu_ hat0_ hb; have h4 := Below.refl u4.heap.size u4))
    | ((with_reducible refine wpl_allocAt rfl 25 rfl zeroM (by kernel_rfl) ?_); have _t := S1; clear _t; go_must (intro u5 hat5 hb hs; clear hs S1; have Tu5_0 := hu.size; have Tu5_1 := hat0.lt; have Tu5_2 := h4.size; have hu_ := hu.trans (hb.mono hu.size); have hat0_ := hat0.ext hb; have h4_ := h4.trans (hb.mono h4.size); clear hu hat0 h4; have hu := hu_; have hat0 := hat0_; have h4 := h4_; clear hu_ hat0_ h4_ hb; have Lu5 := hat5.lt))
    | ((with_reducible refine wpl_storeR rfl 25 (.tmp 7) (.tmp 28) rfl rfl u4.heap.size 25 zeroM (rowM m (.slice p4 m.avps.length c4)) ?_ ?_ hat5 (by kernel_rfl) ?_ ?_ ?_); rfl; rfl; rfl; (simp [rowM, Value.oneCell']); go_must (intro u6 hat5' hg; have hu_ := below_grown hu hg hu.size (by omega); have hat0_ := hat0.grown hg (by omega); have h4_ := below_grown h4 hg h4.size (by omega); clear hu hat0 h4; have hu := hu_; have hat0 := hat0_; have h4 := h4_; clear hu_ hat0_ h4_ hg; clear hat5; have hat5 := hat5'; clear hat5'))
    | (refine Mem.wpl_wanted (by rfl) ?_; (refine wpl_loadAt rfl 25 (.tmp 2) rfl w.heap.size 25 (rowM m (.slice p m.avps.length c)) hat0 _ Try.underlying25 rfl (by kernel_rfl) ?_ ?_); rfl)
    | (refine Mem.wpl_wanted (by rfl) ?_; (refine wpl_loadAt rfl 25 (.tmp 7) rfl u4.heap.size 25 (rowM m (.slice p4 m.avps.length c4)) hat5 _ Try.underlying25 rfl (by kernel_rfl) ?_ ?_); rfl)
    | (go_at_call 24; have _t := S2; clear _t; go_must (refine (sameMsg m _ _ _ _ _ (HL.out.below hu) (hL4.below h4) OK1.out).mono ?_; rintro e u7 ⟨rfl, hb⟩; clear S2; have hu_ := hu.trans (hb.mono hu.size); have hat0_ := hat0.ext hb; have h4_ := h4.trans (hb.mono h4.size); have hat5_ := hat5.ext hb; clear hu hat0 h4 hat5; have hu := hu_; have hat0 := hat0_; have h4 := h4_; have hat5 := hat5_; clear hu_ hat0_ h4_ hat5_ hb))
    | ((with_reducible refine wpl_empty rfl 26 5 rfl .u8 (fun _ => by kernel_rfl) ?_); have _t := S3; clear _t; go_must (intro u8 hown hb hs; clear hs S3; have hbs := hb.size; have Tu8_0 := hu.size; have Tu8_1 := hat0.lt; have Tu8_2 := h4.size; have Tu8_3 := hat5.lt; have hu_ := hu.trans (hb.mono hu.size); have hat0_ := hat0.ext hb; have h4_ := h4.trans (hb.mono h4.size); have hat5_ := hat5.ext hb; clear hu hat0 h4 hat5; have hu := hu_; have hat0 := hat0_; have h4 := h4_; have hat5 := hat5_; clear hu_ hat0_ h4_ hat5_ hb))
    | (at_builtin; have _t := hown; clear _t; go_must (obtain ⟨i0, hi, hz0, hz1, hz2⟩ := info_parts info5; refine wpl_append rfl (.tmp 39) (.tmp 40) 26 rfl .u8 u7.heap.size 5 1 i0 (.int .u8 0) Try.underlying26 hi hz0 hz1 hz2 rfl _ _ [] xs rfl rfl hown (HX.out.below hu) K1 K2 hbs ?_; clear hi hz0 hz1 hz2; intro v2 u9 hv2 hg0; have hg : World.grownBy _ _ (some u7.heap.size) := hg0; clear hg0; rw [List.nil_append] at hv2; have hx2 := hv2.reads; clear hv2; have hu_ := below_grown hu hg hu.size (by omega); have hat0_ := hat0.grown hg (by omega); have h4_ := below_grown h4 hg h4.size (by omega); have hat5_ := hat5.grown hg (by omega); clear hu hat0 h4 hat5; have hu := hu_; have hat0 := hat0_; have h4 := h4_; have hat5 := hat5_; clear hu_ hat0_ h4_ hat5_ hg; clear hown))
    | (go_at_call 25; have _t := hx2; clear _t; go_must (refine (PG2.out _ _ hx2).mono ?_; clear hx2; rintro e u10 ⟨p10, n10, c10, rfl, hL, hb⟩; have hL10 := hL.reads; clear hL; obtain ⟨_, _, ee, _⟩ := hL10.shape; cases ee; have hu_ := hu.trans (hb.mono hu.size); have hat0_ := hat0.ext hb; have h4_ := h4.trans (hb.mono h4.size); have hat5_ := hat5.ext hb; clear hu hat0 h4 hat5; have hu := hu_; have hat0 := hat0_; have h4 := h4_; have hat5 := hat5_; clear hu_ hat0_ h4_ hat5_ hb; have h10 := Below.refl u10.heap.size u10))
    | ((with_reducible refine wpl_allocAt rfl 25 rfl zeroM (by kernel_rfl) ?_); have _t := S4; clear _t; go_must (intro u11 hat11 hb hs; clear hs S4; have Tu11_0 := hu.size; have Tu11_1 := hat0.lt; have Tu11_2 := h4.size; have Tu11_3 := hat5.lt; have Tu11_4 := h10.size; have hu_ := hu.trans (hb.mono hu.size); have hat0_ := hat0.ext hb; have h4_ := h4.trans (hb.mono h4.size); have hat5_ := hat5.ext hb; have h10_ := h10.trans (hb.mono h10.size); clear hu hat0 h4 hat5 h10; have hu := hu_; have hat0 := hat0_; have h4 := h4_; have hat5 := hat5_; have h10 := h10_; clear hu_ hat0_ h4_ hat5_ h10_ hb; have Lu11 := hat11.lt))
    | ((with_reducible refine wpl_storeR rfl 25 (.tmp 9) (.tmp 43) rfl rfl u10.heap.size 25 zeroM (rowM noM (.slice p10 noM.avps.length c10)) ?_ ?_ hat11 (by kernel_rfl) ?_ ?_ ?_); rfl; rfl; rfl; (simp [rowM, Value.oneCell']); go_must (intro u12 hat11' hg; have hu_ := below_grown hu hg hu.size (by omega); have hat0_ := hat0.grown hg (by omega); have h4_ := below_grown h4 hg h4.size (by omega); have hat5_ := hat5.grown hg (by omega); have h10_ := below_grown h10 hg h10.size (by omega); clear hu hat0 h4 hat5 h10; have hu := hu_; have hat0 := hat0_; have h4 := h4_; have hat5 := hat5_; have h10 := h10_; clear hu_ hat0_ h4_ hat5_ h10_ hg; clear hat11; have hat11 := hat11'; clear hat11'))
    | ((with_reducible refine wpl_loadAt rfl 25 (.tmp 9) rfl u10.heap.size 25 (rowM noM (.slice p10 noM.avps.length c10)) hat11 _ Try.underlying25 rfl (by kernel_rfl) ?_ ?_); rfl)
    | (go_at_call 24; have _t := S4X; clear _t; go_must (refine (sameMsg noM p10 none c10 0 _ (hL10.below h10) (ReadsL.nil _) (fun a ha => by cases ha)).mono ?_; rintro e u13 ⟨rfl, hb⟩; clear S4X; have hu_ := hu.trans (hb.mono hu.size); have hat0_ := hat0.ext hb; have h4_ := h4.trans (hb.mono h4.size); have hat5_ := hat5.ext hb; have h10_ := h10.trans (hb.mono h10.size); have hat11_ := hat11.ext hb; clear hu hat0 h4 hat5 h10 hat11; have hu := hu_; have hat0 := hat0_; have h4 := h4_; have hat5 := hat5_; have h10 := h10_; have hat11 := hat11_; clear hu_ hat0_ h4_ hat5_ h10_ hat11_ hb)))
  go_ret
  exact ⟨rfl, hu⟩
set_option maxRecDepth 100000 in
set_option maxHeartbeats 3200000 in
theorem back_BY (m : M) (p : Option Addr) (c : Nat) (pv : Option Addr) (cv : Nat) (xs : List Int) (w : World) (hr : ReadsL w (.slice p m.avps.length c) m.avps) (hok : m.ok) (hd : ∀ a ∈ m.avps, a.data.length ≤ 140737488351232) (hx : Reads .u8 w (.slice pv xs.length cv) xs) (hwf : ∀ x ∈ xs, 0 ≤ x ∧ x ≤ 255) (hb : xs.length ≤ 140737488351232) (Y : List Int) (e1 : putM m = (Y, 0)) (n : M) (e2 : getM xs = (n, 0)) :
    Calls Try.prog 9 #[.agg (rowM m (.slice p m.avps.length c)), .slice pv xs.length cv] w fun e w' => e = .returned (.bool true) ∧ Below w.heap.size w w' := by
  have hone : (Value.slice p m.avps.length c).oneCell' = true := rfl
  have PO := Lib.hid (fun u (h : ReadsL u (.slice p m.avps.length c) m.avps) => own m p c u h (fun a ha => by have := hd a ha; omega))
  have PP := Lib.hid (fun q k u (h : ReadsL u (.slice q ({ m with avps := m.avps.take 200 } : M).avps.length k) ({ m with avps := m.avps.take 200 } : M).avps) => (putM_take m) ▸ msgPut { m with avps := m.avps.take 200 } q k u h ⟨hok.1, hok.2.1, hok.2.2.1, hok.2.2.2.1, fun a ha => hok.2.2.2.2 a (List.mem_of_mem_take ha)⟩ (fun a ha => by have := hd a (List.mem_of_mem_take ha); omega))
  rw [e1] at PP
  have PG2 := Lib.hid (fun v u (h : Reads .u8 u v xs) => msgGet v xs u h hwf (by omega))
  rw [e2] at PG2
  have K1 : ([] : List Int).length + xs.length ≤ maxLen := by simp [maxLen]; omega
  have K2 : (([] : List Int).length + xs.length) * 1 ≤ 140737488355328 := by simp; omega
  have HL := Lib.hid hr
  have HX := Lib.hid hx
  have S1 := Lib.hid (rfl : w = w)
  have S2 := Lib.hid (rfl : w = w)
  have S3 := Lib.hid (rfl : w = w)
  have S4 := Lib.hid (rfl : w = w)
  have S4X := Lib.hid (rfl : w = w)
  have S5 := Lib.hid (rfl : w = w)
  have S6 := Lib.hid (rfl : w = w)
  have S7 := Lib.hid (rfl : w = w)
  obtain ⟨q1, q2, q3⟩ := getM_put hok e1
  have htk : m.avps.take 200 = m.avps := by
    obtain ⟨X, hX, _⟩ := putM_ok hok e1
    exact List.take_of_length_le (by have := (put_ok hX hok.2.2.2.2).1; omega)
  have hmm : ({ m with avps := m.avps.take 200 } : M) = m := by rw [htk]
  rw [hmm] at PO PP
  have PG1 := Lib.hid (fun v u (h : Reads .u8 u v Y) => msgGet v Y u h q2 (by omega))
  rw [q1] at PG1
  have OK1 := Lib.hid hok.2.2.2.2
  clear q1 q2 q3 htk hmm
  obtain ⟨D, d1, d2, d3, d4⟩ := put_getM hwf e2
  have PP2 := Lib.hid (fun q k u (h : ReadsL u (.slice q n.avps.length k) n.avps) => msgPut n q k u h d3 (fun a ha => by have := d4 a ha; omega))
  rw [d1] at PP2
  obtain ⟨r1, r2, r3⟩ := getM_put d3 d1
  have PG3 := Lib.hid (fun v u (h : Reads .u8 u v D) => msgGet v D u h r2 (by omega))
  rw [r1] at PG3
  have OK2 := Lib.hid d3.2.2.2.2
  have DL := Lib.hid d2
  clear d1 d2 d3 d4 r1 r2 r3
  clear e1 e2 hr hok hd hx hwf hb
  go_enter Try.func9, Try.ntmps9
  go_wp2_with (first
    | ((with_reducible refine wpl_boxAt rfl 25 (.tmp 0) rfl (rowM m (.slice p m.avps.length c)) ?_ ?_); rfl; go_must (intro w0 hat0 hu hs0; clear hs0))
    | ((with_reducible refine wpl_loadAt rfl 25 (.tmp 2) rfl w.heap.size 25 (rowM m (.slice p m.avps.length c)) hat0 _ Try.underlying25 rfl (by kernel_rfl) ?_ ?_); rfl)
    | (go_at_call 11; go_must (refine (PO.out _ (HL.out.below hu)).mono ?_; rintro e u1 ⟨p1, n1, c1, rfl, hv, hb⟩; obtain ⟨_, _, ee, _⟩ := hv.reads.shape; cases ee; have hL1 := hv.reads; clear hv; have hu_ := hu.trans (hb.mono hu.size); have hat0_ := hat0.ext hb; clear hu hat0; have hu := hu_; have hat0 := hat0_; clear hu_ hat0_ hb))
    | (go_at_call 10; have _t := hL1; clear _t; go_must (refine (PP.out _ _ _ hL1).mono ?_; clear hL1; rintro e u2 ⟨v2, rfl, hr, hb⟩; have hx1 := hr.reads; clear hr; have hu_ := hu.trans (hb.mono hu.size); have hat0_ := hat0.ext hb; clear hu hat0; have hu := hu_; have hat0 := hat0_; clear hu_ hat0_ hb))
    | (go_at_call 13; go_must (refine (answers _).mono ?_; rintro e u3 ⟨rfl, hb⟩; have hu_ := hu.trans (hb.mono hu.size); have hat0_ := hat0.ext hb; have hx1_ := hx1.below hb; clear hu hat0 hx1; have hu := hu_; have hat0 := hat0_; have hx1 := hx1_; clear hu_ hat0_ hx1_ hb))
    | (go_at_call 25; have _t := hx1; clear _t; go_must (refine (PG1.out _ _ hx1).mono ?_; clear hx1; rintro e u4 ⟨p4, n4, c4, rfl, hL, hb⟩; have hL4 := hL.reads; clear hL; obtain ⟨_, _, ee, _⟩ := hL4.shape; cases ee; have hu_ := hu.trans (hb.mono hu.size); have hat0_ := hat0.ext hb; clear hu hat0; have hu := hu_; have hat0 := hat0_; clear hu_ hat0_ hb; have h4 := Below.refl u4.heap.size u4))
    | ((with_reducible refine wpl_allocAt rfl 25 rfl zeroM (by kernel_rfl) ?_); have _t := S1; clear _t; go_must (intro u5 hat5 hb hs; clear hs S1; have Tu5_0 := hu.size; have Tu5_1 := hat0.lt; have Tu5_2 := h4.size; have hu_ := hu.trans (hb.mono hu.size); have hat0_ := hat0.ext hb; have h4_ := h4.trans (hb.mono h4.size); clear hu hat0 h4; have hu := hu_; have hat0 := hat0_; have h4 := h4_; clear hu_ hat0_ h4_ hb; have Lu5 := hat5.lt))
    | ((with_reducible refine wpl_storeR rfl 25 (.tmp 7) (.tmp 28) rfl rfl u4.heap.size 25 zeroM (rowM m (.slice p4 m.avps.length c4)) ?_ ?_ hat5 (by kernel_rfl) ?_ ?_ ?_); rfl; rfl; rfl; (simp [rowM, Value.oneCell']); go_must (intro u6 hat5' hg; have hu_ := below_grown hu hg hu.size (by omega); have hat0_ := hat0.grown hg (by omega); have h4_ := below_grown h4 hg h4.size (by omega); clear hu hat0 h4; have hu := hu_; have hat0 := hat0_; have h4 := h4_; clear hu_ hat0_ h4_ hg; clear hat5; have hat5 := hat5'; clear hat5'))
    | (refine Mem.wpl_wanted (by rfl) ?_; (refine wpl_loadAt rfl 25 (.tmp 2) rfl w.heap.size 25 (rowM m (.slice p m.avps.length c)) hat0 _ Try.underlying25 rfl (by kernel_rfl) ?_ ?_); rfl)
    | (refine Mem.wpl_wanted (by rfl) ?_; (refine wpl_loadAt rfl 25 (.tmp 7) rfl u4.heap.size 25 (rowM m (.slice p4 m.avps.length c4)) hat5 _ Try.underlying25 rfl (by kernel_rfl) ?_ ?_); rfl)
    | (go_at_call 24; have _t := S2; clear _t; go_must (refine (sameMsg m _ _ _ _ _ (HL.out.below hu) (hL4.below h4) OK1.out).mono ?_; rintro e u7 ⟨rfl, hb⟩; clear S2; have hu_ := hu.trans (hb.mono hu.size); have hat0_ := hat0.ext hb; have h4_ := h4.trans (hb.mono h4.size); have hat5_ := hat5.ext hb; clear hu hat0 h4 hat5; have hu := hu_; have hat0 := hat0_; have h4 := h4_; have hat5 := hat5_; clear hu_ hat0_ h4_ hat5_ hb))
    | ((with_reducible refine wpl_empty rfl 26 5 rfl .u8 (fun _ => by kernel_rfl) ?_); have _t := S3; clear _t; go_must (intro u8 hown hb hs; clear hs S3; have hbs := hb.size; have Tu8_0 := hu.size; have Tu8_1 := hat0.lt; have Tu8_2 := h4.size; have Tu8_3 := hat5.lt; have hu_ := hu.trans (hb.mono hu.size); have hat0_ := hat0.ext hb; have h4_ := h4.trans (hb.mono h4.size); have hat5_ := hat5.ext hb; clear hu hat0 h4 hat5; have hu := hu_; have hat0 := hat0_; have h4 := h4_; have hat5 := hat5_; clear hu_ hat0_ h4_ hat5_ hb))
    | (at_builtin; have _t := hown; clear _t; go_must (obtain ⟨i0, hi, hz0, hz1, hz2⟩ := info_parts info5; refine wpl_append rfl (.tmp 39) (.tmp 40) 26 rfl .u8 u7.heap.size 5 1 i0 (.int .u8 0) Try.underlying26 hi hz0 hz1 hz2 rfl _ _ [] xs rfl rfl hown (HX.out.below hu) K1 K2 hbs ?_; clear hi hz0 hz1 hz2; intro v2 u9 hv2 hg0; have hg : World.grownBy _ _ (some u7.heap.size) := hg0; clear hg0; rw [List.nil_append] at hv2; have hx2 := hv2.reads; clear hv2; have hu_ := below_grown hu hg hu.size (by omega); have hat0_ := hat0.grown hg (by omega); have h4_ := below_grown h4 hg h4.size (by omega); have hat5_ := hat5.grown hg (by omega); clear hu hat0 h4 hat5; have hu := hu_; have hat0 := hat0_; have h4 := h4_; have hat5 := hat5_; clear hu_ hat0_ h4_ hat5_ hg; clear hown))
    | (go_at_call 25; have _t := hx2; clear _t; go_must (refine (PG2.out _ _ hx2).mono ?_; clear hx2; rintro e u10 ⟨p10, n10, c10, rfl, hL, hb⟩; have hL10 := hL.reads; clear hL; obtain ⟨_, _, ee, _⟩ := hL10.shape; cases ee; have hu_ := hu.trans (hb.mono hu.size); have hat0_ := hat0.ext hb; have h4_ := h4.trans (hb.mono h4.size); have hat5_ := hat5.ext hb; clear hu hat0 h4 hat5; have hu := hu_; have hat0 := hat0_; have h4 := h4_; have hat5 := hat5_; clear hu_ hat0_ h4_ hat5_ hb; have h10 := Below.refl u10.heap.size u10))
    | ((with_reducible refine wpl_allocAt rfl 25 rfl zeroM (by kernel_rfl) ?_); have _t := S4; clear _t; go_must (intro u11 hat11 hb hs; clear hs S4; have Tu11_0 := hu.size; have Tu11_1 := hat0.lt; have Tu11_2 := h4.size; have Tu11_3 := hat5.lt; have Tu11_4 := h10.size; have hu_ := hu.trans (hb.mono hu.size); have hat0_ := hat0.ext hb; have h4_ := h4.trans (hb.mono h4.size); have hat5_ := hat5.ext hb; have h10_ := h10.trans (hb.mono h10.size); clear hu hat0 h4 hat5 h10; have hu := hu_; have hat0 := hat0_; have h4 := h4_; have hat5 := hat5_; have h10 := h10_; clear hu_ hat0_ h4_ hat5_ h10_ hb; have Lu11 := hat11.lt))
    | ((with_reducible refine wpl_storeR rfl 25 (.tmp 9) (.tmp 43) rfl rfl u10.heap.size 25 zeroM (rowM n (.slice p10 n.avps.length c10)) ?_ ?_ hat11 (by kernel_rfl) ?_ ?_ ?_); rfl; rfl; rfl; (simp [rowM, Value.oneCell']); go_must (intro u12 hat11' hg; have hu_ := below_grown hu hg hu.size (by omega); have hat0_ := hat0.grown hg (by omega); have h4_ := below_grown h4 hg h4.size (by omega); have hat5_ := hat5.grown hg (by omega); have h10_ := below_grown h10 hg h10.size (by omega); clear hu hat0 h4 hat5 h10; have hu := hu_; have hat0 := hat0_; have h4 := h4_; have hat5 := hat5_; have h10 := h10_; clear hu_ hat0_ h4_ hat5_ h10_ hg; clear hat11; have hat11 := hat11'; clear hat11'))
    | ((with_reducible refine wpl_loadAt rfl 25 (.tmp 9) rfl u10.heap.size 25 (rowM n (.slice p10 n.avps.length c10)) hat11 _ Try.underlying25 rfl (by kernel_rfl) ?_ ?_); rfl)
    | (go_at_call 10; have _t := S5; clear _t; go_must (refine (PP2.out _ _ _ (hL10.below h10)).mono ?_; clear S5; rintro e u13 ⟨v13, rfl, hr, hb⟩; have hx3 := hr.reads; clear hr; have hu_ := hu.trans (hb.mono hu.size); have hat0_ := hat0.ext hb; have h4_ := h4.trans (hb.mono h4.size); have hat5_ := hat5.ext hb; have h10_ := h10.trans (hb.mono h10.size); have hat11_ := hat11.ext hb; clear hu hat0 h4 hat5 h10 hat11; have hu := hu_; have hat0 := hat0_; have h4 := h4_; have hat5 := hat5_; have h10 := h10_; have hat11 := hat11_; clear hu_ hat0_ h4_ hat5_ h10_ hat11_ hb; obtain ⟨p13, c13, rfl, _⟩ := id hx3; rw [DL.out] at hx3 ⊢))
    | (go_at_call 25; have _t := hx3; clear _t; go_must (refine (PG3.out _ _ hx3).mono ?_; clear hx3; rintro e u14 ⟨p14, n14, c14, rfl, hL, hb⟩; have hL14 := hL.reads; clear hL; obtain ⟨_, _, ee, _⟩ := hL14.shape; cases ee; have hu_ := hu.trans (hb.mono hu.size); have hat0_ := hat0.ext hb; have h4_ := h4.trans (hb.mono h4.size); have hat5_ := hat5.ext hb; have h10_ := h10.trans (hb.mono h10.size); have hat11_ := hat11.ext hb; clear hu hat0 h4 hat5 h10 hat11; have hu := hu_; have hat0 := hat0_; have h4 := h4_; have hat5 := hat5_; have h10 := h10_; have hat11 := hat11_; clear hu_ hat0_ h4_ hat5_ h10_ hat11_ hb; have h14 := Below.refl u14.heap.size u14))
    | ((with_reducible refine wpl_allocAt rfl 25 rfl zeroM (by kernel_rfl) ?_); have _t := S6; clear _t; go_must (intro u15 hat15 hb hs; clear hs S6; have Tu15_0 := hu.size; have Tu15_1 := hat0.lt; have Tu15_2 := h4.size; have Tu15_3 := hat5.lt; have Tu15_4 := h10.size; have Tu15_5 := hat11.lt; have Tu15_6 := h14.size; have hu_ := hu.trans (hb.mono hu.size); have hat0_ := hat0.ext hb; have h4_ := h4.trans (hb.mono h4.size); have hat5_ := hat5.ext hb; have h10_ := h10.trans (hb.mono h10.size); have hat11_ := hat11.ext hb; have h14_ := h14.trans (hb.mono h14.size); clear hu hat0 h4 hat5 h10 hat11 h14; have hu := hu_; have hat0 := hat0_; have h4 := h4_; have hat5 := hat5_; have h10 := h10_; have hat11 := hat11_; have h14 := h14_; clear hu_ hat0_ h4_ hat5_ h10_ hat11_ h14_ hb; have Lu15 := hat15.lt))
    | ((with_reducible refine wpl_storeR rfl 25 (.tmp 13) (.tmp 58) rfl rfl u14.heap.size 25 zeroM (rowM n (.slice p14 n.avps.length c14)) ?_ ?_ hat15 (by kernel_rfl) ?_ ?_ ?_); rfl; rfl; rfl; (simp [rowM, Value.oneCell']); go_must (intro u16 hat15' hg; have hu_ := below_grown hu hg hu.size (by omega); have hat0_ := hat0.grown hg (by omega); have h4_ := below_grown h4 hg h4.size (by omega); have hat5_ := hat5.grown hg (by omega); have h10_ := below_grown h10 hg h10.size (by omega); have hat11_ := hat11.grown hg (by omega); have h14_ := below_grown h14 hg h14.size (by omega); clear hu hat0 h4 hat5 h10 hat11 h14; have hu := hu_; have hat0 := hat0_; have h4 := h4_; have hat5 := hat5_; have h10 := h10_; have hat11 := hat11_; have h14 := h14_; clear hu_ hat0_ h4_ hat5_ h10_ hat11_ h14_ hg; clear hat15; have hat15 := hat15'; clear hat15'))
    | (refine Mem.wpl_wanted (by rfl) ?_; (refine wpl_loadAt rfl 25 (.tmp 9) rfl u10.heap.size 25 (rowM n (.slice p10 n.avps.length c10)) hat11 _ Try.underlying25 rfl (by kernel_rfl) ?_ ?_); rfl)
    | (refine Mem.wpl_wanted (by rfl) ?_; (refine wpl_loadAt rfl 25 (.tmp 13) rfl u14.heap.size 25 (rowM n (.slice p14 n.avps.length c14)) hat15 _ Try.underlying25 rfl (by kernel_rfl) ?_ ?_); rfl)
    | (go_at_call 24; have _t := S7; clear _t; go_must (refine (sameMsg n _ _ _ _ _ (hL10.below h10) (hL14.below h14) OK2.out).mono ?_; rintro e u17 ⟨rfl, hb⟩; clear S7; have hu_ := hu.trans (hb.mono hu.size); have hat0_ := hat0.ext hb; have h4_ := h4.trans (hb.mono h4.size); have hat5_ := hat5.ext hb; have h10_ := h10.trans (hb.mono h10.size); have hat11_ := hat11.ext hb; have h14_ := h14.trans (hb.mono h14.size); have hat15_ := hat15.ext hb; clear hu hat0 h4 hat5 h10 hat11 h14 hat15; have hu := hu_; have hat0 := hat0_; have h4 := h4_; have hat5 := hat5_; have h10 := h10_; have hat11 := hat11_; have h14 := h14_; have hat15 := hat15_; clear hu_ hat0_ h4_ hat5_ h10_ hat11_ h14_ hat15_ hb)))
  go_ret
  exact ⟨rfl, hu⟩
theorem back (m : M) (p : Option Addr) (c : Nat) (pv : Option Addr) (cv : Nat) (xs : List Int) (w : World) (hr : ReadsL w (.slice p m.avps.length c) m.avps) (hok : m.ok) (hd : ∀ a ∈ m.avps, a.data.length ≤ 140737488351232) (hx : Reads .u8 w (.slice pv xs.length cv) xs) (hwf : ∀ x ∈ xs, 0 ≤ x ∧ x ≤ 255) (hb : xs.length ≤ 140737488351232) :
    Calls Try.prog 9 #[.agg (rowM m (.slice p m.avps.length c)), .slice pv xs.length cv] w fun e w' => e = .returned (.bool true) ∧ Below w.heap.size w w' := by
  obtain ⟨Y, E, e1⟩ : ∃ Y E, putM m = (Y, E) := ⟨_, _, rfl⟩
  obtain ⟨n, G, e2⟩ : ∃ n G, getM xs = (n, G) := ⟨_, _, rfl⟩
  by_cases hE : E = 0
  · subst hE
    by_cases hG : G = 0
    · subst hG
      exact back_BY m p c pv cv xs w hr hok hd hx hwf hb Y e1 n e2
    · obtain rfl := getM_no e2 hG
      exact back_BX m p c pv cv xs w hr hok hd hx hwf hb Y e1 G e2 hG
  · obtain rfl := putM_no e1 hE
    by_cases hG : G = 0
    · subst hG
      exact back_AY m p c pv cv xs w hr hok hd hx hwf hb E e1 hE n e2
    · obtain rfl := getM_no e2 hG
      exact back_AX m p c pv cv xs w hr hok hd hx hwf hb E e1 hE G e2 hG
end Go.Proofs.Ytcekkppjalipfaa.Avp
