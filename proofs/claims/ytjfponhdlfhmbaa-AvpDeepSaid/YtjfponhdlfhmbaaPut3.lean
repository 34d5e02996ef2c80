/-
  The reference's Put: the walk. (Printed by gen_put3.py.)
-/
import Derived.Test.YtjfponhdlfhmbaaPut2
namespace Go.Proofs.Ytjfponhdlfhmbaa.Avp
open Go.RowKit Mem Cells Avps Wire Ops
set_option linter.unusedVariables false
set_option linter.unusedSimpArgs false

set_option maxRecDepth 100000 in
set_option maxHeartbeats 12800000 in
theorem refPutAll (v : Value) (al : List A) (w : World) (hr : ReadsL w v al) (hd : ∀ a ∈ al, a.ok ∧ a.data.length ≤ 140737488355300) : Calls Try.prog 10 #[v] w (PutIs w (putOf al)) := by
  obtain ⟨p, c, rfl, k1, k2⟩ := hr.shape
  by_cases hbig : 64 < al.length
  · have e1 : putOf al = ([], 4) := by unfold putOf; rw [if_pos (.inl hbig)]
    rw [e1]
    unfold maxLen at k2
    clear hr hd e1
    go_enter Try.func10, Try.ntmps10
    go_wp2_with fail
    go_ret2
    exact ⟨_, rfl, World.ownsRow_nil _ _ _ _, Below.refl _ _⟩
  · obtain ⟨R, hR⟩ : ∃ R, putOf al = R := ⟨_, rfl⟩
    rw [hR]
    have HRR := Lib.hid hR
    have HR := Lib.hid hr
    have HD := Lib.hid hd
    have hle : al.length ≤ 64 := by omega
    clear hr hd hR
    go_enter Try.func10, Try.ntmps10
    go_wp2_with fail
    go_loopw [4, 5] (fun u i wr => ∃ (k : Nat) (out : List Int), i = .int .i64 k ∧ k ≤ al.length ∧ out.length ≤ 4096 ∧ Row .u8 5 w.heap.size wr u out ∧ Below w.heap.size w wr ∧ Hid (out = encAll 0 0 (al.take k))) (fun _ i _ => al.length - (intOf i).toNat)
    case atStart => exact ⟨0, [], rfl, by omega, by simp, World.ownsRow_nil _ _ _ _, Below.refl _ _, Lib.hid rfl⟩
    case round =>
      obtain ⟨k, out, rfl, hk, hol, hown, hbl, HO⟩ := hrel
      by_cases hlt : k < al.length
      · obtain ⟨x, hx1, hx2, b, off, c1, pd, nd, hv, _, _, hltb, hra, hrd⟩ := (HR.out.below hbl).elem k hlt
        cases hv
        obtain ⟨⟨oc, ov, od⟩, hdx⟩ := HD.out x hx2
        have hts := tot_succ al k x hx1
        have htl2 := tot_le al (k + 1)
        have htk : tot al k = out.length := by rw [HO.out]; rfl
        have hsb := sizeN_bd x
        have HTS := Lib.hid hts
        have HTK := Lib.hid htk
        have HTL := Lib.hid htl2
        have HSB := Lib.hid hsb
        have HRA := Lib.hid hra
        have HX := Lib.hid hx1
        obtain ⟨pu, cu, rfl, _, _, _, _⟩ := id hown.reads
        have hwb := hbl.size
        clear hx1 hx2 hra hts htl2 htk hsb
        by_cases hxl : 4096 < x.data.length
        · have hRR : R = ([], 4) := by
            rw [← HRR.out]
            unfold putOf
            rw [if_pos (.inr (by have := HTS.out; have := HTK.out; have := HTL.out; have := HSB.out; omega))]
          have HR4 := Lib.hid hRR
          clear hRR
          go_wp2_with (first | ((with_reducible refine wpl_loadE rfl 41 (.tmp 20) rfl b (off + k * 5) ?_ (row x (.slice pd x.data.length nd)).toArray _ HRA.out Try.underlying41 rfl (by kernel_rfl) ?_); rfl; clear HRA) | ((with_reducible refine wpl_allocAt rfl 41 rfl zeroRow (by kernel_rfl) ?_); go_must (intro w1 hatw1 hbw1 hsw1; have HSw1 := Lib.hid hsw1; clear hsw1)) | ((with_reducible refine wpl_storeR rfl 41 (.tmp 6) (.tmp 21) rfl rfl wr.heap.size 41 zeroRow (row x (.slice pd x.data.length nd)).toArray ?_ ?_ hatw1 (by kernel_rfl) ?_ ?_ ?_); rfl; rfl; rfl; simp [row, Value.oneCell']; go_must (intro w2 hatw2 hgw2; have hbw2 := hbw1.grown hgw2 hbw1.size (fun q e => by cases e; exact Nat.le_refl _); have c4 := hatw2.cell 4; simp [row] at c4; clear hatw1 hgw2 hbw1)))
          go_ret2
          rw [HR4.out]
          exact ⟨_, rfl, World.ownsRow_nil _ _ _ _, hbl.trans (hbw2.mono hbl.size)⟩
        · have hxl' : x.data.length ≤ 4096 := by omega
          have PU := Lib.hid (fun v (ys : List Int) (n : Int) w (hn : 0 ≤ n ∧ n ≤ 18446744073709551615) (hr : Reads .u8 w v ys) (hb : ys.length ≤ 140737488355300) => refPut v ys n 4 w hn hr hb)
          have PU3 := Lib.hid (fun v (ys : List Int) (n : Int) w (hn : 0 ≤ n ∧ n ≤ 18446744073709551615) (hr : Reads .u8 w v ys) (hb : ys.length ≤ 140737488355300) => refPut v ys n 3 w hn hr hb)
          have PDD := Lib.hid (fun v w (hr : Reads .u8 w v x.data) => refPadded v x.data w hr (by omega))
          obtain ⟨pz, hpz⟩ : ∃ pz, paddedOf x.data = pz := ⟨_, rfl⟩
          have hpl : (pz.length : Int) ≤ 4100 := by rw [← hpz]; have := padN_bd x.data.length; unfold paddedOf; simp; omega
          have HPZ := Lib.hid hpz
          obtain ⟨bv, hbv⟩ : ∃ bv, venB x = bv := ⟨_, rfl⟩
          have hne : (x.vendor != 0) = bv := by rw [← hbv]; unfold venB; by_cases h : x.vendor = 0 <;> simp [h]
          have HBV := Lib.hid hbv
          obtain ⟨bm, hbm⟩ : ∃ bm, x.must = bm := ⟨_, rfl⟩
          obtain ⟨bp, hbp⟩ : ∃ bp, x.prot = bp := ⟨_, rfl⟩
          have HBM := Lib.hid hbm
          have HBP := Lib.hid hbp
          obtain ⟨L1, hL1⟩ : ∃ L1, putted out x.code 4 = L1 := ⟨_, rfl⟩
          have hl1 : (L1.length : Int) ≤ 4100 := by rw [← hL1, putted4_len]; omega
          have HL1 := Lib.hid hL1
          clear hpz hbv hL1 hxl
          clear hbm hbp
          cases bv <;> cases bm <;> cases bp
          · obtain ⟨L2, hL2⟩ : ∃ L2, L1 ++ [(0 : Int)] = L2 := ⟨_, rfl⟩
            have hl2 : (L2.length : Int) ≤ 4110 := by rw [← hL2]; simp; omega
            have HL2 := Lib.hid hL2
            obtain ⟨L3, hL3⟩ : ∃ L3, putted L2 (8 + (x.data.length : Int)) 3 = L3 := ⟨_, rfl⟩
            have hl3 : (L3.length : Int) ≤ 4120 := by rw [← hL3, putted3_len]; omega
            have HL3 := Lib.hid hL3
            clear hL2 hL3
            have K1 : L1.length + 1 ≤ maxLen := by simp [maxLen]; omega
            have K2 : (L1.length + 1) * 1 ≤ 140737488355328 := by omega
            have K3 : L3.length + pz.length ≤ maxLen := by simp [maxLen]; omega
            have K4 : (L3.length + pz.length) * 1 ≤ 140737488355328 := by omega
            have henc : L3 ++ pz = encAll 0 0 (al.take (k + 1)) := by
              rw [enc_step HX.out, ← HO.out, ← HPZ.out, ← HL3.out, ← HL2.out, ← HL1.out]
              unfold encG paddedOf flagN
              rw [HBV.out, HBM.out, HBP.out, putted4, putted3]
              simp [headN]
            have hft : ((L3 ++ pz).length : Int) = tot al (k + 1) := by rw [henc]; rfl
            have HENC := Lib.hid henc
            have HFT := Lib.hid hft
            clear henc hft
            by_cases hov : 4096 < (L3 ++ pz).length
            · have hRR : R = ([], 4) := by
                rw [← HRR.out]
                unfold putOf
                rw [if_pos (.inr (by have := HTL.out; have := HFT.out; omega))]
              have HR4 := Lib.hid hRR
              clear hRR
              have hov2 : 4096 < ((L3.length : Int) + pz.length) := by simp at hov; omega
              clear hov
              have hlen5 : ∀ L5 : List Int, L3 ++ pz = L5 → (L5.length : Int) = L3.length + pz.length := fun L5 h => by rw [← h]; simp
              have HLEN := Lib.hid hlen5
              clear hlen5
              go_wp2_with (first | ((with_reducible refine wpl_loadE rfl 41 (.tmp 20) rfl b (off + k * 5) ?_ (row x (.slice pd x.data.length nd)).toArray _ HRA.out Try.underlying41 rfl (by kernel_rfl) ?_); rfl; clear HRA) | ((with_reducible refine wpl_allocAt rfl 41 rfl zeroRow (by kernel_rfl) ?_); go_must (intro w1 hatw1 hbw1 hsw1; have HSw1 := Lib.hid hsw1; clear hsw1)) | ((with_reducible refine wpl_storeR rfl 41 (.tmp 6) (.tmp 21) rfl rfl wr.heap.size 41 zeroRow (row x (.slice pd x.data.length nd)).toArray ?_ ?_ hatw1 (by kernel_rfl) ?_ ?_ ?_); rfl; rfl; rfl; simp [row, Value.oneCell']; go_must (intro w2 hatw2 hgw2; have hbw2 := hbw1.grown hgw2 hbw1.size (fun q e => by cases e; exact Nat.le_refl _); have c0 := hatw2.cell 0; have c1 := hatw2.cell 1; have c2 := hatw2.cell 2; have c3 := hatw2.cell 3; have c4 := hatw2.cell 4; simp [row] at c0 c1 c2 c3 c4; rw [HBM.out] at c2; rw [HBP.out] at c3; have hr2 := hown.reads.below hbw2; have hrd2 := hrd.below hbw2; have t1 : True := trivial; clear hatw1 hgw2 hbw1)) | (go_at_call 23; have _t := t1; clear _t; go_must (refine (PU.out _ out x.code _ (by omega) hr2 (by omega)).mono ?_; rintro e w3 ⟨v3, rfl, ho3, hb3⟩; rw [HL1.out] at ho3; have hu3 := hb3; have hat3 := hatw2.ext hu3; clear c0 c1 c2 c3 c4; have c0 := hat3.cell 0; have c1 := hat3.cell 1; have c2 := hat3.cell 2; have c3 := hat3.cell 3; have c4 := hat3.cell 4; simp [row] at c0 c1 c2 c3 c4; rw [HBM.out] at c2; rw [HBP.out] at c3; have ho3a := ho3.alloc (.cells #[.int .u8 0] 5); clear hr2 t1 hb3)) | (at_builtin; have _t := ho3a; clear _t; go_must (obtain ⟨i0, hi, hz0, hz1, hz2⟩ := info_parts info5; refine wpl_append rfl (.tmp 50) (.tmp 53) 23 rfl .u8 w2.heap.size 5 1 i0 (.int .u8 0) Try.underlying23 hi hz0 hz1 hz2 rfl v3 _ L1 [(0 : Int)] rfl rfl ho3a (Reads.one .u8 w3 _ _) K1 K2 (by have := hu3.size; simp; omega) ?_; clear hi hz0 hz1 hz2; intro v4 w4 hv4 hg4; rw [HL2.out] at hv4; have hua := hu3.alloc hu3.size (.cells #[.int .u8 0] 5); have hu4 := hua.grown hg4 hua.size (fun q e => (ho3.lt q e).1); have hat4 := hatw2.ext hu4; clear c0 c1 c2 c3 c4 hat3; have c0 := hat4.cell 0; have c1 := hat4.cell 1; have c2 := hat4.cell 2; have c3 := hat4.cell 3; have c4 := hat4.cell 4; simp [row] at c0 c1 c2 c3 c4; rw [HBM.out] at c2; rw [HBP.out] at c3; have hr4 := hv4.reads; have hs4 := hu4.size; clear ho3 ho3a hu3 hua hg4)) | (go_at_call 23; have _t := hr4; clear _t; go_must (refine (PU3.out _ L2 (8 + (x.data.length : Int)) _ (by omega) hr4 (by omega)).mono ?_; rintro e w5 ⟨v5, rfl, ho5, hb5⟩; rw [HL3.out] at ho5; have hu5 := hu4.trans (hb5.mono hs4); have hat5 := hatw2.ext hu5; clear c0 c1 c2 c3 c4 hat4; have c0 := hat5.cell 0; have c1 := hat5.cell 1; have c2 := hat5.cell 2; have c3 := hat5.cell 3; have c4 := hat5.cell 4; simp [row] at c0 c1 c2 c3 c4; rw [HBM.out] at c2; rw [HBP.out] at c3; have hr5 := ho5.reads; have ho5' := ho5.mono hs4; have hs5 := hu5.size; have hrd5 := hrd2.below hu5; clear hr4 hb5 hv4 hu4 ho5 hs4)) | (go_at_call 24; go_must (refine (PDD.out _ _ hrd5).mono ?_; rintro e w10 ⟨v10, rfl, ho10, hb10⟩; rw [HPZ.out] at ho10; have hob := ho5'.below hb10; have hr10 := ho10.reads; have hu10 := hu5.trans (hb10.mono hu5.size); clear hrd5 ho5' ho10 hb10 hu5 c0 c1 c2 c3 c4)) | (at_builtin; have _t := hr10; clear _t; go_must (obtain ⟨i0, hi, hz0, hz1, hz2⟩ := info_parts info5; refine wpl_append rfl (.tmp 67) (.tmp 70) 23 rfl .u8 w2.heap.size 5 1 i0 (.int .u8 0) Try.underlying23 hi hz0 hz1 hz2 rfl v5 v10 L3 pz rfl rfl hob hr10 K3 K4 hu10.size ?_; clear hi hz0 hz1 hz2; intro v11 w11 hv11 hg11; obtain ⟨L5, hL5⟩ : ∃ L5, L3 ++ pz = L5 := ⟨_, rfl⟩; rw [hL5] at hv11; have HL5 := Lib.hid hL5; have hl5 := HLEN.out L5 hL5; have hl5' : (4096 : Int) < L5.length := (by omega); clear hL5 hl5; obtain ⟨p11, c11, rfl, _, _, _, _⟩ := id hv11.reads; have hu11 := hu10.grown hg11 hu10.size (fun q e => (hob.lt q e).1); clear hob hr10 hg11 hu10)))
              go_ret2
              rw [HR4.out]
              exact ⟨_, rfl, World.ownsRow_nil _ _ _ _, hbl.trans ((hbw2.trans (hu11.mono hbw2.size)).mono hbl.size)⟩
            · have hno : True := trivial
              have hov2 : 4096 ≥ ((L3.length : Int) + pz.length) := by simp at hov; omega
              clear hov
              have hlen5 : ∀ L5 : List Int, L3 ++ pz = L5 → (L5.length : Int) = L3.length + pz.length := fun L5 h => by rw [← h]; simp
              have HLEN := Lib.hid hlen5
              clear hlen5
              go_wp2_with (first | ((with_reducible refine wpl_loadE rfl 41 (.tmp 20) rfl b (off + k * 5) ?_ (row x (.slice pd x.data.length nd)).toArray _ HRA.out Try.underlying41 rfl (by kernel_rfl) ?_); rfl; clear HRA) | ((with_reducible refine wpl_allocAt rfl 41 rfl zeroRow (by kernel_rfl) ?_); go_must (intro w1 hatw1 hbw1 hsw1; have HSw1 := Lib.hid hsw1; clear hsw1)) | ((with_reducible refine wpl_storeR rfl 41 (.tmp 6) (.tmp 21) rfl rfl wr.heap.size 41 zeroRow (row x (.slice pd x.data.length nd)).toArray ?_ ?_ hatw1 (by kernel_rfl) ?_ ?_ ?_); rfl; rfl; rfl; simp [row, Value.oneCell']; go_must (intro w2 hatw2 hgw2; have hbw2 := hbw1.grown hgw2 hbw1.size (fun q e => by cases e; exact Nat.le_refl _); have c0 := hatw2.cell 0; have c1 := hatw2.cell 1; have c2 := hatw2.cell 2; have c3 := hatw2.cell 3; have c4 := hatw2.cell 4; simp [row] at c0 c1 c2 c3 c4; rw [HBM.out] at c2; rw [HBP.out] at c3; have hr2 := hown.reads.below hbw2; have hrd2 := hrd.below hbw2; have t1 : True := trivial; clear hatw1 hgw2 hbw1)) | (go_at_call 23; have _t := t1; clear _t; go_must (refine (PU.out _ out x.code _ (by omega) hr2 (by omega)).mono ?_; rintro e w3 ⟨v3, rfl, ho3, hb3⟩; rw [HL1.out] at ho3; have hu3 := hb3; have hat3 := hatw2.ext hu3; clear c0 c1 c2 c3 c4; have c0 := hat3.cell 0; have c1 := hat3.cell 1; have c2 := hat3.cell 2; have c3 := hat3.cell 3; have c4 := hat3.cell 4; simp [row] at c0 c1 c2 c3 c4; rw [HBM.out] at c2; rw [HBP.out] at c3; have ho3a := ho3.alloc (.cells #[.int .u8 0] 5); clear hr2 t1 hb3)) | (at_builtin; have _t := ho3a; clear _t; go_must (obtain ⟨i0, hi, hz0, hz1, hz2⟩ := info_parts info5; refine wpl_append rfl (.tmp 50) (.tmp 53) 23 rfl .u8 w2.heap.size 5 1 i0 (.int .u8 0) Try.underlying23 hi hz0 hz1 hz2 rfl v3 _ L1 [(0 : Int)] rfl rfl ho3a (Reads.one .u8 w3 _ _) K1 K2 (by have := hu3.size; simp; omega) ?_; clear hi hz0 hz1 hz2; intro v4 w4 hv4 hg4; rw [HL2.out] at hv4; have hua := hu3.alloc hu3.size (.cells #[.int .u8 0] 5); have hu4 := hua.grown hg4 hua.size (fun q e => (ho3.lt q e).1); have hat4 := hatw2.ext hu4; clear c0 c1 c2 c3 c4 hat3; have c0 := hat4.cell 0; have c1 := hat4.cell 1; have c2 := hat4.cell 2; have c3 := hat4.cell 3; have c4 := hat4.cell 4; simp [row] at c0 c1 c2 c3 c4; rw [HBM.out] at c2; rw [HBP.out] at c3; have hr4 := hv4.reads; have hs4 := hu4.size; clear ho3 ho3a hu3 hua hg4)) | (go_at_call 23; have _t := hr4; clear _t; go_must (refine (PU3.out _ L2 (8 + (x.data.length : Int)) _ (by omega) hr4 (by omega)).mono ?_; rintro e w5 ⟨v5, rfl, ho5, hb5⟩; rw [HL3.out] at ho5; have hu5 := hu4.trans (hb5.mono hs4); have hat5 := hatw2.ext hu5; clear c0 c1 c2 c3 c4 hat4; have c0 := hat5.cell 0; have c1 := hat5.cell 1; have c2 := hat5.cell 2; have c3 := hat5.cell 3; have c4 := hat5.cell 4; simp [row] at c0 c1 c2 c3 c4; rw [HBM.out] at c2; rw [HBP.out] at c3; have hr5 := ho5.reads; have ho5' := ho5.mono hs4; have hs5 := hu5.size; have hrd5 := hrd2.below hu5; clear hr4 hb5 hv4 hu4 ho5 hs4)) | (go_at_call 24; go_must (refine (PDD.out _ _ hrd5).mono ?_; rintro e w10 ⟨v10, rfl, ho10, hb10⟩; rw [HPZ.out] at ho10; have hob := ho5'.below hb10; have hr10 := ho10.reads; have hu10 := hu5.trans (hb10.mono hu5.size); clear hrd5 ho5' ho10 hb10 hu5 c0 c1 c2 c3 c4)) | (at_builtin; have _t := hr10; clear _t; go_must (obtain ⟨i0, hi, hz0, hz1, hz2⟩ := info_parts info5; refine wpl_append rfl (.tmp 67) (.tmp 70) 23 rfl .u8 w2.heap.size 5 1 i0 (.int .u8 0) Try.underlying23 hi hz0 hz1 hz2 rfl v5 v10 L3 pz rfl rfl hob hr10 K3 K4 hu10.size ?_; clear hi hz0 hz1 hz2; intro v11 w11 hv11 hg11; obtain ⟨L5, hL5⟩ : ∃ L5, L3 ++ pz = L5 := ⟨_, rfl⟩; rw [hL5] at hv11; have HL5 := Lib.hid hL5; have hl5 := HLEN.out L5 hL5; have hl5' : (L5.length : Int) ≤ 4096 := (by omega); clear hL5 hl5; obtain ⟨p11, c11, rfl, _, _, _, _⟩ := id hv11.reads; have hu11 := hu10.grown hg11 hu10.size (fun q e => (hob.lt q e).1); clear hob hr10 hg11 hu10)))
              go_roundw
              case rel => exact ⟨k + 1, L5, by go_num, by omega, by omega, hv11.mono (by have := hbw2.size; omega), hbl.trans ((hbw2.trans (hu11.mono hbw2.size)).mono hbl.size), Lib.hid (HL5.out.symm.trans HENC.out)⟩
              case measure => simp [intOf]; omega
          · obtain ⟨L2, hL2⟩ : ∃ L2, L1 ++ [(32 : Int)] = L2 := ⟨_, rfl⟩
            have hl2 : (L2.length : Int) ≤ 4110 := by rw [← hL2]; simp; omega
            have HL2 := Lib.hid hL2
            obtain ⟨L3, hL3⟩ : ∃ L3, putted L2 (8 + (x.data.length : Int)) 3 = L3 := ⟨_, rfl⟩
            have hl3 : (L3.length : Int) ≤ 4120 := by rw [← hL3, putted3_len]; omega
            have HL3 := Lib.hid hL3
            clear hL2 hL3
            have K1 : L1.length + 1 ≤ maxLen := by simp [maxLen]; omega
            have K2 : (L1.length + 1) * 1 ≤ 140737488355328 := by omega
            have K3 : L3.length + pz.length ≤ maxLen := by simp [maxLen]; omega
            have K4 : (L3.length + pz.length) * 1 ≤ 140737488355328 := by omega
            have henc : L3 ++ pz = encAll 0 0 (al.take (k + 1)) := by
              rw [enc_step HX.out, ← HO.out, ← HPZ.out, ← HL3.out, ← HL2.out, ← HL1.out]
              unfold encG paddedOf flagN
              rw [HBV.out, HBM.out, HBP.out, putted4, putted3]
              simp [headN]
            have hft : ((L3 ++ pz).length : Int) = tot al (k + 1) := by rw [henc]; rfl
            have HENC := Lib.hid henc
            have HFT := Lib.hid hft
            clear henc hft
            by_cases hov : 4096 < (L3 ++ pz).length
            · have hRR : R = ([], 4) := by
                rw [← HRR.out]
                unfold putOf
                rw [if_pos (.inr (by have := HTL.out; have := HFT.out; omega))]
              have HR4 := Lib.hid hRR
              clear hRR
              have hov2 : 4096 < ((L3.length : Int) + pz.length) := by simp at hov; omega
              clear hov
              have hlen5 : ∀ L5 : List Int, L3 ++ pz = L5 → (L5.length : Int) = L3.length + pz.length := fun L5 h => by rw [← h]; simp
              have HLEN := Lib.hid hlen5
              clear hlen5
              go_wp2_with (first | ((with_reducible refine wpl_loadE rfl 41 (.tmp 20) rfl b (off + k * 5) ?_ (row x (.slice pd x.data.length nd)).toArray _ HRA.out Try.underlying41 rfl (by kernel_rfl) ?_); rfl; clear HRA) | ((with_reducible refine wpl_allocAt rfl 41 rfl zeroRow (by kernel_rfl) ?_); go_must (intro w1 hatw1 hbw1 hsw1; have HSw1 := Lib.hid hsw1; clear hsw1)) | ((with_reducible refine wpl_storeR rfl 41 (.tmp 6) (.tmp 21) rfl rfl wr.heap.size 41 zeroRow (row x (.slice pd x.data.length nd)).toArray ?_ ?_ hatw1 (by kernel_rfl) ?_ ?_ ?_); rfl; rfl; rfl; simp [row, Value.oneCell']; go_must (intro w2 hatw2 hgw2; have hbw2 := hbw1.grown hgw2 hbw1.size (fun q e => by cases e; exact Nat.le_refl _); have c0 := hatw2.cell 0; have c1 := hatw2.cell 1; have c2 := hatw2.cell 2; have c3 := hatw2.cell 3; have c4 := hatw2.cell 4; simp [row] at c0 c1 c2 c3 c4; rw [HBM.out] at c2; rw [HBP.out] at c3; have hr2 := hown.reads.below hbw2; have hrd2 := hrd.below hbw2; have t1 : True := trivial; clear hatw1 hgw2 hbw1)) | (go_at_call 23; have _t := t1; clear _t; go_must (refine (PU.out _ out x.code _ (by omega) hr2 (by omega)).mono ?_; rintro e w3 ⟨v3, rfl, ho3, hb3⟩; rw [HL1.out] at ho3; have hu3 := hb3; have hat3 := hatw2.ext hu3; clear c0 c1 c2 c3 c4; have c0 := hat3.cell 0; have c1 := hat3.cell 1; have c2 := hat3.cell 2; have c3 := hat3.cell 3; have c4 := hat3.cell 4; simp [row] at c0 c1 c2 c3 c4; rw [HBM.out] at c2; rw [HBP.out] at c3; have ho3a := ho3.alloc (.cells #[.int .u8 32] 5); clear hr2 t1 hb3)) | (at_builtin; have _t := ho3a; clear _t; go_must (obtain ⟨i0, hi, hz0, hz1, hz2⟩ := info_parts info5; refine wpl_append rfl (.tmp 50) (.tmp 53) 23 rfl .u8 w2.heap.size 5 1 i0 (.int .u8 0) Try.underlying23 hi hz0 hz1 hz2 rfl v3 _ L1 [(32 : Int)] rfl rfl ho3a (Reads.one .u8 w3 _ _) K1 K2 (by have := hu3.size; simp; omega) ?_; clear hi hz0 hz1 hz2; intro v4 w4 hv4 hg4; rw [HL2.out] at hv4; have hua := hu3.alloc hu3.size (.cells #[.int .u8 32] 5); have hu4 := hua.grown hg4 hua.size (fun q e => (ho3.lt q e).1); have hat4 := hatw2.ext hu4; clear c0 c1 c2 c3 c4 hat3; have c0 := hat4.cell 0; have c1 := hat4.cell 1; have c2 := hat4.cell 2; have c3 := hat4.cell 3; have c4 := hat4.cell 4; simp [row] at c0 c1 c2 c3 c4; rw [HBM.out] at c2; rw [HBP.out] at c3; have hr4 := hv4.reads; have hs4 := hu4.size; clear ho3 ho3a hu3 hua hg4)) | (go_at_call 23; have _t := hr4; clear _t; go_must (refine (PU3.out _ L2 (8 + (x.data.length : Int)) _ (by omega) hr4 (by omega)).mono ?_; rintro e w5 ⟨v5, rfl, ho5, hb5⟩; rw [HL3.out] at ho5; have hu5 := hu4.trans (hb5.mono hs4); have hat5 := hatw2.ext hu5; clear c0 c1 c2 c3 c4 hat4; have c0 := hat5.cell 0; have c1 := hat5.cell 1; have c2 := hat5.cell 2; have c3 := hat5.cell 3; have c4 := hat5.cell 4; simp [row] at c0 c1 c2 c3 c4; rw [HBM.out] at c2; rw [HBP.out] at c3; have hr5 := ho5.reads; have ho5' := ho5.mono hs4; have hs5 := hu5.size; have hrd5 := hrd2.below hu5; clear hr4 hb5 hv4 hu4 ho5 hs4)) | (go_at_call 24; go_must (refine (PDD.out _ _ hrd5).mono ?_; rintro e w10 ⟨v10, rfl, ho10, hb10⟩; rw [HPZ.out] at ho10; have hob := ho5'.below hb10; have hr10 := ho10.reads; have hu10 := hu5.trans (hb10.mono hu5.size); clear hrd5 ho5' ho10 hb10 hu5 c0 c1 c2 c3 c4)) | (at_builtin; have _t := hr10; clear _t; go_must (obtain ⟨i0, hi, hz0, hz1, hz2⟩ := info_parts info5; refine wpl_append rfl (.tmp 67) (.tmp 70) 23 rfl .u8 w2.heap.size 5 1 i0 (.int .u8 0) Try.underlying23 hi hz0 hz1 hz2 rfl v5 v10 L3 pz rfl rfl hob hr10 K3 K4 hu10.size ?_; clear hi hz0 hz1 hz2; intro v11 w11 hv11 hg11; obtain ⟨L5, hL5⟩ : ∃ L5, L3 ++ pz = L5 := ⟨_, rfl⟩; rw [hL5] at hv11; have HL5 := Lib.hid hL5; have hl5 := HLEN.out L5 hL5; have hl5' : (4096 : Int) < L5.length := (by omega); clear hL5 hl5; obtain ⟨p11, c11, rfl, _, _, _, _⟩ := id hv11.reads; have hu11 := hu10.grown hg11 hu10.size (fun q e => (hob.lt q e).1); clear hob hr10 hg11 hu10)))
              go_ret2
              rw [HR4.out]
              exact ⟨_, rfl, World.ownsRow_nil _ _ _ _, hbl.trans ((hbw2.trans (hu11.mono hbw2.size)).mono hbl.size)⟩
            · have hno : True := trivial
              have hov2 : 4096 ≥ ((L3.length : Int) + pz.length) := by simp at hov; omega
              clear hov
              have hlen5 : ∀ L5 : List Int, L3 ++ pz = L5 → (L5.length : Int) = L3.length + pz.length := fun L5 h => by rw [← h]; simp
              have HLEN := Lib.hid hlen5
              clear hlen5
              go_wp2_with (first | ((with_reducible refine wpl_loadE rfl 41 (.tmp 20) rfl b (off + k * 5) ?_ (row x (.slice pd x.data.length nd)).toArray _ HRA.out Try.underlying41 rfl (by kernel_rfl) ?_); rfl; clear HRA) | ((with_reducible refine wpl_allocAt rfl 41 rfl zeroRow (by kernel_rfl) ?_); go_must (intro w1 hatw1 hbw1 hsw1; have HSw1 := Lib.hid hsw1; clear hsw1)) | ((with_reducible refine wpl_storeR rfl 41 (.tmp 6) (.tmp 21) rfl rfl wr.heap.size 41 zeroRow (row x (.slice pd x.data.length nd)).toArray ?_ ?_ hatw1 (by kernel_rfl) ?_ ?_ ?_); rfl; rfl; rfl; simp [row, Value.oneCell']; go_must (intro w2 hatw2 hgw2; have hbw2 := hbw1.grown hgw2 hbw1.size (fun q e => by cases e; exact Nat.le_refl _); have c0 := hatw2.cell 0; have c1 := hatw2.cell 1; have c2 := hatw2.cell 2; have c3 := hatw2.cell 3; have c4 := hatw2.cell 4; simp [row] at c0 c1 c2 c3 c4; rw [HBM.out] at c2; rw [HBP.out] at c3; have hr2 := hown.reads.below hbw2; have hrd2 := hrd.below hbw2; have t1 : True := trivial; clear hatw1 hgw2 hbw1)) | (go_at_call 23; have _t := t1; clear _t; go_must (refine (PU.out _ out x.code _ (by omega) hr2 (by omega)).mono ?_; rintro e w3 ⟨v3, rfl, ho3, hb3⟩; rw [HL1.out] at ho3; have hu3 := hb3; have hat3 := hatw2.ext hu3; clear c0 c1 c2 c3 c4; have c0 := hat3.cell 0; have c1 := hat3.cell 1; have c2 := hat3.cell 2; have c3 := hat3.cell 3; have c4 := hat3.cell 4; simp [row] at c0 c1 c2 c3 c4; rw [HBM.out] at c2; rw [HBP.out] at c3; have ho3a := ho3.alloc (.cells #[.int .u8 32] 5); clear hr2 t1 hb3)) | (at_builtin; have _t := ho3a; clear _t; go_must (obtain ⟨i0, hi, hz0, hz1, hz2⟩ := info_parts info5; refine wpl_append rfl (.tmp 50) (.tmp 53) 23 rfl .u8 w2.heap.size 5 1 i0 (.int .u8 0) Try.underlying23 hi hz0 hz1 hz2 rfl v3 _ L1 [(32 : Int)] rfl rfl ho3a (Reads.one .u8 w3 _ _) K1 K2 (by have := hu3.size; simp; omega) ?_; clear hi hz0 hz1 hz2; intro v4 w4 hv4 hg4; rw [HL2.out] at hv4; have hua := hu3.alloc hu3.size (.cells #[.int .u8 32] 5); have hu4 := hua.grown hg4 hua.size (fun q e => (ho3.lt q e).1); have hat4 := hatw2.ext hu4; clear c0 c1 c2 c3 c4 hat3; have c0 := hat4.cell 0; have c1 := hat4.cell 1; have c2 := hat4.cell 2; have c3 := hat4.cell 3; have c4 := hat4.cell 4; simp [row] at c0 c1 c2 c3 c4; rw [HBM.out] at c2; rw [HBP.out] at c3; have hr4 := hv4.reads; have hs4 := hu4.size; clear ho3 ho3a hu3 hua hg4)) | (go_at_call 23; have _t := hr4; clear _t; go_must (refine (PU3.out _ L2 (8 + (x.data.length : Int)) _ (by omega) hr4 (by omega)).mono ?_; rintro e w5 ⟨v5, rfl, ho5, hb5⟩; rw [HL3.out] at ho5; have hu5 := hu4.trans (hb5.mono hs4); have hat5 := hatw2.ext hu5; clear c0 c1 c2 c3 c4 hat4; have c0 := hat5.cell 0; have c1 := hat5.cell 1; have c2 := hat5.cell 2; have c3 := hat5.cell 3; have c4 := hat5.cell 4; simp [row] at c0 c1 c2 c3 c4; rw [HBM.out] at c2; rw [HBP.out] at c3; have hr5 := ho5.reads; have ho5' := ho5.mono hs4; have hs5 := hu5.size; have hrd5 := hrd2.below hu5; clear hr4 hb5 hv4 hu4 ho5 hs4)) | (go_at_call 24; go_must (refine (PDD.out _ _ hrd5).mono ?_; rintro e w10 ⟨v10, rfl, ho10, hb10⟩; rw [HPZ.out] at ho10; have hob := ho5'.below hb10; have hr10 := ho10.reads; have hu10 := hu5.trans (hb10.mono hu5.size); clear hrd5 ho5' ho10 hb10 hu5 c0 c1 c2 c3 c4)) | (at_builtin; have _t := hr10; clear _t; go_must (obtain ⟨i0, hi, hz0, hz1, hz2⟩ := info_parts info5; refine wpl_append rfl (.tmp 67) (.tmp 70) 23 rfl .u8 w2.heap.size 5 1 i0 (.int .u8 0) Try.underlying23 hi hz0 hz1 hz2 rfl v5 v10 L3 pz rfl rfl hob hr10 K3 K4 hu10.size ?_; clear hi hz0 hz1 hz2; intro v11 w11 hv11 hg11; obtain ⟨L5, hL5⟩ : ∃ L5, L3 ++ pz = L5 := ⟨_, rfl⟩; rw [hL5] at hv11; have HL5 := Lib.hid hL5; have hl5 := HLEN.out L5 hL5; have hl5' : (L5.length : Int) ≤ 4096 := (by omega); clear hL5 hl5; obtain ⟨p11, c11, rfl, _, _, _, _⟩ := id hv11.reads; have hu11 := hu10.grown hg11 hu10.size (fun q e => (hob.lt q e).1); clear hob hr10 hg11 hu10)))
              go_roundw
              case rel => exact ⟨k + 1, L5, by go_num, by omega, by omega, hv11.mono (by have := hbw2.size; omega), hbl.trans ((hbw2.trans (hu11.mono hbw2.size)).mono hbl.size), Lib.hid (HL5.out.symm.trans HENC.out)⟩
              case measure => simp [intOf]; omega
          · obtain ⟨L2, hL2⟩ : ∃ L2, L1 ++ [(64 : Int)] = L2 := ⟨_, rfl⟩
            have hl2 : (L2.length : Int) ≤ 4110 := by rw [← hL2]; simp; omega
            have HL2 := Lib.hid hL2
            obtain ⟨L3, hL3⟩ : ∃ L3, putted L2 (8 + (x.data.length : Int)) 3 = L3 := ⟨_, rfl⟩
            have hl3 : (L3.length : Int) ≤ 4120 := by rw [← hL3, putted3_len]; omega
            have HL3 := Lib.hid hL3
            clear hL2 hL3
            have K1 : L1.length + 1 ≤ maxLen := by simp [maxLen]; omega
            have K2 : (L1.length + 1) * 1 ≤ 140737488355328 := by omega
            have K3 : L3.length + pz.length ≤ maxLen := by simp [maxLen]; omega
            have K4 : (L3.length + pz.length) * 1 ≤ 140737488355328 := by omega
            have henc : L3 ++ pz = encAll 0 0 (al.take (k + 1)) := by
              rw [enc_step HX.out, ← HO.out, ← HPZ.out, ← HL3.out, ← HL2.out, ← HL1.out]
              unfold encG paddedOf flagN
              rw [HBV.out, HBM.out, HBP.out, putted4, putted3]
              simp [headN]
            have hft : ((L3 ++ pz).length : Int) = tot al (k + 1) := by rw [henc]; rfl
            have HENC := Lib.hid henc
            have HFT := Lib.hid hft
            clear henc hft
            by_cases hov : 4096 < (L3 ++ pz).length
            · have hRR : R = ([], 4) := by
                rw [← HRR.out]
                unfold putOf
                rw [if_pos (.inr (by have := HTL.out; have := HFT.out; omega))]
              have HR4 := Lib.hid hRR
              clear hRR
              have hov2 : 4096 < ((L3.length : Int) + pz.length) := by simp at hov; omega
              clear hov
              have hlen5 : ∀ L5 : List Int, L3 ++ pz = L5 → (L5.length : Int) = L3.length + pz.length := fun L5 h => by rw [← h]; simp
              have HLEN := Lib.hid hlen5
              clear hlen5
              go_wp2_with (first | ((with_reducible refine wpl_loadE rfl 41 (.tmp 20) rfl b (off + k * 5) ?_ (row x (.slice pd x.data.length nd)).toArray _ HRA.out Try.underlying41 rfl (by kernel_rfl) ?_); rfl; clear HRA) | ((with_reducible refine wpl_allocAt rfl 41 rfl zeroRow (by kernel_rfl) ?_); go_must (intro w1 hatw1 hbw1 hsw1; have HSw1 := Lib.hid hsw1; clear hsw1)) | ((with_reducible refine wpl_storeR rfl 41 (.tmp 6) (.tmp 21) rfl rfl wr.heap.size 41 zeroRow (row x (.slice pd x.data.length nd)).toArray ?_ ?_ hatw1 (by kernel_rfl) ?_ ?_ ?_); rfl; rfl; rfl; simp [row, Value.oneCell']; go_must (intro w2 hatw2 hgw2; have hbw2 := hbw1.grown hgw2 hbw1.size (fun q e => by cases e; exact Nat.le_refl _); have c0 := hatw2.cell 0; have c1 := hatw2.cell 1; have c2 := hatw2.cell 2; have c3 := hatw2.cell 3; have c4 := hatw2.cell 4; simp [row] at c0 c1 c2 c3 c4; rw [HBM.out] at c2; rw [HBP.out] at c3; have hr2 := hown.reads.below hbw2; have hrd2 := hrd.below hbw2; have t1 : True := trivial; clear hatw1 hgw2 hbw1)) | (go_at_call 23; have _t := t1; clear _t; go_must (refine (PU.out _ out x.code _ (by omega) hr2 (by omega)).mono ?_; rintro e w3 ⟨v3, rfl, ho3, hb3⟩; rw [HL1.out] at ho3; have hu3 := hb3; have hat3 := hatw2.ext hu3; clear c0 c1 c2 c3 c4; have c0 := hat3.cell 0; have c1 := hat3.cell 1; have c2 := hat3.cell 2; have c3 := hat3.cell 3; have c4 := hat3.cell 4; simp [row] at c0 c1 c2 c3 c4; rw [HBM.out] at c2; rw [HBP.out] at c3; have ho3a := ho3.alloc (.cells #[.int .u8 64] 5); clear hr2 t1 hb3)) | (at_builtin; have _t := ho3a; clear _t; go_must (obtain ⟨i0, hi, hz0, hz1, hz2⟩ := info_parts info5; refine wpl_append rfl (.tmp 50) (.tmp 53) 23 rfl .u8 w2.heap.size 5 1 i0 (.int .u8 0) Try.underlying23 hi hz0 hz1 hz2 rfl v3 _ L1 [(64 : Int)] rfl rfl ho3a (Reads.one .u8 w3 _ _) K1 K2 (by have := hu3.size; simp; omega) ?_; clear hi hz0 hz1 hz2; intro v4 w4 hv4 hg4; rw [HL2.out] at hv4; have hua := hu3.alloc hu3.size (.cells #[.int .u8 64] 5); have hu4 := hua.grown hg4 hua.size (fun q e => (ho3.lt q e).1); have hat4 := hatw2.ext hu4; clear c0 c1 c2 c3 c4 hat3; have c0 := hat4.cell 0; have c1 := hat4.cell 1; have c2 := hat4.cell 2; have c3 := hat4.cell 3; have c4 := hat4.cell 4; simp [row] at c0 c1 c2 c3 c4; rw [HBM.out] at c2; rw [HBP.out] at c3; have hr4 := hv4.reads; have hs4 := hu4.size; clear ho3 ho3a hu3 hua hg4)) | (go_at_call 23; have _t := hr4; clear _t; go_must (refine (PU3.out _ L2 (8 + (x.data.length : Int)) _ (by omega) hr4 (by omega)).mono ?_; rintro e w5 ⟨v5, rfl, ho5, hb5⟩; rw [HL3.out] at ho5; have hu5 := hu4.trans (hb5.mono hs4); have hat5 := hatw2.ext hu5; clear c0 c1 c2 c3 c4 hat4; have c0 := hat5.cell 0; have c1 := hat5.cell 1; have c2 := hat5.cell 2; have c3 := hat5.cell 3; have c4 := hat5.cell 4; simp [row] at c0 c1 c2 c3 c4; rw [HBM.out] at c2; rw [HBP.out] at c3; have hr5 := ho5.reads; have ho5' := ho5.mono hs4; have hs5 := hu5.size; have hrd5 := hrd2.below hu5; clear hr4 hb5 hv4 hu4 ho5 hs4)) | (go_at_call 24; go_must (refine (PDD.out _ _ hrd5).mono ?_; rintro e w10 ⟨v10, rfl, ho10, hb10⟩; rw [HPZ.out] at ho10; have hob := ho5'.below hb10; have hr10 := ho10.reads; have hu10 := hu5.trans (hb10.mono hu5.size); clear hrd5 ho5' ho10 hb10 hu5 c0 c1 c2 c3 c4)) | (at_builtin; have _t := hr10; clear _t; go_must (obtain ⟨i0, hi, hz0, hz1, hz2⟩ := info_parts info5; refine wpl_append rfl (.tmp 67) (.tmp 70) 23 rfl .u8 w2.heap.size 5 1 i0 (.int .u8 0) Try.underlying23 hi hz0 hz1 hz2 rfl v5 v10 L3 pz rfl rfl hob hr10 K3 K4 hu10.size ?_; clear hi hz0 hz1 hz2; intro v11 w11 hv11 hg11; obtain ⟨L5, hL5⟩ : ∃ L5, L3 ++ pz = L5 := ⟨_, rfl⟩; rw [hL5] at hv11; have HL5 := Lib.hid hL5; have hl5 := HLEN.out L5 hL5; have hl5' : (4096 : Int) < L5.length := (by omega); clear hL5 hl5; obtain ⟨p11, c11, rfl, _, _, _, _⟩ := id hv11.reads; have hu11 := hu10.grown hg11 hu10.size (fun q e => (hob.lt q e).1); clear hob hr10 hg11 hu10)))
              go_ret2
              rw [HR4.out]
              exact ⟨_, rfl, World.ownsRow_nil _ _ _ _, hbl.trans ((hbw2.trans (hu11.mono hbw2.size)).mono hbl.size)⟩
            · have hno : True := trivial
              have hov2 : 4096 ≥ ((L3.length : Int) + pz.length) := by simp at hov; omega
              clear hov
              have hlen5 : ∀ L5 : List Int, L3 ++ pz = L5 → (L5.length : Int) = L3.length + pz.length := fun L5 h => by rw [← h]; simp
              have HLEN := Lib.hid hlen5
              clear hlen5
              go_wp2_with (first | ((with_reducible refine wpl_loadE rfl 41 (.tmp 20) rfl b (off + k * 5) ?_ (row x (.slice pd x.data.length nd)).toArray _ HRA.out Try.underlying41 rfl (by kernel_rfl) ?_); rfl; clear HRA) | ((with_reducible refine wpl_allocAt rfl 41 rfl zeroRow (by kernel_rfl) ?_); go_must (intro w1 hatw1 hbw1 hsw1; have HSw1 := Lib.hid hsw1; clear hsw1)) | ((with_reducible refine wpl_storeR rfl 41 (.tmp 6) (.tmp 21) rfl rfl wr.heap.size 41 zeroRow (row x (.slice pd x.data.length nd)).toArray ?_ ?_ hatw1 (by kernel_rfl) ?_ ?_ ?_); rfl; rfl; rfl; simp [row, Value.oneCell']; go_must (intro w2 hatw2 hgw2; have hbw2 := hbw1.grown hgw2 hbw1.size (fun q e => by cases e; exact Nat.le_refl _); have c0 := hatw2.cell 0; have c1 := hatw2.cell 1; have c2 := hatw2.cell 2; have c3 := hatw2.cell 3; have c4 := hatw2.cell 4; simp [row] at c0 c1 c2 c3 c4; rw [HBM.out] at c2; rw [HBP.out] at c3; have hr2 := hown.reads.below hbw2; have hrd2 := hrd.below hbw2; have t1 : True := trivial; clear hatw1 hgw2 hbw1)) | (go_at_call 23; have _t := t1; clear _t; go_must (refine (PU.out _ out x.code _ (by omega) hr2 (by omega)).mono ?_; rintro e w3 ⟨v3, rfl, ho3, hb3⟩; rw [HL1.out] at ho3; have hu3 := hb3; have hat3 := hatw2.ext hu3; clear c0 c1 c2 c3 c4; have c0 := hat3.cell 0; have c1 := hat3.cell 1; have c2 := hat3.cell 2; have c3 := hat3.cell 3; have c4 := hat3.cell 4; simp [row] at c0 c1 c2 c3 c4; rw [HBM.out] at c2; rw [HBP.out] at c3; have ho3a := ho3.alloc (.cells #[.int .u8 64] 5); clear hr2 t1 hb3)) | (at_builtin; have _t := ho3a; clear _t; go_must (obtain ⟨i0, hi, hz0, hz1, hz2⟩ := info_parts info5; refine wpl_append rfl (.tmp 50) (.tmp 53) 23 rfl .u8 w2.heap.size 5 1 i0 (.int .u8 0) Try.underlying23 hi hz0 hz1 hz2 rfl v3 _ L1 [(64 : Int)] rfl rfl ho3a (Reads.one .u8 w3 _ _) K1 K2 (by have := hu3.size; simp; omega) ?_; clear hi hz0 hz1 hz2; intro v4 w4 hv4 hg4; rw [HL2.out] at hv4; have hua := hu3.alloc hu3.size (.cells #[.int .u8 64] 5); have hu4 := hua.grown hg4 hua.size (fun q e => (ho3.lt q e).1); have hat4 := hatw2.ext hu4; clear c0 c1 c2 c3 c4 hat3; have c0 := hat4.cell 0; have c1 := hat4.cell 1; have c2 := hat4.cell 2; have c3 := hat4.cell 3; have c4 := hat4.cell 4; simp [row] at c0 c1 c2 c3 c4; rw [HBM.out] at c2; rw [HBP.out] at c3; have hr4 := hv4.reads; have hs4 := hu4.size; clear ho3 ho3a hu3 hua hg4)) | (go_at_call 23; have _t := hr4; clear _t; go_must (refine (PU3.out _ L2 (8 + (x.data.length : Int)) _ (by omega) hr4 (by omega)).mono ?_; rintro e w5 ⟨v5, rfl, ho5, hb5⟩; rw [HL3.out] at ho5; have hu5 := hu4.trans (hb5.mono hs4); have hat5 := hatw2.ext hu5; clear c0 c1 c2 c3 c4 hat4; have c0 := hat5.cell 0; have c1 := hat5.cell 1; have c2 := hat5.cell 2; have c3 := hat5.cell 3; have c4 := hat5.cell 4; simp [row] at c0 c1 c2 c3 c4; rw [HBM.out] at c2; rw [HBP.out] at c3; have hr5 := ho5.reads; have ho5' := ho5.mono hs4; have hs5 := hu5.size; have hrd5 := hrd2.below hu5; clear hr4 hb5 hv4 hu4 ho5 hs4)) | (go_at_call 24; go_must (refine (PDD.out _ _ hrd5).mono ?_; rintro e w10 ⟨v10, rfl, ho10, hb10⟩; rw [HPZ.out] at ho10; have hob := ho5'.below hb10; have hr10 := ho10.reads; have hu10 := hu5.trans (hb10.mono hu5.size); clear hrd5 ho5' ho10 hb10 hu5 c0 c1 c2 c3 c4)) | (at_builtin; have _t := hr10; clear _t; go_must (obtain ⟨i0, hi, hz0, hz1, hz2⟩ := info_parts info5; refine wpl_append rfl (.tmp 67) (.tmp 70) 23 rfl .u8 w2.heap.size 5 1 i0 (.int .u8 0) Try.underlying23 hi hz0 hz1 hz2 rfl v5 v10 L3 pz rfl rfl hob hr10 K3 K4 hu10.size ?_; clear hi hz0 hz1 hz2; intro v11 w11 hv11 hg11; obtain ⟨L5, hL5⟩ : ∃ L5, L3 ++ pz = L5 := ⟨_, rfl⟩; rw [hL5] at hv11; have HL5 := Lib.hid hL5; have hl5 := HLEN.out L5 hL5; have hl5' : (L5.length : Int) ≤ 4096 := (by omega); clear hL5 hl5; obtain ⟨p11, c11, rfl, _, _, _, _⟩ := id hv11.reads; have hu11 := hu10.grown hg11 hu10.size (fun q e => (hob.lt q e).1); clear hob hr10 hg11 hu10)))
              go_roundw
              case rel => exact ⟨k + 1, L5, by go_num, by omega, by omega, hv11.mono (by have := hbw2.size; omega), hbl.trans ((hbw2.trans (hu11.mono hbw2.size)).mono hbl.size), Lib.hid (HL5.out.symm.trans HENC.out)⟩
              case measure => simp [intOf]; omega
          · obtain ⟨L2, hL2⟩ : ∃ L2, L1 ++ [(96 : Int)] = L2 := ⟨_, rfl⟩
            have hl2 : (L2.length : Int) ≤ 4110 := by rw [← hL2]; simp; omega
            have HL2 := Lib.hid hL2
            obtain ⟨L3, hL3⟩ : ∃ L3, putted L2 (8 + (x.data.length : Int)) 3 = L3 := ⟨_, rfl⟩
            have hl3 : (L3.length : Int) ≤ 4120 := by rw [← hL3, putted3_len]; omega
            have HL3 := Lib.hid hL3
            clear hL2 hL3
            have K1 : L1.length + 1 ≤ maxLen := by simp [maxLen]; omega
            have K2 : (L1.length + 1) * 1 ≤ 140737488355328 := by omega
            have K3 : L3.length + pz.length ≤ maxLen := by simp [maxLen]; omega
            have K4 : (L3.length + pz.length) * 1 ≤ 140737488355328 := by omega
            have henc : L3 ++ pz = encAll 0 0 (al.take (k + 1)) := by
              rw [enc_step HX.out, ← HO.out, ← HPZ.out, ← HL3.out, ← HL2.out, ← HL1.out]
              unfold encG paddedOf flagN
              rw [HBV.out, HBM.out, HBP.out, putted4, putted3]
              simp [headN]
            have hft : ((L3 ++ pz).length : Int) = tot al (k + 1) := by rw [henc]; rfl
            have HENC := Lib.hid henc
            have HFT := Lib.hid hft
            clear henc hft
            by_cases hov : 4096 < (L3 ++ pz).length
            · have hRR : R = ([], 4) := by
                rw [← HRR.out]
                unfold putOf
                rw [if_pos (.inr (by have := HTL.out; have := HFT.out; omega))]
              have HR4 := Lib.hid hRR
              clear hRR
              have hov2 : 4096 < ((L3.length : Int) + pz.length) := by simp at hov; omega
              clear hov
              have hlen5 : ∀ L5 : List Int, L3 ++ pz = L5 → (L5.length : Int) = L3.length + pz.length := fun L5 h => by rw [← h]; simp
              have HLEN := Lib.hid hlen5
              clear hlen5
              go_wp2_with (first | ((with_reducible refine wpl_loadE rfl 41 (.tmp 20) rfl b (off + k * 5) ?_ (row x (.slice pd x.data.length nd)).toArray _ HRA.out Try.underlying41 rfl (by kernel_rfl) ?_); rfl; clear HRA) | ((with_reducible refine wpl_allocAt rfl 41 rfl zeroRow (by kernel_rfl) ?_); go_must (intro w1 hatw1 hbw1 hsw1; have HSw1 := Lib.hid hsw1; clear hsw1)) | ((with_reducible refine wpl_storeR rfl 41 (.tmp 6) (.tmp 21) rfl rfl wr.heap.size 41 zeroRow (row x (.slice pd x.data.length nd)).toArray ?_ ?_ hatw1 (by kernel_rfl) ?_ ?_ ?_); rfl; rfl; rfl; simp [row, Value.oneCell']; go_must (intro w2 hatw2 hgw2; have hbw2 := hbw1.grown hgw2 hbw1.size (fun q e => by cases e; exact Nat.le_refl _); have c0 := hatw2.cell 0; have c1 := hatw2.cell 1; have c2 := hatw2.cell 2; have c3 := hatw2.cell 3; have c4 := hatw2.cell 4; simp [row] at c0 c1 c2 c3 c4; rw [HBM.out] at c2; rw [HBP.out] at c3; have hr2 := hown.reads.below hbw2; have hrd2 := hrd.below hbw2; have t1 : True := trivial; clear hatw1 hgw2 hbw1)) | (go_at_call 23; have _t := t1; clear _t; go_must (refine (PU.out _ out x.code _ (by omega) hr2 (by omega)).mono ?_; rintro e w3 ⟨v3, rfl, ho3, hb3⟩; rw [HL1.out] at ho3; have hu3 := hb3; have hat3 := hatw2.ext hu3; clear c0 c1 c2 c3 c4; have c0 := hat3.cell 0; have c1 := hat3.cell 1; have c2 := hat3.cell 2; have c3 := hat3.cell 3; have c4 := hat3.cell 4; simp [row] at c0 c1 c2 c3 c4; rw [HBM.out] at c2; rw [HBP.out] at c3; have ho3a := ho3.alloc (.cells #[.int .u8 96] 5); clear hr2 t1 hb3)) | (at_builtin; have _t := ho3a; clear _t; go_must (obtain ⟨i0, hi, hz0, hz1, hz2⟩ := info_parts info5; refine wpl_append rfl (.tmp 50) (.tmp 53) 23 rfl .u8 w2.heap.size 5 1 i0 (.int .u8 0) Try.underlying23 hi hz0 hz1 hz2 rfl v3 _ L1 [(96 : Int)] rfl rfl ho3a (Reads.one .u8 w3 _ _) K1 K2 (by have := hu3.size; simp; omega) ?_; clear hi hz0 hz1 hz2; intro v4 w4 hv4 hg4; rw [HL2.out] at hv4; have hua := hu3.alloc hu3.size (.cells #[.int .u8 96] 5); have hu4 := hua.grown hg4 hua.size (fun q e => (ho3.lt q e).1); have hat4 := hatw2.ext hu4; clear c0 c1 c2 c3 c4 hat3; have c0 := hat4.cell 0; have c1 := hat4.cell 1; have c2 := hat4.cell 2; have c3 := hat4.cell 3; have c4 := hat4.cell 4; simp [row] at c0 c1 c2 c3 c4; rw [HBM.out] at c2; rw [HBP.out] at c3; have hr4 := hv4.reads; have hs4 := hu4.size; clear ho3 ho3a hu3 hua hg4)) | (go_at_call 23; have _t := hr4; clear _t; go_must (refine (PU3.out _ L2 (8 + (x.data.length : Int)) _ (by omega) hr4 (by omega)).mono ?_; rintro e w5 ⟨v5, rfl, ho5, hb5⟩; rw [HL3.out] at ho5; have hu5 := hu4.trans (hb5.mono hs4); have hat5 := hatw2.ext hu5; clear c0 c1 c2 c3 c4 hat4; have c0 := hat5.cell 0; have c1 := hat5.cell 1; have c2 := hat5.cell 2; have c3 := hat5.cell 3; have c4 := hat5.cell 4; simp [row] at c0 c1 c2 c3 c4; rw [HBM.out] at c2; rw [HBP.out] at c3; have hr5 := ho5.reads; have ho5' := ho5.mono hs4; have hs5 := hu5.size; have hrd5 := hrd2.below hu5; clear hr4 hb5 hv4 hu4 ho5 hs4)) | (go_at_call 24; go_must (refine (PDD.out _ _ hrd5).mono ?_; rintro e w10 ⟨v10, rfl, ho10, hb10⟩; rw [HPZ.out] at ho10; have hob := ho5'.below hb10; have hr10 := ho10.reads; have hu10 := hu5.trans (hb10.mono hu5.size); clear hrd5 ho5' ho10 hb10 hu5 c0 c1 c2 c3 c4)) | (at_builtin; have _t := hr10; clear _t; go_must (obtain ⟨i0, hi, hz0, hz1, hz2⟩ := info_parts info5; refine wpl_append rfl (.tmp 67) (.tmp 70) 23 rfl .u8 w2.heap.size 5 1 i0 (.int .u8 0) Try.underlying23 hi hz0 hz1 hz2 rfl v5 v10 L3 pz rfl rfl hob hr10 K3 K4 hu10.size ?_; clear hi hz0 hz1 hz2; intro v11 w11 hv11 hg11; obtain ⟨L5, hL5⟩ : ∃ L5, L3 ++ pz = L5 := ⟨_, rfl⟩; rw [hL5] at hv11; have HL5 := Lib.hid hL5; have hl5 := HLEN.out L5 hL5; have hl5' : (4096 : Int) < L5.length := (by omega); clear hL5 hl5; obtain ⟨p11, c11, rfl, _, _, _, _⟩ := id hv11.reads; have hu11 := hu10.grown hg11 hu10.size (fun q e => (hob.lt q e).1); clear hob hr10 hg11 hu10)))
              go_ret2
              rw [HR4.out]
              exact ⟨_, rfl, World.ownsRow_nil _ _ _ _, hbl.trans ((hbw2.trans (hu11.mono hbw2.size)).mono hbl.size)⟩
            · have hno : True := trivial
              have hov2 : 4096 ≥ ((L3.length : Int) + pz.length) := by simp at hov; omega
              clear hov
              have hlen5 : ∀ L5 : List Int, L3 ++ pz = L5 → (L5.length : Int) = L3.length + pz.length := fun L5 h => by rw [← h]; simp
              have HLEN := Lib.hid hlen5
              clear hlen5
              go_wp2_with (first | ((with_reducible refine wpl_loadE rfl 41 (.tmp 20) rfl b (off + k * 5) ?_ (row x (.slice pd x.data.length nd)).toArray _ HRA.out Try.underlying41 rfl (by kernel_rfl) ?_); rfl; clear HRA) | ((with_reducible refine wpl_allocAt rfl 41 rfl zeroRow (by kernel_rfl) ?_); go_must (intro w1 hatw1 hbw1 hsw1; have HSw1 := Lib.hid hsw1; clear hsw1)) | ((with_reducible refine wpl_storeR rfl 41 (.tmp 6) (.tmp 21) rfl rfl wr.heap.size 41 zeroRow (row x (.slice pd x.data.length nd)).toArray ?_ ?_ hatw1 (by kernel_rfl) ?_ ?_ ?_); rfl; rfl; rfl; simp [row, Value.oneCell']; go_must (intro w2 hatw2 hgw2; have hbw2 := hbw1.grown hgw2 hbw1.size (fun q e => by cases e; exact Nat.le_refl _); have c0 := hatw2.cell 0; have c1 := hatw2.cell 1; have c2 := hatw2.cell 2; have c3 := hatw2.cell 3; have c4 := hatw2.cell 4; simp [row] at c0 c1 c2 c3 c4; rw [HBM.out] at c2; rw [HBP.out] at c3; have hr2 := hown.reads.below hbw2; have hrd2 := hrd.below hbw2; have t1 : True := trivial; clear hatw1 hgw2 hbw1)) | (go_at_call 23; have _t := t1; clear _t; go_must (refine (PU.out _ out x.code _ (by omega) hr2 (by omega)).mono ?_; rintro e w3 ⟨v3, rfl, ho3, hb3⟩; rw [HL1.out] at ho3; have hu3 := hb3; have hat3 := hatw2.ext hu3; clear c0 c1 c2 c3 c4; have c0 := hat3.cell 0; have c1 := hat3.cell 1; have c2 := hat3.cell 2; have c3 := hat3.cell 3; have c4 := hat3.cell 4; simp [row] at c0 c1 c2 c3 c4; rw [HBM.out] at c2; rw [HBP.out] at c3; have ho3a := ho3.alloc (.cells #[.int .u8 96] 5); clear hr2 t1 hb3)) | (at_builtin; have _t := ho3a; clear _t; go_must (obtain ⟨i0, hi, hz0, hz1, hz2⟩ := info_parts info5; refine wpl_append rfl (.tmp 50) (.tmp 53) 23 rfl .u8 w2.heap.size 5 1 i0 (.int .u8 0) Try.underlying23 hi hz0 hz1 hz2 rfl v3 _ L1 [(96 : Int)] rfl rfl ho3a (Reads.one .u8 w3 _ _) K1 K2 (by have := hu3.size; simp; omega) ?_; clear hi hz0 hz1 hz2; intro v4 w4 hv4 hg4; rw [HL2.out] at hv4; have hua := hu3.alloc hu3.size (.cells #[.int .u8 96] 5); have hu4 := hua.grown hg4 hua.size (fun q e => (ho3.lt q e).1); have hat4 := hatw2.ext hu4; clear c0 c1 c2 c3 c4 hat3; have c0 := hat4.cell 0; have c1 := hat4.cell 1; have c2 := hat4.cell 2; have c3 := hat4.cell 3; have c4 := hat4.cell 4; simp [row] at c0 c1 c2 c3 c4; rw [HBM.out] at c2; rw [HBP.out] at c3; have hr4 := hv4.reads; have hs4 := hu4.size; clear ho3 ho3a hu3 hua hg4)) | (go_at_call 23; have _t := hr4; clear _t; go_must (refine (PU3.out _ L2 (8 + (x.data.length : Int)) _ (by omega) hr4 (by omega)).mono ?_; rintro e w5 ⟨v5, rfl, ho5, hb5⟩; rw [HL3.out] at ho5; have hu5 := hu4.trans (hb5.mono hs4); have hat5 := hatw2.ext hu5; clear c0 c1 c2 c3 c4 hat4; have c0 := hat5.cell 0; have c1 := hat5.cell 1; have c2 := hat5.cell 2; have c3 := hat5.cell 3; have c4 := hat5.cell 4; simp [row] at c0 c1 c2 c3 c4; rw [HBM.out] at c2; rw [HBP.out] at c3; have hr5 := ho5.reads; have ho5' := ho5.mono hs4; have hs5 := hu5.size; have hrd5 := hrd2.below hu5; clear hr4 hb5 hv4 hu4 ho5 hs4)) | (go_at_call 24; go_must (refine (PDD.out _ _ hrd5).mono ?_; rintro e w10 ⟨v10, rfl, ho10, hb10⟩; rw [HPZ.out] at ho10; have hob := ho5'.below hb10; have hr10 := ho10.reads; have hu10 := hu5.trans (hb10.mono hu5.size); clear hrd5 ho5' ho10 hb10 hu5 c0 c1 c2 c3 c4)) | (at_builtin; have _t := hr10; clear _t; go_must (obtain ⟨i0, hi, hz0, hz1, hz2⟩ := info_parts info5; refine wpl_append rfl (.tmp 67) (.tmp 70) 23 rfl .u8 w2.heap.size 5 1 i0 (.int .u8 0) Try.underlying23 hi hz0 hz1 hz2 rfl v5 v10 L3 pz rfl rfl hob hr10 K3 K4 hu10.size ?_; clear hi hz0 hz1 hz2; intro v11 w11 hv11 hg11; obtain ⟨L5, hL5⟩ : ∃ L5, L3 ++ pz = L5 := ⟨_, rfl⟩; rw [hL5] at hv11; have HL5 := Lib.hid hL5; have hl5 := HLEN.out L5 hL5; have hl5' : (L5.length : Int) ≤ 4096 := (by omega); clear hL5 hl5; obtain ⟨p11, c11, rfl, _, _, _, _⟩ := id hv11.reads; have hu11 := hu10.grown hg11 hu10.size (fun q e => (hob.lt q e).1); clear hob hr10 hg11 hu10)))
              go_roundw
              case rel => exact ⟨k + 1, L5, by go_num, by omega, by omega, hv11.mono (by have := hbw2.size; omega), hbl.trans ((hbw2.trans (hu11.mono hbw2.size)).mono hbl.size), Lib.hid (HL5.out.symm.trans HENC.out)⟩
              case measure => simp [intOf]; omega
          · obtain ⟨L2, hL2⟩ : ∃ L2, L1 ++ [(128 : Int)] = L2 := ⟨_, rfl⟩
            have hl2 : (L2.length : Int) ≤ 4110 := by rw [← hL2]; simp; omega
            have HL2 := Lib.hid hL2
            obtain ⟨L3, hL3⟩ : ∃ L3, putted L2 (8 + (x.data.length : Int) + 4) 3 = L3 := ⟨_, rfl⟩
            have hl3 : (L3.length : Int) ≤ 4120 := by rw [← hL3, putted3_len]; omega
            have HL3 := Lib.hid hL3
            clear hL2 hL3
            obtain ⟨L4, hL4⟩ : ∃ L4, putted L3 x.vendor 4 = L4 := ⟨_, rfl⟩
            have hl4 : (L4.length : Int) ≤ 4130 := by rw [← hL4, putted4_len]; omega
            have HL4 := Lib.hid hL4
            clear hL4
            have K1 : L1.length + 1 ≤ maxLen := by simp [maxLen]; omega
            have K2 : (L1.length + 1) * 1 ≤ 140737488355328 := by omega
            have K3 : L4.length + pz.length ≤ maxLen := by simp [maxLen]; omega
            have K4 : (L4.length + pz.length) * 1 ≤ 140737488355328 := by omega
            have henc : L4 ++ pz = encAll 0 0 (al.take (k + 1)) := by
              rw [enc_step HX.out, ← HO.out, ← HPZ.out, ← HL4.out, ← HL3.out, ← HL2.out, ← HL1.out]
              unfold encG paddedOf flagN
              rw [HBV.out, HBM.out, HBP.out, putted4, putted3, putted4]
              rw [show (8 + (x.data.length : Int) + 4) = 12 + x.data.length by omega]
              simp [headN]
            have hft : ((L4 ++ pz).length : Int) = tot al (k + 1) := by rw [henc]; rfl
            have HENC := Lib.hid henc
            have HFT := Lib.hid hft
            clear henc hft
            by_cases hov : 4096 < (L4 ++ pz).length
            · have hRR : R = ([], 4) := by
                rw [← HRR.out]
                unfold putOf
                rw [if_pos (.inr (by have := HTL.out; have := HFT.out; omega))]
              have HR4 := Lib.hid hRR
              clear hRR
              have hov2 : 4096 < ((L4.length : Int) + pz.length) := by simp at hov; omega
              clear hov
              have hlen5 : ∀ L5 : List Int, L4 ++ pz = L5 → (L5.length : Int) = L4.length + pz.length := fun L5 h => by rw [← h]; simp
              have HLEN := Lib.hid hlen5
              clear hlen5
              go_wp2_with (first | ((with_reducible refine wpl_loadE rfl 41 (.tmp 20) rfl b (off + k * 5) ?_ (row x (.slice pd x.data.length nd)).toArray _ HRA.out Try.underlying41 rfl (by kernel_rfl) ?_); rfl; clear HRA) | ((with_reducible refine wpl_allocAt rfl 41 rfl zeroRow (by kernel_rfl) ?_); go_must (intro w1 hatw1 hbw1 hsw1; have HSw1 := Lib.hid hsw1; clear hsw1)) | ((with_reducible refine wpl_storeR rfl 41 (.tmp 6) (.tmp 21) rfl rfl wr.heap.size 41 zeroRow (row x (.slice pd x.data.length nd)).toArray ?_ ?_ hatw1 (by kernel_rfl) ?_ ?_ ?_); rfl; rfl; rfl; simp [row, Value.oneCell']; go_must (intro w2 hatw2 hgw2; have hbw2 := hbw1.grown hgw2 hbw1.size (fun q e => by cases e; exact Nat.le_refl _); have c0 := hatw2.cell 0; have c1 := hatw2.cell 1; have c2 := hatw2.cell 2; have c3 := hatw2.cell 3; have c4 := hatw2.cell 4; simp [row] at c0 c1 c2 c3 c4; rw [HBM.out] at c2; rw [HBP.out] at c3; have hr2 := hown.reads.below hbw2; have hrd2 := hrd.below hbw2; have t1 : True := trivial; clear hatw1 hgw2 hbw1)) | (go_at_call 23; have _t := t1; clear _t; go_must (refine (PU.out _ out x.code _ (by omega) hr2 (by omega)).mono ?_; rintro e w3 ⟨v3, rfl, ho3, hb3⟩; rw [HL1.out] at ho3; have hu3 := hb3; have hat3 := hatw2.ext hu3; clear c0 c1 c2 c3 c4; have c0 := hat3.cell 0; have c1 := hat3.cell 1; have c2 := hat3.cell 2; have c3 := hat3.cell 3; have c4 := hat3.cell 4; simp [row] at c0 c1 c2 c3 c4; rw [HBM.out] at c2; rw [HBP.out] at c3; have ho3a := ho3.alloc (.cells #[.int .u8 128] 5); clear hr2 t1 hb3)) | (at_builtin; have _t := ho3a; clear _t; go_must (obtain ⟨i0, hi, hz0, hz1, hz2⟩ := info_parts info5; refine wpl_append rfl (.tmp 50) (.tmp 53) 23 rfl .u8 w2.heap.size 5 1 i0 (.int .u8 0) Try.underlying23 hi hz0 hz1 hz2 rfl v3 _ L1 [(128 : Int)] rfl rfl ho3a (Reads.one .u8 w3 _ _) K1 K2 (by have := hu3.size; simp; omega) ?_; clear hi hz0 hz1 hz2; intro v4 w4 hv4 hg4; rw [HL2.out] at hv4; have hua := hu3.alloc hu3.size (.cells #[.int .u8 128] 5); have hu4 := hua.grown hg4 hua.size (fun q e => (ho3.lt q e).1); have hat4 := hatw2.ext hu4; clear c0 c1 c2 c3 c4 hat3; have c0 := hat4.cell 0; have c1 := hat4.cell 1; have c2 := hat4.cell 2; have c3 := hat4.cell 3; have c4 := hat4.cell 4; simp [row] at c0 c1 c2 c3 c4; rw [HBM.out] at c2; rw [HBP.out] at c3; have hr4 := hv4.reads; have hs4 := hu4.size; clear ho3 ho3a hu3 hua hg4)) | (go_at_call 23; have _t := hr4; clear _t; go_must (refine (PU3.out _ L2 (8 + (x.data.length : Int) + 4) _ (by omega) hr4 (by omega)).mono ?_; rintro e w5 ⟨v5, rfl, ho5, hb5⟩; rw [HL3.out] at ho5; have hu5 := hu4.trans (hb5.mono hs4); have hat5 := hatw2.ext hu5; clear c0 c1 c2 c3 c4 hat4; have c0 := hat5.cell 0; have c1 := hat5.cell 1; have c2 := hat5.cell 2; have c3 := hat5.cell 3; have c4 := hat5.cell 4; simp [row] at c0 c1 c2 c3 c4; rw [HBM.out] at c2; rw [HBP.out] at c3; have hr5 := ho5.reads; have ho5' := ho5.mono hs4; have hs5 := hu5.size; have hrd5 := hrd2.below hu5; clear hr4 hb5 hv4 hu4 ho5 hs4)) | (go_at_call 23; have _t := hr5; clear _t; go_must (refine (PU.out _ L3 x.vendor _ (by omega) hr5 (by omega)).mono ?_; rintro e w6 ⟨v6, rfl, ho6, hb6⟩; rw [HL4.out] at ho6; have hu6 := hu5.trans (hb6.mono hs5); have hat6 := hatw2.ext hu6; clear c0 c1 c2 c3 c4 hat5; have c0 := hat6.cell 0; have c1 := hat6.cell 1; have c2 := hat6.cell 2; have c3 := hat6.cell 3; have c4 := hat6.cell 4; simp [row] at c0 c1 c2 c3 c4; rw [HBM.out] at c2; rw [HBP.out] at c3; have ho6' := ho6.mono hs5; have hs6 := hu6.size; have hrd6 := hrd2.below hu6; clear hr5 hb6 ho5' hu5 ho6 hs5 hrd5)) | (go_at_call 24; go_must (refine (PDD.out _ _ hrd6).mono ?_; rintro e w10 ⟨v10, rfl, ho10, hb10⟩; rw [HPZ.out] at ho10; have hob := ho6'.below hb10; have hr10 := ho10.reads; have hu10 := hu6.trans (hb10.mono hu6.size); clear hrd6 ho6' ho10 hb10 hu6 c0 c1 c2 c3 c4)) | (at_builtin; have _t := hr10; clear _t; go_must (obtain ⟨i0, hi, hz0, hz1, hz2⟩ := info_parts info5; refine wpl_append rfl (.tmp 67) (.tmp 70) 23 rfl .u8 w2.heap.size 5 1 i0 (.int .u8 0) Try.underlying23 hi hz0 hz1 hz2 rfl v6 v10 L4 pz rfl rfl hob hr10 K3 K4 hu10.size ?_; clear hi hz0 hz1 hz2; intro v11 w11 hv11 hg11; obtain ⟨L5, hL5⟩ : ∃ L5, L4 ++ pz = L5 := ⟨_, rfl⟩; rw [hL5] at hv11; have HL5 := Lib.hid hL5; have hl5 := HLEN.out L5 hL5; have hl5' : (4096 : Int) < L5.length := (by omega); clear hL5 hl5; obtain ⟨p11, c11, rfl, _, _, _, _⟩ := id hv11.reads; have hu11 := hu10.grown hg11 hu10.size (fun q e => (hob.lt q e).1); clear hob hr10 hg11 hu10)))
              go_ret2
              rw [HR4.out]
              exact ⟨_, rfl, World.ownsRow_nil _ _ _ _, hbl.trans ((hbw2.trans (hu11.mono hbw2.size)).mono hbl.size)⟩
            · have hno : True := trivial
              have hov2 : 4096 ≥ ((L4.length : Int) + pz.length) := by simp at hov; omega
              clear hov
              have hlen5 : ∀ L5 : List Int, L4 ++ pz = L5 → (L5.length : Int) = L4.length + pz.length := fun L5 h => by rw [← h]; simp
              have HLEN := Lib.hid hlen5
              clear hlen5
              go_wp2_with (first | ((with_reducible refine wpl_loadE rfl 41 (.tmp 20) rfl b (off + k * 5) ?_ (row x (.slice pd x.data.length nd)).toArray _ HRA.out Try.underlying41 rfl (by kernel_rfl) ?_); rfl; clear HRA) | ((with_reducible refine wpl_allocAt rfl 41 rfl zeroRow (by kernel_rfl) ?_); go_must (intro w1 hatw1 hbw1 hsw1; have HSw1 := Lib.hid hsw1; clear hsw1)) | ((with_reducible refine wpl_storeR rfl 41 (.tmp 6) (.tmp 21) rfl rfl wr.heap.size 41 zeroRow (row x (.slice pd x.data.length nd)).toArray ?_ ?_ hatw1 (by kernel_rfl) ?_ ?_ ?_); rfl; rfl; rfl; simp [row, Value.oneCell']; go_must (intro w2 hatw2 hgw2; have hbw2 := hbw1.grown hgw2 hbw1.size (fun q e => by cases e; exact Nat.le_refl _); have c0 := hatw2.cell 0; have c1 := hatw2.cell 1; have c2 := hatw2.cell 2; have c3 := hatw2.cell 3; have c4 := hatw2.cell 4; simp [row] at c0 c1 c2 c3 c4; rw [HBM.out] at c2; rw [HBP.out] at c3; have hr2 := hown.reads.below hbw2; have hrd2 := hrd.below hbw2; have t1 : True := trivial; clear hatw1 hgw2 hbw1)) | (go_at_call 23; have _t := t1; clear _t; go_must (refine (PU.out _ out x.code _ (by omega) hr2 (by omega)).mono ?_; rintro e w3 ⟨v3, rfl, ho3, hb3⟩; rw [HL1.out] at ho3; have hu3 := hb3; have hat3 := hatw2.ext hu3; clear c0 c1 c2 c3 c4; have c0 := hat3.cell 0; have c1 := hat3.cell 1; have c2 := hat3.cell 2; have c3 := hat3.cell 3; have c4 := hat3.cell 4; simp [row] at c0 c1 c2 c3 c4; rw [HBM.out] at c2; rw [HBP.out] at c3; have ho3a := ho3.alloc (.cells #[.int .u8 128] 5); clear hr2 t1 hb3)) | (at_builtin; have _t := ho3a; clear _t; go_must (obtain ⟨i0, hi, hz0, hz1, hz2⟩ := info_parts info5; refine wpl_append rfl (.tmp 50) (.tmp 53) 23 rfl .u8 w2.heap.size 5 1 i0 (.int .u8 0) Try.underlying23 hi hz0 hz1 hz2 rfl v3 _ L1 [(128 : Int)] rfl rfl ho3a (Reads.one .u8 w3 _ _) K1 K2 (by have := hu3.size; simp; omega) ?_; clear hi hz0 hz1 hz2; intro v4 w4 hv4 hg4; rw [HL2.out] at hv4; have hua := hu3.alloc hu3.size (.cells #[.int .u8 128] 5); have hu4 := hua.grown hg4 hua.size (fun q e => (ho3.lt q e).1); have hat4 := hatw2.ext hu4; clear c0 c1 c2 c3 c4 hat3; have c0 := hat4.cell 0; have c1 := hat4.cell 1; have c2 := hat4.cell 2; have c3 := hat4.cell 3; have c4 := hat4.cell 4; simp [row] at c0 c1 c2 c3 c4; rw [HBM.out] at c2; rw [HBP.out] at c3; have hr4 := hv4.reads; have hs4 := hu4.size; clear ho3 ho3a hu3 hua hg4)) | (go_at_call 23; have _t := hr4; clear _t; go_must (refine (PU3.out _ L2 (8 + (x.data.length : Int) + 4) _ (by omega) hr4 (by omega)).mono ?_; rintro e w5 ⟨v5, rfl, ho5, hb5⟩; rw [HL3.out] at ho5; have hu5 := hu4.trans (hb5.mono hs4); have hat5 := hatw2.ext hu5; clear c0 c1 c2 c3 c4 hat4; have c0 := hat5.cell 0; have c1 := hat5.cell 1; have c2 := hat5.cell 2; have c3 := hat5.cell 3; have c4 := hat5.cell 4; simp [row] at c0 c1 c2 c3 c4; rw [HBM.out] at c2; rw [HBP.out] at c3; have hr5 := ho5.reads; have ho5' := ho5.mono hs4; have hs5 := hu5.size; have hrd5 := hrd2.below hu5; clear hr4 hb5 hv4 hu4 ho5 hs4)) | (go_at_call 23; have _t := hr5; clear _t; go_must (refine (PU.out _ L3 x.vendor _ (by omega) hr5 (by omega)).mono ?_; rintro e w6 ⟨v6, rfl, ho6, hb6⟩; rw [HL4.out] at ho6; have hu6 := hu5.trans (hb6.mono hs5); have hat6 := hatw2.ext hu6; clear c0 c1 c2 c3 c4 hat5; have c0 := hat6.cell 0; have c1 := hat6.cell 1; have c2 := hat6.cell 2; have c3 := hat6.cell 3; have c4 := hat6.cell 4; simp [row] at c0 c1 c2 c3 c4; rw [HBM.out] at c2; rw [HBP.out] at c3; have ho6' := ho6.mono hs5; have hs6 := hu6.size; have hrd6 := hrd2.below hu6; clear hr5 hb6 ho5' hu5 ho6 hs5 hrd5)) | (go_at_call 24; go_must (refine (PDD.out _ _ hrd6).mono ?_; rintro e w10 ⟨v10, rfl, ho10, hb10⟩; rw [HPZ.out] at ho10; have hob := ho6'.below hb10; have hr10 := ho10.reads; have hu10 := hu6.trans (hb10.mono hu6.size); clear hrd6 ho6' ho10 hb10 hu6 c0 c1 c2 c3 c4)) | (at_builtin; have _t := hr10; clear _t; go_must (obtain ⟨i0, hi, hz0, hz1, hz2⟩ := info_parts info5; refine wpl_append rfl (.tmp 67) (.tmp 70) 23 rfl .u8 w2.heap.size 5 1 i0 (.int .u8 0) Try.underlying23 hi hz0 hz1 hz2 rfl v6 v10 L4 pz rfl rfl hob hr10 K3 K4 hu10.size ?_; clear hi hz0 hz1 hz2; intro v11 w11 hv11 hg11; obtain ⟨L5, hL5⟩ : ∃ L5, L4 ++ pz = L5 := ⟨_, rfl⟩; rw [hL5] at hv11; have HL5 := Lib.hid hL5; have hl5 := HLEN.out L5 hL5; have hl5' : (L5.length : Int) ≤ 4096 := (by omega); clear hL5 hl5; obtain ⟨p11, c11, rfl, _, _, _, _⟩ := id hv11.reads; have hu11 := hu10.grown hg11 hu10.size (fun q e => (hob.lt q e).1); clear hob hr10 hg11 hu10)))
              go_roundw
              case rel => exact ⟨k + 1, L5, by go_num, by omega, by omega, hv11.mono (by have := hbw2.size; omega), hbl.trans ((hbw2.trans (hu11.mono hbw2.size)).mono hbl.size), Lib.hid (HL5.out.symm.trans HENC.out)⟩
              case measure => simp [intOf]; omega
          · obtain ⟨L2, hL2⟩ : ∃ L2, L1 ++ [(160 : Int)] = L2 := ⟨_, rfl⟩
            have hl2 : (L2.length : Int) ≤ 4110 := by rw [← hL2]; simp; omega
            have HL2 := Lib.hid hL2
            obtain ⟨L3, hL3⟩ : ∃ L3, putted L2 (8 + (x.data.length : Int) + 4) 3 = L3 := ⟨_, rfl⟩
            have hl3 : (L3.length : Int) ≤ 4120 := by rw [← hL3, putted3_len]; omega
            have HL3 := Lib.hid hL3
            clear hL2 hL3
            obtain ⟨L4, hL4⟩ : ∃ L4, putted L3 x.vendor 4 = L4 := ⟨_, rfl⟩
            have hl4 : (L4.length : Int) ≤ 4130 := by rw [← hL4, putted4_len]; omega
            have HL4 := Lib.hid hL4
            clear hL4
            have K1 : L1.length + 1 ≤ maxLen := by simp [maxLen]; omega
            have K2 : (L1.length + 1) * 1 ≤ 140737488355328 := by omega
            have K3 : L4.length + pz.length ≤ maxLen := by simp [maxLen]; omega
            have K4 : (L4.length + pz.length) * 1 ≤ 140737488355328 := by omega
            have henc : L4 ++ pz = encAll 0 0 (al.take (k + 1)) := by
              rw [enc_step HX.out, ← HO.out, ← HPZ.out, ← HL4.out, ← HL3.out, ← HL2.out, ← HL1.out]
              unfold encG paddedOf flagN
              rw [HBV.out, HBM.out, HBP.out, putted4, putted3, putted4]
              rw [show (8 + (x.data.length : Int) + 4) = 12 + x.data.length by omega]
              simp [headN]
            have hft : ((L4 ++ pz).length : Int) = tot al (k + 1) := by rw [henc]; rfl
            have HENC := Lib.hid henc
            have HFT := Lib.hid hft
            clear henc hft
            by_cases hov : 4096 < (L4 ++ pz).length
            · have hRR : R = ([], 4) := by
                rw [← HRR.out]
                unfold putOf
                rw [if_pos (.inr (by have := HTL.out; have := HFT.out; omega))]
              have HR4 := Lib.hid hRR
              clear hRR
              have hov2 : 4096 < ((L4.length : Int) + pz.length) := by simp at hov; omega
              clear hov
              have hlen5 : ∀ L5 : List Int, L4 ++ pz = L5 → (L5.length : Int) = L4.length + pz.length := fun L5 h => by rw [← h]; simp
              have HLEN := Lib.hid hlen5
              clear hlen5
              go_wp2_with (first | ((with_reducible refine wpl_loadE rfl 41 (.tmp 20) rfl b (off + k * 5) ?_ (row x (.slice pd x.data.length nd)).toArray _ HRA.out Try.underlying41 rfl (by kernel_rfl) ?_); rfl; clear HRA) | ((with_reducible refine wpl_allocAt rfl 41 rfl zeroRow (by kernel_rfl) ?_); go_must (intro w1 hatw1 hbw1 hsw1; have HSw1 := Lib.hid hsw1; clear hsw1)) | ((with_reducible refine wpl_storeR rfl 41 (.tmp 6) (.tmp 21) rfl rfl wr.heap.size 41 zeroRow (row x (.slice pd x.data.length nd)).toArray ?_ ?_ hatw1 (by kernel_rfl) ?_ ?_ ?_); rfl; rfl; rfl; simp [row, Value.oneCell']; go_must (intro w2 hatw2 hgw2; have hbw2 := hbw1.grown hgw2 hbw1.size (fun q e => by cases e; exact Nat.le_refl _); have c0 := hatw2.cell 0; have c1 := hatw2.cell 1; have c2 := hatw2.cell 2; have c3 := hatw2.cell 3; have c4 := hatw2.cell 4; simp [row] at c0 c1 c2 c3 c4; rw [HBM.out] at c2; rw [HBP.out] at c3; have hr2 := hown.reads.below hbw2; have hrd2 := hrd.below hbw2; have t1 : True := trivial; clear hatw1 hgw2 hbw1)) | (go_at_call 23; have _t := t1; clear _t; go_must (refine (PU.out _ out x.code _ (by omega) hr2 (by omega)).mono ?_; rintro e w3 ⟨v3, rfl, ho3, hb3⟩; rw [HL1.out] at ho3; have hu3 := hb3; have hat3 := hatw2.ext hu3; clear c0 c1 c2 c3 c4; have c0 := hat3.cell 0; have c1 := hat3.cell 1; have c2 := hat3.cell 2; have c3 := hat3.cell 3; have c4 := hat3.cell 4; simp [row] at c0 c1 c2 c3 c4; rw [HBM.out] at c2; rw [HBP.out] at c3; have ho3a := ho3.alloc (.cells #[.int .u8 160] 5); clear hr2 t1 hb3)) | (at_builtin; have _t := ho3a; clear _t; go_must (obtain ⟨i0, hi, hz0, hz1, hz2⟩ := info_parts info5; refine wpl_append rfl (.tmp 50) (.tmp 53) 23 rfl .u8 w2.heap.size 5 1 i0 (.int .u8 0) Try.underlying23 hi hz0 hz1 hz2 rfl v3 _ L1 [(160 : Int)] rfl rfl ho3a (Reads.one .u8 w3 _ _) K1 K2 (by have := hu3.size; simp; omega) ?_; clear hi hz0 hz1 hz2; intro v4 w4 hv4 hg4; rw [HL2.out] at hv4; have hua := hu3.alloc hu3.size (.cells #[.int .u8 160] 5); have hu4 := hua.grown hg4 hua.size (fun q e => (ho3.lt q e).1); have hat4 := hatw2.ext hu4; clear c0 c1 c2 c3 c4 hat3; have c0 := hat4.cell 0; have c1 := hat4.cell 1; have c2 := hat4.cell 2; have c3 := hat4.cell 3; have c4 := hat4.cell 4; simp [row] at c0 c1 c2 c3 c4; rw [HBM.out] at c2; rw [HBP.out] at c3; have hr4 := hv4.reads; have hs4 := hu4.size; clear ho3 ho3a hu3 hua hg4)) | (go_at_call 23; have _t := hr4; clear _t; go_must (refine (PU3.out _ L2 (8 + (x.data.length : Int) + 4) _ (by omega) hr4 (by omega)).mono ?_; rintro e w5 ⟨v5, rfl, ho5, hb5⟩; rw [HL3.out] at ho5; have hu5 := hu4.trans (hb5.mono hs4); have hat5 := hatw2.ext hu5; clear c0 c1 c2 c3 c4 hat4; have c0 := hat5.cell 0; have c1 := hat5.cell 1; have c2 := hat5.cell 2; have c3 := hat5.cell 3; have c4 := hat5.cell 4; simp [row] at c0 c1 c2 c3 c4; rw [HBM.out] at c2; rw [HBP.out] at c3; have hr5 := ho5.reads; have ho5' := ho5.mono hs4; have hs5 := hu5.size; have hrd5 := hrd2.below hu5; clear hr4 hb5 hv4 hu4 ho5 hs4)) | (go_at_call 23; have _t := hr5; clear _t; go_must (refine (PU.out _ L3 x.vendor _ (by omega) hr5 (by omega)).mono ?_; rintro e w6 ⟨v6, rfl, ho6, hb6⟩; rw [HL4.out] at ho6; have hu6 := hu5.trans (hb6.mono hs5); have hat6 := hatw2.ext hu6; clear c0 c1 c2 c3 c4 hat5; have c0 := hat6.cell 0; have c1 := hat6.cell 1; have c2 := hat6.cell 2; have c3 := hat6.cell 3; have c4 := hat6.cell 4; simp [row] at c0 c1 c2 c3 c4; rw [HBM.out] at c2; rw [HBP.out] at c3; have ho6' := ho6.mono hs5; have hs6 := hu6.size; have hrd6 := hrd2.below hu6; clear hr5 hb6 ho5' hu5 ho6 hs5 hrd5)) | (go_at_call 24; go_must (refine (PDD.out _ _ hrd6).mono ?_; rintro e w10 ⟨v10, rfl, ho10, hb10⟩; rw [HPZ.out] at ho10; have hob := ho6'.below hb10; have hr10 := ho10.reads; have hu10 := hu6.trans (hb10.mono hu6.size); clear hrd6 ho6' ho10 hb10 hu6 c0 c1 c2 c3 c4)) | (at_builtin; have _t := hr10; clear _t; go_must (obtain ⟨i0, hi, hz0, hz1, hz2⟩ := info_parts info5; refine wpl_append rfl (.tmp 67) (.tmp 70) 23 rfl .u8 w2.heap.size 5 1 i0 (.int .u8 0) Try.underlying23 hi hz0 hz1 hz2 rfl v6 v10 L4 pz rfl rfl hob hr10 K3 K4 hu10.size ?_; clear hi hz0 hz1 hz2; intro v11 w11 hv11 hg11; obtain ⟨L5, hL5⟩ : ∃ L5, L4 ++ pz = L5 := ⟨_, rfl⟩; rw [hL5] at hv11; have HL5 := Lib.hid hL5; have hl5 := HLEN.out L5 hL5; have hl5' : (4096 : Int) < L5.length := (by omega); clear hL5 hl5; obtain ⟨p11, c11, rfl, _, _, _, _⟩ := id hv11.reads; have hu11 := hu10.grown hg11 hu10.size (fun q e => (hob.lt q e).1); clear hob hr10 hg11 hu10)))
              go_ret2
              rw [HR4.out]
              exact ⟨_, rfl, World.ownsRow_nil _ _ _ _, hbl.trans ((hbw2.trans (hu11.mono hbw2.size)).mono hbl.size)⟩
            · have hno : True := trivial
              have hov2 : 4096 ≥ ((L4.length : Int) + pz.length) := by simp at hov; omega
              clear hov
              have hlen5 : ∀ L5 : List Int, L4 ++ pz = L5 → (L5.length : Int) = L4.length + pz.length := fun L5 h => by rw [← h]; simp
              have HLEN := Lib.hid hlen5
              clear hlen5
              go_wp2_with (first | ((with_reducible refine wpl_loadE rfl 41 (.tmp 20) rfl b (off + k * 5) ?_ (row x (.slice pd x.data.length nd)).toArray _ HRA.out Try.underlying41 rfl (by kernel_rfl) ?_); rfl; clear HRA) | ((with_reducible refine wpl_allocAt rfl 41 rfl zeroRow (by kernel_rfl) ?_); go_must (intro w1 hatw1 hbw1 hsw1; have HSw1 := Lib.hid hsw1; clear hsw1)) | ((with_reducible refine wpl_storeR rfl 41 (.tmp 6) (.tmp 21) rfl rfl wr.heap.size 41 zeroRow (row x (.slice pd x.data.length nd)).toArray ?_ ?_ hatw1 (by kernel_rfl) ?_ ?_ ?_); rfl; rfl; rfl; simp [row, Value.oneCell']; go_must (intro w2 hatw2 hgw2; have hbw2 := hbw1.grown hgw2 hbw1.size (fun q e => by cases e; exact Nat.le_refl _); have c0 := hatw2.cell 0; have c1 := hatw2.cell 1; have c2 := hatw2.cell 2; have c3 := hatw2.cell 3; have c4 := hatw2.cell 4; simp [row] at c0 c1 c2 c3 c4; rw [HBM.out] at c2; rw [HBP.out] at c3; have hr2 := hown.reads.below hbw2; have hrd2 := hrd.below hbw2; have t1 : True := trivial; clear hatw1 hgw2 hbw1)) | (go_at_call 23; have _t := t1; clear _t; go_must (refine (PU.out _ out x.code _ (by omega) hr2 (by omega)).mono ?_; rintro e w3 ⟨v3, rfl, ho3, hb3⟩; rw [HL1.out] at ho3; have hu3 := hb3; have hat3 := hatw2.ext hu3; clear c0 c1 c2 c3 c4; have c0 := hat3.cell 0; have c1 := hat3.cell 1; have c2 := hat3.cell 2; have c3 := hat3.cell 3; have c4 := hat3.cell 4; simp [row] at c0 c1 c2 c3 c4; rw [HBM.out] at c2; rw [HBP.out] at c3; have ho3a := ho3.alloc (.cells #[.int .u8 160] 5); clear hr2 t1 hb3)) | (at_builtin; have _t := ho3a; clear _t; go_must (obtain ⟨i0, hi, hz0, hz1, hz2⟩ := info_parts info5; refine wpl_append rfl (.tmp 50) (.tmp 53) 23 rfl .u8 w2.heap.size 5 1 i0 (.int .u8 0) Try.underlying23 hi hz0 hz1 hz2 rfl v3 _ L1 [(160 : Int)] rfl rfl ho3a (Reads.one .u8 w3 _ _) K1 K2 (by have := hu3.size; simp; omega) ?_; clear hi hz0 hz1 hz2; intro v4 w4 hv4 hg4; rw [HL2.out] at hv4; have hua := hu3.alloc hu3.size (.cells #[.int .u8 160] 5); have hu4 := hua.grown hg4 hua.size (fun q e => (ho3.lt q e).1); have hat4 := hatw2.ext hu4; clear c0 c1 c2 c3 c4 hat3; have c0 := hat4.cell 0; have c1 := hat4.cell 1; have c2 := hat4.cell 2; have c3 := hat4.cell 3; have c4 := hat4.cell 4; simp [row] at c0 c1 c2 c3 c4; rw [HBM.out] at c2; rw [HBP.out] at c3; have hr4 := hv4.reads; have hs4 := hu4.size; clear ho3 ho3a hu3 hua hg4)) | (go_at_call 23; have _t := hr4; clear _t; go_must (refine (PU3.out _ L2 (8 + (x.data.length : Int) + 4) _ (by omega) hr4 (by omega)).mono ?_; rintro e w5 ⟨v5, rfl, ho5, hb5⟩; rw [HL3.out] at ho5; have hu5 := hu4.trans (hb5.mono hs4); have hat5 := hatw2.ext hu5; clear c0 c1 c2 c3 c4 hat4; have c0 := hat5.cell 0; have c1 := hat5.cell 1; have c2 := hat5.cell 2; have c3 := hat5.cell 3; have c4 := hat5.cell 4; simp [row] at c0 c1 c2 c3 c4; rw [HBM.out] at c2; rw [HBP.out] at c3; have hr5 := ho5.reads; have ho5' := ho5.mono hs4; have hs5 := hu5.size; have hrd5 := hrd2.below hu5; clear hr4 hb5 hv4 hu4 ho5 hs4)) | (go_at_call 23; have _t := hr5; clear _t; go_must (refine (PU.out _ L3 x.vendor _ (by omega) hr5 (by omega)).mono ?_; rintro e w6 ⟨v6, rfl, ho6, hb6⟩; rw [HL4.out] at ho6; have hu6 := hu5.trans (hb6.mono hs5); have hat6 := hatw2.ext hu6; clear c0 c1 c2 c3 c4 hat5; have c0 := hat6.cell 0; have c1 := hat6.cell 1; have c2 := hat6.cell 2; have c3 := hat6.cell 3; have c4 := hat6.cell 4; simp [row] at c0 c1 c2 c3 c4; rw [HBM.out] at c2; rw [HBP.out] at c3; have ho6' := ho6.mono hs5; have hs6 := hu6.size; have hrd6 := hrd2.below hu6; clear hr5 hb6 ho5' hu5 ho6 hs5 hrd5)) | (go_at_call 24; go_must (refine (PDD.out _ _ hrd6).mono ?_; rintro e w10 ⟨v10, rfl, ho10, hb10⟩; rw [HPZ.out] at ho10; have hob := ho6'.below hb10; have hr10 := ho10.reads; have hu10 := hu6.trans (hb10.mono hu6.size); clear hrd6 ho6' ho10 hb10 hu6 c0 c1 c2 c3 c4)) | (at_builtin; have _t := hr10; clear _t; go_must (obtain ⟨i0, hi, hz0, hz1, hz2⟩ := info_parts info5; refine wpl_append rfl (.tmp 67) (.tmp 70) 23 rfl .u8 w2.heap.size 5 1 i0 (.int .u8 0) Try.underlying23 hi hz0 hz1 hz2 rfl v6 v10 L4 pz rfl rfl hob hr10 K3 K4 hu10.size ?_; clear hi hz0 hz1 hz2; intro v11 w11 hv11 hg11; obtain ⟨L5, hL5⟩ : ∃ L5, L4 ++ pz = L5 := ⟨_, rfl⟩; rw [hL5] at hv11; have HL5 := Lib.hid hL5; have hl5 := HLEN.out L5 hL5; have hl5' : (L5.length : Int) ≤ 4096 := (by omega); clear hL5 hl5; obtain ⟨p11, c11, rfl, _, _, _, _⟩ := id hv11.reads; have hu11 := hu10.grown hg11 hu10.size (fun q e => (hob.lt q e).1); clear hob hr10 hg11 hu10)))
              go_roundw
              case rel => exact ⟨k + 1, L5, by go_num, by omega, by omega, hv11.mono (by have := hbw2.size; omega), hbl.trans ((hbw2.trans (hu11.mono hbw2.size)).mono hbl.size), Lib.hid (HL5.out.symm.trans HENC.out)⟩
              case measure => simp [intOf]; omega
          · obtain ⟨L2, hL2⟩ : ∃ L2, L1 ++ [(192 : Int)] = L2 := ⟨_, rfl⟩
            have hl2 : (L2.length : Int) ≤ 4110 := by rw [← hL2]; simp; omega
            have HL2 := Lib.hid hL2
            obtain ⟨L3, hL3⟩ : ∃ L3, putted L2 (8 + (x.data.length : Int) + 4) 3 = L3 := ⟨_, rfl⟩
            have hl3 : (L3.length : Int) ≤ 4120 := by rw [← hL3, putted3_len]; omega
            have HL3 := Lib.hid hL3
            clear hL2 hL3
            obtain ⟨L4, hL4⟩ : ∃ L4, putted L3 x.vendor 4 = L4 := ⟨_, rfl⟩
            have hl4 : (L4.length : Int) ≤ 4130 := by rw [← hL4, putted4_len]; omega
            have HL4 := Lib.hid hL4
            clear hL4
            have K1 : L1.length + 1 ≤ maxLen := by simp [maxLen]; omega
            have K2 : (L1.length + 1) * 1 ≤ 140737488355328 := by omega
            have K3 : L4.length + pz.length ≤ maxLen := by simp [maxLen]; omega
            have K4 : (L4.length + pz.length) * 1 ≤ 140737488355328 := by omega
            have henc : L4 ++ pz = encAll 0 0 (al.take (k + 1)) := by
              rw [enc_step HX.out, ← HO.out, ← HPZ.out, ← HL4.out, ← HL3.out, ← HL2.out, ← HL1.out]
              unfold encG paddedOf flagN
              rw [HBV.out, HBM.out, HBP.out, putted4, putted3, putted4]
              rw [show (8 + (x.data.length : Int) + 4) = 12 + x.data.length by omega]
              simp [headN]
            have hft : ((L4 ++ pz).length : Int) = tot al (k + 1) := by rw [henc]; rfl
            have HENC := Lib.hid henc
            have HFT := Lib.hid hft
            clear henc hft
            by_cases hov : 4096 < (L4 ++ pz).length
            · have hRR : R = ([], 4) := by
                rw [← HRR.out]
                unfold putOf
                rw [if_pos (.inr (by have := HTL.out; have := HFT.out; omega))]
              have HR4 := Lib.hid hRR
              clear hRR
              have hov2 : 4096 < ((L4.length : Int) + pz.length) := by simp at hov; omega
              clear hov
              have hlen5 : ∀ L5 : List Int, L4 ++ pz = L5 → (L5.length : Int) = L4.length + pz.length := fun L5 h => by rw [← h]; simp
              have HLEN := Lib.hid hlen5
              clear hlen5
              go_wp2_with (first | ((with_reducible refine wpl_loadE rfl 41 (.tmp 20) rfl b (off + k * 5) ?_ (row x (.slice pd x.data.length nd)).toArray _ HRA.out Try.underlying41 rfl (by kernel_rfl) ?_); rfl; clear HRA) | ((with_reducible refine wpl_allocAt rfl 41 rfl zeroRow (by kernel_rfl) ?_); go_must (intro w1 hatw1 hbw1 hsw1; have HSw1 := Lib.hid hsw1; clear hsw1)) | ((with_reducible refine wpl_storeR rfl 41 (.tmp 6) (.tmp 21) rfl rfl wr.heap.size 41 zeroRow (row x (.slice pd x.data.length nd)).toArray ?_ ?_ hatw1 (by kernel_rfl) ?_ ?_ ?_); rfl; rfl; rfl; simp [row, Value.oneCell']; go_must (intro w2 hatw2 hgw2; have hbw2 := hbw1.grown hgw2 hbw1.size (fun q e => by cases e; exact Nat.le_refl _); have c0 := hatw2.cell 0; have c1 := hatw2.cell 1; have c2 := hatw2.cell 2; have c3 := hatw2.cell 3; have c4 := hatw2.cell 4; simp [row] at c0 c1 c2 c3 c4; rw [HBM.out] at c2; rw [HBP.out] at c3; have hr2 := hown.reads.below hbw2; have hrd2 := hrd.below hbw2; have t1 : True := trivial; clear hatw1 hgw2 hbw1)) | (go_at_call 23; have _t := t1; clear _t; go_must (refine (PU.out _ out x.code _ (by omega) hr2 (by omega)).mono ?_; rintro e w3 ⟨v3, rfl, ho3, hb3⟩; rw [HL1.out] at ho3; have hu3 := hb3; have hat3 := hatw2.ext hu3; clear c0 c1 c2 c3 c4; have c0 := hat3.cell 0; have c1 := hat3.cell 1; have c2 := hat3.cell 2; have c3 := hat3.cell 3; have c4 := hat3.cell 4; simp [row] at c0 c1 c2 c3 c4; rw [HBM.out] at c2; rw [HBP.out] at c3; have ho3a := ho3.alloc (.cells #[.int .u8 192] 5); clear hr2 t1 hb3)) | (at_builtin; have _t := ho3a; clear _t; go_must (obtain ⟨i0, hi, hz0, hz1, hz2⟩ := info_parts info5; refine wpl_append rfl (.tmp 50) (.tmp 53) 23 rfl .u8 w2.heap.size 5 1 i0 (.int .u8 0) Try.underlying23 hi hz0 hz1 hz2 rfl v3 _ L1 [(192 : Int)] rfl rfl ho3a (Reads.one .u8 w3 _ _) K1 K2 (by have := hu3.size; simp; omega) ?_; clear hi hz0 hz1 hz2; intro v4 w4 hv4 hg4; rw [HL2.out] at hv4; have hua := hu3.alloc hu3.size (.cells #[.int .u8 192] 5); have hu4 := hua.grown hg4 hua.size (fun q e => (ho3.lt q e).1); have hat4 := hatw2.ext hu4; clear c0 c1 c2 c3 c4 hat3; have c0 := hat4.cell 0; have c1 := hat4.cell 1; have c2 := hat4.cell 2; have c3 := hat4.cell 3; have c4 := hat4.cell 4; simp [row] at c0 c1 c2 c3 c4; rw [HBM.out] at c2; rw [HBP.out] at c3; have hr4 := hv4.reads; have hs4 := hu4.size; clear ho3 ho3a hu3 hua hg4)) | (go_at_call 23; have _t := hr4; clear _t; go_must (refine (PU3.out _ L2 (8 + (x.data.length : Int) + 4) _ (by omega) hr4 (by omega)).mono ?_; rintro e w5 ⟨v5, rfl, ho5, hb5⟩; rw [HL3.out] at ho5; have hu5 := hu4.trans (hb5.mono hs4); have hat5 := hatw2.ext hu5; clear c0 c1 c2 c3 c4 hat4; have c0 := hat5.cell 0; have c1 := hat5.cell 1; have c2 := hat5.cell 2; have c3 := hat5.cell 3; have c4 := hat5.cell 4; simp [row] at c0 c1 c2 c3 c4; rw [HBM.out] at c2; rw [HBP.out] at c3; have hr5 := ho5.reads; have ho5' := ho5.mono hs4; have hs5 := hu5.size; have hrd5 := hrd2.below hu5; clear hr4 hb5 hv4 hu4 ho5 hs4)) | (go_at_call 23; have _t := hr5; clear _t; go_must (refine (PU.out _ L3 x.vendor _ (by omega) hr5 (by omega)).mono ?_; rintro e w6 ⟨v6, rfl, ho6, hb6⟩; rw [HL4.out] at ho6; have hu6 := hu5.trans (hb6.mono hs5); have hat6 := hatw2.ext hu6; clear c0 c1 c2 c3 c4 hat5; have c0 := hat6.cell 0; have c1 := hat6.cell 1; have c2 := hat6.cell 2; have c3 := hat6.cell 3; have c4 := hat6.cell 4; simp [row] at c0 c1 c2 c3 c4; rw [HBM.out] at c2; rw [HBP.out] at c3; have ho6' := ho6.mono hs5; have hs6 := hu6.size; have hrd6 := hrd2.below hu6; clear hr5 hb6 ho5' hu5 ho6 hs5 hrd5)) | (go_at_call 24; go_must (refine (PDD.out _ _ hrd6).mono ?_; rintro e w10 ⟨v10, rfl, ho10, hb10⟩; rw [HPZ.out] at ho10; have hob := ho6'.below hb10; have hr10 := ho10.reads; have hu10 := hu6.trans (hb10.mono hu6.size); clear hrd6 ho6' ho10 hb10 hu6 c0 c1 c2 c3 c4)) | (at_builtin; have _t := hr10; clear _t; go_must (obtain ⟨i0, hi, hz0, hz1, hz2⟩ := info_parts info5; refine wpl_append rfl (.tmp 67) (.tmp 70) 23 rfl .u8 w2.heap.size 5 1 i0 (.int .u8 0) Try.underlying23 hi hz0 hz1 hz2 rfl v6 v10 L4 pz rfl rfl hob hr10 K3 K4 hu10.size ?_; clear hi hz0 hz1 hz2; intro v11 w11 hv11 hg11; obtain ⟨L5, hL5⟩ : ∃ L5, L4 ++ pz = L5 := ⟨_, rfl⟩; rw [hL5] at hv11; have HL5 := Lib.hid hL5; have hl5 := HLEN.out L5 hL5; have hl5' : (4096 : Int) < L5.length := (by omega); clear hL5 hl5; obtain ⟨p11, c11, rfl, _, _, _, _⟩ := id hv11.reads; have hu11 := hu10.grown hg11 hu10.size (fun q e => (hob.lt q e).1); clear hob hr10 hg11 hu10)))
              go_ret2
              rw [HR4.out]
              exact ⟨_, rfl, World.ownsRow_nil _ _ _ _, hbl.trans ((hbw2.trans (hu11.mono hbw2.size)).mono hbl.size)⟩
            · have hno : True := trivial
              have hov2 : 4096 ≥ ((L4.length : Int) + pz.length) := by simp at hov; omega
              clear hov
              have hlen5 : ∀ L5 : List Int, L4 ++ pz = L5 → (L5.length : Int) = L4.length + pz.length := fun L5 h => by rw [← h]; simp
              have HLEN := Lib.hid hlen5
              clear hlen5
              go_wp2_with (first | ((with_reducible refine wpl_loadE rfl 41 (.tmp 20) rfl b (off + k * 5) ?_ (row x (.slice pd x.data.length nd)).toArray _ HRA.out Try.underlying41 rfl (by kernel_rfl) ?_); rfl; clear HRA) | ((with_reducible refine wpl_allocAt rfl 41 rfl zeroRow (by kernel_rfl) ?_); go_must (intro w1 hatw1 hbw1 hsw1; have HSw1 := Lib.hid hsw1; clear hsw1)) | ((with_reducible refine wpl_storeR rfl 41 (.tmp 6) (.tmp 21) rfl rfl wr.heap.size 41 zeroRow (row x (.slice pd x.data.length nd)).toArray ?_ ?_ hatw1 (by kernel_rfl) ?_ ?_ ?_); rfl; rfl; rfl; simp [row, Value.oneCell']; go_must (intro w2 hatw2 hgw2; have hbw2 := hbw1.grown hgw2 hbw1.size (fun q e => by cases e; exact Nat.le_refl _); have c0 := hatw2.cell 0; have c1 := hatw2.cell 1; have c2 := hatw2.cell 2; have c3 := hatw2.cell 3; have c4 := hatw2.cell 4; simp [row] at c0 c1 c2 c3 c4; rw [HBM.out] at c2; rw [HBP.out] at c3; have hr2 := hown.reads.below hbw2; have hrd2 := hrd.below hbw2; have t1 : True := trivial; clear hatw1 hgw2 hbw1)) | (go_at_call 23; have _t := t1; clear _t; go_must (refine (PU.out _ out x.code _ (by omega) hr2 (by omega)).mono ?_; rintro e w3 ⟨v3, rfl, ho3, hb3⟩; rw [HL1.out] at ho3; have hu3 := hb3; have hat3 := hatw2.ext hu3; clear c0 c1 c2 c3 c4; have c0 := hat3.cell 0; have c1 := hat3.cell 1; have c2 := hat3.cell 2; have c3 := hat3.cell 3; have c4 := hat3.cell 4; simp [row] at c0 c1 c2 c3 c4; rw [HBM.out] at c2; rw [HBP.out] at c3; have ho3a := ho3.alloc (.cells #[.int .u8 192] 5); clear hr2 t1 hb3)) | (at_builtin; have _t := ho3a; clear _t; go_must (obtain ⟨i0, hi, hz0, hz1, hz2⟩ := info_parts info5; refine wpl_append rfl (.tmp 50) (.tmp 53) 23 rfl .u8 w2.heap.size 5 1 i0 (.int .u8 0) Try.underlying23 hi hz0 hz1 hz2 rfl v3 _ L1 [(192 : Int)] rfl rfl ho3a (Reads.one .u8 w3 _ _) K1 K2 (by have := hu3.size; simp; omega) ?_; clear hi hz0 hz1 hz2; intro v4 w4 hv4 hg4; rw [HL2.out] at hv4; have hua := hu3.alloc hu3.size (.cells #[.int .u8 192] 5); have hu4 := hua.grown hg4 hua.size (fun q e => (ho3.lt q e).1); have hat4 := hatw2.ext hu4; clear c0 c1 c2 c3 c4 hat3; have c0 := hat4.cell 0; have c1 := hat4.cell 1; have c2 := hat4.cell 2; have c3 := hat4.cell 3; have c4 := hat4.cell 4; simp [row] at c0 c1 c2 c3 c4; rw [HBM.out] at c2; rw [HBP.out] at c3; have hr4 := hv4.reads; have hs4 := hu4.size; clear ho3 ho3a hu3 hua hg4)) | (go_at_call 23; have _t := hr4; clear _t; go_must (refine (PU3.out _ L2 (8 + (x.data.length : Int) + 4) _ (by omega) hr4 (by omega)).mono ?_; rintro e w5 ⟨v5, rfl, ho5, hb5⟩; rw [HL3.out] at ho5; have hu5 := hu4.trans (hb5.mono hs4); have hat5 := hatw2.ext hu5; clear c0 c1 c2 c3 c4 hat4; have c0 := hat5.cell 0; have c1 := hat5.cell 1; have c2 := hat5.cell 2; have c3 := hat5.cell 3; have c4 := hat5.cell 4; simp [row] at c0 c1 c2 c3 c4; rw [HBM.out] at c2; rw [HBP.out] at c3; have hr5 := ho5.reads; have ho5' := ho5.mono hs4; have hs5 := hu5.size; have hrd5 := hrd2.below hu5; clear hr4 hb5 hv4 hu4 ho5 hs4)) | (go_at_call 23; have _t := hr5; clear _t; go_must (refine (PU.out _ L3 x.vendor _ (by omega) hr5 (by omega)).mono ?_; rintro e w6 ⟨v6, rfl, ho6, hb6⟩; rw [HL4.out] at ho6; have hu6 := hu5.trans (hb6.mono hs5); have hat6 := hatw2.ext hu6; clear c0 c1 c2 c3 c4 hat5; have c0 := hat6.cell 0; have c1 := hat6.cell 1; have c2 := hat6.cell 2; have c3 := hat6.cell 3; have c4 := hat6.cell 4; simp [row] at c0 c1 c2 c3 c4; rw [HBM.out] at c2; rw [HBP.out] at c3; have ho6' := ho6.mono hs5; have hs6 := hu6.size; have hrd6 := hrd2.below hu6; clear hr5 hb6 ho5' hu5 ho6 hs5 hrd5)) | (go_at_call 24; go_must (refine (PDD.out _ _ hrd6).mono ?_; rintro e w10 ⟨v10, rfl, ho10, hb10⟩; rw [HPZ.out] at ho10; have hob := ho6'.below hb10; have hr10 := ho10.reads; have hu10 := hu6.trans (hb10.mono hu6.size); clear hrd6 ho6' ho10 hb10 hu6 c0 c1 c2 c3 c4)) | (at_builtin; have _t := hr10; clear _t; go_must (obtain ⟨i0, hi, hz0, hz1, hz2⟩ := info_parts info5; refine wpl_append rfl (.tmp 67) (.tmp 70) 23 rfl .u8 w2.heap.size 5 1 i0 (.int .u8 0) Try.underlying23 hi hz0 hz1 hz2 rfl v6 v10 L4 pz rfl rfl hob hr10 K3 K4 hu10.size ?_; clear hi hz0 hz1 hz2; intro v11 w11 hv11 hg11; obtain ⟨L5, hL5⟩ : ∃ L5, L4 ++ pz = L5 := ⟨_, rfl⟩; rw [hL5] at hv11; have HL5 := Lib.hid hL5; have hl5 := HLEN.out L5 hL5; have hl5' : (L5.length : Int) ≤ 4096 := (by omega); clear hL5 hl5; obtain ⟨p11, c11, rfl, _, _, _, _⟩ := id hv11.reads; have hu11 := hu10.grown hg11 hu10.size (fun q e => (hob.lt q e).1); clear hob hr10 hg11 hu10)))
              go_roundw
              case rel => exact ⟨k + 1, L5, by go_num, by omega, by omega, hv11.mono (by have := hbw2.size; omega), hbl.trans ((hbw2.trans (hu11.mono hbw2.size)).mono hbl.size), Lib.hid (HL5.out.symm.trans HENC.out)⟩
              case measure => simp [intOf]; omega
          · obtain ⟨L2, hL2⟩ : ∃ L2, L1 ++ [(224 : Int)] = L2 := ⟨_, rfl⟩
            have hl2 : (L2.length : Int) ≤ 4110 := by rw [← hL2]; simp; omega
            have HL2 := Lib.hid hL2
            obtain ⟨L3, hL3⟩ : ∃ L3, putted L2 (8 + (x.data.length : Int) + 4) 3 = L3 := ⟨_, rfl⟩
            have hl3 : (L3.length : Int) ≤ 4120 := by rw [← hL3, putted3_len]; omega
            have HL3 := Lib.hid hL3
            clear hL2 hL3
            obtain ⟨L4, hL4⟩ : ∃ L4, putted L3 x.vendor 4 = L4 := ⟨_, rfl⟩
            have hl4 : (L4.length : Int) ≤ 4130 := by rw [← hL4, putted4_len]; omega
            have HL4 := Lib.hid hL4
            clear hL4
            have K1 : L1.length + 1 ≤ maxLen := by simp [maxLen]; omega
            have K2 : (L1.length + 1) * 1 ≤ 140737488355328 := by omega
            have K3 : L4.length + pz.length ≤ maxLen := by simp [maxLen]; omega
            have K4 : (L4.length + pz.length) * 1 ≤ 140737488355328 := by omega
            have henc : L4 ++ pz = encAll 0 0 (al.take (k + 1)) := by
              rw [enc_step HX.out, ← HO.out, ← HPZ.out, ← HL4.out, ← HL3.out, ← HL2.out, ← HL1.out]
              unfold encG paddedOf flagN
              rw [HBV.out, HBM.out, HBP.out, putted4, putted3, putted4]
              rw [show (8 + (x.data.length : Int) + 4) = 12 + x.data.length by omega]
              simp [headN]
            have hft : ((L4 ++ pz).length : Int) = tot al (k + 1) := by rw [henc]; rfl
            have HENC := Lib.hid henc
            have HFT := Lib.hid hft
            clear henc hft
            by_cases hov : 4096 < (L4 ++ pz).length
            · have hRR : R = ([], 4) := by
                rw [← HRR.out]
                unfold putOf
                rw [if_pos (.inr (by have := HTL.out; have := HFT.out; omega))]
              have HR4 := Lib.hid hRR
              clear hRR
              have hov2 : 4096 < ((L4.length : Int) + pz.length) := by simp at hov; omega
              clear hov
              have hlen5 : ∀ L5 : List Int, L4 ++ pz = L5 → (L5.length : Int) = L4.length + pz.length := fun L5 h => by rw [← h]; simp
              have HLEN := Lib.hid hlen5
              clear hlen5
              go_wp2_with (first | ((with_reducible refine wpl_loadE rfl 41 (.tmp 20) rfl b (off + k * 5) ?_ (row x (.slice pd x.data.length nd)).toArray _ HRA.out Try.underlying41 rfl (by kernel_rfl) ?_); rfl; clear HRA) | ((with_reducible refine wpl_allocAt rfl 41 rfl zeroRow (by kernel_rfl) ?_); go_must (intro w1 hatw1 hbw1 hsw1; have HSw1 := Lib.hid hsw1; clear hsw1)) | ((with_reducible refine wpl_storeR rfl 41 (.tmp 6) (.tmp 21) rfl rfl wr.heap.size 41 zeroRow (row x (.slice pd x.data.length nd)).toArray ?_ ?_ hatw1 (by kernel_rfl) ?_ ?_ ?_); rfl; rfl; rfl; simp [row, Value.oneCell']; go_must (intro w2 hatw2 hgw2; have hbw2 := hbw1.grown hgw2 hbw1.size (fun q e => by cases e; exact Nat.le_refl _); have c0 := hatw2.cell 0; have c1 := hatw2.cell 1; have c2 := hatw2.cell 2; have c3 := hatw2.cell 3; have c4 := hatw2.cell 4; simp [row] at c0 c1 c2 c3 c4; rw [HBM.out] at c2; rw [HBP.out] at c3; have hr2 := hown.reads.below hbw2; have hrd2 := hrd.below hbw2; have t1 : True := trivial; clear hatw1 hgw2 hbw1)) | (go_at_call 23; have _t := t1; clear _t; go_must (refine (PU.out _ out x.code _ (by omega) hr2 (by omega)).mono ?_; rintro e w3 ⟨v3, rfl, ho3, hb3⟩; rw [HL1.out] at ho3; have hu3 := hb3; have hat3 := hatw2.ext hu3; clear c0 c1 c2 c3 c4; have c0 := hat3.cell 0; have c1 := hat3.cell 1; have c2 := hat3.cell 2; have c3 := hat3.cell 3; have c4 := hat3.cell 4; simp [row] at c0 c1 c2 c3 c4; rw [HBM.out] at c2; rw [HBP.out] at c3; have ho3a := ho3.alloc (.cells #[.int .u8 224] 5); clear hr2 t1 hb3)) | (at_builtin; have _t := ho3a; clear _t; go_must (obtain ⟨i0, hi, hz0, hz1, hz2⟩ := info_parts info5; refine wpl_append rfl (.tmp 50) (.tmp 53) 23 rfl .u8 w2.heap.size 5 1 i0 (.int .u8 0) Try.underlying23 hi hz0 hz1 hz2 rfl v3 _ L1 [(224 : Int)] rfl rfl ho3a (Reads.one .u8 w3 _ _) K1 K2 (by have := hu3.size; simp; omega) ?_; clear hi hz0 hz1 hz2; intro v4 w4 hv4 hg4; rw [HL2.out] at hv4; have hua := hu3.alloc hu3.size (.cells #[.int .u8 224] 5); have hu4 := hua.grown hg4 hua.size (fun q e => (ho3.lt q e).1); have hat4 := hatw2.ext hu4; clear c0 c1 c2 c3 c4 hat3; have c0 := hat4.cell 0; have c1 := hat4.cell 1; have c2 := hat4.cell 2; have c3 := hat4.cell 3; have c4 := hat4.cell 4; simp [row] at c0 c1 c2 c3 c4; rw [HBM.out] at c2; rw [HBP.out] at c3; have hr4 := hv4.reads; have hs4 := hu4.size; clear ho3 ho3a hu3 hua hg4)) | (go_at_call 23; have _t := hr4; clear _t; go_must (refine (PU3.out _ L2 (8 + (x.data.length : Int) + 4) _ (by omega) hr4 (by omega)).mono ?_; rintro e w5 ⟨v5, rfl, ho5, hb5⟩; rw [HL3.out] at ho5; have hu5 := hu4.trans (hb5.mono hs4); have hat5 := hatw2.ext hu5; clear c0 c1 c2 c3 c4 hat4; have c0 := hat5.cell 0; have c1 := hat5.cell 1; have c2 := hat5.cell 2; have c3 := hat5.cell 3; have c4 := hat5.cell 4; simp [row] at c0 c1 c2 c3 c4; rw [HBM.out] at c2; rw [HBP.out] at c3; have hr5 := ho5.reads; have ho5' := ho5.mono hs4; have hs5 := hu5.size; have hrd5 := hrd2.below hu5; clear hr4 hb5 hv4 hu4 ho5 hs4)) | (go_at_call 23; have _t := hr5; clear _t; go_must (refine (PU.out _ L3 x.vendor _ (by omega) hr5 (by omega)).mono ?_; rintro e w6 ⟨v6, rfl, ho6, hb6⟩; rw [HL4.out] at ho6; have hu6 := hu5.trans (hb6.mono hs5); have hat6 := hatw2.ext hu6; clear c0 c1 c2 c3 c4 hat5; have c0 := hat6.cell 0; have c1 := hat6.cell 1; have c2 := hat6.cell 2; have c3 := hat6.cell 3; have c4 := hat6.cell 4; simp [row] at c0 c1 c2 c3 c4; rw [HBM.out] at c2; rw [HBP.out] at c3; have ho6' := ho6.mono hs5; have hs6 := hu6.size; have hrd6 := hrd2.below hu6; clear hr5 hb6 ho5' hu5 ho6 hs5 hrd5)) | (go_at_call 24; go_must (refine (PDD.out _ _ hrd6).mono ?_; rintro e w10 ⟨v10, rfl, ho10, hb10⟩; rw [HPZ.out] at ho10; have hob := ho6'.below hb10; have hr10 := ho10.reads; have hu10 := hu6.trans (hb10.mono hu6.size); clear hrd6 ho6' ho10 hb10 hu6 c0 c1 c2 c3 c4)) | (at_builtin; have _t := hr10; clear _t; go_must (obtain ⟨i0, hi, hz0, hz1, hz2⟩ := info_parts info5; refine wpl_append rfl (.tmp 67) (.tmp 70) 23 rfl .u8 w2.heap.size 5 1 i0 (.int .u8 0) Try.underlying23 hi hz0 hz1 hz2 rfl v6 v10 L4 pz rfl rfl hob hr10 K3 K4 hu10.size ?_; clear hi hz0 hz1 hz2; intro v11 w11 hv11 hg11; obtain ⟨L5, hL5⟩ : ∃ L5, L4 ++ pz = L5 := ⟨_, rfl⟩; rw [hL5] at hv11; have HL5 := Lib.hid hL5; have hl5 := HLEN.out L5 hL5; have hl5' : (4096 : Int) < L5.length := (by omega); clear hL5 hl5; obtain ⟨p11, c11, rfl, _, _, _, _⟩ := id hv11.reads; have hu11 := hu10.grown hg11 hu10.size (fun q e => (hob.lt q e).1); clear hob hr10 hg11 hu10)))
              go_ret2
              rw [HR4.out]
              exact ⟨_, rfl, World.ownsRow_nil _ _ _ _, hbl.trans ((hbw2.trans (hu11.mono hbw2.size)).mono hbl.size)⟩
            · have hno : True := trivial
              have hov2 : 4096 ≥ ((L4.length : Int) + pz.length) := by simp at hov; omega
              clear hov
              have hlen5 : ∀ L5 : List Int, L4 ++ pz = L5 → (L5.length : Int) = L4.length + pz.length := fun L5 h => by rw [← h]; simp
              have HLEN := Lib.hid hlen5
              clear hlen5
              go_wp2_with (first | ((with_reducible refine wpl_loadE rfl 41 (.tmp 20) rfl b (off + k * 5) ?_ (row x (.slice pd x.data.length nd)).toArray _ HRA.out Try.underlying41 rfl (by kernel_rfl) ?_); rfl; clear HRA) | ((with_reducible refine wpl_allocAt rfl 41 rfl zeroRow (by kernel_rfl) ?_); go_must (intro w1 hatw1 hbw1 hsw1; have HSw1 := Lib.hid hsw1; clear hsw1)) | ((with_reducible refine wpl_storeR rfl 41 (.tmp 6) (.tmp 21) rfl rfl wr.heap.size 41 zeroRow (row x (.slice pd x.data.length nd)).toArray ?_ ?_ hatw1 (by kernel_rfl) ?_ ?_ ?_); rfl; rfl; rfl; simp [row, Value.oneCell']; go_must (intro w2 hatw2 hgw2; have hbw2 := hbw1.grown hgw2 hbw1.size (fun q e => by cases e; exact Nat.le_refl _); have c0 := hatw2.cell 0; have c1 := hatw2.cell 1; have c2 := hatw2.cell 2; have c3 := hatw2.cell 3; have c4 := hatw2.cell 4; simp [row] at c0 c1 c2 c3 c4; rw [HBM.out] at c2; rw [HBP.out] at c3; have hr2 := hown.reads.below hbw2; have hrd2 := hrd.below hbw2; have t1 : True := trivial; clear hatw1 hgw2 hbw1)) | (go_at_call 23; have _t := t1; clear _t; go_must (refine (PU.out _ out x.code _ (by omega) hr2 (by omega)).mono ?_; rintro e w3 ⟨v3, rfl, ho3, hb3⟩; rw [HL1.out] at ho3; have hu3 := hb3; have hat3 := hatw2.ext hu3; clear c0 c1 c2 c3 c4; have c0 := hat3.cell 0; have c1 := hat3.cell 1; have c2 := hat3.cell 2; have c3 := hat3.cell 3; have c4 := hat3.cell 4; simp [row] at c0 c1 c2 c3 c4; rw [HBM.out] at c2; rw [HBP.out] at c3; have ho3a := ho3.alloc (.cells #[.int .u8 224] 5); clear hr2 t1 hb3)) | (at_builtin; have _t := ho3a; clear _t; go_must (obtain ⟨i0, hi, hz0, hz1, hz2⟩ := info_parts info5; refine wpl_append rfl (.tmp 50) (.tmp 53) 23 rfl .u8 w2.heap.size 5 1 i0 (.int .u8 0) Try.underlying23 hi hz0 hz1 hz2 rfl v3 _ L1 [(224 : Int)] rfl rfl ho3a (Reads.one .u8 w3 _ _) K1 K2 (by have := hu3.size; simp; omega) ?_; clear hi hz0 hz1 hz2; intro v4 w4 hv4 hg4; rw [HL2.out] at hv4; have hua := hu3.alloc hu3.size (.cells #[.int .u8 224] 5); have hu4 := hua.grown hg4 hua.size (fun q e => (ho3.lt q e).1); have hat4 := hatw2.ext hu4; clear c0 c1 c2 c3 c4 hat3; have c0 := hat4.cell 0; have c1 := hat4.cell 1; have c2 := hat4.cell 2; have c3 := hat4.cell 3; have c4 := hat4.cell 4; simp [row] at c0 c1 c2 c3 c4; rw [HBM.out] at c2; rw [HBP.out] at c3; have hr4 := hv4.reads; have hs4 := hu4.size; clear ho3 ho3a hu3 hua hg4)) | (go_at_call 23; have _t := hr4; clear _t; go_must (refine (PU3.out _ L2 (8 + (x.data.length : Int) + 4) _ (by omega) hr4 (by omega)).mono ?_; rintro e w5 ⟨v5, rfl, ho5, hb5⟩; rw [HL3.out] at ho5; have hu5 := hu4.trans (hb5.mono hs4); have hat5 := hatw2.ext hu5; clear c0 c1 c2 c3 c4 hat4; have c0 := hat5.cell 0; have c1 := hat5.cell 1; have c2 := hat5.cell 2; have c3 := hat5.cell 3; have c4 := hat5.cell 4; simp [row] at c0 c1 c2 c3 c4; rw [HBM.out] at c2; rw [HBP.out] at c3; have hr5 := ho5.reads; have ho5' := ho5.mono hs4; have hs5 := hu5.size; have hrd5 := hrd2.below hu5; clear hr4 hb5 hv4 hu4 ho5 hs4)) | (go_at_call 23; have _t := hr5; clear _t; go_must (refine (PU.out _ L3 x.vendor _ (by omega) hr5 (by omega)).mono ?_; rintro e w6 ⟨v6, rfl, ho6, hb6⟩; rw [HL4.out] at ho6; have hu6 := hu5.trans (hb6.mono hs5); have hat6 := hatw2.ext hu6; clear c0 c1 c2 c3 c4 hat5; have c0 := hat6.cell 0; have c1 := hat6.cell 1; have c2 := hat6.cell 2; have c3 := hat6.cell 3; have c4 := hat6.cell 4; simp [row] at c0 c1 c2 c3 c4; rw [HBM.out] at c2; rw [HBP.out] at c3; have ho6' := ho6.mono hs5; have hs6 := hu6.size; have hrd6 := hrd2.below hu6; clear hr5 hb6 ho5' hu5 ho6 hs5 hrd5)) | (go_at_call 24; go_must (refine (PDD.out _ _ hrd6).mono ?_; rintro e w10 ⟨v10, rfl, ho10, hb10⟩; rw [HPZ.out] at ho10; have hob := ho6'.below hb10; have hr10 := ho10.reads; have hu10 := hu6.trans (hb10.mono hu6.size); clear hrd6 ho6' ho10 hb10 hu6 c0 c1 c2 c3 c4)) | (at_builtin; have _t := hr10; clear _t; go_must (obtain ⟨i0, hi, hz0, hz1, hz2⟩ := info_parts info5; refine wpl_append rfl (.tmp 67) (.tmp 70) 23 rfl .u8 w2.heap.size 5 1 i0 (.int .u8 0) Try.underlying23 hi hz0 hz1 hz2 rfl v6 v10 L4 pz rfl rfl hob hr10 K3 K4 hu10.size ?_; clear hi hz0 hz1 hz2; intro v11 w11 hv11 hg11; obtain ⟨L5, hL5⟩ : ∃ L5, L4 ++ pz = L5 := ⟨_, rfl⟩; rw [hL5] at hv11; have HL5 := Lib.hid hL5; have hl5 := HLEN.out L5 hL5; have hl5' : (L5.length : Int) ≤ 4096 := (by omega); clear hL5 hl5; obtain ⟨p11, c11, rfl, _, _, _, _⟩ := id hv11.reads; have hu11 := hu10.grown hg11 hu10.size (fun q e => (hob.lt q e).1); clear hob hr10 hg11 hu10)))
              go_roundw
              case rel => exact ⟨k + 1, L5, by go_num, by omega, by omega, hv11.mono (by have := hbw2.size; omega), hbl.trans ((hbw2.trans (hu11.mono hbw2.size)).mono hbl.size), Lib.hid (HL5.out.symm.trans HENC.out)⟩
              case measure => simp [intOf]; omega
      · obtain rfl : k = al.length := by omega
        rw [List.take_length] at HO
        have hRR : R = (out, 0) := by
          rw [← HRR.out, HO.out]
          unfold putOf
          rw [if_neg (by rw [← HO.out]; omega)]
        have HR4 := Lib.hid hRR
        clear hRR
        go_wp2_with fail
        go_ret2
        rw [HR4.out]
        exact ⟨_, rfl, hown, hbl⟩
end Go.Proofs.Ytjfponhdlfhmbaa.Avp
