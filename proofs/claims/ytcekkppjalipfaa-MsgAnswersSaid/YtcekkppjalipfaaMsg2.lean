/-
  The reference's PutMsg: the walk. (Printed by gen_msg2.py.)
-/
import Derived.Test.YtcekkppjalipfaaMsg1
namespace Go.Proofs.Ytcekkppjalipfaa.Avp
open Go.RowKit Mem Cells Avps Wire Ops
set_option linter.unusedVariables false
set_option linter.unusedSimpArgs false

theorem flag_rows (m : M) (q p f g : Bool) (hq : m.req = q) (hp : m.prox = p) (hf : m.fail = f) (hg : m.again = g) : flagM m = (if q then 128 else 0) + (if p then 64 else 0) + (if f then 32 else 0) + (if g then 16 else 0) := by
  unfold flagM; rw [hq, hp, hf, hg]
set_option maxRecDepth 100000 in
set_option maxHeartbeats 1600000 in
theorem putM_1 (m : M) (p : Option Addr) (c : Nat) (w : World) (hr : ReadsL w (.slice p m.avps.length c) m.avps) (hok : m.ok) (hd : ∀ a ∈ m.avps, a.data.length ≤ 140737488355300) (h1 : 16777215 < m.code) :
    Calls Try.prog 12 #[.agg (rowM m (.slice p m.avps.length c))] w (PutIs w (putM m)) := by
  obtain ⟨⟨o1, o1'⟩, ⟨o2, o2'⟩, ⟨o3, o3'⟩, ⟨o4, o4'⟩, o5⟩ := hok
  have hone : (Value.slice p m.avps.length c).oneCell' = true := rfl
  have e : putM m = ([], 11) := by unfold putM; rw [if_pos h1]
  have HE := Lib.hid e
  clear e hr hd o5
  go_enter Try.func12, Try.ntmps12
  go_wp2_with ((with_reducible refine wpl_boxAt rfl 25 (.tmp 0) rfl (rowM m (.slice p m.avps.length c)) ?_ ?_); rfl; go_must (intro w1 hat1 hb1 hs1; have HS1 := Lib.hid hs1; have c4 := hat1.cell 4; simp [rowM] at c4; clear hs1))
  go_ret2
  rw [HE.out]
  exact ⟨_, rfl, World.ownsRow_nil _ _ _ _, hb1⟩
set_option maxRecDepth 100000 in
set_option maxHeartbeats 1600000 in
theorem putM_2 (m : M) (p : Option Addr) (c : Nat) (w : World) (hr : ReadsL w (.slice p m.avps.length c) m.avps) (hok : m.ok) (hd : ∀ a ∈ m.avps, a.data.length ≤ 140737488355300) (h1 : m.code ≤ 16777215) (h2 : mixB m = true) :
    Calls Try.prog 12 #[.agg (rowM m (.slice p m.avps.length c))] w (PutIs w (putM m)) := by
  obtain ⟨⟨o1, o1'⟩, ⟨o2, o2'⟩, ⟨o3, o3'⟩, ⟨o4, o4'⟩, o5⟩ := hok
  have hone : (Value.slice p m.avps.length c).oneCell' = true := rfl
  have e : putM m = ([], 2) := by unfold putM; rw [if_neg (by omega), if_pos h2]
  have HE := Lib.hid e
  clear e hr hd o5
  go_enter Try.func12, Try.ntmps12
  go_wp2_with (first | ((with_reducible refine wpl_boxAt rfl 25 (.tmp 0) rfl (rowM m (.slice p m.avps.length c)) ?_ ?_); rfl; go_must (intro w1 hat1 hb1 hs1; have HS1 := Lib.hid hs1; have c4 := hat1.cell 4; simp [rowM] at c4; clear hs1)) | ((with_reducible refine wpl_loadAt rfl 25 (.tmp 1) rfl w.heap.size 25 (rowM m (.slice p m.avps.length c)) hat1 _ Try.underlying25 rfl (by kernel_rfl) ?_ ?_); rfl) | (go_at_call 33; go_must (refine (refMixed m _ _ hone).mono ?_; rintro e w2 ⟨rfl, hb2⟩; have hb12 := hb1.trans (hb2.mono hb1.size); have hat2 := hat1.ext hb2; have c8 := hat2.cell 8; simp [rowM] at c8; clear hat1 hb2)))
  go_ret2
  rw [HE.out]
  exact ⟨_, rfl, World.ownsRow_nil _ _ _ _, hb12⟩
set_option maxRecDepth 100000 in
set_option maxHeartbeats 1600000 in
theorem putM_3 (m : M) (p : Option Addr) (c : Nat) (w : World) (hr : ReadsL w (.slice p m.avps.length c) m.avps) (hok : m.ok) (hd : ∀ a ∈ m.avps, a.data.length ≤ 140737488355300) (h1 : m.code ≤ 16777215) (h2 : mixB m = false) (h3 : putOf m.avps = ([], 4)) :
    Calls Try.prog 12 #[.agg (rowM m (.slice p m.avps.length c))] w (PutIs w (putM m)) := by
  obtain ⟨⟨o1, o1'⟩, ⟨o2, o2'⟩, ⟨o3, o3'⟩, ⟨o4, o4'⟩, o5⟩ := hok
  have hone : (Value.slice p m.avps.length c).oneCell' = true := rfl
  have e : putM m = ([], 4) := by unfold putM; rw [if_neg (by omega), if_neg (by rw [h2]; decide), h3, if_pos (by decide)]
  have HE := Lib.hid e
  have PP := Lib.hid (fun u (h : ReadsL u (.slice p m.avps.length c) m.avps) => by have := refPutAll _ m.avps u h (fun a ha => ⟨o5 a ha, hd a ha⟩); rwa [h3] at this)
  have HR := Lib.hid hr
  clear e hr hd h3 o5
  go_enter Try.func12, Try.ntmps12
  go_wp2_with (first | ((with_reducible refine wpl_boxAt rfl 25 (.tmp 0) rfl (rowM m (.slice p m.avps.length c)) ?_ ?_); rfl; go_must (intro w1 hat1 hb1 hs1; have HS1 := Lib.hid hs1; have c4 := hat1.cell 4; simp [rowM] at c4; clear hs1)) | ((with_reducible refine wpl_loadAt rfl 25 (.tmp 1) rfl w.heap.size 25 (rowM m (.slice p m.avps.length c)) hat1 _ Try.underlying25 rfl (by kernel_rfl) ?_ ?_); rfl) | (go_at_call 33; go_must (refine (refMixed m _ _ hone).mono ?_; rintro e w2 ⟨rfl, hb2⟩; have hb12 := hb1.trans (hb2.mono hb1.size); have hat2 := hat1.ext hb2; have c8 := hat2.cell 8; simp [rowM] at c8; clear hat1 hb2)) | (go_at_call 34; go_must (refine (PP.out _ (HR.out.below hb12)).mono ?_; rintro e w3 ⟨v3, rfl, hv3, hb3⟩; have hb13 := hb12.trans (hb3.mono hb12.size); have hat3 := hat2.ext hb3; clear hat2 hb3 c4 c8)))
  go_ret2
  rw [HE.out]
  exact ⟨_, rfl, World.ownsRow_nil _ _ _ _, hb13⟩
set_option maxRecDepth 100000 in
set_option maxHeartbeats 1600000 in
theorem putM_4 (m : M) (p : Option Addr) (c : Nat) (X : List Int) (w : World) (hr : ReadsL w (.slice p m.avps.length c) m.avps) (hok : m.ok) (hd : ∀ a ∈ m.avps, a.data.length ≤ 140737488355300) (h1 : m.code ≤ 16777215) (h2 : mixB m = false) (h3 : putOf m.avps = (X, 0)) (h4 : 4096 < 20 + X.length) :
    Calls Try.prog 12 #[.agg (rowM m (.slice p m.avps.length c))] w (PutIs w (putM m)) := by
  obtain ⟨⟨o1, o1'⟩, ⟨o2, o2'⟩, ⟨o3, o3'⟩, ⟨o4, o4'⟩, o5⟩ := hok
  have hone : (Value.slice p m.avps.length c).oneCell' = true := rfl
  have e : putM m = ([], 4) := by unfold putM; rw [if_neg (by omega), if_neg (by rw [h2]; decide), h3, if_neg (by simp), if_pos h4]
  have HE := Lib.hid e
  have hX := (put_ok h3 o5).2.2.1
  have PP := Lib.hid (fun u (h : ReadsL u (.slice p m.avps.length c) m.avps) => by have := refPutAll _ m.avps u h (fun a ha => ⟨o5 a ha, hd a ha⟩); rwa [h3] at this)
  have HR := Lib.hid hr
  clear e hr hd h3 o5
  go_enter Try.func12, Try.ntmps12
  go_wp2_with (first | ((with_reducible refine wpl_boxAt rfl 25 (.tmp 0) rfl (rowM m (.slice p m.avps.length c)) ?_ ?_); rfl; go_must (intro w1 hat1 hb1 hs1; have HS1 := Lib.hid hs1; have c4 := hat1.cell 4; simp [rowM] at c4; clear hs1)) | ((with_reducible refine wpl_loadAt rfl 25 (.tmp 1) rfl w.heap.size 25 (rowM m (.slice p m.avps.length c)) hat1 _ Try.underlying25 rfl (by kernel_rfl) ?_ ?_); rfl) | (go_at_call 33; go_must (refine (refMixed m _ _ hone).mono ?_; rintro e w2 ⟨rfl, hb2⟩; have hb12 := hb1.trans (hb2.mono hb1.size); have hat2 := hat1.ext hb2; have c8 := hat2.cell 8; simp [rowM] at c8; clear hat1 hb2)) | (go_at_call 34; go_must (refine (PP.out _ (HR.out.below hb12)).mono ?_; rintro e w3 ⟨v3, rfl, hv3, hb3⟩; have hb13 := hb12.trans (hb3.mono hb12.size); have hat3 := hat2.ext hb3; clear hat2 hb3 c4 c8; obtain ⟨px, cx, rfl, _, _, _, _⟩ := id hv3.reads)))
  go_ret2
  rw [HE.out]
  exact ⟨_, rfl, World.ownsRow_nil _ _ _ _, hb13⟩
set_option maxRecDepth 100000 in
set_option maxHeartbeats 1600000 in
theorem putM_5_1000 (m : M) (p : Option Addr) (c : Nat) (X : List Int) (w : World) (hr : ReadsL w (.slice p m.avps.length c) m.avps) (hok : m.ok) (hd : ∀ a ∈ m.avps, a.data.length ≤ 140737488355300) (h1 : m.code ≤ 16777215) (h3 : putOf m.avps = (X, 0)) (h4 : 20 + X.length ≤ 4096) (hq : m.req = true) (hp : m.prox = false) (hf : m.fail = false) (hg : m.again = false) :
    Calls Try.prog 12 #[.agg (rowM m (.slice p m.avps.length c))] w (PutIs w (putM m)) := by
  obtain ⟨⟨o1, o1'⟩, ⟨o2, o2'⟩, ⟨o3, o3'⟩, ⟨o4, o4'⟩, o5⟩ := hok
  have hone : (Value.slice p m.avps.length c).oneCell' = true := rfl
  have h2 : mixB m = false := by unfold mixB; rw [hq, hf, hg]; rfl
  have hfl : flagM m = 128 := by rw [flag_rows m _ _ _ _ hq hp hf hg]; rfl
  have hX := (put_ok h3 o5).2.2.1
  have PP := Lib.hid (fun u (h : ReadsL u (.slice p m.avps.length c) m.avps) => by have := refPutAll _ m.avps u h (fun a ha => ⟨o5 a ha, hd a ha⟩); rwa [h3] at this)
  have HR := Lib.hid hr
  obtain ⟨L1, hL1⟩ : ∃ L, putted [1] ((X.length : Int) + 20) 3 = L := ⟨_, rfl⟩
  obtain ⟨L2, hL2⟩ : ∃ L, L1 ++ [(128 : Int)] = L := ⟨_, rfl⟩
  obtain ⟨L3, hL3⟩ : ∃ L, putted L2 m.code 3 = L := ⟨_, rfl⟩
  obtain ⟨L4, hL4⟩ : ∃ L, putted L3 m.app 4 = L := ⟨_, rfl⟩
  obtain ⟨L5, hL5⟩ : ∃ L, putted L4 m.hop 4 = L := ⟨_, rfl⟩
  obtain ⟨L6, hL6⟩ : ∃ L, putted L5 m.fin 4 = L := ⟨_, rfl⟩
  have e1 : L1.length = 4 := by rw [← hL1, putted3_len]; rfl
  have e2 : L2.length = 5 := by rw [← hL2, List.length_append, e1]; rfl
  have e3 : L3.length = 8 := by rw [← hL3, putted3_len, e2]
  have e4 : L4.length = 12 := by rw [← hL4, putted4_len, e3]
  have e5 : L5.length = 16 := by rw [← hL5, putted4_len, e4]
  have e6 : L6.length = 20 := by rw [← hL6, putted4_len, e5]
  have P1 := Lib.hid (fun v u (h : Reads .u8 u v [1]) => by have := refPut v [1] ((X.length : Int) + 20) 3 u (by omega) h (by simp); rwa [hL1] at this)
  have P2 := Lib.hid (fun v u (h : Reads .u8 u v L2) => by have := refPut v L2 m.code 3 u (by omega) h (by omega); rwa [hL3] at this)
  have P3 := Lib.hid (fun v u (h : Reads .u8 u v L3) => by have := refPut v L3 m.app 4 u (by omega) h (by omega); rwa [hL4] at this)
  have P4 := Lib.hid (fun v u (h : Reads .u8 u v L4) => by have := refPut v L4 m.hop 4 u (by omega) h (by omega); rwa [hL5] at this)
  have P5 := Lib.hid (fun v u (h : Reads .u8 u v L5) => by have := refPut v L5 m.fin 4 u (by omega) h (by omega); rwa [hL6] at this)
  have e : putM m = (L6 ++ X, 0) := by
    unfold putM headM
    rw [if_neg (by omega), if_neg (by rw [h2]; decide), h3, if_neg (by simp), if_neg (show ¬ 4096 < 20 + X.length by omega), hfl, ← hL6, ← hL5, ← hL4, ← hL3, ← hL2, ← hL1, putted4, putted4, putted4, putted3, putted3, show (20 : Int) + X.length = X.length + 20 from Int.add_comm _ _]
  have HE := Lib.hid e
  have HQ := Lib.hid hq
  have HP := Lib.hid hp
  have HF := Lib.hid hf
  have HG := Lib.hid hg
  have HL2 := Lib.hid hL2
  have K1 : L1.length + [(128 : Int)].length ≤ maxLen := by simp [maxLen]; omega
  have K2 : (L1.length + [(128 : Int)].length) * 1 ≤ 140737488355328 := by simp; omega
  have K3 : L6.length + X.length ≤ maxLen := by simp [maxLen]; omega
  have K4 : (L6.length + X.length) * 1 ≤ 140737488355328 := by omega
  clear e hr hd h3 o5 hq hp hf hg hfl hL1 hL2 hL3 hL4 hL5 hL6 e1 e2 e3 e4 e5 e6
  go_enter Try.func12, Try.ntmps12
  go_wp2_with (first
    | ((with_reducible refine wpl_boxAt rfl 25 (.tmp 0) rfl (rowM m (.slice p m.avps.length c)) ?_ ?_); rfl; go_must (intro w1 hat1 hb1 hs1; have HS1 := Lib.hid hs1; have c4 := hat1.cell 4; simp [rowM] at c4; clear hs1))
    | ((with_reducible refine wpl_loadAt rfl 25 (.tmp 1) rfl w.heap.size 25 (rowM m (.slice p m.avps.length c)) hat1 _ Try.underlying25 rfl (by kernel_rfl) ?_ ?_); rfl) | (go_at_call 33; go_must (refine (refMixed m _ _ hone).mono ?_; rintro e w2 ⟨rfl, hb2⟩; have hb12 := hb1.trans (hb2.mono hb1.size); have hat2 := hat1.ext hb2; have c8 := hat2.cell 8; simp [rowM] at c8; clear hat1 hb2))
    | (go_at_call 34; go_must (refine (PP.out _ (HR.out.below hb12)).mono ?_; rintro e w3 ⟨v3, rfl, hv3, hb3⟩; have hb13 := hb12.trans (hb3.mono hb12.size); have hat3 := hat2.ext hb3; clear hat2 hb3 c4 c8; obtain ⟨px, cx, rfl, _, _, _, _⟩ := id hv3.reads; have hx3 := hv3.reads; have AT := hat3; have c0 := AT.cell 0; have c1 := AT.cell 1; have c2 := AT.cell 2; have c3 := AT.cell 3; have c4 := AT.cell 4; have c5 := AT.cell 5; have c6 := AT.cell 6; have c7 := AT.cell 7; simp [rowM] at c0 c1 c2 c3 c4 c5 c6 c7; rw [HQ.out] at c0; rw [HP.out] at c1; rw [HF.out] at c2; rw [HG.out] at c3; clear AT; have hu := Below.refl w3.heap.size w3; have hg3 := hb13.size; have T1 := hg3; have hrd1 := Reads.one .u8 w3 1 5; have hw3 := (Below.refl w3.heap.size w3).alloc (Nat.le_refl _) (.cells #[.int .u8 1] 5)))
    | (go_at_call 14; have _t := P1; clear _t; go_must (refine (P1.out _ _ hrd1).mono ?_; clear P1; rintro e u4 ⟨v4, rfl, ho4, hbn⟩; have hu1 := hw3.trans (hbn.mono (by simp)); clear hu hw3; have hu := hu1; clear hu1; clear hrd1 c0 c1 c2 c3 c4 c5 c6 c7; have AT := hat3.ext hu; have c0 := AT.cell 0; have c1 := AT.cell 1; have c2 := AT.cell 2; have c3 := AT.cell 3; have c4 := AT.cell 4; have c5 := AT.cell 5; have c6 := AT.cell 6; have c7 := AT.cell 7; simp [rowM] at c0 c1 c2 c3 c4 c5 c6 c7; rw [HQ.out] at c0; rw [HP.out] at c1; rw [HF.out] at c2; rw [HG.out] at c3; clear AT hbn; have hob := ho4.alloc (.cells #[.int .u8 128] 5); have hbb : w3.heap.size ≤ u4.heap.size := hu.size; clear T1))
    | (at_builtin; have _t := hob; clear _t; go_must (obtain ⟨i0, hi, hz0, hz1, hz2⟩ := info_parts info5; refine wpl_append rfl (.tmp 48) (.tmp 51) 26 rfl .u8 _ 5 1 i0 (.int .u8 0) Try.underlying26 hi hz0 hz1 hz2 rfl v4 _ L1 [(128 : Int)] rfl rfl hob (Reads.one .u8 u4 _ _) K1 K2 (by simp; omega) ?_; clear hi hz0 hz1 hz2; intro v5 u5 ho5 hgn; rw [HL2.out] at ho5; have hua := hu.alloc hu.size (.cells #[.int .u8 128] 5); have hu1 := hua.grown hgn hua.size (fun q e => by have := (ho4.lt q e).1; simp at this; omega); clear hu hob ho4 c0 c1 c2 c3 c4 c5 c6 c7 hua hgn hbb; have hu := hu1; clear hu1; have AT := hat3.ext hu; have c0 := AT.cell 0; have c1 := AT.cell 1; have c2 := AT.cell 2; have c3 := AT.cell 3; have c4 := AT.cell 4; have c5 := AT.cell 5; have c6 := AT.cell 6; have c7 := AT.cell 7; simp [rowM] at c0 c1 c2 c3 c4 c5 c6 c7; rw [HQ.out] at c0; rw [HP.out] at c1; rw [HF.out] at c2; rw [HG.out] at c3; clear AT; have hrd2 := ho5.reads; clear ho5))
    | (go_at_call 14; have _t := P2; clear _t; go_must (refine (P2.out _ _ hrd2).mono ?_; clear P2; rintro e u6 ⟨v6, rfl, ho6, hbn⟩; have hu1 := hu.trans (hbn.mono hu.size); clear hu; have hu := hu1; clear hu1; clear hrd2 c0 c1 c2 c3 c4 c5 c6 c7; have AT := hat3.ext hu; have c0 := AT.cell 0; have c1 := AT.cell 1; have c2 := AT.cell 2; have c3 := AT.cell 3; have c4 := AT.cell 4; have c5 := AT.cell 5; have c6 := AT.cell 6; have c7 := AT.cell 7; simp [rowM] at c0 c1 c2 c3 c4 c5 c6 c7; rw [HQ.out] at c0; rw [HP.out] at c1; rw [HF.out] at c2; rw [HG.out] at c3; clear AT hbn; have hrd3 := ho6.reads; clear ho6))
    | (go_at_call 14; have _t := P3; clear _t; go_must (refine (P3.out _ _ hrd3).mono ?_; clear P3; rintro e u7 ⟨v7, rfl, ho7, hbn⟩; have hu1 := hu.trans (hbn.mono hu.size); clear hu; have hu := hu1; clear hu1; clear hrd3 c0 c1 c2 c3 c4 c5 c6 c7; have AT := hat3.ext hu; have c0 := AT.cell 0; have c1 := AT.cell 1; have c2 := AT.cell 2; have c3 := AT.cell 3; have c4 := AT.cell 4; have c5 := AT.cell 5; have c6 := AT.cell 6; have c7 := AT.cell 7; simp [rowM] at c0 c1 c2 c3 c4 c5 c6 c7; rw [HQ.out] at c0; rw [HP.out] at c1; rw [HF.out] at c2; rw [HG.out] at c3; clear AT hbn; have hrd4 := ho7.reads; clear ho7))
    | (go_at_call 14; have _t := P4; clear _t; go_must (refine (P4.out _ _ hrd4).mono ?_; clear P4; rintro e u8 ⟨v8, rfl, ho8, hbn⟩; have hu1 := hu.trans (hbn.mono hu.size); clear hu; have hu := hu1; clear hu1; clear hrd4 c0 c1 c2 c3 c4 c5 c6 c7; have AT := hat3.ext hu; have c0 := AT.cell 0; have c1 := AT.cell 1; have c2 := AT.cell 2; have c3 := AT.cell 3; have c4 := AT.cell 4; have c5 := AT.cell 5; have c6 := AT.cell 6; have c7 := AT.cell 7; simp [rowM] at c0 c1 c2 c3 c4 c5 c6 c7; rw [HQ.out] at c0; rw [HP.out] at c1; rw [HF.out] at c2; rw [HG.out] at c3; clear AT hbn; have hrd5 := ho8.reads; clear ho8))
    | (go_at_call 14; have _t := P5; clear _t; go_must (refine (P5.out _ _ hrd5).mono ?_; clear P5; rintro e u9 ⟨v9, rfl, ho9, hbn⟩; have hb8 := hu.size; have hb89 := hbn.size; have hu1 := hu.trans (hbn.mono hu.size); clear hu; have hu := hu1; clear hu1; clear hrd5 c0 c1 c2 c3 c4 c5 c6 c7; have AT := hat3.ext hu; have c0 := AT.cell 0; have c1 := AT.cell 1; have c2 := AT.cell 2; have c3 := AT.cell 3; have c4 := AT.cell 4; have c5 := AT.cell 5; have c6 := AT.cell 6; have c7 := AT.cell 7; simp [rowM] at c0 c1 c2 c3 c4 c5 c6 c7; rw [HQ.out] at c0; rw [HP.out] at c1; rw [HF.out] at c2; rw [HG.out] at c3; clear AT hbn; have hoz := ho9; have hx9 := hx3.below hu; have hsz := hu.size; clear ho9))
    | (at_builtin; have _t := hoz; clear _t; go_must (obtain ⟨i0, hi, hz0, hz1, hz2⟩ := info_parts info5; refine wpl_append rfl (.tmp 73) (.tmp 74) 26 rfl .u8 _ 5 1 i0 (.int .u8 0) Try.underlying26 hi hz0 hz1 hz2 rfl v9 _ L6 X rfl rfl hoz hx9 K3 K4 hb89 ?_; clear hi hz0 hz1 hz2; intro v10 u10 ho10 hgn; have hfin := hu.grown hgn hu.size (fun q e => by have := (hoz.lt q e).1; omega))))
  go_ret2
  rw [HE.out]
  exact ⟨_, rfl, ho10.mono (by omega), hb13.trans (hfin.mono hb13.size)⟩
set_option maxRecDepth 100000 in
set_option maxHeartbeats 1600000 in
theorem putM_5_1001 (m : M) (p : Option Addr) (c : Nat) (X : List Int) (w : World) (hr : ReadsL w (.slice p m.avps.length c) m.avps) (hok : m.ok) (hd : ∀ a ∈ m.avps, a.data.length ≤ 140737488355300) (h1 : m.code ≤ 16777215) (h3 : putOf m.avps = (X, 0)) (h4 : 20 + X.length ≤ 4096) (hq : m.req = true) (hp : m.prox = false) (hf : m.fail = false) (hg : m.again = true) :
    Calls Try.prog 12 #[.agg (rowM m (.slice p m.avps.length c))] w (PutIs w (putM m)) := by
  obtain ⟨⟨o1, o1'⟩, ⟨o2, o2'⟩, ⟨o3, o3'⟩, ⟨o4, o4'⟩, o5⟩ := hok
  have hone : (Value.slice p m.avps.length c).oneCell' = true := rfl
  have h2 : mixB m = false := by unfold mixB; rw [hq, hf, hg]; rfl
  have hfl : flagM m = 144 := by rw [flag_rows m _ _ _ _ hq hp hf hg]; rfl
  have hX := (put_ok h3 o5).2.2.1
  have PP := Lib.hid (fun u (h : ReadsL u (.slice p m.avps.length c) m.avps) => by have := refPutAll _ m.avps u h (fun a ha => ⟨o5 a ha, hd a ha⟩); rwa [h3] at this)
  have HR := Lib.hid hr
  obtain ⟨L1, hL1⟩ : ∃ L, putted [1] ((X.length : Int) + 20) 3 = L := ⟨_, rfl⟩
  obtain ⟨L2, hL2⟩ : ∃ L, L1 ++ [(144 : Int)] = L := ⟨_, rfl⟩
  obtain ⟨L3, hL3⟩ : ∃ L, putted L2 m.code 3 = L := ⟨_, rfl⟩
  obtain ⟨L4, hL4⟩ : ∃ L, putted L3 m.app 4 = L := ⟨_, rfl⟩
  obtain ⟨L5, hL5⟩ : ∃ L, putted L4 m.hop 4 = L := ⟨_, rfl⟩
  obtain ⟨L6, hL6⟩ : ∃ L, putted L5 m.fin 4 = L := ⟨_, rfl⟩
  have e1 : L1.length = 4 := by rw [← hL1, putted3_len]; rfl
  have e2 : L2.length = 5 := by rw [← hL2, List.length_append, e1]; rfl
  have e3 : L3.length = 8 := by rw [← hL3, putted3_len, e2]
  have e4 : L4.length = 12 := by rw [← hL4, putted4_len, e3]
  have e5 : L5.length = 16 := by rw [← hL5, putted4_len, e4]
  have e6 : L6.length = 20 := by rw [← hL6, putted4_len, e5]
  have P1 := Lib.hid (fun v u (h : Reads .u8 u v [1]) => by have := refPut v [1] ((X.length : Int) + 20) 3 u (by omega) h (by simp); rwa [hL1] at this)
  have P2 := Lib.hid (fun v u (h : Reads .u8 u v L2) => by have := refPut v L2 m.code 3 u (by omega) h (by omega); rwa [hL3] at this)
  have P3 := Lib.hid (fun v u (h : Reads .u8 u v L3) => by have := refPut v L3 m.app 4 u (by omega) h (by omega); rwa [hL4] at this)
  have P4 := Lib.hid (fun v u (h : Reads .u8 u v L4) => by have := refPut v L4 m.hop 4 u (by omega) h (by omega); rwa [hL5] at this)
  have P5 := Lib.hid (fun v u (h : Reads .u8 u v L5) => by have := refPut v L5 m.fin 4 u (by omega) h (by omega); rwa [hL6] at this)
  have e : putM m = (L6 ++ X, 0) := by
    unfold putM headM
    rw [if_neg (by omega), if_neg (by rw [h2]; decide), h3, if_neg (by simp), if_neg (show ¬ 4096 < 20 + X.length by omega), hfl, ← hL6, ← hL5, ← hL4, ← hL3, ← hL2, ← hL1, putted4, putted4, putted4, putted3, putted3, show (20 : Int) + X.length = X.length + 20 from Int.add_comm _ _]
  have HE := Lib.hid e
  have HQ := Lib.hid hq
  have HP := Lib.hid hp
  have HF := Lib.hid hf
  have HG := Lib.hid hg
  have HL2 := Lib.hid hL2
  have K1 : L1.length + [(144 : Int)].length ≤ maxLen := by simp [maxLen]; omega
  have K2 : (L1.length + [(144 : Int)].length) * 1 ≤ 140737488355328 := by simp; omega
  have K3 : L6.length + X.length ≤ maxLen := by simp [maxLen]; omega
  have K4 : (L6.length + X.length) * 1 ≤ 140737488355328 := by omega
  clear e hr hd h3 o5 hq hp hf hg hfl hL1 hL2 hL3 hL4 hL5 hL6 e1 e2 e3 e4 e5 e6
  go_enter Try.func12, Try.ntmps12
  go_wp2_with (first
    | ((with_reducible refine wpl_boxAt rfl 25 (.tmp 0) rfl (rowM m (.slice p m.avps.length c)) ?_ ?_); rfl; go_must (intro w1 hat1 hb1 hs1; have HS1 := Lib.hid hs1; have c4 := hat1.cell 4; simp [rowM] at c4; clear hs1))
    | ((with_reducible refine wpl_loadAt rfl 25 (.tmp 1) rfl w.heap.size 25 (rowM m (.slice p m.avps.length c)) hat1 _ Try.underlying25 rfl (by kernel_rfl) ?_ ?_); rfl) | (go_at_call 33; go_must (refine (refMixed m _ _ hone).mono ?_; rintro e w2 ⟨rfl, hb2⟩; have hb12 := hb1.trans (hb2.mono hb1.size); have hat2 := hat1.ext hb2; have c8 := hat2.cell 8; simp [rowM] at c8; clear hat1 hb2))
    | (go_at_call 34; go_must (refine (PP.out _ (HR.out.below hb12)).mono ?_; rintro e w3 ⟨v3, rfl, hv3, hb3⟩; have hb13 := hb12.trans (hb3.mono hb12.size); have hat3 := hat2.ext hb3; clear hat2 hb3 c4 c8; obtain ⟨px, cx, rfl, _, _, _, _⟩ := id hv3.reads; have hx3 := hv3.reads; have AT := hat3; have c0 := AT.cell 0; have c1 := AT.cell 1; have c2 := AT.cell 2; have c3 := AT.cell 3; have c4 := AT.cell 4; have c5 := AT.cell 5; have c6 := AT.cell 6; have c7 := AT.cell 7; simp [rowM] at c0 c1 c2 c3 c4 c5 c6 c7; rw [HQ.out] at c0; rw [HP.out] at c1; rw [HF.out] at c2; rw [HG.out] at c3; clear AT; have hu := Below.refl w3.heap.size w3; have hg3 := hb13.size; have T1 := hg3; have hrd1 := Reads.one .u8 w3 1 5; have hw3 := (Below.refl w3.heap.size w3).alloc (Nat.le_refl _) (.cells #[.int .u8 1] 5)))
    | (go_at_call 14; have _t := P1; clear _t; go_must (refine (P1.out _ _ hrd1).mono ?_; clear P1; rintro e u4 ⟨v4, rfl, ho4, hbn⟩; have hu1 := hw3.trans (hbn.mono (by simp)); clear hu hw3; have hu := hu1; clear hu1; clear hrd1 c0 c1 c2 c3 c4 c5 c6 c7; have AT := hat3.ext hu; have c0 := AT.cell 0; have c1 := AT.cell 1; have c2 := AT.cell 2; have c3 := AT.cell 3; have c4 := AT.cell 4; have c5 := AT.cell 5; have c6 := AT.cell 6; have c7 := AT.cell 7; simp [rowM] at c0 c1 c2 c3 c4 c5 c6 c7; rw [HQ.out] at c0; rw [HP.out] at c1; rw [HF.out] at c2; rw [HG.out] at c3; clear AT hbn; have hob := ho4.alloc (.cells #[.int .u8 144] 5); have hbb : w3.heap.size ≤ u4.heap.size := hu.size; clear T1))
    | (at_builtin; have _t := hob; clear _t; go_must (obtain ⟨i0, hi, hz0, hz1, hz2⟩ := info_parts info5; refine wpl_append rfl (.tmp 48) (.tmp 51) 26 rfl .u8 _ 5 1 i0 (.int .u8 0) Try.underlying26 hi hz0 hz1 hz2 rfl v4 _ L1 [(144 : Int)] rfl rfl hob (Reads.one .u8 u4 _ _) K1 K2 (by simp; omega) ?_; clear hi hz0 hz1 hz2; intro v5 u5 ho5 hgn; rw [HL2.out] at ho5; have hua := hu.alloc hu.size (.cells #[.int .u8 144] 5); have hu1 := hua.grown hgn hua.size (fun q e => by have := (ho4.lt q e).1; simp at this; omega); clear hu hob ho4 c0 c1 c2 c3 c4 c5 c6 c7 hua hgn hbb; have hu := hu1; clear hu1; have AT := hat3.ext hu; have c0 := AT.cell 0; have c1 := AT.cell 1; have c2 := AT.cell 2; have c3 := AT.cell 3; have c4 := AT.cell 4; have c5 := AT.cell 5; have c6 := AT.cell 6; have c7 := AT.cell 7; simp [rowM] at c0 c1 c2 c3 c4 c5 c6 c7; rw [HQ.out] at c0; rw [HP.out] at c1; rw [HF.out] at c2; rw [HG.out] at c3; clear AT; have hrd2 := ho5.reads; clear ho5))
    | (go_at_call 14; have _t := P2; clear _t; go_must (refine (P2.out _ _ hrd2).mono ?_; clear P2; rintro e u6 ⟨v6, rfl, ho6, hbn⟩; have hu1 := hu.trans (hbn.mono hu.size); clear hu; have hu := hu1; clear hu1; clear hrd2 c0 c1 c2 c3 c4 c5 c6 c7; have AT := hat3.ext hu; have c0 := AT.cell 0; have c1 := AT.cell 1; have c2 := AT.cell 2; have c3 := AT.cell 3; have c4 := AT.cell 4; have c5 := AT.cell 5; have c6 := AT.cell 6; have c7 := AT.cell 7; simp [rowM] at c0 c1 c2 c3 c4 c5 c6 c7; rw [HQ.out] at c0; rw [HP.out] at c1; rw [HF.out] at c2; rw [HG.out] at c3; clear AT hbn; have hrd3 := ho6.reads; clear ho6))
    | (go_at_call 14; have _t := P3; clear _t; go_must (refine (P3.out _ _ hrd3).mono ?_; clear P3; rintro e u7 ⟨v7, rfl, ho7, hbn⟩; have hu1 := hu.trans (hbn.mono hu.size); clear hu; have hu := hu1; clear hu1; clear hrd3 c0 c1 c2 c3 c4 c5 c6 c7; have AT := hat3.ext hu; have c0 := AT.cell 0; have c1 := AT.cell 1; have c2 := AT.cell 2; have c3 := AT.cell 3; have c4 := AT.cell 4; have c5 := AT.cell 5; have c6 := AT.cell 6; have c7 := AT.cell 7; simp [rowM] at c0 c1 c2 c3 c4 c5 c6 c7; rw [HQ.out] at c0; rw [HP.out] at c1; rw [HF.out] at c2; rw [HG.out] at c3; clear AT hbn; have hrd4 := ho7.reads; clear ho7))
    | (go_at_call 14; have _t := P4; clear _t; go_must (refine (P4.out _ _ hrd4).mono ?_; clear P4; rintro e u8 ⟨v8, rfl, ho8, hbn⟩; have hu1 := hu.trans (hbn.mono hu.size); clear hu; have hu := hu1; clear hu1; clear hrd4 c0 c1 c2 c3 c4 c5 c6 c7; have AT := hat3.ext hu; have c0 := AT.cell 0; have c1 := AT.cell 1; have c2 := AT.cell 2; have c3 := AT.cell 3; have c4 := AT.cell 4; have c5 := AT.cell 5; have c6 := AT.cell 6; have c7 := AT.cell 7; simp [rowM] at c0 c1 c2 c3 c4 c5 c6 c7; rw [HQ.out] at c0; rw [HP.out] at c1; rw [HF.out] at c2; rw [HG.out] at c3; clear AT hbn; have hrd5 := ho8.reads; clear ho8))
    | (go_at_call 14; have _t := P5; clear _t; go_must (refine (P5.out _ _ hrd5).mono ?_; clear P5; rintro e u9 ⟨v9, rfl, ho9, hbn⟩; have hb8 := hu.size; have hb89 := hbn.size; have hu1 := hu.trans (hbn.mono hu.size); clear hu; have hu := hu1; clear hu1; clear hrd5 c0 c1 c2 c3 c4 c5 c6 c7; have AT := hat3.ext hu; have c0 := AT.cell 0; have c1 := AT.cell 1; have c2 := AT.cell 2; have c3 := AT.cell 3; have c4 := AT.cell 4; have c5 := AT.cell 5; have c6 := AT.cell 6; have c7 := AT.cell 7; simp [rowM] at c0 c1 c2 c3 c4 c5 c6 c7; rw [HQ.out] at c0; rw [HP.out] at c1; rw [HF.out] at c2; rw [HG.out] at c3; clear AT hbn; have hoz := ho9; have hx9 := hx3.below hu; have hsz := hu.size; clear ho9))
    | (at_builtin; have _t := hoz; clear _t; go_must (obtain ⟨i0, hi, hz0, hz1, hz2⟩ := info_parts info5; refine wpl_append rfl (.tmp 73) (.tmp 74) 26 rfl .u8 _ 5 1 i0 (.int .u8 0) Try.underlying26 hi hz0 hz1 hz2 rfl v9 _ L6 X rfl rfl hoz hx9 K3 K4 hb89 ?_; clear hi hz0 hz1 hz2; intro v10 u10 ho10 hgn; have hfin := hu.grown hgn hu.size (fun q e => by have := (hoz.lt q e).1; omega))))
  go_ret2
  rw [HE.out]
  exact ⟨_, rfl, ho10.mono (by omega), hb13.trans (hfin.mono hb13.size)⟩
set_option maxRecDepth 100000 in
set_option maxHeartbeats 1600000 in
theorem putM_5_1100 (m : M) (p : Option Addr) (c : Nat) (X : List Int) (w : World) (hr : ReadsL w (.slice p m.avps.length c) m.avps) (hok : m.ok) (hd : ∀ a ∈ m.avps, a.data.length ≤ 140737488355300) (h1 : m.code ≤ 16777215) (h3 : putOf m.avps = (X, 0)) (h4 : 20 + X.length ≤ 4096) (hq : m.req = true) (hp : m.prox = true) (hf : m.fail = false) (hg : m.again = false) :
    Calls Try.prog 12 #[.agg (rowM m (.slice p m.avps.length c))] w (PutIs w (putM m)) := by
  obtain ⟨⟨o1, o1'⟩, ⟨o2, o2'⟩, ⟨o3, o3'⟩, ⟨o4, o4'⟩, o5⟩ := hok
  have hone : (Value.slice p m.avps.length c).oneCell' = true := rfl
  have h2 : mixB m = false := by unfold mixB; rw [hq, hf, hg]; rfl
  have hfl : flagM m = 192 := by rw [flag_rows m _ _ _ _ hq hp hf hg]; rfl
  have hX := (put_ok h3 o5).2.2.1
  have PP := Lib.hid (fun u (h : ReadsL u (.slice p m.avps.length c) m.avps) => by have := refPutAll _ m.avps u h (fun a ha => ⟨o5 a ha, hd a ha⟩); rwa [h3] at this)
  have HR := Lib.hid hr
  obtain ⟨L1, hL1⟩ : ∃ L, putted [1] ((X.length : Int) + 20) 3 = L := ⟨_, rfl⟩
  obtain ⟨L2, hL2⟩ : ∃ L, L1 ++ [(192 : Int)] = L := ⟨_, rfl⟩
  obtain ⟨L3, hL3⟩ : ∃ L, putted L2 m.code 3 = L := ⟨_, rfl⟩
  obtain ⟨L4, hL4⟩ : ∃ L, putted L3 m.app 4 = L := ⟨_, rfl⟩
  obtain ⟨L5, hL5⟩ : ∃ L, putted L4 m.hop 4 = L := ⟨_, rfl⟩
  obtain ⟨L6, hL6⟩ : ∃ L, putted L5 m.fin 4 = L := ⟨_, rfl⟩
  have e1 : L1.length = 4 := by rw [← hL1, putted3_len]; rfl
  have e2 : L2.length = 5 := by rw [← hL2, List.length_append, e1]; rfl
  have e3 : L3.length = 8 := by rw [← hL3, putted3_len, e2]
  have e4 : L4.length = 12 := by rw [← hL4, putted4_len, e3]
  have e5 : L5.length = 16 := by rw [← hL5, putted4_len, e4]
  have e6 : L6.length = 20 := by rw [← hL6, putted4_len, e5]
  have P1 := Lib.hid (fun v u (h : Reads .u8 u v [1]) => by have := refPut v [1] ((X.length : Int) + 20) 3 u (by omega) h (by simp); rwa [hL1] at this)
  have P2 := Lib.hid (fun v u (h : Reads .u8 u v L2) => by have := refPut v L2 m.code 3 u (by omega) h (by omega); rwa [hL3] at this)
  have P3 := Lib.hid (fun v u (h : Reads .u8 u v L3) => by have := refPut v L3 m.app 4 u (by omega) h (by omega); rwa [hL4] at this)
  have P4 := Lib.hid (fun v u (h : Reads .u8 u v L4) => by have := refPut v L4 m.hop 4 u (by omega) h (by omega); rwa [hL5] at this)
  have P5 := Lib.hid (fun v u (h : Reads .u8 u v L5) => by have := refPut v L5 m.fin 4 u (by omega) h (by omega); rwa [hL6] at this)
  have e : putM m = (L6 ++ X, 0) := by
    unfold putM headM
    rw [if_neg (by omega), if_neg (by rw [h2]; decide), h3, if_neg (by simp), if_neg (show ¬ 4096 < 20 + X.length by omega), hfl, ← hL6, ← hL5, ← hL4, ← hL3, ← hL2, ← hL1, putted4, putted4, putted4, putted3, putted3, show (20 : Int) + X.length = X.length + 20 from Int.add_comm _ _]
  have HE := Lib.hid e
  have HQ := Lib.hid hq
  have HP := Lib.hid hp
  have HF := Lib.hid hf
  have HG := Lib.hid hg
  have HL2 := Lib.hid hL2
  have K1 : L1.length + [(192 : Int)].length ≤ maxLen := by simp [maxLen]; omega
  have K2 : (L1.length + [(192 : Int)].length) * 1 ≤ 140737488355328 := by simp; omega
  have K3 : L6.length + X.length ≤ maxLen := by simp [maxLen]; omega
  have K4 : (L6.length + X.length) * 1 ≤ 140737488355328 := by omega
  clear e hr hd h3 o5 hq hp hf hg hfl hL1 hL2 hL3 hL4 hL5 hL6 e1 e2 e3 e4 e5 e6
  go_enter Try.func12, Try.ntmps12
  go_wp2_with (first
    | ((with_reducible refine wpl_boxAt rfl 25 (.tmp 0) rfl (rowM m (.slice p m.avps.length c)) ?_ ?_); rfl; go_must (intro w1 hat1 hb1 hs1; have HS1 := Lib.hid hs1; have c4 := hat1.cell 4; simp [rowM] at c4; clear hs1))
    | ((with_reducible refine wpl_loadAt rfl 25 (.tmp 1) rfl w.heap.size 25 (rowM m (.slice p m.avps.length c)) hat1 _ Try.underlying25 rfl (by kernel_rfl) ?_ ?_); rfl) | (go_at_call 33; go_must (refine (refMixed m _ _ hone).mono ?_; rintro e w2 ⟨rfl, hb2⟩; have hb12 := hb1.trans (hb2.mono hb1.size); have hat2 := hat1.ext hb2; have c8 := hat2.cell 8; simp [rowM] at c8; clear hat1 hb2))
    | (go_at_call 34; go_must (refine (PP.out _ (HR.out.below hb12)).mono ?_; rintro e w3 ⟨v3, rfl, hv3, hb3⟩; have hb13 := hb12.trans (hb3.mono hb12.size); have hat3 := hat2.ext hb3; clear hat2 hb3 c4 c8; obtain ⟨px, cx, rfl, _, _, _, _⟩ := id hv3.reads; have hx3 := hv3.reads; have AT := hat3; have c0 := AT.cell 0; have c1 := AT.cell 1; have c2 := AT.cell 2; have c3 := AT.cell 3; have c4 := AT.cell 4; have c5 := AT.cell 5; have c6 := AT.cell 6; have c7 := AT.cell 7; simp [rowM] at c0 c1 c2 c3 c4 c5 c6 c7; rw [HQ.out] at c0; rw [HP.out] at c1; rw [HF.out] at c2; rw [HG.out] at c3; clear AT; have hu := Below.refl w3.heap.size w3; have hg3 := hb13.size; have T1 := hg3; have hrd1 := Reads.one .u8 w3 1 5; have hw3 := (Below.refl w3.heap.size w3).alloc (Nat.le_refl _) (.cells #[.int .u8 1] 5)))
    | (go_at_call 14; have _t := P1; clear _t; go_must (refine (P1.out _ _ hrd1).mono ?_; clear P1; rintro e u4 ⟨v4, rfl, ho4, hbn⟩; have hu1 := hw3.trans (hbn.mono (by simp)); clear hu hw3; have hu := hu1; clear hu1; clear hrd1 c0 c1 c2 c3 c4 c5 c6 c7; have AT := hat3.ext hu; have c0 := AT.cell 0; have c1 := AT.cell 1; have c2 := AT.cell 2; have c3 := AT.cell 3; have c4 := AT.cell 4; have c5 := AT.cell 5; have c6 := AT.cell 6; have c7 := AT.cell 7; simp [rowM] at c0 c1 c2 c3 c4 c5 c6 c7; rw [HQ.out] at c0; rw [HP.out] at c1; rw [HF.out] at c2; rw [HG.out] at c3; clear AT hbn; have hob := ho4.alloc (.cells #[.int .u8 192] 5); have hbb : w3.heap.size ≤ u4.heap.size := hu.size; clear T1))
    | (at_builtin; have _t := hob; clear _t; go_must (obtain ⟨i0, hi, hz0, hz1, hz2⟩ := info_parts info5; refine wpl_append rfl (.tmp 48) (.tmp 51) 26 rfl .u8 _ 5 1 i0 (.int .u8 0) Try.underlying26 hi hz0 hz1 hz2 rfl v4 _ L1 [(192 : Int)] rfl rfl hob (Reads.one .u8 u4 _ _) K1 K2 (by simp; omega) ?_; clear hi hz0 hz1 hz2; intro v5 u5 ho5 hgn; rw [HL2.out] at ho5; have hua := hu.alloc hu.size (.cells #[.int .u8 192] 5); have hu1 := hua.grown hgn hua.size (fun q e => by have := (ho4.lt q e).1; simp at this; omega); clear hu hob ho4 c0 c1 c2 c3 c4 c5 c6 c7 hua hgn hbb; have hu := hu1; clear hu1; have AT := hat3.ext hu; have c0 := AT.cell 0; have c1 := AT.cell 1; have c2 := AT.cell 2; have c3 := AT.cell 3; have c4 := AT.cell 4; have c5 := AT.cell 5; have c6 := AT.cell 6; have c7 := AT.cell 7; simp [rowM] at c0 c1 c2 c3 c4 c5 c6 c7; rw [HQ.out] at c0; rw [HP.out] at c1; rw [HF.out] at c2; rw [HG.out] at c3; clear AT; have hrd2 := ho5.reads; clear ho5))
    | (go_at_call 14; have _t := P2; clear _t; go_must (refine (P2.out _ _ hrd2).mono ?_; clear P2; rintro e u6 ⟨v6, rfl, ho6, hbn⟩; have hu1 := hu.trans (hbn.mono hu.size); clear hu; have hu := hu1; clear hu1; clear hrd2 c0 c1 c2 c3 c4 c5 c6 c7; have AT := hat3.ext hu; have c0 := AT.cell 0; have c1 := AT.cell 1; have c2 := AT.cell 2; have c3 := AT.cell 3; have c4 := AT.cell 4; have c5 := AT.cell 5; have c6 := AT.cell 6; have c7 := AT.cell 7; simp [rowM] at c0 c1 c2 c3 c4 c5 c6 c7; rw [HQ.out] at c0; rw [HP.out] at c1; rw [HF.out] at c2; rw [HG.out] at c3; clear AT hbn; have hrd3 := ho6.reads; clear ho6))
    | (go_at_call 14; have _t := P3; clear _t; go_must (refine (P3.out _ _ hrd3).mono ?_; clear P3; rintro e u7 ⟨v7, rfl, ho7, hbn⟩; have hu1 := hu.trans (hbn.mono hu.size); clear hu; have hu := hu1; clear hu1; clear hrd3 c0 c1 c2 c3 c4 c5 c6 c7; have AT := hat3.ext hu; have c0 := AT.cell 0; have c1 := AT.cell 1; have c2 := AT.cell 2; have c3 := AT.cell 3; have c4 := AT.cell 4; have c5 := AT.cell 5; have c6 := AT.cell 6; have c7 := AT.cell 7; simp [rowM] at c0 c1 c2 c3 c4 c5 c6 c7; rw [HQ.out] at c0; rw [HP.out] at c1; rw [HF.out] at c2; rw [HG.out] at c3; clear AT hbn; have hrd4 := ho7.reads; clear ho7))
    | (go_at_call 14; have _t := P4; clear _t; go_must (refine (P4.out _ _ hrd4).mono ?_; clear P4; rintro e u8 ⟨v8, rfl, ho8, hbn⟩; have hu1 := hu.trans (hbn.mono hu.size); clear hu; have hu := hu1; clear hu1; clear hrd4 c0 c1 c2 c3 c4 c5 c6 c7; have AT := hat3.ext hu; have c0 := AT.cell 0; have c1 := AT.cell 1; have c2 := AT.cell 2; have c3 := AT.cell 3; have c4 := AT.cell 4; have c5 := AT.cell 5; have c6 := AT.cell 6; have c7 := AT.cell 7; simp [rowM] at c0 c1 c2 c3 c4 c5 c6 c7; rw [HQ.out] at c0; rw [HP.out] at c1; rw [HF.out] at c2; rw [HG.out] at c3; clear AT hbn; have hrd5 := ho8.reads; clear ho8))
    | (go_at_call 14; have _t := P5; clear _t; go_must (refine (P5.out _ _ hrd5).mono ?_; clear P5; rintro e u9 ⟨v9, rfl, ho9, hbn⟩; have hb8 := hu.size; have hb89 := hbn.size; have hu1 := hu.trans (hbn.mono hu.size); clear hu; have hu := hu1; clear hu1; clear hrd5 c0 c1 c2 c3 c4 c5 c6 c7; have AT := hat3.ext hu; have c0 := AT.cell 0; have c1 := AT.cell 1; have c2 := AT.cell 2; have c3 := AT.cell 3; have c4 := AT.cell 4; have c5 := AT.cell 5; have c6 := AT.cell 6; have c7 := AT.cell 7; simp [rowM] at c0 c1 c2 c3 c4 c5 c6 c7; rw [HQ.out] at c0; rw [HP.out] at c1; rw [HF.out] at c2; rw [HG.out] at c3; clear AT hbn; have hoz := ho9; have hx9 := hx3.below hu; have hsz := hu.size; clear ho9))
    | (at_builtin; have _t := hoz; clear _t; go_must (obtain ⟨i0, hi, hz0, hz1, hz2⟩ := info_parts info5; refine wpl_append rfl (.tmp 73) (.tmp 74) 26 rfl .u8 _ 5 1 i0 (.int .u8 0) Try.underlying26 hi hz0 hz1 hz2 rfl v9 _ L6 X rfl rfl hoz hx9 K3 K4 hb89 ?_; clear hi hz0 hz1 hz2; intro v10 u10 ho10 hgn; have hfin := hu.grown hgn hu.size (fun q e => by have := (hoz.lt q e).1; omega))))
  go_ret2
  rw [HE.out]
  exact ⟨_, rfl, ho10.mono (by omega), hb13.trans (hfin.mono hb13.size)⟩
set_option maxRecDepth 100000 in
set_option maxHeartbeats 1600000 in
theorem putM_5_1101 (m : M) (p : Option Addr) (c : Nat) (X : List Int) (w : World) (hr : ReadsL w (.slice p m.avps.length c) m.avps) (hok : m.ok) (hd : ∀ a ∈ m.avps, a.data.length ≤ 140737488355300) (h1 : m.code ≤ 16777215) (h3 : putOf m.avps = (X, 0)) (h4 : 20 + X.length ≤ 4096) (hq : m.req = true) (hp : m.prox = true) (hf : m.fail = false) (hg : m.again = true) :
    Calls Try.prog 12 #[.agg (rowM m (.slice p m.avps.length c))] w (PutIs w (putM m)) := by
  obtain ⟨⟨o1, o1'⟩, ⟨o2, o2'⟩, ⟨o3, o3'⟩, ⟨o4, o4'⟩, o5⟩ := hok
  have hone : (Value.slice p m.avps.length c).oneCell' = true := rfl
  have h2 : mixB m = false := by unfold mixB; rw [hq, hf, hg]; rfl
  have hfl : flagM m = 208 := by rw [flag_rows m _ _ _ _ hq hp hf hg]; rfl
  have hX := (put_ok h3 o5).2.2.1
  have PP := Lib.hid (fun u (h : ReadsL u (.slice p m.avps.length c) m.avps) => by have := refPutAll _ m.avps u h (fun a ha => ⟨o5 a ha, hd a ha⟩); rwa [h3] at this)
  have HR := Lib.hid hr
  obtain ⟨L1, hL1⟩ : ∃ L, putted [1] ((X.length : Int) + 20) 3 = L := ⟨_, rfl⟩
  obtain ⟨L2, hL2⟩ : ∃ L, L1 ++ [(208 : Int)] = L := ⟨_, rfl⟩
  obtain ⟨L3, hL3⟩ : ∃ L, putted L2 m.code 3 = L := ⟨_, rfl⟩
  obtain ⟨L4, hL4⟩ : ∃ L, putted L3 m.app 4 = L := ⟨_, rfl⟩
  obtain ⟨L5, hL5⟩ : ∃ L, putted L4 m.hop 4 = L := ⟨_, rfl⟩
  obtain ⟨L6, hL6⟩ : ∃ L, putted L5 m.fin 4 = L := ⟨_, rfl⟩
  have e1 : L1.length = 4 := by rw [← hL1, putted3_len]; rfl
  have e2 : L2.length = 5 := by rw [← hL2, List.length_append, e1]; rfl
  have e3 : L3.length = 8 := by rw [← hL3, putted3_len, e2]
  have e4 : L4.length = 12 := by rw [← hL4, putted4_len, e3]
  have e5 : L5.length = 16 := by rw [← hL5, putted4_len, e4]
  have e6 : L6.length = 20 := by rw [← hL6, putted4_len, e5]
  have P1 := Lib.hid (fun v u (h : Reads .u8 u v [1]) => by have := refPut v [1] ((X.length : Int) + 20) 3 u (by omega) h (by simp); rwa [hL1] at this)
  have P2 := Lib.hid (fun v u (h : Reads .u8 u v L2) => by have := refPut v L2 m.code 3 u (by omega) h (by omega); rwa [hL3] at this)
  have P3 := Lib.hid (fun v u (h : Reads .u8 u v L3) => by have := refPut v L3 m.app 4 u (by omega) h (by omega); rwa [hL4] at this)
  have P4 := Lib.hid (fun v u (h : Reads .u8 u v L4) => by have := refPut v L4 m.hop 4 u (by omega) h (by omega); rwa [hL5] at this)
  have P5 := Lib.hid (fun v u (h : Reads .u8 u v L5) => by have := refPut v L5 m.fin 4 u (by omega) h (by omega); rwa [hL6] at this)
  have e : putM m = (L6 ++ X, 0) := by
    unfold putM headM
    rw [if_neg (by omega), if_neg (by rw [h2]; decide), h3, if_neg (by simp), if_neg (show ¬ 4096 < 20 + X.length by omega), hfl, ← hL6, ← hL5, ← hL4, ← hL3, ← hL2, ← hL1, putted4, putted4, putted4, putted3, putted3, show (20 : Int) + X.length = X.length + 20 from Int.add_comm _ _]
  have HE := Lib.hid e
  have HQ := Lib.hid hq
  have HP := Lib.hid hp
  have HF := Lib.hid hf
  have HG := Lib.hid hg
  have HL2 := Lib.hid hL2
  have K1 : L1.length + [(208 : Int)].length ≤ maxLen := by simp [maxLen]; omega
  have K2 : (L1.length + [(208 : Int)].length) * 1 ≤ 140737488355328 := by simp; omega
  have K3 : L6.length + X.length ≤ maxLen := by simp [maxLen]; omega
  have K4 : (L6.length + X.length) * 1 ≤ 140737488355328 := by omega
  clear e hr hd h3 o5 hq hp hf hg hfl hL1 hL2 hL3 hL4 hL5 hL6 e1 e2 e3 e4 e5 e6
  go_enter Try.func12, Try.ntmps12
  go_wp2_with (first
    | ((with_reducible refine wpl_boxAt rfl 25 (.tmp 0) rfl (rowM m (.slice p m.avps.length c)) ?_ ?_); rfl; go_must (intro w1 hat1 hb1 hs1; have HS1 := Lib.hid hs1; have c4 := hat1.cell 4; simp [rowM] at c4; clear hs1))
    | ((with_reducible refine wpl_loadAt rfl 25 (.tmp 1) rfl w.heap.size 25 (rowM m (.slice p m.avps.length c)) hat1 _ Try.underlying25 rfl (by kernel_rfl) ?_ ?_); rfl) | (go_at_call 33; go_must (refine (refMixed m _ _ hone).mono ?_; rintro e w2 ⟨rfl, hb2⟩; have hb12 := hb1.trans (hb2.mono hb1.size); have hat2 := hat1.ext hb2; have c8 := hat2.cell 8; simp [rowM] at c8; clear hat1 hb2))
    | (go_at_call 34; go_must (refine (PP.out _ (HR.out.below hb12)).mono ?_; rintro e w3 ⟨v3, rfl, hv3, hb3⟩; have hb13 := hb12.trans (hb3.mono hb12.size); have hat3 := hat2.ext hb3; clear hat2 hb3 c4 c8; obtain ⟨px, cx, rfl, _, _, _, _⟩ := id hv3.reads; have hx3 := hv3.reads; have AT := hat3; have c0 := AT.cell 0; have c1 := AT.cell 1; have c2 := AT.cell 2; have c3 := AT.cell 3; have c4 := AT.cell 4; have c5 := AT.cell 5; have c6 := AT.cell 6; have c7 := AT.cell 7; simp [rowM] at c0 c1 c2 c3 c4 c5 c6 c7; rw [HQ.out] at c0; rw [HP.out] at c1; rw [HF.out] at c2; rw [HG.out] at c3; clear AT; have hu := Below.refl w3.heap.size w3; have hg3 := hb13.size; have T1 := hg3; have hrd1 := Reads.one .u8 w3 1 5; have hw3 := (Below.refl w3.heap.size w3).alloc (Nat.le_refl _) (.cells #[.int .u8 1] 5)))
    | (go_at_call 14; have _t := P1; clear _t; go_must (refine (P1.out _ _ hrd1).mono ?_; clear P1; rintro e u4 ⟨v4, rfl, ho4, hbn⟩; have hu1 := hw3.trans (hbn.mono (by simp)); clear hu hw3; have hu := hu1; clear hu1; clear hrd1 c0 c1 c2 c3 c4 c5 c6 c7; have AT := hat3.ext hu; have c0 := AT.cell 0; have c1 := AT.cell 1; have c2 := AT.cell 2; have c3 := AT.cell 3; have c4 := AT.cell 4; have c5 := AT.cell 5; have c6 := AT.cell 6; have c7 := AT.cell 7; simp [rowM] at c0 c1 c2 c3 c4 c5 c6 c7; rw [HQ.out] at c0; rw [HP.out] at c1; rw [HF.out] at c2; rw [HG.out] at c3; clear AT hbn; have hob := ho4.alloc (.cells #[.int .u8 208] 5); have hbb : w3.heap.size ≤ u4.heap.size := hu.size; clear T1))
    | (at_builtin; have _t := hob; clear _t; go_must (obtain ⟨i0, hi, hz0, hz1, hz2⟩ := info_parts info5; refine wpl_append rfl (.tmp 48) (.tmp 51) 26 rfl .u8 _ 5 1 i0 (.int .u8 0) Try.underlying26 hi hz0 hz1 hz2 rfl v4 _ L1 [(208 : Int)] rfl rfl hob (Reads.one .u8 u4 _ _) K1 K2 (by simp; omega) ?_; clear hi hz0 hz1 hz2; intro v5 u5 ho5 hgn; rw [HL2.out] at ho5; have hua := hu.alloc hu.size (.cells #[.int .u8 208] 5); have hu1 := hua.grown hgn hua.size (fun q e => by have := (ho4.lt q e).1; simp at this; omega); clear hu hob ho4 c0 c1 c2 c3 c4 c5 c6 c7 hua hgn hbb; have hu := hu1; clear hu1; have AT := hat3.ext hu; have c0 := AT.cell 0; have c1 := AT.cell 1; have c2 := AT.cell 2; have c3 := AT.cell 3; have c4 := AT.cell 4; have c5 := AT.cell 5; have c6 := AT.cell 6; have c7 := AT.cell 7; simp [rowM] at c0 c1 c2 c3 c4 c5 c6 c7; rw [HQ.out] at c0; rw [HP.out] at c1; rw [HF.out] at c2; rw [HG.out] at c3; clear AT; have hrd2 := ho5.reads; clear ho5))
    | (go_at_call 14; have _t := P2; clear _t; go_must (refine (P2.out _ _ hrd2).mono ?_; clear P2; rintro e u6 ⟨v6, rfl, ho6, hbn⟩; have hu1 := hu.trans (hbn.mono hu.size); clear hu; have hu := hu1; clear hu1; clear hrd2 c0 c1 c2 c3 c4 c5 c6 c7; have AT := hat3.ext hu; have c0 := AT.cell 0; have c1 := AT.cell 1; have c2 := AT.cell 2; have c3 := AT.cell 3; have c4 := AT.cell 4; have c5 := AT.cell 5; have c6 := AT.cell 6; have c7 := AT.cell 7; simp [rowM] at c0 c1 c2 c3 c4 c5 c6 c7; rw [HQ.out] at c0; rw [HP.out] at c1; rw [HF.out] at c2; rw [HG.out] at c3; clear AT hbn; have hrd3 := ho6.reads; clear ho6))
    | (go_at_call 14; have _t := P3; clear _t; go_must (refine (P3.out _ _ hrd3).mono ?_; clear P3; rintro e u7 ⟨v7, rfl, ho7, hbn⟩; have hu1 := hu.trans (hbn.mono hu.size); clear hu; have hu := hu1; clear hu1; clear hrd3 c0 c1 c2 c3 c4 c5 c6 c7; have AT := hat3.ext hu; have c0 := AT.cell 0; have c1 := AT.cell 1; have c2 := AT.cell 2; have c3 := AT.cell 3; have c4 := AT.cell 4; have c5 := AT.cell 5; have c6 := AT.cell 6; have c7 := AT.cell 7; simp [rowM] at c0 c1 c2 c3 c4 c5 c6 c7; rw [HQ.out] at c0; rw [HP.out] at c1; rw [HF.out] at c2; rw [HG.out] at c3; clear AT hbn; have hrd4 := ho7.reads; clear ho7))
    | (go_at_call 14; have _t := P4; clear _t; go_must (refine (P4.out _ _ hrd4).mono ?_; clear P4; rintro e u8 ⟨v8, rfl, ho8, hbn⟩; have hu1 := hu.trans (hbn.mono hu.size); clear hu; have hu := hu1; clear hu1; clear hrd4 c0 c1 c2 c3 c4 c5 c6 c7; have AT := hat3.ext hu; have c0 := AT.cell 0; have c1 := AT.cell 1; have c2 := AT.cell 2; have c3 := AT.cell 3; have c4 := AT.cell 4; have c5 := AT.cell 5; have c6 := AT.cell 6; have c7 := AT.cell 7; simp [rowM] at c0 c1 c2 c3 c4 c5 c6 c7; rw [HQ.out] at c0; rw [HP.out] at c1; rw [HF.out] at c2; rw [HG.out] at c3; clear AT hbn; have hrd5 := ho8.reads; clear ho8))
    | (go_at_call 14; have _t := P5; clear _t; go_must (refine (P5.out _ _ hrd5).mono ?_; clear P5; rintro e u9 ⟨v9, rfl, ho9, hbn⟩; have hb8 := hu.size; have hb89 := hbn.size; have hu1 := hu.trans (hbn.mono hu.size); clear hu; have hu := hu1; clear hu1; clear hrd5 c0 c1 c2 c3 c4 c5 c6 c7; have AT := hat3.ext hu; have c0 := AT.cell 0; have c1 := AT.cell 1; have c2 := AT.cell 2; have c3 := AT.cell 3; have c4 := AT.cell 4; have c5 := AT.cell 5; have c6 := AT.cell 6; have c7 := AT.cell 7; simp [rowM] at c0 c1 c2 c3 c4 c5 c6 c7; rw [HQ.out] at c0; rw [HP.out] at c1; rw [HF.out] at c2; rw [HG.out] at c3; clear AT hbn; have hoz := ho9; have hx9 := hx3.below hu; have hsz := hu.size; clear ho9))
    | (at_builtin; have _t := hoz; clear _t; go_must (obtain ⟨i0, hi, hz0, hz1, hz2⟩ := info_parts info5; refine wpl_append rfl (.tmp 73) (.tmp 74) 26 rfl .u8 _ 5 1 i0 (.int .u8 0) Try.underlying26 hi hz0 hz1 hz2 rfl v9 _ L6 X rfl rfl hoz hx9 K3 K4 hb89 ?_; clear hi hz0 hz1 hz2; intro v10 u10 ho10 hgn; have hfin := hu.grown hgn hu.size (fun q e => by have := (hoz.lt q e).1; omega))))
  go_ret2
  rw [HE.out]
  exact ⟨_, rfl, ho10.mono (by omega), hb13.trans (hfin.mono hb13.size)⟩
set_option maxRecDepth 100000 in
set_option maxHeartbeats 1600000 in
theorem putM_5_0000 (m : M) (p : Option Addr) (c : Nat) (X : List Int) (w : World) (hr : ReadsL w (.slice p m.avps.length c) m.avps) (hok : m.ok) (hd : ∀ a ∈ m.avps, a.data.length ≤ 140737488355300) (h1 : m.code ≤ 16777215) (h3 : putOf m.avps = (X, 0)) (h4 : 20 + X.length ≤ 4096) (hq : m.req = false) (hp : m.prox = false) (hf : m.fail = false) (hg : m.again = false) :
    Calls Try.prog 12 #[.agg (rowM m (.slice p m.avps.length c))] w (PutIs w (putM m)) := by
  obtain ⟨⟨o1, o1'⟩, ⟨o2, o2'⟩, ⟨o3, o3'⟩, ⟨o4, o4'⟩, o5⟩ := hok
  have hone : (Value.slice p m.avps.length c).oneCell' = true := rfl
  have h2 : mixB m = false := by unfold mixB; rw [hq, hf, hg]; rfl
  have hfl : flagM m = 0 := by rw [flag_rows m _ _ _ _ hq hp hf hg]; rfl
  have hX := (put_ok h3 o5).2.2.1
  have PP := Lib.hid (fun u (h : ReadsL u (.slice p m.avps.length c) m.avps) => by have := refPutAll _ m.avps u h (fun a ha => ⟨o5 a ha, hd a ha⟩); rwa [h3] at this)
  have HR := Lib.hid hr
  obtain ⟨L1, hL1⟩ : ∃ L, putted [1] ((X.length : Int) + 20) 3 = L := ⟨_, rfl⟩
  obtain ⟨L2, hL2⟩ : ∃ L, L1 ++ [(0 : Int)] = L := ⟨_, rfl⟩
  obtain ⟨L3, hL3⟩ : ∃ L, putted L2 m.code 3 = L := ⟨_, rfl⟩
  obtain ⟨L4, hL4⟩ : ∃ L, putted L3 m.app 4 = L := ⟨_, rfl⟩
  obtain ⟨L5, hL5⟩ : ∃ L, putted L4 m.hop 4 = L := ⟨_, rfl⟩
  obtain ⟨L6, hL6⟩ : ∃ L, putted L5 m.fin 4 = L := ⟨_, rfl⟩
  have e1 : L1.length = 4 := by rw [← hL1, putted3_len]; rfl
  have e2 : L2.length = 5 := by rw [← hL2, List.length_append, e1]; rfl
  have e3 : L3.length = 8 := by rw [← hL3, putted3_len, e2]
  have e4 : L4.length = 12 := by rw [← hL4, putted4_len, e3]
  have e5 : L5.length = 16 := by rw [← hL5, putted4_len, e4]
  have e6 : L6.length = 20 := by rw [← hL6, putted4_len, e5]
  have P1 := Lib.hid (fun v u (h : Reads .u8 u v [1]) => by have := refPut v [1] ((X.length : Int) + 20) 3 u (by omega) h (by simp); rwa [hL1] at this)
  have P2 := Lib.hid (fun v u (h : Reads .u8 u v L2) => by have := refPut v L2 m.code 3 u (by omega) h (by omega); rwa [hL3] at this)
  have P3 := Lib.hid (fun v u (h : Reads .u8 u v L3) => by have := refPut v L3 m.app 4 u (by omega) h (by omega); rwa [hL4] at this)
  have P4 := Lib.hid (fun v u (h : Reads .u8 u v L4) => by have := refPut v L4 m.hop 4 u (by omega) h (by omega); rwa [hL5] at this)
  have P5 := Lib.hid (fun v u (h : Reads .u8 u v L5) => by have := refPut v L5 m.fin 4 u (by omega) h (by omega); rwa [hL6] at this)
  have e : putM m = (L6 ++ X, 0) := by
    unfold putM headM
    rw [if_neg (by omega), if_neg (by rw [h2]; decide), h3, if_neg (by simp), if_neg (show ¬ 4096 < 20 + X.length by omega), hfl, ← hL6, ← hL5, ← hL4, ← hL3, ← hL2, ← hL1, putted4, putted4, putted4, putted3, putted3, show (20 : Int) + X.length = X.length + 20 from Int.add_comm _ _]
  have HE := Lib.hid e
  have HQ := Lib.hid hq
  have HP := Lib.hid hp
  have HF := Lib.hid hf
  have HG := Lib.hid hg
  have HL2 := Lib.hid hL2
  have K1 : L1.length + [(0 : Int)].length ≤ maxLen := by simp [maxLen]; omega
  have K2 : (L1.length + [(0 : Int)].length) * 1 ≤ 140737488355328 := by simp; omega
  have K3 : L6.length + X.length ≤ maxLen := by simp [maxLen]; omega
  have K4 : (L6.length + X.length) * 1 ≤ 140737488355328 := by omega
  clear e hr hd h3 o5 hq hp hf hg hfl hL1 hL2 hL3 hL4 hL5 hL6 e1 e2 e3 e4 e5 e6
  go_enter Try.func12, Try.ntmps12
  go_wp2_with (first
    | ((with_reducible refine wpl_boxAt rfl 25 (.tmp 0) rfl (rowM m (.slice p m.avps.length c)) ?_ ?_); rfl; go_must (intro w1 hat1 hb1 hs1; have HS1 := Lib.hid hs1; have c4 := hat1.cell 4; simp [rowM] at c4; clear hs1))
    | ((with_reducible refine wpl_loadAt rfl 25 (.tmp 1) rfl w.heap.size 25 (rowM m (.slice p m.avps.length c)) hat1 _ Try.underlying25 rfl (by kernel_rfl) ?_ ?_); rfl) | (go_at_call 33; go_must (refine (refMixed m _ _ hone).mono ?_; rintro e w2 ⟨rfl, hb2⟩; have hb12 := hb1.trans (hb2.mono hb1.size); have hat2 := hat1.ext hb2; have c8 := hat2.cell 8; simp [rowM] at c8; clear hat1 hb2))
    | (go_at_call 34; go_must (refine (PP.out _ (HR.out.below hb12)).mono ?_; rintro e w3 ⟨v3, rfl, hv3, hb3⟩; have hb13 := hb12.trans (hb3.mono hb12.size); have hat3 := hat2.ext hb3; clear hat2 hb3 c4 c8; obtain ⟨px, cx, rfl, _, _, _, _⟩ := id hv3.reads; have hx3 := hv3.reads; have AT := hat3; have c0 := AT.cell 0; have c1 := AT.cell 1; have c2 := AT.cell 2; have c3 := AT.cell 3; have c4 := AT.cell 4; have c5 := AT.cell 5; have c6 := AT.cell 6; have c7 := AT.cell 7; simp [rowM] at c0 c1 c2 c3 c4 c5 c6 c7; rw [HQ.out] at c0; rw [HP.out] at c1; rw [HF.out] at c2; rw [HG.out] at c3; clear AT; have hu := Below.refl w3.heap.size w3; have hg3 := hb13.size; have T1 := hg3; have hrd1 := Reads.one .u8 w3 1 5; have hw3 := (Below.refl w3.heap.size w3).alloc (Nat.le_refl _) (.cells #[.int .u8 1] 5)))
    | (go_at_call 14; have _t := P1; clear _t; go_must (refine (P1.out _ _ hrd1).mono ?_; clear P1; rintro e u4 ⟨v4, rfl, ho4, hbn⟩; have hu1 := hw3.trans (hbn.mono (by simp)); clear hu hw3; have hu := hu1; clear hu1; clear hrd1 c0 c1 c2 c3 c4 c5 c6 c7; have AT := hat3.ext hu; have c0 := AT.cell 0; have c1 := AT.cell 1; have c2 := AT.cell 2; have c3 := AT.cell 3; have c4 := AT.cell 4; have c5 := AT.cell 5; have c6 := AT.cell 6; have c7 := AT.cell 7; simp [rowM] at c0 c1 c2 c3 c4 c5 c6 c7; rw [HQ.out] at c0; rw [HP.out] at c1; rw [HF.out] at c2; rw [HG.out] at c3; clear AT hbn; have hob := ho4.alloc (.cells #[.int .u8 0] 5); have hbb : w3.heap.size ≤ u4.heap.size := hu.size; clear T1))
    | (at_builtin; have _t := hob; clear _t; go_must (obtain ⟨i0, hi, hz0, hz1, hz2⟩ := info_parts info5; refine wpl_append rfl (.tmp 48) (.tmp 51) 26 rfl .u8 _ 5 1 i0 (.int .u8 0) Try.underlying26 hi hz0 hz1 hz2 rfl v4 _ L1 [(0 : Int)] rfl rfl hob (Reads.one .u8 u4 _ _) K1 K2 (by simp; omega) ?_; clear hi hz0 hz1 hz2; intro v5 u5 ho5 hgn; rw [HL2.out] at ho5; have hua := hu.alloc hu.size (.cells #[.int .u8 0] 5); have hu1 := hua.grown hgn hua.size (fun q e => by have := (ho4.lt q e).1; simp at this; omega); clear hu hob ho4 c0 c1 c2 c3 c4 c5 c6 c7 hua hgn hbb; have hu := hu1; clear hu1; have AT := hat3.ext hu; have c0 := AT.cell 0; have c1 := AT.cell 1; have c2 := AT.cell 2; have c3 := AT.cell 3; have c4 := AT.cell 4; have c5 := AT.cell 5; have c6 := AT.cell 6; have c7 := AT.cell 7; simp [rowM] at c0 c1 c2 c3 c4 c5 c6 c7; rw [HQ.out] at c0; rw [HP.out] at c1; rw [HF.out] at c2; rw [HG.out] at c3; clear AT; have hrd2 := ho5.reads; clear ho5))
    | (go_at_call 14; have _t := P2; clear _t; go_must (refine (P2.out _ _ hrd2).mono ?_; clear P2; rintro e u6 ⟨v6, rfl, ho6, hbn⟩; have hu1 := hu.trans (hbn.mono hu.size); clear hu; have hu := hu1; clear hu1; clear hrd2 c0 c1 c2 c3 c4 c5 c6 c7; have AT := hat3.ext hu; have c0 := AT.cell 0; have c1 := AT.cell 1; have c2 := AT.cell 2; have c3 := AT.cell 3; have c4 := AT.cell 4; have c5 := AT.cell 5; have c6 := AT.cell 6; have c7 := AT.cell 7; simp [rowM] at c0 c1 c2 c3 c4 c5 c6 c7; rw [HQ.out] at c0; rw [HP.out] at c1; rw [HF.out] at c2; rw [HG.out] at c3; clear AT hbn; have hrd3 := ho6.reads; clear ho6))
    | (go_at_call 14; have _t := P3; clear _t; go_must (refine (P3.out _ _ hrd3).mono ?_; clear P3; rintro e u7 ⟨v7, rfl, ho7, hbn⟩; have hu1 := hu.trans (hbn.mono hu.size); clear hu; have hu := hu1; clear hu1; clear hrd3 c0 c1 c2 c3 c4 c5 c6 c7; have AT := hat3.ext hu; have c0 := AT.cell 0; have c1 := AT.cell 1; have c2 := AT.cell 2; have c3 := AT.cell 3; have c4 := AT.cell 4; have c5 := AT.cell 5; have c6 := AT.cell 6; have c7 := AT.cell 7; simp [rowM] at c0 c1 c2 c3 c4 c5 c6 c7; rw [HQ.out] at c0; rw [HP.out] at c1; rw [HF.out] at c2; rw [HG.out] at c3; clear AT hbn; have hrd4 := ho7.reads; clear ho7))
    | (go_at_call 14; have _t := P4; clear _t; go_must (refine (P4.out _ _ hrd4).mono ?_; clear P4; rintro e u8 ⟨v8, rfl, ho8, hbn⟩; have hu1 := hu.trans (hbn.mono hu.size); clear hu; have hu := hu1; clear hu1; clear hrd4 c0 c1 c2 c3 c4 c5 c6 c7; have AT := hat3.ext hu; have c0 := AT.cell 0; have c1 := AT.cell 1; have c2 := AT.cell 2; have c3 := AT.cell 3; have c4 := AT.cell 4; have c5 := AT.cell 5; have c6 := AT.cell 6; have c7 := AT.cell 7; simp [rowM] at c0 c1 c2 c3 c4 c5 c6 c7; rw [HQ.out] at c0; rw [HP.out] at c1; rw [HF.out] at c2; rw [HG.out] at c3; clear AT hbn; have hrd5 := ho8.reads; clear ho8))
    | (go_at_call 14; have _t := P5; clear _t; go_must (refine (P5.out _ _ hrd5).mono ?_; clear P5; rintro e u9 ⟨v9, rfl, ho9, hbn⟩; have hb8 := hu.size; have hb89 := hbn.size; have hu1 := hu.trans (hbn.mono hu.size); clear hu; have hu := hu1; clear hu1; clear hrd5 c0 c1 c2 c3 c4 c5 c6 c7; have AT := hat3.ext hu; have c0 := AT.cell 0; have c1 := AT.cell 1; have c2 := AT.cell 2; have c3 := AT.cell 3; have c4 := AT.cell 4; have c5 := AT.cell 5; have c6 := AT.cell 6; have c7 := AT.cell 7; simp [rowM] at c0 c1 c2 c3 c4 c5 c6 c7; rw [HQ.out] at c0; rw [HP.out] at c1; rw [HF.out] at c2; rw [HG.out] at c3; clear AT hbn; have hoz := ho9; have hx9 := hx3.below hu; have hsz := hu.size; clear ho9))
    | (at_builtin; have _t := hoz; clear _t; go_must (obtain ⟨i0, hi, hz0, hz1, hz2⟩ := info_parts info5; refine wpl_append rfl (.tmp 73) (.tmp 74) 26 rfl .u8 _ 5 1 i0 (.int .u8 0) Try.underlying26 hi hz0 hz1 hz2 rfl v9 _ L6 X rfl rfl hoz hx9 K3 K4 hb89 ?_; clear hi hz0 hz1 hz2; intro v10 u10 ho10 hgn; have hfin := hu.grown hgn hu.size (fun q e => by have := (hoz.lt q e).1; omega))))
  go_ret2
  rw [HE.out]
  exact ⟨_, rfl, ho10.mono (by omega), hb13.trans (hfin.mono hb13.size)⟩
set_option maxRecDepth 100000 in
set_option maxHeartbeats 1600000 in
theorem putM_5_0010 (m : M) (p : Option Addr) (c : Nat) (X : List Int) (w : World) (hr : ReadsL w (.slice p m.avps.length c) m.avps) (hok : m.ok) (hd : ∀ a ∈ m.avps, a.data.length ≤ 140737488355300) (h1 : m.code ≤ 16777215) (h3 : putOf m.avps = (X, 0)) (h4 : 20 + X.length ≤ 4096) (hq : m.req = false) (hp : m.prox = false) (hf : m.fail = true) (hg : m.again = false) :
    Calls Try.prog 12 #[.agg (rowM m (.slice p m.avps.length c))] w (PutIs w (putM m)) := by
  obtain ⟨⟨o1, o1'⟩, ⟨o2, o2'⟩, ⟨o3, o3'⟩, ⟨o4, o4'⟩, o5⟩ := hok
  have hone : (Value.slice p m.avps.length c).oneCell' = true := rfl
  have h2 : mixB m = false := by unfold mixB; rw [hq, hf, hg]; rfl
  have hfl : flagM m = 32 := by rw [flag_rows m _ _ _ _ hq hp hf hg]; rfl
  have hX := (put_ok h3 o5).2.2.1
  have PP := Lib.hid (fun u (h : ReadsL u (.slice p m.avps.length c) m.avps) => by have := refPutAll _ m.avps u h (fun a ha => ⟨o5 a ha, hd a ha⟩); rwa [h3] at this)
  have HR := Lib.hid hr
  obtain ⟨L1, hL1⟩ : ∃ L, putted [1] ((X.length : Int) + 20) 3 = L := ⟨_, rfl⟩
  obtain ⟨L2, hL2⟩ : ∃ L, L1 ++ [(32 : Int)] = L := ⟨_, rfl⟩
  obtain ⟨L3, hL3⟩ : ∃ L, putted L2 m.code 3 = L := ⟨_, rfl⟩
  obtain ⟨L4, hL4⟩ : ∃ L, putted L3 m.app 4 = L := ⟨_, rfl⟩
  obtain ⟨L5, hL5⟩ : ∃ L, putted L4 m.hop 4 = L := ⟨_, rfl⟩
  obtain ⟨L6, hL6⟩ : ∃ L, putted L5 m.fin 4 = L := ⟨_, rfl⟩
  have e1 : L1.length = 4 := by rw [← hL1, putted3_len]; rfl
  have e2 : L2.length = 5 := by rw [← hL2, List.length_append, e1]; rfl
  have e3 : L3.length = 8 := by rw [← hL3, putted3_len, e2]
  have e4 : L4.length = 12 := by rw [← hL4, putted4_len, e3]
  have e5 : L5.length = 16 := by rw [← hL5, putted4_len, e4]
  have e6 : L6.length = 20 := by rw [← hL6, putted4_len, e5]
  have P1 := Lib.hid (fun v u (h : Reads .u8 u v [1]) => by have := refPut v [1] ((X.length : Int) + 20) 3 u (by omega) h (by simp); rwa [hL1] at this)
  have P2 := Lib.hid (fun v u (h : Reads .u8 u v L2) => by have := refPut v L2 m.code 3 u (by omega) h (by omega); rwa [hL3] at this)
  have P3 := Lib.hid (fun v u (h : Reads .u8 u v L3) => by have := refPut v L3 m.app 4 u (by omega) h (by omega); rwa [hL4] at this)
  have P4 := Lib.hid (fun v u (h : Reads .u8 u v L4) => by have := refPut v L4 m.hop 4 u (by omega) h (by omega); rwa [hL5] at this)
  have P5 := Lib.hid (fun v u (h : Reads .u8 u v L5) => by have := refPut v L5 m.fin 4 u (by omega) h (by omega); rwa [hL6] at this)
  have e : putM m = (L6 ++ X, 0) := by
    unfold putM headM
    rw [if_neg (by omega), if_neg (by rw [h2]; decide), h3, if_neg (by simp), if_neg (show ¬ 4096 < 20 + X.length by omega), hfl, ← hL6, ← hL5, ← hL4, ← hL3, ← hL2, ← hL1, putted4, putted4, putted4, putted3, putted3, show (20 : Int) + X.length = X.length + 20 from Int.add_comm _ _]
  have HE := Lib.hid e
  have HQ := Lib.hid hq
  have HP := Lib.hid hp
  have HF := Lib.hid hf
  have HG := Lib.hid hg
  have HL2 := Lib.hid hL2
  have K1 : L1.length + [(32 : Int)].length ≤ maxLen := by simp [maxLen]; omega
  have K2 : (L1.length + [(32 : Int)].length) * 1 ≤ 140737488355328 := by simp; omega
  have K3 : L6.length + X.length ≤ maxLen := by simp [maxLen]; omega
  have K4 : (L6.length + X.length) * 1 ≤ 140737488355328 := by omega
  clear e hr hd h3 o5 hq hp hf hg hfl hL1 hL2 hL3 hL4 hL5 hL6 e1 e2 e3 e4 e5 e6
  go_enter Try.func12, Try.ntmps12
  go_wp2_with (first
    | ((with_reducible refine wpl_boxAt rfl 25 (.tmp 0) rfl (rowM m (.slice p m.avps.length c)) ?_ ?_); rfl; go_must (intro w1 hat1 hb1 hs1; have HS1 := Lib.hid hs1; have c4 := hat1.cell 4; simp [rowM] at c4; clear hs1))
    | ((with_reducible refine wpl_loadAt rfl 25 (.tmp 1) rfl w.heap.size 25 (rowM m (.slice p m.avps.length c)) hat1 _ Try.underlying25 rfl (by kernel_rfl) ?_ ?_); rfl) | (go_at_call 33; go_must (refine (refMixed m _ _ hone).mono ?_; rintro e w2 ⟨rfl, hb2⟩; have hb12 := hb1.trans (hb2.mono hb1.size); have hat2 := hat1.ext hb2; have c8 := hat2.cell 8; simp [rowM] at c8; clear hat1 hb2))
    | (go_at_call 34; go_must (refine (PP.out _ (HR.out.below hb12)).mono ?_; rintro e w3 ⟨v3, rfl, hv3, hb3⟩; have hb13 := hb12.trans (hb3.mono hb12.size); have hat3 := hat2.ext hb3; clear hat2 hb3 c4 c8; obtain ⟨px, cx, rfl, _, _, _, _⟩ := id hv3.reads; have hx3 := hv3.reads; have AT := hat3; have c0 := AT.cell 0; have c1 := AT.cell 1; have c2 := AT.cell 2; have c3 := AT.cell 3; have c4 := AT.cell 4; have c5 := AT.cell 5; have c6 := AT.cell 6; have c7 := AT.cell 7; simp [rowM] at c0 c1 c2 c3 c4 c5 c6 c7; rw [HQ.out] at c0; rw [HP.out] at c1; rw [HF.out] at c2; rw [HG.out] at c3; clear AT; have hu := Below.refl w3.heap.size w3; have hg3 := hb13.size; have T1 := hg3; have hrd1 := Reads.one .u8 w3 1 5; have hw3 := (Below.refl w3.heap.size w3).alloc (Nat.le_refl _) (.cells #[.int .u8 1] 5)))
    | (go_at_call 14; have _t := P1; clear _t; go_must (refine (P1.out _ _ hrd1).mono ?_; clear P1; rintro e u4 ⟨v4, rfl, ho4, hbn⟩; have hu1 := hw3.trans (hbn.mono (by simp)); clear hu hw3; have hu := hu1; clear hu1; clear hrd1 c0 c1 c2 c3 c4 c5 c6 c7; have AT := hat3.ext hu; have c0 := AT.cell 0; have c1 := AT.cell 1; have c2 := AT.cell 2; have c3 := AT.cell 3; have c4 := AT.cell 4; have c5 := AT.cell 5; have c6 := AT.cell 6; have c7 := AT.cell 7; simp [rowM] at c0 c1 c2 c3 c4 c5 c6 c7; rw [HQ.out] at c0; rw [HP.out] at c1; rw [HF.out] at c2; rw [HG.out] at c3; clear AT hbn; have hob := ho4.alloc (.cells #[.int .u8 32] 5); have hbb : w3.heap.size ≤ u4.heap.size := hu.size; clear T1))
    | (at_builtin; have _t := hob; clear _t; go_must (obtain ⟨i0, hi, hz0, hz1, hz2⟩ := info_parts info5; refine wpl_append rfl (.tmp 48) (.tmp 51) 26 rfl .u8 _ 5 1 i0 (.int .u8 0) Try.underlying26 hi hz0 hz1 hz2 rfl v4 _ L1 [(32 : Int)] rfl rfl hob (Reads.one .u8 u4 _ _) K1 K2 (by simp; omega) ?_; clear hi hz0 hz1 hz2; intro v5 u5 ho5 hgn; rw [HL2.out] at ho5; have hua := hu.alloc hu.size (.cells #[.int .u8 32] 5); have hu1 := hua.grown hgn hua.size (fun q e => by have := (ho4.lt q e).1; simp at this; omega); clear hu hob ho4 c0 c1 c2 c3 c4 c5 c6 c7 hua hgn hbb; have hu := hu1; clear hu1; have AT := hat3.ext hu; have c0 := AT.cell 0; have c1 := AT.cell 1; have c2 := AT.cell 2; have c3 := AT.cell 3; have c4 := AT.cell 4; have c5 := AT.cell 5; have c6 := AT.cell 6; have c7 := AT.cell 7; simp [rowM] at c0 c1 c2 c3 c4 c5 c6 c7; rw [HQ.out] at c0; rw [HP.out] at c1; rw [HF.out] at c2; rw [HG.out] at c3; clear AT; have hrd2 := ho5.reads; clear ho5))
    | (go_at_call 14; have _t := P2; clear _t; go_must (refine (P2.out _ _ hrd2).mono ?_; clear P2; rintro e u6 ⟨v6, rfl, ho6, hbn⟩; have hu1 := hu.trans (hbn.mono hu.size); clear hu; have hu := hu1; clear hu1; clear hrd2 c0 c1 c2 c3 c4 c5 c6 c7; have AT := hat3.ext hu; have c0 := AT.cell 0; have c1 := AT.cell 1; have c2 := AT.cell 2; have c3 := AT.cell 3; have c4 := AT.cell 4; have c5 := AT.cell 5; have c6 := AT.cell 6; have c7 := AT.cell 7; simp [rowM] at c0 c1 c2 c3 c4 c5 c6 c7; rw [HQ.out] at c0; rw [HP.out] at c1; rw [HF.out] at c2; rw [HG.out] at c3; clear AT hbn; have hrd3 := ho6.reads; clear ho6))
    | (go_at_call 14; have _t := P3; clear _t; go_must (refine (P3.out _ _ hrd3).mono ?_; clear P3; rintro e u7 ⟨v7, rfl, ho7, hbn⟩; have hu1 := hu.trans (hbn.mono hu.size); clear hu; have hu := hu1; clear hu1; clear hrd3 c0 c1 c2 c3 c4 c5 c6 c7; have AT := hat3.ext hu; have c0 := AT.cell 0; have c1 := AT.cell 1; have c2 := AT.cell 2; have c3 := AT.cell 3; have c4 := AT.cell 4; have c5 := AT.cell 5; have c6 := AT.cell 6; have c7 := AT.cell 7; simp [rowM] at c0 c1 c2 c3 c4 c5 c6 c7; rw [HQ.out] at c0; rw [HP.out] at c1; rw [HF.out] at c2; rw [HG.out] at c3; clear AT hbn; have hrd4 := ho7.reads; clear ho7))
    | (go_at_call 14; have _t := P4; clear _t; go_must (refine (P4.out _ _ hrd4).mono ?_; clear P4; rintro e u8 ⟨v8, rfl, ho8, hbn⟩; have hu1 := hu.trans (hbn.mono hu.size); clear hu; have hu := hu1; clear hu1; clear hrd4 c0 c1 c2 c3 c4 c5 c6 c7; have AT := hat3.ext hu; have c0 := AT.cell 0; have c1 := AT.cell 1; have c2 := AT.cell 2; have c3 := AT.cell 3; have c4 := AT.cell 4; have c5 := AT.cell 5; have c6 := AT.cell 6; have c7 := AT.cell 7; simp [rowM] at c0 c1 c2 c3 c4 c5 c6 c7; rw [HQ.out] at c0; rw [HP.out] at c1; rw [HF.out] at c2; rw [HG.out] at c3; clear AT hbn; have hrd5 := ho8.reads; clear ho8))
    | (go_at_call 14; have _t := P5; clear _t; go_must (refine (P5.out _ _ hrd5).mono ?_; clear P5; rintro e u9 ⟨v9, rfl, ho9, hbn⟩; have hb8 := hu.size; have hb89 := hbn.size; have hu1 := hu.trans (hbn.mono hu.size); clear hu; have hu := hu1; clear hu1; clear hrd5 c0 c1 c2 c3 c4 c5 c6 c7; have AT := hat3.ext hu; have c0 := AT.cell 0; have c1 := AT.cell 1; have c2 := AT.cell 2; have c3 := AT.cell 3; have c4 := AT.cell 4; have c5 := AT.cell 5; have c6 := AT.cell 6; have c7 := AT.cell 7; simp [rowM] at c0 c1 c2 c3 c4 c5 c6 c7; rw [HQ.out] at c0; rw [HP.out] at c1; rw [HF.out] at c2; rw [HG.out] at c3; clear AT hbn; have hoz := ho9; have hx9 := hx3.below hu; have hsz := hu.size; clear ho9))
    | (at_builtin; have _t := hoz; clear _t; go_must (obtain ⟨i0, hi, hz0, hz1, hz2⟩ := info_parts info5; refine wpl_append rfl (.tmp 73) (.tmp 74) 26 rfl .u8 _ 5 1 i0 (.int .u8 0) Try.underlying26 hi hz0 hz1 hz2 rfl v9 _ L6 X rfl rfl hoz hx9 K3 K4 hb89 ?_; clear hi hz0 hz1 hz2; intro v10 u10 ho10 hgn; have hfin := hu.grown hgn hu.size (fun q e => by have := (hoz.lt q e).1; omega))))
  go_ret2
  rw [HE.out]
  exact ⟨_, rfl, ho10.mono (by omega), hb13.trans (hfin.mono hb13.size)⟩
set_option maxRecDepth 100000 in
set_option maxHeartbeats 1600000 in
theorem putM_5_0100 (m : M) (p : Option Addr) (c : Nat) (X : List Int) (w : World) (hr : ReadsL w (.slice p m.avps.length c) m.avps) (hok : m.ok) (hd : ∀ a ∈ m.avps, a.data.length ≤ 140737488355300) (h1 : m.code ≤ 16777215) (h3 : putOf m.avps = (X, 0)) (h4 : 20 + X.length ≤ 4096) (hq : m.req = false) (hp : m.prox = true) (hf : m.fail = false) (hg : m.again = false) :
    Calls Try.prog 12 #[.agg (rowM m (.slice p m.avps.length c))] w (PutIs w (putM m)) := by
  obtain ⟨⟨o1, o1'⟩, ⟨o2, o2'⟩, ⟨o3, o3'⟩, ⟨o4, o4'⟩, o5⟩ := hok
  have hone : (Value.slice p m.avps.length c).oneCell' = true := rfl
  have h2 : mixB m = false := by unfold mixB; rw [hq, hf, hg]; rfl
  have hfl : flagM m = 64 := by rw [flag_rows m _ _ _ _ hq hp hf hg]; rfl
  have hX := (put_ok h3 o5).2.2.1
  have PP := Lib.hid (fun u (h : ReadsL u (.slice p m.avps.length c) m.avps) => by have := refPutAll _ m.avps u h (fun a ha => ⟨o5 a ha, hd a ha⟩); rwa [h3] at this)
  have HR := Lib.hid hr
  obtain ⟨L1, hL1⟩ : ∃ L, putted [1] ((X.length : Int) + 20) 3 = L := ⟨_, rfl⟩
  obtain ⟨L2, hL2⟩ : ∃ L, L1 ++ [(64 : Int)] = L := ⟨_, rfl⟩
  obtain ⟨L3, hL3⟩ : ∃ L, putted L2 m.code 3 = L := ⟨_, rfl⟩
  obtain ⟨L4, hL4⟩ : ∃ L, putted L3 m.app 4 = L := ⟨_, rfl⟩
  obtain ⟨L5, hL5⟩ : ∃ L, putted L4 m.hop 4 = L := ⟨_, rfl⟩
  obtain ⟨L6, hL6⟩ : ∃ L, putted L5 m.fin 4 = L := ⟨_, rfl⟩
  have e1 : L1.length = 4 := by rw [← hL1, putted3_len]; rfl
  have e2 : L2.length = 5 := by rw [← hL2, List.length_append, e1]; rfl
  have e3 : L3.length = 8 := by rw [← hL3, putted3_len, e2]
  have e4 : L4.length = 12 := by rw [← hL4, putted4_len, e3]
  have e5 : L5.length = 16 := by rw [← hL5, putted4_len, e4]
  have e6 : L6.length = 20 := by rw [← hL6, putted4_len, e5]
  have P1 := Lib.hid (fun v u (h : Reads .u8 u v [1]) => by have := refPut v [1] ((X.length : Int) + 20) 3 u (by omega) h (by simp); rwa [hL1] at this)
  have P2 := Lib.hid (fun v u (h : Reads .u8 u v L2) => by have := refPut v L2 m.code 3 u (by omega) h (by omega); rwa [hL3] at this)
  have P3 := Lib.hid (fun v u (h : Reads .u8 u v L3) => by have := refPut v L3 m.app 4 u (by omega) h (by omega); rwa [hL4] at this)
  have P4 := Lib.hid (fun v u (h : Reads .u8 u v L4) => by have := refPut v L4 m.hop 4 u (by omega) h (by omega); rwa [hL5] at this)
  have P5 := Lib.hid (fun v u (h : Reads .u8 u v L5) => by have := refPut v L5 m.fin 4 u (by omega) h (by omega); rwa [hL6] at this)
  have e : putM m = (L6 ++ X, 0) := by
    unfold putM headM
    rw [if_neg (by omega), if_neg (by rw [h2]; decide), h3, if_neg (by simp), if_neg (show ¬ 4096 < 20 + X.length by omega), hfl, ← hL6, ← hL5, ← hL4, ← hL3, ← hL2, ← hL1, putted4, putted4, putted4, putted3, putted3, show (20 : Int) + X.length = X.length + 20 from Int.add_comm _ _]
  have HE := Lib.hid e
  have HQ := Lib.hid hq
  have HP := Lib.hid hp
  have HF := Lib.hid hf
  have HG := Lib.hid hg
  have HL2 := Lib.hid hL2
  have K1 : L1.length + [(64 : Int)].length ≤ maxLen := by simp [maxLen]; omega
  have K2 : (L1.length + [(64 : Int)].length) * 1 ≤ 140737488355328 := by simp; omega
  have K3 : L6.length + X.length ≤ maxLen := by simp [maxLen]; omega
  have K4 : (L6.length + X.length) * 1 ≤ 140737488355328 := by omega
  clear e hr hd h3 o5 hq hp hf hg hfl hL1 hL2 hL3 hL4 hL5 hL6 e1 e2 e3 e4 e5 e6
  go_enter Try.func12, Try.ntmps12
  go_wp2_with (first
    | ((with_reducible refine wpl_boxAt rfl 25 (.tmp 0) rfl (rowM m (.slice p m.avps.length c)) ?_ ?_); rfl; go_must (intro w1 hat1 hb1 hs1; have HS1 := Lib.hid hs1; have c4 := hat1.cell 4; simp [rowM] at c4; clear hs1))
    | ((with_reducible refine wpl_loadAt rfl 25 (.tmp 1) rfl w.heap.size 25 (rowM m (.slice p m.avps.length c)) hat1 _ Try.underlying25 rfl (by kernel_rfl) ?_ ?_); rfl) | (go_at_call 33; go_must (refine (refMixed m _ _ hone).mono ?_; rintro e w2 ⟨rfl, hb2⟩; have hb12 := hb1.trans (hb2.mono hb1.size); have hat2 := hat1.ext hb2; have c8 := hat2.cell 8; simp [rowM] at c8; clear hat1 hb2))
    | (go_at_call 34; go_must (refine (PP.out _ (HR.out.below hb12)).mono ?_; rintro e w3 ⟨v3, rfl, hv3, hb3⟩; have hb13 := hb12.trans (hb3.mono hb12.size); have hat3 := hat2.ext hb3; clear hat2 hb3 c4 c8; obtain ⟨px, cx, rfl, _, _, _, _⟩ := id hv3.reads; have hx3 := hv3.reads; have AT := hat3; have c0 := AT.cell 0; have c1 := AT.cell 1; have c2 := AT.cell 2; have c3 := AT.cell 3; have c4 := AT.cell 4; have c5 := AT.cell 5; have c6 := AT.cell 6; have c7 := AT.cell 7; simp [rowM] at c0 c1 c2 c3 c4 c5 c6 c7; rw [HQ.out] at c0; rw [HP.out] at c1; rw [HF.out] at c2; rw [HG.out] at c3; clear AT; have hu := Below.refl w3.heap.size w3; have hg3 := hb13.size; have T1 := hg3; have hrd1 := Reads.one .u8 w3 1 5; have hw3 := (Below.refl w3.heap.size w3).alloc (Nat.le_refl _) (.cells #[.int .u8 1] 5)))
    | (go_at_call 14; have _t := P1; clear _t; go_must (refine (P1.out _ _ hrd1).mono ?_; clear P1; rintro e u4 ⟨v4, rfl, ho4, hbn⟩; have hu1 := hw3.trans (hbn.mono (by simp)); clear hu hw3; have hu := hu1; clear hu1; clear hrd1 c0 c1 c2 c3 c4 c5 c6 c7; have AT := hat3.ext hu; have c0 := AT.cell 0; have c1 := AT.cell 1; have c2 := AT.cell 2; have c3 := AT.cell 3; have c4 := AT.cell 4; have c5 := AT.cell 5; have c6 := AT.cell 6; have c7 := AT.cell 7; simp [rowM] at c0 c1 c2 c3 c4 c5 c6 c7; rw [HQ.out] at c0; rw [HP.out] at c1; rw [HF.out] at c2; rw [HG.out] at c3; clear AT hbn; have hob := ho4.alloc (.cells #[.int .u8 64] 5); have hbb : w3.heap.size ≤ u4.heap.size := hu.size; clear T1))
    | (at_builtin; have _t := hob; clear _t; go_must (obtain ⟨i0, hi, hz0, hz1, hz2⟩ := info_parts info5; refine wpl_append rfl (.tmp 48) (.tmp 51) 26 rfl .u8 _ 5 1 i0 (.int .u8 0) Try.underlying26 hi hz0 hz1 hz2 rfl v4 _ L1 [(64 : Int)] rfl rfl hob (Reads.one .u8 u4 _ _) K1 K2 (by simp; omega) ?_; clear hi hz0 hz1 hz2; intro v5 u5 ho5 hgn; rw [HL2.out] at ho5; have hua := hu.alloc hu.size (.cells #[.int .u8 64] 5); have hu1 := hua.grown hgn hua.size (fun q e => by have := (ho4.lt q e).1; simp at this; omega); clear hu hob ho4 c0 c1 c2 c3 c4 c5 c6 c7 hua hgn hbb; have hu := hu1; clear hu1; have AT := hat3.ext hu; have c0 := AT.cell 0; have c1 := AT.cell 1; have c2 := AT.cell 2; have c3 := AT.cell 3; have c4 := AT.cell 4; have c5 := AT.cell 5; have c6 := AT.cell 6; have c7 := AT.cell 7; simp [rowM] at c0 c1 c2 c3 c4 c5 c6 c7; rw [HQ.out] at c0; rw [HP.out] at c1; rw [HF.out] at c2; rw [HG.out] at c3; clear AT; have hrd2 := ho5.reads; clear ho5))
    | (go_at_call 14; have _t := P2; clear _t; go_must (refine (P2.out _ _ hrd2).mono ?_; clear P2; rintro e u6 ⟨v6, rfl, ho6, hbn⟩; have hu1 := hu.trans (hbn.mono hu.size); clear hu; have hu := hu1; clear hu1; clear hrd2 c0 c1 c2 c3 c4 c5 c6 c7; have AT := hat3.ext hu; have c0 := AT.cell 0; have c1 := AT.cell 1; have c2 := AT.cell 2; have c3 := AT.cell 3; have c4 := AT.cell 4; have c5 := AT.cell 5; have c6 := AT.cell 6; have c7 := AT.cell 7; simp [rowM] at c0 c1 c2 c3 c4 c5 c6 c7; rw [HQ.out] at c0; rw [HP.out] at c1; rw [HF.out] at c2; rw [HG.out] at c3; clear AT hbn; have hrd3 := ho6.reads; clear ho6))
    | (go_at_call 14; have _t := P3; clear _t; go_must (refine (P3.out _ _ hrd3).mono ?_; clear P3; rintro e u7 ⟨v7, rfl, ho7, hbn⟩; have hu1 := hu.trans (hbn.mono hu.size); clear hu; have hu := hu1; clear hu1; clear hrd3 c0 c1 c2 c3 c4 c5 c6 c7; have AT := hat3.ext hu; have c0 := AT.cell 0; have c1 := AT.cell 1; have c2 := AT.cell 2; have c3 := AT.cell 3; have c4 := AT.cell 4; have c5 := AT.cell 5; have c6 := AT.cell 6; have c7 := AT.cell 7; simp [rowM] at c0 c1 c2 c3 c4 c5 c6 c7; rw [HQ.out] at c0; rw [HP.out] at c1; rw [HF.out] at c2; rw [HG.out] at c3; clear AT hbn; have hrd4 := ho7.reads; clear ho7))
    | (go_at_call 14; have _t := P4; clear _t; go_must (refine (P4.out _ _ hrd4).mono ?_; clear P4; rintro e u8 ⟨v8, rfl, ho8, hbn⟩; have hu1 := hu.trans (hbn.mono hu.size); clear hu; have hu := hu1; clear hu1; clear hrd4 c0 c1 c2 c3 c4 c5 c6 c7; have AT := hat3.ext hu; have c0 := AT.cell 0; have c1 := AT.cell 1; have c2 := AT.cell 2; have c3 := AT.cell 3; have c4 := AT.cell 4; have c5 := AT.cell 5; have c6 := AT.cell 6; have c7 := AT.cell 7; simp [rowM] at c0 c1 c2 c3 c4 c5 c6 c7; rw [HQ.out] at c0; rw [HP.out] at c1; rw [HF.out] at c2; rw [HG.out] at c3; clear AT hbn; have hrd5 := ho8.reads; clear ho8))
    | (go_at_call 14; have _t := P5; clear _t; go_must (refine (P5.out _ _ hrd5).mono ?_; clear P5; rintro e u9 ⟨v9, rfl, ho9, hbn⟩; have hb8 := hu.size; have hb89 := hbn.size; have hu1 := hu.trans (hbn.mono hu.size); clear hu; have hu := hu1; clear hu1; clear hrd5 c0 c1 c2 c3 c4 c5 c6 c7; have AT := hat3.ext hu; have c0 := AT.cell 0; have c1 := AT.cell 1; have c2 := AT.cell 2; have c3 := AT.cell 3; have c4 := AT.cell 4; have c5 := AT.cell 5; have c6 := AT.cell 6; have c7 := AT.cell 7; simp [rowM] at c0 c1 c2 c3 c4 c5 c6 c7; rw [HQ.out] at c0; rw [HP.out] at c1; rw [HF.out] at c2; rw [HG.out] at c3; clear AT hbn; have hoz := ho9; have hx9 := hx3.below hu; have hsz := hu.size; clear ho9))
    | (at_builtin; have _t := hoz; clear _t; go_must (obtain ⟨i0, hi, hz0, hz1, hz2⟩ := info_parts info5; refine wpl_append rfl (.tmp 73) (.tmp 74) 26 rfl .u8 _ 5 1 i0 (.int .u8 0) Try.underlying26 hi hz0 hz1 hz2 rfl v9 _ L6 X rfl rfl hoz hx9 K3 K4 hb89 ?_; clear hi hz0 hz1 hz2; intro v10 u10 ho10 hgn; have hfin := hu.grown hgn hu.size (fun q e => by have := (hoz.lt q e).1; omega))))
  go_ret2
  rw [HE.out]
  exact ⟨_, rfl, ho10.mono (by omega), hb13.trans (hfin.mono hb13.size)⟩
set_option maxRecDepth 100000 in
set_option maxHeartbeats 1600000 in
theorem putM_5_0110 (m : M) (p : Option Addr) (c : Nat) (X : List Int) (w : World) (hr : ReadsL w (.slice p m.avps.length c) m.avps) (hok : m.ok) (hd : ∀ a ∈ m.avps, a.data.length ≤ 140737488355300) (h1 : m.code ≤ 16777215) (h3 : putOf m.avps = (X, 0)) (h4 : 20 + X.length ≤ 4096) (hq : m.req = false) (hp : m.prox = true) (hf : m.fail = true) (hg : m.again = false) :
    Calls Try.prog 12 #[.agg (rowM m (.slice p m.avps.length c))] w (PutIs w (putM m)) := by
  obtain ⟨⟨o1, o1'⟩, ⟨o2, o2'⟩, ⟨o3, o3'⟩, ⟨o4, o4'⟩, o5⟩ := hok
  have hone : (Value.slice p m.avps.length c).oneCell' = true := rfl
  have h2 : mixB m = false := by unfold mixB; rw [hq, hf, hg]; rfl
  have hfl : flagM m = 96 := by rw [flag_rows m _ _ _ _ hq hp hf hg]; rfl
  have hX := (put_ok h3 o5).2.2.1
  have PP := Lib.hid (fun u (h : ReadsL u (.slice p m.avps.length c) m.avps) => by have := refPutAll _ m.avps u h (fun a ha => ⟨o5 a ha, hd a ha⟩); rwa [h3] at this)
  have HR := Lib.hid hr
  obtain ⟨L1, hL1⟩ : ∃ L, putted [1] ((X.length : Int) + 20) 3 = L := ⟨_, rfl⟩
  obtain ⟨L2, hL2⟩ : ∃ L, L1 ++ [(96 : Int)] = L := ⟨_, rfl⟩
  obtain ⟨L3, hL3⟩ : ∃ L, putted L2 m.code 3 = L := ⟨_, rfl⟩
  obtain ⟨L4, hL4⟩ : ∃ L, putted L3 m.app 4 = L := ⟨_, rfl⟩
  obtain ⟨L5, hL5⟩ : ∃ L, putted L4 m.hop 4 = L := ⟨_, rfl⟩
  obtain ⟨L6, hL6⟩ : ∃ L, putted L5 m.fin 4 = L := ⟨_, rfl⟩
  have e1 : L1.length = 4 := by rw [← hL1, putted3_len]; rfl
  have e2 : L2.length = 5 := by rw [← hL2, List.length_append, e1]; rfl
  have e3 : L3.length = 8 := by rw [← hL3, putted3_len, e2]
  have e4 : L4.length = 12 := by rw [← hL4, putted4_len, e3]
  have e5 : L5.length = 16 := by rw [← hL5, putted4_len, e4]
  have e6 : L6.length = 20 := by rw [← hL6, putted4_len, e5]
  have P1 := Lib.hid (fun v u (h : Reads .u8 u v [1]) => by have := refPut v [1] ((X.length : Int) + 20) 3 u (by omega) h (by simp); rwa [hL1] at this)
  have P2 := Lib.hid (fun v u (h : Reads .u8 u v L2) => by have := refPut v L2 m.code 3 u (by omega) h (by omega); rwa [hL3] at this)
  have P3 := Lib.hid (fun v u (h : Reads .u8 u v L3) => by have := refPut v L3 m.app 4 u (by omega) h (by omega); rwa [hL4] at this)
  have P4 := Lib.hid (fun v u (h : Reads .u8 u v L4) => by have := refPut v L4 m.hop 4 u (by omega) h (by omega); rwa [hL5] at this)
  have P5 := Lib.hid (fun v u (h : Reads .u8 u v L5) => by have := refPut v L5 m.fin 4 u (by omega) h (by omega); rwa [hL6] at this)
  have e : putM m = (L6 ++ X, 0) := by
    unfold putM headM
    rw [if_neg (by omega), if_neg (by rw [h2]; decide), h3, if_neg (by simp), if_neg (show ¬ 4096 < 20 + X.length by omega), hfl, ← hL6, ← hL5, ← hL4, ← hL3, ← hL2, ← hL1, putted4, putted4, putted4, putted3, putted3, show (20 : Int) + X.length = X.length + 20 from Int.add_comm _ _]
  have HE := Lib.hid e
  have HQ := Lib.hid hq
  have HP := Lib.hid hp
  have HF := Lib.hid hf
  have HG := Lib.hid hg
  have HL2 := Lib.hid hL2
  have K1 : L1.length + [(96 : Int)].length ≤ maxLen := by simp [maxLen]; omega
  have K2 : (L1.length + [(96 : Int)].length) * 1 ≤ 140737488355328 := by simp; omega
  have K3 : L6.length + X.length ≤ maxLen := by simp [maxLen]; omega
  have K4 : (L6.length + X.length) * 1 ≤ 140737488355328 := by omega
  clear e hr hd h3 o5 hq hp hf hg hfl hL1 hL2 hL3 hL4 hL5 hL6 e1 e2 e3 e4 e5 e6
  go_enter Try.func12, Try.ntmps12
  go_wp2_with (first
    | ((with_reducible refine wpl_boxAt rfl 25 (.tmp 0) rfl (rowM m (.slice p m.avps.length c)) ?_ ?_); rfl; go_must (intro w1 hat1 hb1 hs1; have HS1 := Lib.hid hs1; have c4 := hat1.cell 4; simp [rowM] at c4; clear hs1))
    | ((with_reducible refine wpl_loadAt rfl 25 (.tmp 1) rfl w.heap.size 25 (rowM m (.slice p m.avps.length c)) hat1 _ Try.underlying25 rfl (by kernel_rfl) ?_ ?_); rfl) | (go_at_call 33; go_must (refine (refMixed m _ _ hone).mono ?_; rintro e w2 ⟨rfl, hb2⟩; have hb12 := hb1.trans (hb2.mono hb1.size); have hat2 := hat1.ext hb2; have c8 := hat2.cell 8; simp [rowM] at c8; clear hat1 hb2))
    | (go_at_call 34; go_must (refine (PP.out _ (HR.out.below hb12)).mono ?_; rintro e w3 ⟨v3, rfl, hv3, hb3⟩; have hb13 := hb12.trans (hb3.mono hb12.size); have hat3 := hat2.ext hb3; clear hat2 hb3 c4 c8; obtain ⟨px, cx, rfl, _, _, _, _⟩ := id hv3.reads; have hx3 := hv3.reads; have AT := hat3; have c0 := AT.cell 0; have c1 := AT.cell 1; have c2 := AT.cell 2; have c3 := AT.cell 3; have c4 := AT.cell 4; have c5 := AT.cell 5; have c6 := AT.cell 6; have c7 := AT.cell 7; simp [rowM] at c0 c1 c2 c3 c4 c5 c6 c7; rw [HQ.out] at c0; rw [HP.out] at c1; rw [HF.out] at c2; rw [HG.out] at c3; clear AT; have hu := Below.refl w3.heap.size w3; have hg3 := hb13.size; have T1 := hg3; have hrd1 := Reads.one .u8 w3 1 5; have hw3 := (Below.refl w3.heap.size w3).alloc (Nat.le_refl _) (.cells #[.int .u8 1] 5)))
    | (go_at_call 14; have _t := P1; clear _t; go_must (refine (P1.out _ _ hrd1).mono ?_; clear P1; rintro e u4 ⟨v4, rfl, ho4, hbn⟩; have hu1 := hw3.trans (hbn.mono (by simp)); clear hu hw3; have hu := hu1; clear hu1; clear hrd1 c0 c1 c2 c3 c4 c5 c6 c7; have AT := hat3.ext hu; have c0 := AT.cell 0; have c1 := AT.cell 1; have c2 := AT.cell 2; have c3 := AT.cell 3; have c4 := AT.cell 4; have c5 := AT.cell 5; have c6 := AT.cell 6; have c7 := AT.cell 7; simp [rowM] at c0 c1 c2 c3 c4 c5 c6 c7; rw [HQ.out] at c0; rw [HP.out] at c1; rw [HF.out] at c2; rw [HG.out] at c3; clear AT hbn; have hob := ho4.alloc (.cells #[.int .u8 96] 5); have hbb : w3.heap.size ≤ u4.heap.size := hu.size; clear T1))
    | (at_builtin; have _t := hob; clear _t; go_must (obtain ⟨i0, hi, hz0, hz1, hz2⟩ := info_parts info5; refine wpl_append rfl (.tmp 48) (.tmp 51) 26 rfl .u8 _ 5 1 i0 (.int .u8 0) Try.underlying26 hi hz0 hz1 hz2 rfl v4 _ L1 [(96 : Int)] rfl rfl hob (Reads.one .u8 u4 _ _) K1 K2 (by simp; omega) ?_; clear hi hz0 hz1 hz2; intro v5 u5 ho5 hgn; rw [HL2.out] at ho5; have hua := hu.alloc hu.size (.cells #[.int .u8 96] 5); have hu1 := hua.grown hgn hua.size (fun q e => by have := (ho4.lt q e).1; simp at this; omega); clear hu hob ho4 c0 c1 c2 c3 c4 c5 c6 c7 hua hgn hbb; have hu := hu1; clear hu1; have AT := hat3.ext hu; have c0 := AT.cell 0; have c1 := AT.cell 1; have c2 := AT.cell 2; have c3 := AT.cell 3; have c4 := AT.cell 4; have c5 := AT.cell 5; have c6 := AT.cell 6; have c7 := AT.cell 7; simp [rowM] at c0 c1 c2 c3 c4 c5 c6 c7; rw [HQ.out] at c0; rw [HP.out] at c1; rw [HF.out] at c2; rw [HG.out] at c3; clear AT; have hrd2 := ho5.reads; clear ho5))
    | (go_at_call 14; have _t := P2; clear _t; go_must (refine (P2.out _ _ hrd2).mono ?_; clear P2; rintro e u6 ⟨v6, rfl, ho6, hbn⟩; have hu1 := hu.trans (hbn.mono hu.size); clear hu; have hu := hu1; clear hu1; clear hrd2 c0 c1 c2 c3 c4 c5 c6 c7; have AT := hat3.ext hu; have c0 := AT.cell 0; have c1 := AT.cell 1; have c2 := AT.cell 2; have c3 := AT.cell 3; have c4 := AT.cell 4; have c5 := AT.cell 5; have c6 := AT.cell 6; have c7 := AT.cell 7; simp [rowM] at c0 c1 c2 c3 c4 c5 c6 c7; rw [HQ.out] at c0; rw [HP.out] at c1; rw [HF.out] at c2; rw [HG.out] at c3; clear AT hbn; have hrd3 := ho6.reads; clear ho6))
    | (go_at_call 14; have _t := P3; clear _t; go_must (refine (P3.out _ _ hrd3).mono ?_; clear P3; rintro e u7 ⟨v7, rfl, ho7, hbn⟩; have hu1 := hu.trans (hbn.mono hu.size); clear hu; have hu := hu1; clear hu1; clear hrd3 c0 c1 c2 c3 c4 c5 c6 c7; have AT := hat3.ext hu; have c0 := AT.cell 0; have c1 := AT.cell 1; have c2 := AT.cell 2; have c3 := AT.cell 3; have c4 := AT.cell 4; have c5 := AT.cell 5; have c6 := AT.cell 6; have c7 := AT.cell 7; simp [rowM] at c0 c1 c2 c3 c4 c5 c6 c7; rw [HQ.out] at c0; rw [HP.out] at c1; rw [HF.out] at c2; rw [HG.out] at c3; clear AT hbn; have hrd4 := ho7.reads; clear ho7))
    | (go_at_call 14; have _t := P4; clear _t; go_must (refine (P4.out _ _ hrd4).mono ?_; clear P4; rintro e u8 ⟨v8, rfl, ho8, hbn⟩; have hu1 := hu.trans (hbn.mono hu.size); clear hu; have hu := hu1; clear hu1; clear hrd4 c0 c1 c2 c3 c4 c5 c6 c7; have AT := hat3.ext hu; have c0 := AT.cell 0; have c1 := AT.cell 1; have c2 := AT.cell 2; have c3 := AT.cell 3; have c4 := AT.cell 4; have c5 := AT.cell 5; have c6 := AT.cell 6; have c7 := AT.cell 7; simp [rowM] at c0 c1 c2 c3 c4 c5 c6 c7; rw [HQ.out] at c0; rw [HP.out] at c1; rw [HF.out] at c2; rw [HG.out] at c3; clear AT hbn; have hrd5 := ho8.reads; clear ho8))
    | (go_at_call 14; have _t := P5; clear _t; go_must (refine (P5.out _ _ hrd5).mono ?_; clear P5; rintro e u9 ⟨v9, rfl, ho9, hbn⟩; have hb8 := hu.size; have hb89 := hbn.size; have hu1 := hu.trans (hbn.mono hu.size); clear hu; have hu := hu1; clear hu1; clear hrd5 c0 c1 c2 c3 c4 c5 c6 c7; have AT := hat3.ext hu; have c0 := AT.cell 0; have c1 := AT.cell 1; have c2 := AT.cell 2; have c3 := AT.cell 3; have c4 := AT.cell 4; have c5 := AT.cell 5; have c6 := AT.cell 6; have c7 := AT.cell 7; simp [rowM] at c0 c1 c2 c3 c4 c5 c6 c7; rw [HQ.out] at c0; rw [HP.out] at c1; rw [HF.out] at c2; rw [HG.out] at c3; clear AT hbn; have hoz := ho9; have hx9 := hx3.below hu; have hsz := hu.size; clear ho9))
    | (at_builtin; have _t := hoz; clear _t; go_must (obtain ⟨i0, hi, hz0, hz1, hz2⟩ := info_parts info5; refine wpl_append rfl (.tmp 73) (.tmp 74) 26 rfl .u8 _ 5 1 i0 (.int .u8 0) Try.underlying26 hi hz0 hz1 hz2 rfl v9 _ L6 X rfl rfl hoz hx9 K3 K4 hb89 ?_; clear hi hz0 hz1 hz2; intro v10 u10 ho10 hgn; have hfin := hu.grown hgn hu.size (fun q e => by have := (hoz.lt q e).1; omega))))
  go_ret2
  rw [HE.out]
  exact ⟨_, rfl, ho10.mono (by omega), hb13.trans (hfin.mono hb13.size)⟩
end Go.Proofs.Ytcekkppjalipfaa.Avp
