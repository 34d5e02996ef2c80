/-
  msg.Put: the walk's short ways. (Turned from Msg2.)
-/
import Derived.Test.YtcekkppjalipfaaMsg2
namespace Go.Proofs.Ytcekkppjalipfaa.Avp
open Go.RowKit Mem Cells Avps Wire Ops
set_option linter.unusedVariables false
set_option linter.unusedSimpArgs false

set_option maxRecDepth 100000 in
set_option maxHeartbeats 1600000 in
theorem msgPut_1 (m : M) (p : Option Addr) (c : Nat) (w : World) (hr : ReadsL w (.slice p m.avps.length c) m.avps) (hok : m.ok) (hd : ∀ a ∈ m.avps, a.data.length ≤ 140737488355300) (h1 : 16777215 < m.code) :
    Calls Try.prog 10 #[.agg (rowM m (.slice p m.avps.length c))] w (PutIs w (putM m)) := by
  obtain ⟨⟨o1, o1'⟩, ⟨o2, o2'⟩, ⟨o3, o3'⟩, ⟨o4, o4'⟩, o5⟩ := hok
  have hone : (Value.slice p m.avps.length c).oneCell' = true := rfl
  have e : putM m = ([], 11) := by unfold putM; rw [if_pos h1]
  have HE := Lib.hid e
  clear e hr hd o5
  go_enter Try.func10, Try.ntmps10
  go_wp2_with ((with_reducible refine wpl_boxAt rfl 25 (.tmp 0) rfl (rowM m (.slice p m.avps.length c)) ?_ ?_); rfl; go_must (intro w1 hat1 hb1 hs1; have HS1 := Lib.hid hs1; have c4 := hat1.cell 4; simp [rowM] at c4; clear hs1))
  go_ret2
  rw [HE.out]
  exact ⟨_, rfl, World.ownsRow_nil _ _ _ _, hb1⟩
set_option maxRecDepth 100000 in
set_option maxHeartbeats 1600000 in
theorem msgPut_2 (m : M) (p : Option Addr) (c : Nat) (w : World) (hr : ReadsL w (.slice p m.avps.length c) m.avps) (hok : m.ok) (hd : ∀ a ∈ m.avps, a.data.length ≤ 140737488355300) (h1 : m.code ≤ 16777215) (h2 : mixB m = true) :
    Calls Try.prog 10 #[.agg (rowM m (.slice p m.avps.length c))] w (PutIs w (putM m)) := by
  obtain ⟨⟨o1, o1'⟩, ⟨o2, o2'⟩, ⟨o3, o3'⟩, ⟨o4, o4'⟩, o5⟩ := hok
  have hone : (Value.slice p m.avps.length c).oneCell' = true := rfl
  have e : putM m = ([], 2) := by unfold putM; rw [if_neg (by omega), if_pos h2]
  have HE := Lib.hid e
  clear e hr hd o5
  go_enter Try.func10, Try.ntmps10
  go_wp2_with (first | ((with_reducible refine wpl_boxAt rfl 25 (.tmp 0) rfl (rowM m (.slice p m.avps.length c)) ?_ ?_); rfl; go_must (intro w1 hat1 hb1 hs1; have HS1 := Lib.hid hs1; have c4 := hat1.cell 4; simp [rowM] at c4; clear hs1)) | ((with_reducible refine wpl_loadAt rfl 25 (.tmp 1) rfl w.heap.size 25 (rowM m (.slice p m.avps.length c)) hat1 _ Try.underlying25 rfl (by kernel_rfl) ?_ ?_); rfl) | (go_at_call 29; go_must (refine (mixed m _ _ hone).mono ?_; rintro e w2 ⟨rfl, hb2⟩; have hb12 := hb1.trans (hb2.mono hb1.size); have hat2 := hat1.ext hb2; have c8 := hat2.cell 8; simp [rowM] at c8; clear hat1 hb2)))
  go_ret2
  rw [HE.out]
  exact ⟨_, rfl, World.ownsRow_nil _ _ _ _, hb12⟩
set_option maxRecDepth 100000 in
set_option maxHeartbeats 1600000 in
theorem msgPut_3 (m : M) (p : Option Addr) (c : Nat) (w : World) (hr : ReadsL w (.slice p m.avps.length c) m.avps) (hok : m.ok) (hd : ∀ a ∈ m.avps, a.data.length ≤ 140737488355300) (h1 : m.code ≤ 16777215) (h2 : mixB m = false) (h3 : putOf m.avps = ([], 4)) :
    Calls Try.prog 10 #[.agg (rowM m (.slice p m.avps.length c))] w (PutIs w (putM m)) := by
  obtain ⟨⟨o1, o1'⟩, ⟨o2, o2'⟩, ⟨o3, o3'⟩, ⟨o4, o4'⟩, o5⟩ := hok
  have hone : (Value.slice p m.avps.length c).oneCell' = true := rfl
  have e : putM m = ([], 4) := by unfold putM; rw [if_neg (by omega), if_neg (by rw [h2]; decide), h3, if_pos (by decide)]
  have HE := Lib.hid e
  have PP := Lib.hid (fun u (h : ReadsL u (.slice p m.avps.length c) m.avps) => by have := avpPut _ m.avps u h (fun a ha => ⟨o5 a ha, hd a ha⟩); rwa [h3] at this)
  have HR := Lib.hid hr
  clear e hr hd h3 o5
  go_enter Try.func10, Try.ntmps10
  go_wp2_with (first | ((with_reducible refine wpl_boxAt rfl 25 (.tmp 0) rfl (rowM m (.slice p m.avps.length c)) ?_ ?_); rfl; go_must (intro w1 hat1 hb1 hs1; have HS1 := Lib.hid hs1; have c4 := hat1.cell 4; simp [rowM] at c4; clear hs1)) | ((with_reducible refine wpl_loadAt rfl 25 (.tmp 1) rfl w.heap.size 25 (rowM m (.slice p m.avps.length c)) hat1 _ Try.underlying25 rfl (by kernel_rfl) ?_ ?_); rfl) | (go_at_call 29; go_must (refine (mixed m _ _ hone).mono ?_; rintro e w2 ⟨rfl, hb2⟩; have hb12 := hb1.trans (hb2.mono hb1.size); have hat2 := hat1.ext hb2; have c8 := hat2.cell 8; simp [rowM] at c8; clear hat1 hb2)) | (go_at_call 30; go_must (refine (PP.out _ (HR.out.below hb12)).mono ?_; rintro e w3 ⟨v3, rfl, hv3, hb3⟩; have hb13 := hb12.trans (hb3.mono hb12.size); have hat3 := hat2.ext hb3; clear hat2 hb3 c4 c8)))
  go_ret2
  rw [HE.out]
  exact ⟨_, rfl, World.ownsRow_nil _ _ _ _, hb13⟩
set_option maxRecDepth 100000 in
set_option maxHeartbeats 1600000 in
theorem msgPut_4 (m : M) (p : Option Addr) (c : Nat) (X : List Int) (w : World) (hr : ReadsL w (.slice p m.avps.length c) m.avps) (hok : m.ok) (hd : ∀ a ∈ m.avps, a.data.length ≤ 140737488355300) (h1 : m.code ≤ 16777215) (h2 : mixB m = false) (h3 : putOf m.avps = (X, 0)) (h4 : 4096 < 20 + X.length) :
    Calls Try.prog 10 #[.agg (rowM m (.slice p m.avps.length c))] w (PutIs w (putM m)) := by
  obtain ⟨⟨o1, o1'⟩, ⟨o2, o2'⟩, ⟨o3, o3'⟩, ⟨o4, o4'⟩, o5⟩ := hok
  have hone : (Value.slice p m.avps.length c).oneCell' = true := rfl
  have e : putM m = ([], 4) := by unfold putM; rw [if_neg (by omega), if_neg (by rw [h2]; decide), h3, if_neg (by simp), if_pos h4]
  have HE := Lib.hid e
  have hX := (put_ok h3 o5).2.2.1
  have PP := Lib.hid (fun u (h : ReadsL u (.slice p m.avps.length c) m.avps) => by have := avpPut _ m.avps u h (fun a ha => ⟨o5 a ha, hd a ha⟩); rwa [h3] at this)
  have HR := Lib.hid hr
  clear e hr hd h3 o5
  go_enter Try.func10, Try.ntmps10
  go_wp2_with (first | ((with_reducible refine wpl_boxAt rfl 25 (.tmp 0) rfl (rowM m (.slice p m.avps.length c)) ?_ ?_); rfl; go_must (intro w1 hat1 hb1 hs1; have HS1 := Lib.hid hs1; have c4 := hat1.cell 4; simp [rowM] at c4; clear hs1)) | ((with_reducible refine wpl_loadAt rfl 25 (.tmp 1) rfl w.heap.size 25 (rowM m (.slice p m.avps.length c)) hat1 _ Try.underlying25 rfl (by kernel_rfl) ?_ ?_); rfl) | (go_at_call 29; go_must (refine (mixed m _ _ hone).mono ?_; rintro e w2 ⟨rfl, hb2⟩; have hb12 := hb1.trans (hb2.mono hb1.size); have hat2 := hat1.ext hb2; have c8 := hat2.cell 8; simp [rowM] at c8; clear hat1 hb2)) | (go_at_call 30; go_must (refine (PP.out _ (HR.out.below hb12)).mono ?_; rintro e w3 ⟨v3, rfl, hv3, hb3⟩; have hb13 := hb12.trans (hb3.mono hb12.size); have hat3 := hat2.ext hb3; clear hat2 hb3 c4 c8; obtain ⟨px, cx, rfl, _, _, _, _⟩ := id hv3.reads)))
  go_ret2
  rw [HE.out]
  exact ⟨_, rfl, World.ownsRow_nil _ _ _ _, hb13⟩
end Go.Proofs.Ytcekkppjalipfaa.Avp
