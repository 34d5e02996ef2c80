/-
  msg.Get and the reference's GetMsg: the walks. (Printed by gen_mget.py.)
-/
import Derived.Test.YtcekkppjalipfaaHead1
import Derived.Test.YtcekkppjalipfaaHead2
namespace Go.Proofs.Ytcekkppjalipfaa.Avp
open Go.RowKit Mem Cells Avps Wire Ops
set_option linter.unusedVariables false
set_option linter.unusedSimpArgs false

/-- What Get answers. -/
def getM (xs : List Int) : M × Int :=
  if (headOf xs).2 ≠ 0 then (noM, (headOf xs).2) else if (getOf (xs.drop 20)).2.2 ≠ 0 then (noM, (getOf (xs.drop 20)).2.2) else ({ (headOf xs).1 with avps := (getOf (xs.drop 20)).1 }, 0)
def MGetIs (w : World) (R : M × Int) (e : Ending) (w' : World) : Prop :=
  ∃ p n c, e = .returned (.tuple #[.agg (rowM R.1 (.slice p n c)), .int .i64 R.2]) ∧ OwnL 60 w.heap.size w' (.slice p n c) R.1.avps ∧ Below w.heap.size w w'
theorem head_fit {xs : List Int} (h : (headOf xs).2 = 0) : 20 ≤ xs.length := by
  unfold headOf at h
  split at h
  · simp at h
  · omega
theorem head_no {xs : List Int} {m : M} {E : Int} (h : headOf xs = (m, E)) (hE : E ≠ 0) : m = noM := by
  unfold headOf at h
  repeat' split at h
  all_goals (obtain ⟨rfl, rfl⟩ := Prod.mk.inj h; first | rfl | exact absurd rfl hE)
set_option maxRecDepth 100000 in
set_option maxHeartbeats 1600000 in
theorem mget_1 (p : Option Addr) (c : Nat) (xs : List Int) (w : World) (hr : Reads .u8 w (.slice p xs.length c) xs) (hwf : ∀ x ∈ xs, 0 ≤ x ∧ x ≤ 255) (hb : xs.length ≤ 140737488355300) (E : Int) (hH : headOf xs = (noM, E)) (hE : E ≠ 0) :
    Calls Try.prog 25 #[.slice p xs.length c] w (MGetIs w (getM xs)) := by
  have PH := Lib.hid (fun u (h : Reads .u8 u (.slice p xs.length c) xs) => msgHead _ xs u h hwf hb)
  have HR := Lib.hid hr
  have HW0 := Lib.hid (rfl : w = w)
  have HW1 := Lib.hid (rfl : w = w)
  have HE := Lib.hid (show getM xs = (noM, E) by unfold getM; rw [hH, if_pos hE])
  rw [hH] at PH
  have hne : (E == 0) = false := by simpa using hE
  clear hH hE hr hb
  go_enter Try.func25, Try.ntmps25
  go_wp2_with (first | ((with_reducible refine wpl_allocAt rfl 25 rfl zeroM (by kernel_rfl) ?_); have _t := HW0; clear _t; go_must (intro w1 hatR hu hs1; clear hs1 HW0; have T1 := hatR.lt)) | (go_at_call 27; go_must (refine (PH.out _ (HR.out.below hu)).mono ?_; rintro e w2 ⟨rfl, hb1⟩; have hu1 := hu.trans (hb1.mono hu.size); have hatR1 := hatR.ext hb1; clear hu hatR; have hu := hu1; have hatR := hatR1; clear hu1 hatR1 hb1)) | ((with_reducible refine wpl_allocAt rfl 25 rfl zeroM (by kernel_rfl) ?_); have _t := HW1; clear _t; go_must (intro w3 hatG hb1 hs1; clear hs1 HW1; have T2 := hatR.lt; have hu1 := hu.trans (hb1.mono hu.size); have hatR1 := hatR.ext hb1; clear hu hatR; have hu := hu1; have hatR := hatR1; clear hu1 hatR1 hb1; have T3 := hatG.lt)) | ((with_reducible refine wpl_storeR rfl 25 (.tmp 4) (.tmp 9) rfl rfl w2.heap.size 25 zeroM (rowM noM (.slice none 0 0)) ?_ ?_ hatG (by kernel_rfl) ?_ ?_ ?_); rfl; rfl; rfl; (simp [zeroM, rowM, Value.oneCell']); go_must (intro w4 hatG1 hg4; have hu1 := below_grown hu hg4 hu.size (by omega); have hatR1 := hatR.grown hg4 (by omega); have hg44 := hg4.size; clear hu hatR hatG hg4; have hu := hu1; have hatR := hatR1; have hatG := hatG1; clear hu1 hatR1 hatG1)) | ((with_reducible refine wpl_storeR rfl 25 (.tmp 2) (.tmp 13) rfl rfl w.heap.size 25 zeroM zeroM ?_ ?_ hatR (by kernel_rfl) ?_ ?_ ?_); rfl; rfl; rfl; (simp [zeroM, rowM, Value.oneCell']); go_must (intro wz hatz hgz; have huz := below_grown hu hgz hu.size (Nat.le_refl _))))
  exact end_cell_tmp (p := 2) (u := 3) (by kernel_rfl) rfl hatz Try.underlying25 rfl (by kernel_rfl) rfl rfl ⟨_, _, _, by rw [HE.out]; rfl, by rw [HE.out]; exact OwnL.nil _ _ _, huz⟩
set_option maxRecDepth 100000 in
set_option maxHeartbeats 1600000 in
theorem mget_2 (p : Option Addr) (c : Nat) (xs : List Int) (w : World) (hr : Reads .u8 w (.slice p xs.length c) xs) (hwf : ∀ x ∈ xs, 0 ≤ x ∧ x ≤ 255) (hb : xs.length ≤ 140737488355300) (hm : M) (L : List A) (k E : Int) (hH : headOf xs = (hm, 0)) (hG : getOf (xs.drop 20) = (L, k, E)) (hE : E ≠ 0) :
    Calls Try.prog 25 #[.slice p xs.length c] w (MGetIs w (getM xs)) := by
  have PH := Lib.hid (fun u (h : Reads .u8 u (.slice p xs.length c) xs) => msgHead _ xs u h hwf hb)
  have HR := Lib.hid hr
  have HW0 := Lib.hid (rfl : w = w)
  have HW1 := Lib.hid (rfl : w = w)
  have HE := Lib.hid (show getM xs = (noM, E) by unfold getM; rw [hH, hG, if_neg (by simp), if_pos hE])
  have hlen := head_fit (by rw [hH])
  have hwf2 : ∀ x ∈ xs.drop 20, 0 ≤ x ∧ x ≤ 255 := fun x hx => hwf x (List.mem_of_mem_drop hx)
  have PG := Lib.hid (fun v u (h : Reads .u8 u v (xs.drop 20)) => avpGet v (xs.drop 20) u h hwf2)
  obtain ⟨ys, hys⟩ : ∃ ys, xs.drop 20 = ys := ⟨_, rfl⟩
  have HD := Lib.hid (show xs.drop (20 : Int).toNat = ys from hys)
  rw [hys] at PG hG
  rw [hH] at PH
  rw [hG] at PG
  obtain ⟨i0, hi, hz0, hz1, hz2⟩ := info_parts info5
  have hne : (E == 0) = false := by simpa using hE
  clear hH hE hr hb hG hys hwf2
  go_enter Try.func25, Try.ntmps25
  go_wp2_with (first | ((with_reducible refine wpl_allocAt rfl 25 rfl zeroM (by kernel_rfl) ?_); have _t := HW0; clear _t; go_must (intro w1 hatR hu hs1; clear hs1 HW0; have T1 := hatR.lt)) | (go_at_call 27; go_must (refine (PH.out _ (HR.out.below hu)).mono ?_; rintro e w2 ⟨rfl, hb1⟩; have hu1 := hu.trans (hb1.mono hu.size); have hatR1 := hatR.ext hb1; clear hu hatR; have hu := hu1; have hatR := hatR1; clear hu1 hatR1 hb1)) | ((with_reducible refine wpl_allocAt rfl 25 rfl zeroM (by kernel_rfl) ?_); have _t := HW1; clear _t; go_must (intro w3 hatG hb1 hs1; clear hs1 HW1; have T2 := hatR.lt; have hu1 := hu.trans (hb1.mono hu.size); have hatR1 := hatR.ext hb1; clear hu hatR; have hu := hu1; have hatR := hatR1; clear hu1 hatR1 hb1; have T3 := hatG.lt)) | ((with_reducible refine wpl_storeR rfl 25 (.tmp 4) (.tmp 9) rfl rfl w2.heap.size 25 zeroM (rowM hm (.slice none 0 0)) ?_ ?_ hatG (by kernel_rfl) ?_ ?_ ?_); rfl; rfl; rfl; (simp [zeroM, rowM, Value.oneCell']); go_must (intro w4 hatG1 hg4; have hu1 := below_grown hu hg4 hu.size (by omega); have hatR1 := hatR.grown hg4 (by omega); have hg44 := hg4.size; clear hu hatR hatG hg4; have hu := hu1; have hatR := hatR1; have hatG := hatG1; clear hu1 hatR1 hatG1)) | ((refine wpl_sub_l rfl 26 (.tmp 16) (.const (.int .i64 20)) rfl .u8 i0 Try.underlying26 hi hz1 _ xs 20 rfl rfl (HR.out.below hu) (by decide) (by omega) ?_); go_must (intro v5 hv5; rw [HD.out] at hv5)) | (go_at_call 42; go_must (refine (PG.out _ _ hv5).mono ?_; rintro e w5 ⟨v6, rfl, hown, hb1⟩; have hu1 := hu.trans (hb1.mono hu.size); have hatR1 := hatR.ext hb1; have hatG1 := hatG.ext hb1; have T5 := hb1.size; clear hu hatR hatG hv5; have hu := hu1; have hatR := hatR1; have hatG := hatG1; clear hu1 hatR1 hatG1 hb1; obtain ⟨p6, c6, rfl, _, _⟩ := hown.reads.shape)) | ((with_reducible refine wpl_storeC rfl 23 (.tmp 22) (.tmp 19) rfl rfl w2.heap.size 8 25 (rowM hm (.slice none 0 0)) (rowM hm (.slice p6 L.length c6)) (.slice p6 L.length c6) ?_ ?_ hatG ?_ (by kernel_rfl) ?_ ?_ ?_); rfl; rfl; exact (show (8 : Nat) < 9 by decide); rfl; rfl; go_must (intro w6 hatG1 hg6; have hu1 := below_grown hu hg6 hu.size (by omega); have hatR1 := hatR.grown hg6 (by omega); have hown1 := hown.kept hg6 (by omega) hatG (noByteM hm _ _ _); clear hu hatR hatG hg6 hown; have hu := hu1; have hatR := hatR1; have hatG := hatG1; have hown := hown1; clear hu1 hatR1 hatG1 hown1)) | ((with_reducible refine wpl_storeR rfl 25 (.tmp 2) (.tmp 25) rfl rfl w.heap.size 25 zeroM zeroM ?_ ?_ hatR (by kernel_rfl) ?_ ?_ ?_); rfl; rfl; rfl; (simp [zeroM, rowM, Value.oneCell']); go_must (intro wz hatz hgz; have huz := below_grown hu hgz hu.size (Nat.le_refl _))))
  exact end_cell_tmp (p := 2) (u := 3) (by kernel_rfl) rfl hatz Try.underlying25 rfl (by kernel_rfl) rfl rfl ⟨_, _, _, by rw [HE.out]; rfl, by rw [HE.out]; exact OwnL.nil _ _ _, huz⟩
set_option maxRecDepth 100000 in
set_option maxHeartbeats 1600000 in
theorem mget_3 (p : Option Addr) (c : Nat) (xs : List Int) (w : World) (hr : Reads .u8 w (.slice p xs.length c) xs) (hwf : ∀ x ∈ xs, 0 ≤ x ∧ x ≤ 255) (hb : xs.length ≤ 140737488355300) (hm : M) (L : List A) (k : Int) (hH : headOf xs = (hm, 0)) (hG : getOf (xs.drop 20) = (L, k, 0)) :
    Calls Try.prog 25 #[.slice p xs.length c] w (MGetIs w (getM xs)) := by
  have PH := Lib.hid (fun u (h : Reads .u8 u (.slice p xs.length c) xs) => msgHead _ xs u h hwf hb)
  have HR := Lib.hid hr
  have HW0 := Lib.hid (rfl : w = w)
  have HW1 := Lib.hid (rfl : w = w)
  have HE := Lib.hid (show getM xs = ({ hm with avps := L }, 0) by unfold getM; rw [hH, hG, if_neg (by simp), if_neg (by simp)])
  have hlen := head_fit (by rw [hH])
  have hwf2 : ∀ x ∈ xs.drop 20, 0 ≤ x ∧ x ≤ 255 := fun x hx => hwf x (List.mem_of_mem_drop hx)
  have PG := Lib.hid (fun v u (h : Reads .u8 u v (xs.drop 20)) => avpGet v (xs.drop 20) u h hwf2)
  obtain ⟨ys, hys⟩ : ∃ ys, xs.drop 20 = ys := ⟨_, rfl⟩
  have HD := Lib.hid (show xs.drop (20 : Int).toNat = ys from hys)
  rw [hys] at PG hG
  rw [hH] at PH
  rw [hG] at PG
  obtain ⟨i0, hi, hz0, hz1, hz2⟩ := info_parts info5
  clear hH hr hb hG hys hwf2
  go_enter Try.func25, Try.ntmps25
  go_wp2_with (first | ((with_reducible refine wpl_allocAt rfl 25 rfl zeroM (by kernel_rfl) ?_); have _t := HW0; clear _t; go_must (intro w1 hatR hu hs1; clear hs1 HW0; have T1 := hatR.lt)) | (go_at_call 27; go_must (refine (PH.out _ (HR.out.below hu)).mono ?_; rintro e w2 ⟨rfl, hb1⟩; have hu1 := hu.trans (hb1.mono hu.size); have hatR1 := hatR.ext hb1; clear hu hatR; have hu := hu1; have hatR := hatR1; clear hu1 hatR1 hb1)) | ((with_reducible refine wpl_allocAt rfl 25 rfl zeroM (by kernel_rfl) ?_); have _t := HW1; clear _t; go_must (intro w3 hatG hb1 hs1; clear hs1 HW1; have T2 := hatR.lt; have hu1 := hu.trans (hb1.mono hu.size); have hatR1 := hatR.ext hb1; clear hu hatR; have hu := hu1; have hatR := hatR1; clear hu1 hatR1 hb1; have T3 := hatG.lt)) | ((with_reducible refine wpl_storeR rfl 25 (.tmp 4) (.tmp 9) rfl rfl w2.heap.size 25 zeroM (rowM hm (.slice none 0 0)) ?_ ?_ hatG (by kernel_rfl) ?_ ?_ ?_); rfl; rfl; rfl; (simp [zeroM, rowM, Value.oneCell']); go_must (intro w4 hatG1 hg4; have hu1 := below_grown hu hg4 hu.size (by omega); have hatR1 := hatR.grown hg4 (by omega); have hg44 := hg4.size; clear hu hatR hatG hg4; have hu := hu1; have hatR := hatR1; have hatG := hatG1; clear hu1 hatR1 hatG1)) | ((refine wpl_sub_l rfl 26 (.tmp 16) (.const (.int .i64 20)) rfl .u8 i0 Try.underlying26 hi hz1 _ xs 20 rfl rfl (HR.out.below hu) (by decide) (by omega) ?_); go_must (intro v5 hv5; rw [HD.out] at hv5)) | (go_at_call 42; go_must (refine (PG.out _ _ hv5).mono ?_; rintro e w5 ⟨v6, rfl, hown, hb1⟩; have hu1 := hu.trans (hb1.mono hu.size); have hatR1 := hatR.ext hb1; have hatG1 := hatG.ext hb1; have T5 := hb1.size; clear hu hatR hatG hv5; have hu := hu1; have hatR := hatR1; have hatG := hatG1; clear hu1 hatR1 hatG1 hb1; obtain ⟨p6, c6, rfl, _, _⟩ := hown.reads.shape)) | ((with_reducible refine wpl_storeC rfl 23 (.tmp 22) (.tmp 19) rfl rfl w2.heap.size 8 25 (rowM hm (.slice none 0 0)) (rowM hm (.slice p6 L.length c6)) (.slice p6 L.length c6) ?_ ?_ hatG ?_ (by kernel_rfl) ?_ ?_ ?_); rfl; rfl; exact (show (8 : Nat) < 9 by decide); rfl; rfl; go_must (intro w6 hatG1 hg6; have hu1 := below_grown hu hg6 hu.size (by omega); have hatR1 := hatR.grown hg6 (by omega); have hown1 := hown.kept hg6 (by omega) hatG (noByteM hm _ _ _); clear hu hatR hatG hg6 hown; have hu := hu1; have hatR := hatR1; have hatG := hatG1; have hown := hown1; clear hu1 hatR1 hatG1 hown1)) | ((with_reducible refine wpl_loadAt rfl 25 (.tmp 4) rfl w2.heap.size 25 (rowM hm (.slice p6 L.length c6)) hatG _ Try.underlying25 rfl (by kernel_rfl) ?_ ?_); rfl) | ((with_reducible refine wpl_storeR rfl 25 (.tmp 2) (.tmp 27) rfl rfl w.heap.size 25 zeroM (rowM hm (.slice p6 L.length c6)) ?_ ?_ hatR (by kernel_rfl) ?_ ?_ ?_); rfl; rfl; rfl; (simp [zeroM, rowM, Value.oneCell']); go_must (intro wz hatz hgz; have huz := below_grown hu hgz hu.size (Nat.le_refl _))))
  exact end_cell_tmp (p := 2) (u := 3) (by kernel_rfl) rfl hatz Try.underlying25 rfl (by kernel_rfl) rfl rfl ⟨_, _, _, by rw [HE.out]; rfl, by rw [HE.out]; exact (hown.kept hgz (by omega) hatR noByteZ).mono (by omega), huz⟩
theorem msgGet (v : Value) (xs : List Int) (w : World) (hr : Reads .u8 w v xs) (hwf : ∀ x ∈ xs, 0 ≤ x ∧ x ≤ 255) (hb : xs.length ≤ 140737488355300) : Calls Try.prog 25 #[v] w (MGetIs w (getM xs)) := by
  obtain ⟨p, c, rfl, _⟩ := id hr
  obtain ⟨hm, E, hH⟩ : ∃ m E, headOf xs = (m, E) := ⟨_, _, rfl⟩
  by_cases hE : E = 0
  · subst hE
    obtain ⟨L, k, E2, hG⟩ : ∃ L k E, getOf (xs.drop 20) = (L, k, E) := ⟨_, _, _, rfl⟩
    by_cases hE2 : E2 = 0
    · subst hE2
      exact mget_3 p c xs w hr hwf hb hm L k hH hG
    · exact mget_2 p c xs w hr hwf hb hm L k E2 hH hG hE2
  · have e : hm = noM := head_no hH hE
    subst e
    exact mget_1 p c xs w hr hwf hb E hH hE
set_option maxRecDepth 100000 in
set_option maxHeartbeats 1600000 in
theorem rget_1 (p : Option Addr) (c : Nat) (xs : List Int) (w : World) (hr : Reads .u8 w (.slice p xs.length c) xs) (hwf : ∀ x ∈ xs, 0 ≤ x ∧ x ≤ 255) (hb : xs.length ≤ 140737488355300) (E : Int) (hH : headOf xs = (noM, E)) (hE : E ≠ 0) :
    Calls Try.prog 26 #[.slice p xs.length c] w (MGetIs w (getM xs)) := by
  have PH := Lib.hid (fun u (h : Reads .u8 u (.slice p xs.length c) xs) => refHead _ xs u h hwf hb)
  have HR := Lib.hid hr
  have HW0 := Lib.hid (rfl : w = w)
  have HW1 := Lib.hid (rfl : w = w)
  have HE := Lib.hid (show getM xs = (noM, E) by unfold getM; rw [hH, if_pos hE])
  rw [hH] at PH
  have hne : (E == 0) = false := by simpa using hE
  clear hH hE hr hb
  go_enter Try.func26, Try.ntmps26
  go_wp2_with (first | ((with_reducible refine wpl_allocAt rfl 25 rfl zeroM (by kernel_rfl) ?_); have _t := HW0; clear _t; go_must (intro w1 hatR hu hs1; clear hs1 HW0; have T1 := hatR.lt)) | (go_at_call 28; go_must (refine (PH.out _ (HR.out.below hu)).mono ?_; rintro e w2 ⟨rfl, hb1⟩; have hu1 := hu.trans (hb1.mono hu.size); have hatR1 := hatR.ext hb1; clear hu hatR; have hu := hu1; have hatR := hatR1; clear hu1 hatR1 hb1)) | ((with_reducible refine wpl_allocAt rfl 25 rfl zeroM (by kernel_rfl) ?_); have _t := HW1; clear _t; go_must (intro w3 hatG hb1 hs1; clear hs1 HW1; have T2 := hatR.lt; have hu1 := hu.trans (hb1.mono hu.size); have hatR1 := hatR.ext hb1; clear hu hatR; have hu := hu1; have hatR := hatR1; clear hu1 hatR1 hb1; have T3 := hatG.lt)) | ((with_reducible refine wpl_storeR rfl 25 (.tmp 4) (.tmp 12) rfl rfl w2.heap.size 25 zeroM (rowM noM (.slice none 0 0)) ?_ ?_ hatG (by kernel_rfl) ?_ ?_ ?_); rfl; rfl; rfl; (simp [zeroM, rowM, Value.oneCell']); go_must (intro w4 hatG1 hg4; have hu1 := below_grown hu hg4 hu.size (by omega); have hatR1 := hatR.grown hg4 (by omega); have hg44 := hg4.size; clear hu hatR hatG hg4; have hu := hu1; have hatR := hatR1; have hatG := hatG1; clear hu1 hatR1 hatG1)) | ((with_reducible refine wpl_storeR rfl 25 (.tmp 2) (.tmp 16) rfl rfl w.heap.size 25 zeroM zeroM ?_ ?_ hatR (by kernel_rfl) ?_ ?_ ?_); rfl; rfl; rfl; (simp [zeroM, rowM, Value.oneCell']); go_must (intro wz hatz hgz; have huz := below_grown hu hgz hu.size (Nat.le_refl _))))
  exact end_cell_tmp (p := 2) (u := 3) (by kernel_rfl) rfl hatz Try.underlying25 rfl (by kernel_rfl) rfl rfl ⟨_, _, _, by rw [HE.out]; rfl, by rw [HE.out]; exact OwnL.nil _ _ _, huz⟩
set_option maxRecDepth 100000 in
set_option maxHeartbeats 1600000 in
theorem rget_2 (p : Option Addr) (c : Nat) (xs : List Int) (w : World) (hr : Reads .u8 w (.slice p xs.length c) xs) (hwf : ∀ x ∈ xs, 0 ≤ x ∧ x ≤ 255) (hb : xs.length ≤ 140737488355300) (hm : M) (L : List A) (k E : Int) (hH : headOf xs = (hm, 0)) (hG : getOf (xs.drop 20) = (L, k, E)) (hE : E ≠ 0) :
    Calls Try.prog 26 #[.slice p xs.length c] w (MGetIs w (getM xs)) := by
  have PH := Lib.hid (fun u (h : Reads .u8 u (.slice p xs.length c) xs) => refHead _ xs u h hwf hb)
  have HR := Lib.hid hr
  have HW0 := Lib.hid (rfl : w = w)
  have HW1 := Lib.hid (rfl : w = w)
  have HE := Lib.hid (show getM xs = (noM, E) by unfold getM; rw [hH, hG, if_neg (by simp), if_pos hE])
  have hlen := head_fit (by rw [hH])
  have hwf2 : ∀ x ∈ xs.drop 20, 0 ≤ x ∧ x ≤ 255 := fun x hx => hwf x (List.mem_of_mem_drop hx)
  have PG := Lib.hid (fun v u (h : Reads .u8 u v (xs.drop 20)) => refGetAll v (xs.drop 20) u h hwf2)
  obtain ⟨ys, hys⟩ : ∃ ys, xs.drop 20 = ys := ⟨_, rfl⟩
  have HD := Lib.hid (show xs.drop (20 : Int).toNat = ys from hys)
  rw [hys] at PG hG
  rw [hH] at PH
  rw [hG] at PG
  obtain ⟨i0, hi, hz0, hz1, hz2⟩ := info_parts info5
  have hne : (E == 0) = false := by simpa using hE
  clear hH hE hr hb hG hys hwf2
  go_enter Try.func26, Try.ntmps26
  go_wp2_with (first | ((with_reducible refine wpl_allocAt rfl 25 rfl zeroM (by kernel_rfl) ?_); have _t := HW0; clear _t; go_must (intro w1 hatR hu hs1; clear hs1 HW0; have T1 := hatR.lt)) | (go_at_call 28; go_must (refine (PH.out _ (HR.out.below hu)).mono ?_; rintro e w2 ⟨rfl, hb1⟩; have hu1 := hu.trans (hb1.mono hu.size); have hatR1 := hatR.ext hb1; clear hu hatR; have hu := hu1; have hatR := hatR1; clear hu1 hatR1 hb1)) | ((with_reducible refine wpl_allocAt rfl 25 rfl zeroM (by kernel_rfl) ?_); have _t := HW1; clear _t; go_must (intro w3 hatG hb1 hs1; clear hs1 HW1; have T2 := hatR.lt; have hu1 := hu.trans (hb1.mono hu.size); have hatR1 := hatR.ext hb1; clear hu hatR; have hu := hu1; have hatR := hatR1; clear hu1 hatR1 hb1; have T3 := hatG.lt)) | ((with_reducible refine wpl_storeR rfl 25 (.tmp 4) (.tmp 12) rfl rfl w2.heap.size 25 zeroM (rowM hm (.slice none 0 0)) ?_ ?_ hatG (by kernel_rfl) ?_ ?_ ?_); rfl; rfl; rfl; (simp [zeroM, rowM, Value.oneCell']); go_must (intro w4 hatG1 hg4; have hu1 := below_grown hu hg4 hu.size (by omega); have hatR1 := hatR.grown hg4 (by omega); have hg44 := hg4.size; clear hu hatR hatG hg4; have hu := hu1; have hatR := hatR1; have hatG := hatG1; clear hu1 hatR1 hatG1)) | ((refine wpl_sub_l rfl 26 (.tmp 19) (.const (.int .i64 20)) rfl .u8 i0 Try.underlying26 hi hz1 _ xs 20 rfl rfl (HR.out.below hu) (by decide) (by omega) ?_); go_must (intro v5 hv5; rw [HD.out] at hv5)) | (go_at_call 43; go_must (refine (PG.out _ _ hv5).mono ?_; rintro e w5 ⟨v6, rfl, hown, hb1⟩; have hu1 := hu.trans (hb1.mono hu.size); have hatR1 := hatR.ext hb1; have hatG1 := hatG.ext hb1; have T5 := hb1.size; clear hu hatR hatG hv5; have hu := hu1; have hatR := hatR1; have hatG := hatG1; clear hu1 hatR1 hatG1 hb1; obtain ⟨p6, c6, rfl, _, _⟩ := hown.reads.shape)) | ((with_reducible refine wpl_storeR rfl 25 (.tmp 2) (.tmp 27) rfl rfl w.heap.size 25 zeroM zeroM ?_ ?_ hatR (by kernel_rfl) ?_ ?_ ?_); rfl; rfl; rfl; (simp [zeroM, rowM, Value.oneCell']); go_must (intro wz hatz hgz; have huz := below_grown hu hgz hu.size (Nat.le_refl _))))
  exact end_cell_tmp (p := 2) (u := 3) (by kernel_rfl) rfl hatz Try.underlying25 rfl (by kernel_rfl) rfl rfl ⟨_, _, _, by rw [HE.out]; rfl, by rw [HE.out]; exact OwnL.nil _ _ _, huz⟩
set_option maxRecDepth 100000 in
set_option maxHeartbeats 1600000 in
theorem rget_3 (p : Option Addr) (c : Nat) (xs : List Int) (w : World) (hr : Reads .u8 w (.slice p xs.length c) xs) (hwf : ∀ x ∈ xs, 0 ≤ x ∧ x ≤ 255) (hb : xs.length ≤ 140737488355300) (hm : M) (L : List A) (k : Int) (hH : headOf xs = (hm, 0)) (hG : getOf (xs.drop 20) = (L, k, 0)) :
    Calls Try.prog 26 #[.slice p xs.length c] w (MGetIs w (getM xs)) := by
  have PH := Lib.hid (fun u (h : Reads .u8 u (.slice p xs.length c) xs) => refHead _ xs u h hwf hb)
  have HR := Lib.hid hr
  have HW0 := Lib.hid (rfl : w = w)
  have HW1 := Lib.hid (rfl : w = w)
  have HE := Lib.hid (show getM xs = ({ hm with avps := L }, 0) by unfold getM; rw [hH, hG, if_neg (by simp), if_neg (by simp)])
  have hlen := head_fit (by rw [hH])
  have hwf2 : ∀ x ∈ xs.drop 20, 0 ≤ x ∧ x ≤ 255 := fun x hx => hwf x (List.mem_of_mem_drop hx)
  have PG := Lib.hid (fun v u (h : Reads .u8 u v (xs.drop 20)) => refGetAll v (xs.drop 20) u h hwf2)
  obtain ⟨ys, hys⟩ : ∃ ys, xs.drop 20 = ys := ⟨_, rfl⟩
  have HD := Lib.hid (show xs.drop (20 : Int).toNat = ys from hys)
  rw [hys] at PG hG
  rw [hH] at PH
  rw [hG] at PG
  obtain ⟨i0, hi, hz0, hz1, hz2⟩ := info_parts info5
  clear hH hr hb hG hys hwf2
  go_enter Try.func26, Try.ntmps26
  go_wp2_with (first | ((with_reducible refine wpl_allocAt rfl 25 rfl zeroM (by kernel_rfl) ?_); have _t := HW0; clear _t; go_must (intro w1 hatR hu hs1; clear hs1 HW0; have T1 := hatR.lt)) | (go_at_call 28; go_must (refine (PH.out _ (HR.out.below hu)).mono ?_; rintro e w2 ⟨rfl, hb1⟩; have hu1 := hu.trans (hb1.mono hu.size); have hatR1 := hatR.ext hb1; clear hu hatR; have hu := hu1; have hatR := hatR1; clear hu1 hatR1 hb1)) | ((with_reducible refine wpl_allocAt rfl 25 rfl zeroM (by kernel_rfl) ?_); have _t := HW1; clear _t; go_must (intro w3 hatG hb1 hs1; clear hs1 HW1; have T2 := hatR.lt; have hu1 := hu.trans (hb1.mono hu.size); have hatR1 := hatR.ext hb1; clear hu hatR; have hu := hu1; have hatR := hatR1; clear hu1 hatR1 hb1; have T3 := hatG.lt)) | ((with_reducible refine wpl_storeR rfl 25 (.tmp 4) (.tmp 12) rfl rfl w2.heap.size 25 zeroM (rowM hm (.slice none 0 0)) ?_ ?_ hatG (by kernel_rfl) ?_ ?_ ?_); rfl; rfl; rfl; (simp [zeroM, rowM, Value.oneCell']); go_must (intro w4 hatG1 hg4; have hu1 := below_grown hu hg4 hu.size (by omega); have hatR1 := hatR.grown hg4 (by omega); have hg44 := hg4.size; clear hu hatR hatG hg4; have hu := hu1; have hatR := hatR1; have hatG := hatG1; clear hu1 hatR1 hatG1)) | ((refine wpl_sub_l rfl 26 (.tmp 19) (.const (.int .i64 20)) rfl .u8 i0 Try.underlying26 hi hz1 _ xs 20 rfl rfl (HR.out.below hu) (by decide) (by omega) ?_); go_must (intro v5 hv5; rw [HD.out] at hv5)) | (go_at_call 43; go_must (refine (PG.out _ _ hv5).mono ?_; rintro e w5 ⟨v6, rfl, hown, hb1⟩; have hu1 := hu.trans (hb1.mono hu.size); have hatR1 := hatR.ext hb1; have hatG1 := hatG.ext hb1; have T5 := hb1.size; clear hu hatR hatG hv5; have hu := hu1; have hatR := hatR1; have hatG := hatG1; clear hu1 hatR1 hatG1 hb1; obtain ⟨p6, c6, rfl, _, _⟩ := hown.reads.shape)) | ((with_reducible refine wpl_storeC rfl 23 (.tmp 30) (.tmp 29) rfl rfl w2.heap.size 8 25 (rowM hm (.slice none 0 0)) (rowM hm (.slice p6 L.length c6)) (.slice p6 L.length c6) ?_ ?_ hatG ?_ (by kernel_rfl) ?_ ?_ ?_); rfl; rfl; exact (show (8 : Nat) < 9 by decide); rfl; rfl; go_must (intro w6 hatG1 hg6; have hu1 := below_grown hu hg6 hu.size (by omega); have hatR1 := hatR.grown hg6 (by omega); have hown1 := hown.kept hg6 (by omega) hatG (noByteM hm _ _ _); clear hu hatR hatG hg6 hown; have hu := hu1; have hatR := hatR1; have hatG := hatG1; have hown := hown1; clear hu1 hatR1 hatG1 hown1)) | ((with_reducible refine wpl_loadAt rfl 25 (.tmp 4) rfl w2.heap.size 25 (rowM hm (.slice p6 L.length c6)) hatG _ Try.underlying25 rfl (by kernel_rfl) ?_ ?_); rfl) | ((with_reducible refine wpl_storeR rfl 25 (.tmp 2) (.tmp 31) rfl rfl w.heap.size 25 zeroM (rowM hm (.slice p6 L.length c6)) ?_ ?_ hatR (by kernel_rfl) ?_ ?_ ?_); rfl; rfl; rfl; (simp [zeroM, rowM, Value.oneCell']); go_must (intro wz hatz hgz; have huz := below_grown hu hgz hu.size (Nat.le_refl _))))
  exact end_cell_tmp (p := 2) (u := 3) (by kernel_rfl) rfl hatz Try.underlying25 rfl (by kernel_rfl) rfl rfl ⟨_, _, _, by rw [HE.out]; rfl, by rw [HE.out]; exact (hown.kept hgz (by omega) hatR noByteZ).mono (by omega), huz⟩
theorem getMsg (v : Value) (xs : List Int) (w : World) (hr : Reads .u8 w v xs) (hwf : ∀ x ∈ xs, 0 ≤ x ∧ x ≤ 255) (hb : xs.length ≤ 140737488355300) : Calls Try.prog 26 #[v] w (MGetIs w (getM xs)) := by
  obtain ⟨p, c, rfl, _⟩ := id hr
  obtain ⟨hm, E, hH⟩ : ∃ m E, headOf xs = (m, E) := ⟨_, _, rfl⟩
  by_cases hE : E = 0
  · subst hE
    obtain ⟨L, k, E2, hG⟩ : ∃ L k E, getOf (xs.drop 20) = (L, k, E) := ⟨_, _, _, rfl⟩
    by_cases hE2 : E2 = 0
    · subst hE2
      exact rget_3 p c xs w hr hwf hb hm L k hH hG
    · exact rget_2 p c xs w hr hwf hb hm L k E2 hH hG hE2
  · have e : hm = noM := head_no hH hE
    subst e
    exact rget_1 p c xs w hr hwf hb E hH hE
end Go.Proofs.Ytcekkppjalipfaa.Avp
