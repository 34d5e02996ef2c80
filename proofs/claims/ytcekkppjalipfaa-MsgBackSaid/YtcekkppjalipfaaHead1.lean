/-
  msg.Head: the walk. (Printed by gen_head.py.)
-/
import Derived.Test.YtcekkppjalipfaaHead0
import Derived.Deep.Cut
namespace Go.Proofs.Ytcekkppjalipfaa.Avp
open Go.RowKit Mem Cells Avps Wire Ops Go.Maps
set_option linter.unusedVariables false
set_option linter.unusedSimpArgs false

set_option maxRecDepth 100000 in
set_option maxHeartbeats 1600000 in
theorem head_1 (p : Option Addr) (c : Nat) (xs : List Int) (w : World) (hr : Reads .u8 w (.slice p xs.length c) xs) (hwf : ∀ x ∈ xs, 0 ≤ x ∧ x ≤ 255) (hb : xs.length ≤ 140737488355300) (h1 : xs.length < 20) :
    Calls Try.prog 27 #[.slice p xs.length c] w (HeadIs w (headOf xs)) := by
  have e : headOf xs = (noM, 3) := by unfold headOf; rw [if_pos h1]
  have HE := Lib.hid e
  have HW0 := Lib.hid (rfl : w = w)
  obtain ⟨n, hn⟩ : ∃ n, xs.length = n := ⟨_, rfl⟩
  rw [hn] at h1 ⊢
  clear e hr hn hb
  go_enter Try.func27, Try.ntmps27
  go_wp2_with (first | ((with_reducible refine wpl_allocAt rfl 25 rfl zeroM (by kernel_rfl) ?_); have _t := HW0; clear _t; go_must (intro w1 hatR hu hs1; clear hs1 HW0; have T1 := hatR.lt)) | ((with_reducible refine wpl_storeR rfl 25 (.tmp 2) (.tmp 19) rfl rfl w.heap.size 25 zeroM zeroM ?_ ?_ hatR (by kernel_rfl) ?_ ?_ ?_); rfl; rfl; rfl; (simp [zeroM, rowM, Value.oneCell']); go_must (intro wz hatz hgz; have huz := below_grown hu hgz hu.size (Nat.le_refl _))))
  exact end_cell_tmp (p := 2) (u := 3) (by kernel_rfl) rfl hatz Try.underlying25 rfl (by kernel_rfl) rfl rfl ⟨by rw [HE.out]; rfl, huz⟩

set_option maxRecDepth 100000 in
set_option maxHeartbeats 1600000 in
theorem head_2 (p : Option Addr) (c : Nat) (xs : List Int) (w : World) (hr : Reads .u8 w (.slice p xs.length c) xs) (hwf : ∀ x ∈ xs, 0 ≤ x ∧ x ≤ 255) (hb : xs.length ≤ 140737488355300) (h1 : 20 ≤ xs.length) (h2 : xs.getD 0 0 ≠ 1) :
    Calls Try.prog 27 #[.slice p xs.length c] w (HeadIs w (headOf xs)) := by
  obtain ⟨n, hn⟩ : ∃ n, getN xs 1 3 = n := ⟨_, rfl⟩
  have hnb := getN3 xs hwf 1
  have G1 := Lib.hid (fun u (h : Below w.heap.size w u) => get _ xs 1 3 u (hr.below h) hwf hb (by omega) (by omega))
  rw [hn] at G1 hnb
  have s1 : IntKind.i64.wrap n = n := IntWalk.i64_in _ (by omega)
  obtain ⟨b, off, rfl, hlt, hc⟩ : ∃ b off, p = some ⟨b, off, none⟩ ∧ b < w.heap.size ∧ ∀ i, i < xs.length → w.cell? ⟨b, off + i, none⟩ = some (.int .u8 (xs.getD i 0)) := by
    obtain ⟨p', c', ee, _, _, _, hx⟩ := hr
    cases ee
    exact hx (by omega)
  obtain ⟨x0, hx0⟩ : ∃ x, xs.getD 0 0 = x := ⟨_, rfl⟩
  have b0 : 0 ≤ x0 ∧ x0 ≤ 255 := by
    rw [← hx0]
    exact hwf _ (by rw [List.getD_eq_getElem?_getD, List.getElem?_eq_getElem (by omega)]; simp)
  have H0 := Lib.hid (fun u (h : Below w.heap.size w u) => show u.cell? ⟨b, off, none⟩ = some (.int .u8 x0) by have := (h.cell (p := ⟨b, off + 0, none⟩) hlt).trans (hc 0 (by omega)); rwa [hx0] at this)
  obtain ⟨len, hlen⟩ : ∃ len, xs.length = len := ⟨_, rfl⟩
  have e : headOf xs = (noM, 2) := by unfold headOf; rw [if_neg (by omega), if_pos h2]
  have HE := Lib.hid e
  have HW0 := Lib.hid (rfl : w = w)
  have hne : (x0 == 1) = false := by rw [← hx0]; simpa using h2
  rw [hlen] at h1 G1 ⊢
  clear e hr hn hb hc h2 hx0 hlen
  go_enter Try.func27, Try.ntmps27
  go_wp2_with (first | ((with_reducible refine wpl_allocAt rfl 25 rfl zeroM (by kernel_rfl) ?_); have _t := HW0; clear _t; go_must (intro w1 hatR hu hs1; clear hs1 HW0; have T1 := hatR.lt)) | (go_at_call 38; have _t := G1; clear _t; go_must (refine (G1.out _ hu).mono ?_; clear G1; rintro e w2 ⟨rfl, hb1⟩; have hu1 := hu.trans (hb1.mono hu.size); have hatR1 := hatR.ext hb1; clear hu hatR; have c0 := H0.out _ hu1; have hu := hu1; have hatR := hatR1; clear hu1 hatR1 hb1)) | ((with_reducible refine wpl_storeR rfl 25 (.tmp 2) (.tmp 32) rfl rfl w.heap.size 25 zeroM zeroM ?_ ?_ hatR (by kernel_rfl) ?_ ?_ ?_); rfl; rfl; rfl; (simp [zeroM, rowM, Value.oneCell']); go_must (intro wz hatz hgz; have huz := below_grown hu hgz hu.size (Nat.le_refl _))))
  exact end_cell_tmp (p := 2) (u := 3) (by kernel_rfl) rfl hatz Try.underlying25 rfl (by kernel_rfl) rfl rfl ⟨by rw [HE.out]; rfl, huz⟩

set_option maxRecDepth 100000 in
set_option maxHeartbeats 1600000 in
theorem head_3 (p : Option Addr) (c : Nat) (xs : List Int) (w : World) (hr : Reads .u8 w (.slice p xs.length c) xs) (hwf : ∀ x ∈ xs, 0 ≤ x ∧ x ≤ 255) (hb : xs.length ≤ 140737488355300) (h1 : 20 ≤ xs.length) (h2 : xs.getD 0 0 = 1) (h3 : 4096 < getN xs 1 3) :
    Calls Try.prog 27 #[.slice p xs.length c] w (HeadIs w (headOf xs)) := by
  obtain ⟨n, hn⟩ : ∃ n, getN xs 1 3 = n := ⟨_, rfl⟩
  have hnb := getN3 xs hwf 1
  have G1 := Lib.hid (fun u (h : Below w.heap.size w u) => get _ xs 1 3 u (hr.below h) hwf hb (by omega) (by omega))
  rw [hn] at G1 hnb
  have s1 : IntKind.i64.wrap n = n := IntWalk.i64_in _ (by omega)
  obtain ⟨b, off, rfl, hlt, hc⟩ : ∃ b off, p = some ⟨b, off, none⟩ ∧ b < w.heap.size ∧ ∀ i, i < xs.length → w.cell? ⟨b, off + i, none⟩ = some (.int .u8 (xs.getD i 0)) := by
    obtain ⟨p', c', ee, _, _, _, hx⟩ := hr
    cases ee
    exact hx (by omega)
  obtain ⟨x0, hx0⟩ : ∃ x, xs.getD 0 0 = x := ⟨_, rfl⟩
  have b0 : 0 ≤ x0 ∧ x0 ≤ 255 := by
    rw [← hx0]
    exact hwf _ (by rw [List.getD_eq_getElem?_getD, List.getElem?_eq_getElem (by omega)]; simp)
  have H0 := Lib.hid (fun u (h : Below w.heap.size w u) => show u.cell? ⟨b, off, none⟩ = some (.int .u8 x0) by have := (h.cell (p := ⟨b, off + 0, none⟩) hlt).trans (hc 0 (by omega)); rwa [hx0] at this)
  obtain ⟨len, hlen⟩ : ∃ len, xs.length = len := ⟨_, rfl⟩
  have e : headOf xs = (noM, 4) := by unfold headOf; rw [if_neg (by omega), if_neg (by simpa using h2), if_pos h3]
  have HE := Lib.hid e
  have HW0 := Lib.hid (rfl : w = w)
  rw [h2] at hx0
  subst hx0
  rw [hn] at h3
  rw [hlen] at h1 G1 ⊢
  clear e hr hn hb hc h2 hlen
  go_enter Try.func27, Try.ntmps27
  go_wp2_with (first | ((with_reducible refine wpl_allocAt rfl 25 rfl zeroM (by kernel_rfl) ?_); have _t := HW0; clear _t; go_must (intro w1 hatR hu hs1; clear hs1 HW0; have T1 := hatR.lt)) | (go_at_call 38; have _t := G1; clear _t; go_must (refine (G1.out _ hu).mono ?_; clear G1; rintro e w2 ⟨rfl, hb1⟩; have hu1 := hu.trans (hb1.mono hu.size); have hatR1 := hatR.ext hb1; clear hu hatR; have c0 := H0.out _ hu1; have hu := hu1; have hatR := hatR1; clear hu1 hatR1 hb1)) | ((with_reducible refine wpl_storeR rfl 25 (.tmp 2) (.tmp 36) rfl rfl w.heap.size 25 zeroM zeroM ?_ ?_ hatR (by kernel_rfl) ?_ ?_ ?_); rfl; rfl; rfl; (simp [zeroM, rowM, Value.oneCell']); go_must (intro wz hatz hgz; have huz := below_grown hu hgz hu.size (Nat.le_refl _))))
  exact end_cell_tmp (p := 2) (u := 3) (by kernel_rfl) rfl hatz Try.underlying25 rfl (by kernel_rfl) rfl rfl ⟨by rw [HE.out]; rfl, huz⟩

set_option maxRecDepth 100000 in
set_option maxHeartbeats 1600000 in
theorem head_4 (p : Option Addr) (c : Nat) (xs : List Int) (w : World) (hr : Reads .u8 w (.slice p xs.length c) xs) (hwf : ∀ x ∈ xs, 0 ≤ x ∧ x ≤ 255) (hb : xs.length ≤ 140737488355300) (h1 : 20 ≤ xs.length) (h2 : xs.getD 0 0 = 1) (h3 : getN xs 1 3 ≤ 4096) (h4 : (xs.length : Int) < getN xs 1 3) :
    Calls Try.prog 27 #[.slice p xs.length c] w (HeadIs w (headOf xs)) := by
  obtain ⟨n, hn⟩ : ∃ n, getN xs 1 3 = n := ⟨_, rfl⟩
  have hnb := getN3 xs hwf 1
  have G1 := Lib.hid (fun u (h : Below w.heap.size w u) => get _ xs 1 3 u (hr.below h) hwf hb (by omega) (by omega))
  rw [hn] at G1 hnb
  have s1 : IntKind.i64.wrap n = n := IntWalk.i64_in _ (by omega)
  obtain ⟨b, off, rfl, hlt, hc⟩ : ∃ b off, p = some ⟨b, off, none⟩ ∧ b < w.heap.size ∧ ∀ i, i < xs.length → w.cell? ⟨b, off + i, none⟩ = some (.int .u8 (xs.getD i 0)) := by
    obtain ⟨p', c', ee, _, _, _, hx⟩ := hr
    cases ee
    exact hx (by omega)
  obtain ⟨x0, hx0⟩ : ∃ x, xs.getD 0 0 = x := ⟨_, rfl⟩
  have b0 : 0 ≤ x0 ∧ x0 ≤ 255 := by
    rw [← hx0]
    exact hwf _ (by rw [List.getD_eq_getElem?_getD, List.getElem?_eq_getElem (by omega)]; simp)
  have H0 := Lib.hid (fun u (h : Below w.heap.size w u) => show u.cell? ⟨b, off, none⟩ = some (.int .u8 x0) by have := (h.cell (p := ⟨b, off + 0, none⟩) hlt).trans (hc 0 (by omega)); rwa [hx0] at this)
  obtain ⟨len, hlen⟩ : ∃ len, xs.length = len := ⟨_, rfl⟩
  have e : headOf xs = (noM, 3) := by unfold headOf; rw [if_neg (by omega), if_neg (by simpa using h2), if_neg (by omega), if_pos h4]
  have HE := Lib.hid e
  have HW0 := Lib.hid (rfl : w = w)
  rw [h2] at hx0
  subst hx0
  rw [hn] at h3 h4
  rw [hlen] at h1 h4 G1 ⊢
  clear e hr hn hb hc h2 hlen
  go_enter Try.func27, Try.ntmps27
  go_wp2_with (first | ((with_reducible refine wpl_allocAt rfl 25 rfl zeroM (by kernel_rfl) ?_); have _t := HW0; clear _t; go_must (intro w1 hatR hu hs1; clear hs1 HW0; have T1 := hatR.lt)) | (go_at_call 38; have _t := G1; clear _t; go_must (refine (G1.out _ hu).mono ?_; clear G1; rintro e w2 ⟨rfl, hb1⟩; have hu1 := hu.trans (hb1.mono hu.size); have hatR1 := hatR.ext hb1; clear hu hatR; have c0 := H0.out _ hu1; have hu := hu1; have hatR := hatR1; clear hu1 hatR1 hb1)) | ((with_reducible refine wpl_storeR rfl 25 (.tmp 2) (.tmp 42) rfl rfl w.heap.size 25 zeroM zeroM ?_ ?_ hatR (by kernel_rfl) ?_ ?_ ?_); rfl; rfl; rfl; (simp [zeroM, rowM, Value.oneCell']); go_must (intro wz hatz hgz; have huz := below_grown hu hgz hu.size (Nat.le_refl _))))
  exact end_cell_tmp (p := 2) (u := 3) (by kernel_rfl) rfl hatz Try.underlying25 rfl (by kernel_rfl) rfl rfl ⟨by rw [HE.out]; rfl, huz⟩

set_option maxRecDepth 100000 in
set_option maxHeartbeats 1600000 in
theorem head_5 (p : Option Addr) (c : Nat) (xs : List Int) (w : World) (hr : Reads .u8 w (.slice p xs.length c) xs) (hwf : ∀ x ∈ xs, 0 ≤ x ∧ x ≤ 255) (hb : xs.length ≤ 140737488355300) (h1 : 20 ≤ xs.length) (h2 : xs.getD 0 0 = 1) (h3 : getN xs 1 3 ≤ 4096) (h4 : getN xs 1 3 ≤ (xs.length : Int)) :
    Calls Try.prog 27 #[.slice p xs.length c] w (HeadIs w (headOf xs)) := by
  obtain ⟨n, hn⟩ : ∃ n, getN xs 1 3 = n := ⟨_, rfl⟩
  have hnb := getN3 xs hwf 1
  have G1 := Lib.hid (fun u (h : Below w.heap.size w u) => get _ xs 1 3 u (hr.below h) hwf hb (by omega) (by omega))
  rw [hn] at G1 hnb
  have s1 : IntKind.i64.wrap n = n := IntWalk.i64_in _ (by omega)
  obtain ⟨b, off, rfl, hlt, hc⟩ : ∃ b off, p = some ⟨b, off, none⟩ ∧ b < w.heap.size ∧ ∀ i, i < xs.length → w.cell? ⟨b, off + i, none⟩ = some (.int .u8 (xs.getD i 0)) := by
    obtain ⟨p', c', ee, _, _, _, hx⟩ := hr
    cases ee
    exact hx (by omega)
  obtain ⟨x0, hx0⟩ : ∃ x, xs.getD 0 0 = x := ⟨_, rfl⟩
  have b0 : 0 ≤ x0 ∧ x0 ≤ 255 := by
    rw [← hx0]
    exact hwf _ (by rw [List.getD_eq_getElem?_getD, List.getElem?_eq_getElem (by omega)]; simp)
  have H0 := Lib.hid (fun u (h : Below w.heap.size w u) => show u.cell? ⟨b, off, none⟩ = some (.int .u8 x0) by have := (h.cell (p := ⟨b, off + 0, none⟩) hlt).trans (hc 0 (by omega)); rwa [hx0] at this)
  obtain ⟨len, hlen⟩ : ∃ len, xs.length = len := ⟨_, rfl⟩
  obtain ⟨f, hf⟩ : ∃ x, xs.getD 4 0 = x := ⟨_, rfl⟩
  have hfb : 0 ≤ f ∧ f ≤ 255 := by
    rw [← hf]
    exact hwf _ (by rw [List.getD_eq_getElem?_getD, List.getElem?_eq_getElem (by omega)]; simp)
  have H4 := Lib.hid (fun u (h : Below w.heap.size w u) => show u.cell? ⟨b, off + 4, none⟩ = some (.int .u8 f) by have := (h.cell (p := ⟨b, off + 4, none⟩) hlt).trans (hc 4 (by omega)); rwa [hf] at this)
  have e : headOf xs = if n < xs.length ∨ n % 4 ≠ 0 ∨ mixB (headV xs) = true then (noM, 2) else (headV xs, 0) := by unfold headOf; rw [if_neg (by omega), if_neg (by simpa using h2), if_neg (by omega), if_neg (by omega), hn]
  have HE := Lib.hid e
  have HW0 := Lib.hid (rfl : w = w)
  have HW1 := Lib.hid (rfl : w = w)
  rw [h2] at hx0
  subst hx0
  rw [hn] at h3 h4
  have HF := Lib.hid hf
  have HR := Lib.hid hr
  have HWF := Lib.hid hwf
  have HB := Lib.hid hb
  rw [hlen] at h1 h4 G1 ⊢
  have HLEN := Lib.hid hlen
  clear e hn hb hc h2 hf hlen hr hwf
  go_enter Try.func27, Try.ntmps27
  go_wp2_with (first | ((with_reducible refine wpl_allocAt rfl 25 rfl zeroM (by kernel_rfl) ?_); have _t := HW0; clear _t; go_must (intro w1 hatR hu hs1; clear hs1 HW0; have T1 := hatR.lt)) | (go_at_call 38; have _t := G1; clear _t; go_must (refine (G1.out _ hu).mono ?_; clear G1; rintro e w2 ⟨rfl, hb1⟩; have hu1 := hu.trans (hb1.mono hu.size); have hatR1 := hatR.ext hb1; clear hu hatR; have c0 := H0.out _ hu1; have hu := hu1; have hatR := hatR1; clear hu1 hatR1 hb1)) | ((with_reducible refine wpl_allocAt rfl 25 rfl zeroM (by kernel_rfl) ?_); have _t := HW1; clear _t; go_must (intro w3 hatG hb1 hs1; clear hs1 HW1; have hu1 := hu.trans (hb1.mono hu.size); have hatR1 := hatR.ext hb1; have T2 := hatR.lt; clear hu hatR; have hu := hu1; have hatR := hatR1; clear hu1 hatR1 hb1 c0)) | (go_at_call 32; go_must (refine (flags w2.heap.size w3).mono ?_; rintro e w4 ⟨rfl, hm4, hb1⟩; have hu1 := hu.trans (hb1.mono hu.size); have hatR1 := hatR.ext hb1; have hatG1 := hatG.ext hb1; have T3 := hatG.lt; clear hu hatR hatG; have hu := hu1; have hatR := hatR1; have hatG := hatG1; have T4 := hb1.size; clear hu1 hatR1 hatG1 hb1)) | (at_range; go_must (refine wpList_range_own _ rfl _ 54 rfl 5 _ keyed5 Try.underlying54 (ptrR w2.heap.size) w3.heap.size 4 (flagD true true true true) rfl hm4 ?_; intro w5 hrg hg5 hs5)))
  go_frame
  have hb5 := (Below.refl w4.heap.size w4).grown hg5 (Nat.le_refl _) (fun q e => by cases e)
  have hu5 := hu.trans (hb5.mono hu.size)
  have hatR5 := hatR.ext hb5
  have hatG5 := hatG.ext hb5
  have HM := Lib.hid (show mixB (withF f noM) = mixB (headV xs) by unfold headV; rw [HF.out]; rfl)
  rw [← hm_start f] at hatG5
  clear hu hatR hatG hm4 hb5 hg5
  go_loopw [] (fun wr => ∃ (left : Lit → Bool) (cnt : Nat), Below w.heap.size w wr ∧ At wr w.heap.size 25 zeroM ∧ At wr w2.heap.size 25 (rowM (hm f left) (.slice none 0 0)) ∧ wr.ranges Try.prog 5 (ptrR w2.heap.size) w3.heap.size w4.heap.size 4 (flagD true true true true) left cnt ∧ Hid (∀ kl, left kl = true → Maps.has (flagD true true true true) kl = true)) (fun wr => wr.rangeLeft w3.heap.size w4.heap.size)
  case atStart => exact ⟨_, _, hu5, hatR5, hatG5, hrg, Lib.hid (fun _ h => h)⟩
  case round =>
    obtain ⟨left, cnt, hu1, hatR1, hatG1, hrg1, HSUB⟩ := hrel
    clear hu5 hatR5 hatG5 hrg
    have T5 := hu1.size
    have hle := Lib.hid hrg1.left_eq
    go_upto_region 16 with (first | (at_next; go_must (refine wpList_next_ranges _ rfl _ rfl 5 keyed5 (ptrR w2.heap.size) (Value.int .u8) (fun c : Nat => .pointer (some ⟨w2.heap.size, c, none⟩)) key_inv (ptrR_inv w2.heap.size) w3.heap.size w4.heap.size 4 (flagD true true true true) left cnt rfl hrg1 ?_ ?_; intro hc0 hl0; have HEND := Lib.hid (hm_end f left hl0); clear hl0 hc0; rotate_left; intro x c1 kl y u7 cnt1 hkey hlk hR hatk hrg2 hlt2 hg1 hs1 hen; obtain ⟨rfl, hx⟩ := flag_next hkey (HSUB.out _ hlk) hR hatk; have hu2 := hu1.grown hg1 (by omega) (fun q e => by cases e; omega); have hatR2 := hatR1.grown hg1 (by omega); have hatG2 := hatG1.grown hg1 (by omega); have hx8 := is8 hx; have hc4 := lt4 hx; have hb8 := and_bit f x hfb hx8; have hst := hm_step f left x c1 (.slice none 0 0) hx; have HST := Lib.hid hst; have HX := Lib.hid hx; have HSUB2 := Lib.hid (fun z (h : (left z && !z.sameKey (key x)) = true) => HSUB.out z (by simp at h; exact h.1)); have c4 := H4.out _ hu2; have hg7 := hg1.size; clear hst hx hkey hR hatk hlk hg1 hrg1 hatR1 hatG1 hu1 hx8)) | ((with_reducible refine wpl_storeC rfl 4 (.tmp 57) (.tmp 56) rfl rfl w2.heap.size c1 25 (rowM (hm f left) (.slice none 0 0)) (rowM (hm f (fun z => left z && !z.sameKey (key x))) (.slice none 0 0)) (.bool (bt f x)) ?_ ?_ hatG2 ?_ (by kernel_rfl) ?_ ?_ ?_); rfl; rfl; exact (show c1 < 9 by omega); rfl; exact HST.out; go_must (intro u8 hatG3 hg8; have hu3 := below_grown hu2 hg8 (by omega) (by omega); have hatR3 := hatR2.grown hg8 (by omega); have hrg3 := hrg2.kept hg8 (fun e => by have := Option.some.inj e; omega) (fun e => by have := Option.some.inj e; omega); clear hatG2 hu2 hatR2 hrg2 c4 hg8)))
    · exact ⟨⟨_, _, hu3, hatR3, hatG3, hrg3, HSUB2⟩, by rw [hrg3.left_eq, hle.out]; exact hlt2⟩
    · rw [HEND.out] at hatG1
      clear hrg1 HSUB hle
      by_cases k1 : n < len
      · have e : headOf xs = (noM, 2) := by rw [HE.out, if_pos (.inl (by rw [HLEN.out]; exact k1))]
        have HE2 := Lib.hid e
        have hatR := hatR1
        have hu := hu1
        clear e hatR1 hu1
        go_wp2_with ((with_reducible refine wpl_storeR rfl 25 (.tmp 2) (.tmp 71) rfl rfl w.heap.size 25 zeroM zeroM ?_ ?_ hatR (by kernel_rfl) ?_ ?_ ?_); rfl; rfl; rfl; (simp [zeroM, rowM, Value.oneCell']); go_must (intro wz hatz hgz; have huz := below_grown hu hgz hu.size (Nat.le_refl _)))
        exact end_cell_tmp (p := 2) (u := 3) (by kernel_rfl) rfl hatz Try.underlying25 rfl (by kernel_rfl) rfl rfl ⟨by rw [HE2.out]; rfl, huz⟩

      by_cases k2 : n % 4 = 0
      · have kr : n.tmod 4 = 0 := by rw [Int.tmod_eq_emod_of_nonneg hnb.1]; exact k2
        obtain rfl : n = (len : Int) := by omega
        by_cases k3 : mixB (headV xs) = true
        · have e : headOf xs = (noM, 2) := by rw [HE.out, if_pos (.inr (.inr k3))]
          have HE2 := Lib.hid e
          have K3 := Lib.hid (HM.out.trans k3)
          have hatR := hatR1
          have hu := hu1
          clear e hatR1 hu1 k3
          go_wp2_with (first | (refine Mem.wpl_wanted (by rfl) ?_; (refine wpl_loadAt rfl 25 (.tmp 7) rfl w2.heap.size 25 (rowM (withF f noM) (.slice none 0 0)) hatG1 _ Try.underlying25 rfl (by kernel_rfl) ?_ ?_); rfl) | (go_at_call 29; go_must (refine (mixed _ _ _ rfl).mono ?_; rintro e w6 ⟨rfl, hb1⟩; rw [K3.out]; have hu2 := hu.trans (hb1.mono hu.size); have hatR2 := hatR.ext hb1; have hatG2 := hatG1.ext hb1; clear hu hatR hatG1; have hu := hu2; have hatR := hatR2; have hatG1 := hatG2; clear hu2 hatR2 hatG2 hb1)) | ((with_reducible refine wpl_storeR rfl 25 (.tmp 2) (.tmp 71) rfl rfl w.heap.size 25 zeroM zeroM ?_ ?_ hatR (by kernel_rfl) ?_ ?_ ?_); rfl; rfl; rfl; (simp [zeroM, rowM, Value.oneCell']); go_must (intro wz hatz hgz; have huz := below_grown hu hgz hu.size (Nat.le_refl _))))
          exact end_cell_tmp (p := 2) (u := 3) (by kernel_rfl) rfl hatz Try.underlying25 rfl (by kernel_rfl) rfl rfl ⟨by rw [HE2.out]; rfl, huz⟩

        · have e : headOf xs = (headV xs, 0) := by rw [HE.out, if_neg (by rw [HLEN.out]; simp only [not_or]; exact ⟨by omega, by omega, k3⟩)]
          have HE2 := Lib.hid e
          have K3 := Lib.hid (HM.out.trans (by simpa using k3 : mixB (headV xs) = false))
          have hatR := hatR1
          have hu := hu1
          have b5 := getN3 xs HWF.out 5
          have b8 := getN4 xs HWF.out 8
          have b12 := getN4 xs HWF.out 12
          have b16 := getN4 xs HWF.out 16
          have G5 := Lib.hid (fun u (h : Below w.heap.size w u) => get _ xs 5 3 u (HR.out.below h) HWF.out HB.out (by omega) (by omega))
          have G8 := Lib.hid (fun u (h : Below w.heap.size w u) => get _ xs 8 4 u (HR.out.below h) HWF.out HB.out (by omega) (by omega))
          have G12 := Lib.hid (fun u (h : Below w.heap.size w u) => get _ xs 12 4 u (HR.out.below h) HWF.out HB.out (by omega) (by omega))
          have G16 := Lib.hid (fun u (h : Below w.heap.size w u) => get _ xs 16 4 u (HR.out.below h) HWF.out HB.out (by omega) (by omega))
          rw [HLEN.out] at G5 G8 G12 G16
          have HV := Lib.hid (rfl : headV xs = headV xs)
          unfold headV at HV
          rw [HF.out] at HV
          obtain ⟨g5, h5⟩ : ∃ g, getN xs 5 3 = g := ⟨_, rfl⟩
          obtain ⟨g8, h8⟩ : ∃ g, getN xs 8 4 = g := ⟨_, rfl⟩
          obtain ⟨g12, h12⟩ : ∃ g, getN xs 12 4 = g := ⟨_, rfl⟩
          obtain ⟨g16, h16⟩ : ∃ g, getN xs 16 4 = g := ⟨_, rfl⟩
          rw [h5] at b5 G5 HV
          rw [h8] at b8 G8 HV
          rw [h12] at b12 G12 HV
          rw [h16] at b16 G16 HV
          have w5 : IntKind.u32.wrap g5 = g5 := by rw [IntKind.wrap_u32]; omega
          have w8 : IntKind.u32.wrap g8 = g8 := by rw [IntKind.wrap_u32]; omega
          have w12 : IntKind.u32.wrap g12 = g12 := by rw [IntKind.wrap_u32]; omega
          have w16 : IntKind.u32.wrap g16 = g16 := by rw [IntKind.wrap_u32]; omega
          obtain ⟨m0, hm0⟩ : ∃ m, withF f noM = m := ⟨_, rfl⟩
          obtain ⟨m1, hm1⟩ : ∃ m, ({ m0 with code := g5 } : M) = m := ⟨_, rfl⟩
          obtain ⟨m2, hm2⟩ : ∃ m, ({ m1 with app := g8 } : M) = m := ⟨_, rfl⟩
          obtain ⟨m3, hm3⟩ : ∃ m, ({ m2 with hop := g12 } : M) = m := ⟨_, rfl⟩
          obtain ⟨m4, hm4⟩ : ∃ m, ({ m3 with fin := g16 } : M) = m := ⟨_, rfl⟩
          have S1 := Lib.hid (show (rowM m0 (.slice none 0 0)).set! 4 (.int .u32 g5) = rowM m1 (.slice none 0 0) by rw [← hm1]; rfl)
          have S2 := Lib.hid (show (rowM m1 (.slice none 0 0)).set! 5 (.int .u32 g8) = rowM m2 (.slice none 0 0) by rw [← hm2]; rfl)
          have S3 := Lib.hid (show (rowM m2 (.slice none 0 0)).set! 6 (.int .u32 g12) = rowM m3 (.slice none 0 0) by rw [← hm3]; rfl)
          have S4 := Lib.hid (show (rowM m3 (.slice none 0 0)).set! 7 (.int .u32 g16) = rowM m4 (.slice none 0 0) by rw [← hm4]; rfl)
          have HV4 := Lib.hid (show headV xs = m4 by unfold headV; rw [HF.out, h5, h8, h12, h16, ← hm4, ← hm3, ← hm2, ← hm1, ← hm0]; rfl)
          rw [hm0] at hatG1 K3
          clear e hatR1 hu1 k3 HV h5 h8 h12 h16 hm0 hm1 hm2 hm3 hm4
          go_upto_region 20 with (first | (refine Mem.wpl_wanted (by rfl) ?_; (refine wpl_loadAt rfl 25 (.tmp 7) rfl w2.heap.size 25 (rowM m0 (.slice none 0 0)) hatG1 _ Try.underlying25 rfl (by kernel_rfl) ?_ ?_); rfl) | (go_at_call 29; go_must (refine (mixed _ _ _ rfl).mono ?_; rintro e w6 ⟨rfl, hb1⟩; rw [K3.out]; have hu2 := hu.trans (hb1.mono hu.size); have hatR2 := hatR.ext hb1; have hatG2 := hatG1.ext hb1; clear hu hatR hatG1; have hu := hu2; have hatR := hatR2; have hatG1 := hatG2; clear hu2 hatR2 hatG2 hb1)) | (go_at_call 38; have _t := G5; clear _t; go_must (refine (G5.out _ hu).mono ?_; clear G5; rintro e w7 ⟨rfl, hb1⟩; have hu2 := hu.trans (hb1.mono hu.size); have hatR2 := hatR.ext hb1; have hatG2 := hatG1.ext hb1; clear hu hatR hatG1; have hu := hu2; have hatR := hatR2; have hatG1 := hatG2; clear hu2 hatR2 hatG2 hb1)) | ((with_reducible refine wpl_storeC rfl 22 (.tmp 79) (.tmp 78) rfl rfl w2.heap.size 4 25 (rowM m0 (.slice none 0 0)) (rowM m1 (.slice none 0 0)) (.int .u32 g5) ?_ ?_ hatG1 ?_ (by kernel_rfl) ?_ ?_ ?_); rfl; rfl; exact (show (4 : Nat) < 9 by decide); rfl; exact S1.out; go_must (intro u8 hatG2 hg8; have hu2 := below_grown hu hg8 hu.size (by omega); have hatR2 := hatR.grown hg8 (by omega); clear hu hatR hatG1; have hu := hu2; have hatR := hatR2; have hatG1 := hatG2; clear hu2 hatR2 hatG2 hg8)))
          go_wp2_with fail
          have hatN := At.new u8 76 #[.pointer (some ⟨w2.heap.size, 5, none⟩), .pointer (some ⟨w2.heap.size, 6, none⟩), .pointer (some ⟨w2.heap.size, 7, none⟩)]
          have hbN := (Below.refl u8.heap.size u8).alloc (Nat.le_refl _) (.cells #[.pointer (some ⟨w2.heap.size, 5, none⟩), .pointer (some ⟨w2.heap.size, 6, none⟩), .pointer (some ⟨w2.heap.size, 7, none⟩)] 76)
          have hu2 := hu.trans (hbN.mono hu.size)
          have hatR2 := hatR.ext hbN
          have hatG2 := hatG1.ext hbN
          have TK := hatG1.lt
          clear hu hatR hatG1 hbN
          generalize u8.alloc (.cells #[.pointer (some ⟨w2.heap.size, 5, none⟩), .pointer (some ⟨w2.heap.size, 6, none⟩), .pointer (some ⟨w2.heap.size, 7, none⟩)] 76) = x0 at hatN hu2 hatR2 hatG2 ⊢
          go_loopw [85] (fun i wr => Below w.heap.size w wr ∧ At wr w.heap.size 25 zeroM ∧ At wr u8.heap.size 76 #[.pointer (some ⟨w2.heap.size, 5, none⟩), .pointer (some ⟨w2.heap.size, 6, none⟩), .pointer (some ⟨w2.heap.size, 7, none⟩)] ∧
            ((i = .int .i64 0 ∧ At wr w2.heap.size 25 (rowM m1 (.slice none 0 0))) ∨ (i = .int .i64 1 ∧ At wr w2.heap.size 25 (rowM m2 (.slice none 0 0))) ∨ (i = .int .i64 2 ∧ At wr w2.heap.size 25 (rowM m3 (.slice none 0 0))) ∨ (i = .int .i64 3 ∧ At wr w2.heap.size 25 (rowM m4 (.slice none 0 0))))) (fun i _ => 3 - (intOf i).toNat)
          case atStart => exact ⟨hu2, hatR2, hatN, .inl ⟨rfl, hatG2⟩⟩
          case round =>
            clear hu2 hatR2 hatG2 hatN
            obtain ⟨hu, hatR, hatK, hrel⟩ := hrel
            have k0 := hatK.cell 0
            have k1 := hatK.cell 1
            have k2 := hatK.cell 2
            simp at k0 k1 k2
            have TW := hu.size
            rcases hrel with ⟨rfl, hatG1⟩ | ⟨rfl, hatG1⟩ | ⟨rfl, hatG1⟩ | ⟨rfl, hatG1⟩
            · go_wp2_with (first | (go_at_call 38; have _t := G8; clear _t; go_must (clear k0 k1 k2; refine (G8.out _ hu).mono ?_; clear G8; rintro e x1 ⟨rfl, hb1⟩; have hu2 := hu.trans (hb1.mono hu.size); have hatR2 := hatR.ext hb1; have hatG2 := hatG1.ext hb1; have hatK2 := hatK.ext hb1; clear hu hatR hatG1 hatK; have hu := hu2; have hatR := hatR2; have hatG1 := hatG2; have hatK := hatK2; have k0 := hatK.cell 0; have k1 := hatK.cell 1; have k2 := hatK.cell 2; simp at k0 k1 k2; clear hu2 hatR2 hatG2 hatK2 hb1)) | ((with_reducible refine wpl_storeC rfl 22 (.tmp 101) (.tmp 100) rfl rfl w2.heap.size 5 25 (rowM m1 (.slice none 0 0)) (rowM m2 (.slice none 0 0)) (.int .u32 g8) ?_ ?_ hatG1 ?_ (by kernel_rfl) ?_ ?_ ?_); rfl; rfl; exact (show (5 : Nat) < 9 by decide); rfl; exact S2.out; go_must (intro u9 hatG2 hg8; have hu2 := below_grown hu hg8 hu.size (by omega); have hatR2 := hatR.grown hg8 (by omega); have hatK2 := hatK.grown hg8 (by omega); clear hu hatR hatG1 hatK k0 k1 k2; have hu := hu2; have hatR := hatR2; have hatG1 := hatG2; have hatK := hatK2; clear hu2 hatR2 hatG2 hatK2 hg8)))
              exact ⟨⟨hu, hatR, hatK, .inr (.inl ⟨rfl, hatG1⟩)⟩, by decide⟩
            · go_wp2_with (first | (go_at_call 38; have _t := G12; clear _t; go_must (clear k0 k1 k2; refine (G12.out _ hu).mono ?_; clear G12; rintro e x2 ⟨rfl, hb1⟩; have hu2 := hu.trans (hb1.mono hu.size); have hatR2 := hatR.ext hb1; have hatG2 := hatG1.ext hb1; have hatK2 := hatK.ext hb1; clear hu hatR hatG1 hatK; have hu := hu2; have hatR := hatR2; have hatG1 := hatG2; have hatK := hatK2; have k0 := hatK.cell 0; have k1 := hatK.cell 1; have k2 := hatK.cell 2; simp at k0 k1 k2; clear hu2 hatR2 hatG2 hatK2 hb1)) | ((with_reducible refine wpl_storeC rfl 22 (.tmp 101) (.tmp 100) rfl rfl w2.heap.size 6 25 (rowM m2 (.slice none 0 0)) (rowM m3 (.slice none 0 0)) (.int .u32 g12) ?_ ?_ hatG1 ?_ (by kernel_rfl) ?_ ?_ ?_); rfl; rfl; exact (show (6 : Nat) < 9 by decide); rfl; exact S3.out; go_must (intro u9 hatG2 hg8; have hu2 := below_grown hu hg8 hu.size (by omega); have hatR2 := hatR.grown hg8 (by omega); have hatK2 := hatK.grown hg8 (by omega); clear hu hatR hatG1 hatK k0 k1 k2; have hu := hu2; have hatR := hatR2; have hatG1 := hatG2; have hatK := hatK2; clear hu2 hatR2 hatG2 hatK2 hg8)))
              exact ⟨⟨hu, hatR, hatK, .inr (.inr (.inl ⟨rfl, hatG1⟩))⟩, by decide⟩
            · go_wp2_with (first | (go_at_call 38; have _t := G16; clear _t; go_must (clear k0 k1 k2; refine (G16.out _ hu).mono ?_; clear G16; rintro e x3 ⟨rfl, hb1⟩; have hu2 := hu.trans (hb1.mono hu.size); have hatR2 := hatR.ext hb1; have hatG2 := hatG1.ext hb1; have hatK2 := hatK.ext hb1; clear hu hatR hatG1 hatK; have hu := hu2; have hatR := hatR2; have hatG1 := hatG2; have hatK := hatK2; have k0 := hatK.cell 0; have k1 := hatK.cell 1; have k2 := hatK.cell 2; simp at k0 k1 k2; clear hu2 hatR2 hatG2 hatK2 hb1)) | ((with_reducible refine wpl_storeC rfl 22 (.tmp 101) (.tmp 100) rfl rfl w2.heap.size 7 25 (rowM m3 (.slice none 0 0)) (rowM m4 (.slice none 0 0)) (.int .u32 g16) ?_ ?_ hatG1 ?_ (by kernel_rfl) ?_ ?_ ?_); rfl; rfl; exact (show (7 : Nat) < 9 by decide); rfl; exact S4.out; go_must (intro u9 hatG2 hg8; have hu2 := below_grown hu hg8 hu.size (by omega); have hatR2 := hatR.grown hg8 (by omega); have hatK2 := hatK.grown hg8 (by omega); clear hu hatR hatG1 hatK k0 k1 k2; have hu := hu2; have hatR := hatR2; have hatG1 := hatG2; have hatK := hatK2; clear hu2 hatR2 hatG2 hatK2 hg8)))
              exact ⟨⟨hu, hatR, hatK, .inr (.inr (.inr (⟨rfl, hatG1⟩)))⟩, by decide⟩
            · go_wp2_with (first | ((with_reducible refine wpl_loadAt rfl 25 (.tmp 7) rfl w2.heap.size 25 (rowM m4 (.slice none 0 0)) hatG1 _ Try.underlying25 rfl (by kernel_rfl) ?_ ?_); rfl) | ((with_reducible refine wpl_storeR rfl 25 (.tmp 2) (.tmp 103) rfl rfl w.heap.size 25 zeroM (rowM m4 (.slice none 0 0)) ?_ ?_ hatR (by kernel_rfl) ?_ ?_ ?_); rfl; rfl; rfl; (simp [zeroM, rowM, Value.oneCell']); go_must (intro wz hatz hgz; have huz := below_grown hu hgz hu.size (Nat.le_refl _))))
              exact end_cell_tmp (p := 2) (u := 3) (by kernel_rfl) rfl hatz Try.underlying25 rfl (by kernel_rfl) rfl rfl ⟨by rw [HE2.out, HV4.out]; rfl, huz⟩

      · have e : headOf xs = (noM, 2) := by rw [HE.out, if_pos (.inr (.inl k2))]
        have HE2 := Lib.hid e
        have kr : n.tmod 4 = n % 4 := Int.tmod_eq_emod_of_nonneg hnb.1
        have kp : 0 < n % 4 := by omega
        have hatR := hatR1
        have hu := hu1
        obtain rfl : n = (len : Int) := by omega
        clear e hatR1 hu1
        go_wp2_with ((with_reducible refine wpl_storeR rfl 25 (.tmp 2) (.tmp 71) rfl rfl w.heap.size 25 zeroM zeroM ?_ ?_ hatR (by kernel_rfl) ?_ ?_ ?_); rfl; rfl; rfl; (simp [zeroM, rowM, Value.oneCell']); go_must (intro wz hatz hgz; have huz := below_grown hu hgz hu.size (Nat.le_refl _)))
        exact end_cell_tmp (p := 2) (u := 3) (by kernel_rfl) rfl hatz Try.underlying25 rfl (by kernel_rfl) rfl rfl ⟨by rw [HE2.out]; rfl, huz⟩

theorem msgHead (v : Value) (xs : List Int) (w : World) (hr : Reads .u8 w v xs) (hwf : ∀ x ∈ xs, 0 ≤ x ∧ x ≤ 255) (hb : xs.length ≤ 140737488355300) : Calls Try.prog 27 #[v] w (HeadIs w (headOf xs)) := by
  obtain ⟨p, c, rfl, _⟩ := id hr
  by_cases h1 : xs.length < 20
  · exact head_1 p c xs w hr hwf hb h1
  by_cases h2 : xs.getD 0 0 = 1
  · by_cases h3 : 4096 < getN xs 1 3
    · exact head_3 p c xs w hr hwf hb (by omega) h2 h3
    · by_cases h4 : (xs.length : Int) < getN xs 1 3
      · exact head_4 p c xs w hr hwf hb (by omega) h2 (by omega) h4
      · exact head_5 p c xs w hr hwf hb (by omega) h2 (by omega) (by omega)
  · exact head_2 p c xs w hr hwf hb (by omega) h2
end Go.Proofs.Ytcekkppjalipfaa.Avp
