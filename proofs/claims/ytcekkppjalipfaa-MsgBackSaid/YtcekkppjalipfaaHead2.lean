/-
  The reference's Head: the walk. (Printed by gen_rhead.py.)
-/
import Derived.Test.YtcekkppjalipfaaHead0
import Derived.Test.YtcekkppjalipfaaMonoT
import Derived.Deep.Cut
namespace Go.Proofs.Ytcekkppjalipfaa.Avp
open Go.RowKit Mem Cells Avps Wire Ops Go.Maps
set_option linter.unusedVariables false
set_option linter.unusedSimpArgs false

def headP (B : Nat) : Mono.Prp := ⟨fun v u => ∃ g, v = .pointer (some ⟨g, 0, none⟩) ∧ B ≤ g ∧ At u g 25 zeroM, fun _ _ _ ⟨g, h1, h2, h3⟩ hb => ⟨g, h1, h2, h3.ext hb⟩⟩
theorem quo_eq (f k : Int) (hf : 0 ≤ f) : f.tdiv k = f / k := Int.tdiv_eq_ediv_of_nonneg hf
set_option maxRecDepth 100000 in
set_option maxHeartbeats 1600000 in
theorem rhead_1 (p : Option Addr) (c : Nat) (xs : List Int) (w : World) (hr : Reads .u8 w (.slice p xs.length c) xs) (hwf : ∀ x ∈ xs, 0 ≤ x ∧ x ≤ 255) (hb : xs.length ≤ 140737488355300) (h1 : xs.length < 20) :
    Calls Try.prog 28 #[.slice p xs.length c] w (HeadIs w (headOf xs)) := by
  have e : headOf xs = (noM, 3) := by unfold headOf; rw [if_pos h1]
  have HE := Lib.hid e
  have HW0 := Lib.hid (rfl : w = w)
  obtain ⟨n, hn⟩ : ∃ n, xs.length = n := ⟨_, rfl⟩
  rw [hn] at h1 ⊢
  clear e hr hn hb
  go_enter Try.func28, Try.ntmps28
  go_wp2_with (first | ((with_reducible refine wpl_allocAt rfl 25 rfl zeroM (by kernel_rfl) ?_); have _t := HW0; clear _t; go_must (intro w1 hatR hu hs1; clear hs1 HW0; have T1 := hatR.lt)) | ((with_reducible refine wpl_storeR rfl 25 (.tmp 2) (.tmp 9) rfl rfl w.heap.size 25 zeroM zeroM ?_ ?_ hatR (by kernel_rfl) ?_ ?_ ?_); rfl; rfl; rfl; (simp [zeroM, rowM, Value.oneCell']); go_must (intro wz hatz hgz; have huz := below_grown hu hgz hu.size (Nat.le_refl _))))
  exact end_cell_tmp (p := 2) (u := 3) (by kernel_rfl) rfl hatz Try.underlying25 rfl (by kernel_rfl) rfl rfl ⟨by rw [HE.out]; rfl, huz⟩

set_option maxRecDepth 100000 in
set_option maxHeartbeats 1600000 in
theorem rhead_2 (p : Option Addr) (c : Nat) (xs : List Int) (w : World) (hr : Reads .u8 w (.slice p xs.length c) xs) (hwf : ∀ x ∈ xs, 0 ≤ x ∧ x ≤ 255) (hb : xs.length ≤ 140737488355300) (h1 : 20 ≤ xs.length) (h2 : xs.getD 0 0 ≠ 1) :
    Calls Try.prog 28 #[.slice p xs.length c] w (HeadIs w (headOf xs)) := by
  obtain ⟨n, hn⟩ : ∃ n, getN xs 1 3 = n := ⟨_, rfl⟩
  have hnb := getN3 xs hwf 1
  have G1 := Lib.hid (fun u (h : Below w.heap.size w u) => refNum _ xs 1 3 u (hr.below h) hwf hb (by omega) (by omega) (by have := getN3 xs hwf 1; omega))
  rw [hn] at G1 hnb
  have s1 : IntKind.i64.wrap n = n := IntWalk.i64_in _ (by omega)
  obtain ⟨b, off, rfl, hlt, hc⟩ : ∃ b off, p = some ⟨b, off, none⟩ ∧ b < w.heap.size ∧ ∀ i, i < xs.length → w.cell? ⟨b, off + i, none⟩ = some (.int .u8 (xs.getD i 0)) := by
    obtain ⟨p', c', ee, _, _, _, hx⟩ := hr
    cases ee
    exact hx (by omega)
  obtain ⟨x0, hx0⟩ : ∃ x, xs.getD 0 0 = x := ⟨_, rfl⟩
  have b0 : 0 ≤ x0 ∧ x0 ≤ 255 := by
    rw [← hx0]
    exact hwf _ (by rw [List.getD_eq_getElem?_getD, List.getElem?_eq_getElem (by omega)]; simp)
  have H0 := Lib.hid (fun u (h : Below w.heap.size w u) => show u.cell? ⟨b, off, none⟩ = some (.int .u8 x0) by have := (h.cell (p := ⟨b, off + 0, none⟩) hlt).trans (hc 0 (by omega)); rwa [hx0] at this)
  obtain ⟨len, hlen⟩ : ∃ len, xs.length = len := ⟨_, rfl⟩
  have e : headOf xs = (noM, 2) := by unfold headOf; rw [if_neg (by omega), if_pos h2]
  have HE := Lib.hid e
  have HW0 := Lib.hid (rfl : w = w)
  have hne : (x0 == 1) = false := by rw [← hx0]; simpa using h2
  rw [hlen] at h1 G1 ⊢
  clear e hr hn hb hc h2 hx0 hlen
  go_enter Try.func28, Try.ntmps28
  go_wp2_with (first | ((with_reducible refine wpl_allocAt rfl 25 rfl zeroM (by kernel_rfl) ?_); have _t := HW0; clear _t; go_must (intro w1 hatR hu hs1; clear hs1 HW0; have T1 := hatR.lt)) | (go_at_call 39; have _t := G1; clear _t; go_must (refine (G1.out _ hu).mono ?_; clear G1; rintro e w2 ⟨rfl, hb1⟩; have hu1 := hu.trans (hb1.mono hu.size); have hatR1 := hatR.ext hb1; clear hu hatR; have c0 := H0.out _ hu1; have hu := hu1; have hatR := hatR1; clear hu1 hatR1 hb1)) | ((with_reducible refine wpl_storeR rfl 25 (.tmp 2) (.tmp 16) rfl rfl w.heap.size 25 zeroM zeroM ?_ ?_ hatR (by kernel_rfl) ?_ ?_ ?_); rfl; rfl; rfl; (simp [zeroM, rowM, Value.oneCell']); go_must (intro wz hatz hgz; have huz := below_grown hu hgz hu.size (Nat.le_refl _))))
  exact end_cell_tmp (p := 2) (u := 3) (by kernel_rfl) rfl hatz Try.underlying25 rfl (by kernel_rfl) rfl rfl ⟨by rw [HE.out]; rfl, huz⟩

set_option maxRecDepth 100000 in
set_option maxHeartbeats 1600000 in
theorem rhead_3 (p : Option Addr) (c : Nat) (xs : List Int) (w : World) (hr : Reads .u8 w (.slice p xs.length c) xs) (hwf : ∀ x ∈ xs, 0 ≤ x ∧ x ≤ 255) (hb : xs.length ≤ 140737488355300) (h1 : 20 ≤ xs.length) (h2 : xs.getD 0 0 = 1) (h3 : 4096 < getN xs 1 3) :
    Calls Try.prog 28 #[.slice p xs.length c] w (HeadIs w (headOf xs)) := by
  obtain ⟨n, hn⟩ : ∃ n, getN xs 1 3 = n := ⟨_, rfl⟩
  have hnb := getN3 xs hwf 1
  have G1 := Lib.hid (fun u (h : Below w.heap.size w u) => refNum _ xs 1 3 u (hr.below h) hwf hb (by omega) (by omega) (by have := getN3 xs hwf 1; omega))
  rw [hn] at G1 hnb
  have s1 : IntKind.i64.wrap n = n := IntWalk.i64_in _ (by omega)
  obtain ⟨b, off, rfl, hlt, hc⟩ : ∃ b off, p = some ⟨b, off, none⟩ ∧ b < w.heap.size ∧ ∀ i, i < xs.length → w.cell? ⟨b, off + i, none⟩ = some (.int .u8 (xs.getD i 0)) := by
    obtain ⟨p', c', ee, _, _, _, hx⟩ := hr
    cases ee
    exact hx (by omega)
  obtain ⟨x0, hx0⟩ : ∃ x, xs.getD 0 0 = x := ⟨_, rfl⟩
  have b0 : 0 ≤ x0 ∧ x0 ≤ 255 := by
    rw [← hx0]
    exact hwf _ (by rw [List.getD_eq_getElem?_getD, List.getElem?_eq_getElem (by omega)]; simp)
  have H0 := Lib.hid (fun u (h : Below w.heap.size w u) => show u.cell? ⟨b, off, none⟩ = some (.int .u8 x0) by have := (h.cell (p := ⟨b, off + 0, none⟩) hlt).trans (hc 0 (by omega)); rwa [hx0] at this)
  obtain ⟨len, hlen⟩ : ∃ len, xs.length = len := ⟨_, rfl⟩
  have e : headOf xs = (noM, 4) := by unfold headOf; rw [if_neg (by omega), if_neg (by simpa using h2), if_pos h3]
  have HE := Lib.hid e
  have HW0 := Lib.hid (rfl : w = w)
  rw [h2] at hx0
  subst hx0
  rw [hn] at h3
  rw [hlen] at h1 G1 ⊢
  clear e hr hn hb hc h2 hlen
  go_enter Try.func28, Try.ntmps28
  go_wp2_with (first | ((with_reducible refine wpl_allocAt rfl 25 rfl zeroM (by kernel_rfl) ?_); have _t := HW0; clear _t; go_must (intro w1 hatR hu hs1; clear hs1 HW0; have T1 := hatR.lt)) | (go_at_call 39; have _t := G1; clear _t; go_must (refine (G1.out _ hu).mono ?_; clear G1; rintro e w2 ⟨rfl, hb1⟩; have hu1 := hu.trans (hb1.mono hu.size); have hatR1 := hatR.ext hb1; clear hu hatR; have c0 := H0.out _ hu1; have hu := hu1; have hatR := hatR1; clear hu1 hatR1 hb1)) | ((with_reducible refine wpl_storeR rfl 25 (.tmp 2) (.tmp 19) rfl rfl w.heap.size 25 zeroM zeroM ?_ ?_ hatR (by kernel_rfl) ?_ ?_ ?_); rfl; rfl; rfl; (simp [zeroM, rowM, Value.oneCell']); go_must (intro wz hatz hgz; have huz := below_grown hu hgz hu.size (Nat.le_refl _))))
  exact end_cell_tmp (p := 2) (u := 3) (by kernel_rfl) rfl hatz Try.underlying25 rfl (by kernel_rfl) rfl rfl ⟨by rw [HE.out]; rfl, huz⟩

set_option maxRecDepth 100000 in
set_option maxHeartbeats 1600000 in
theorem rhead_4 (p : Option Addr) (c : Nat) (xs : List Int) (w : World) (hr : Reads .u8 w (.slice p xs.length c) xs) (hwf : ∀ x ∈ xs, 0 ≤ x ∧ x ≤ 255) (hb : xs.length ≤ 140737488355300) (h1 : 20 ≤ xs.length) (h2 : xs.getD 0 0 = 1) (h3 : getN xs 1 3 ≤ 4096) (h4 : (xs.length : Int) < getN xs 1 3) :
    Calls Try.prog 28 #[.slice p xs.length c] w (HeadIs w (headOf xs)) := by
  obtain ⟨n, hn⟩ : ∃ n, getN xs 1 3 = n := ⟨_, rfl⟩
  have hnb := getN3 xs hwf 1
  have G1 := Lib.hid (fun u (h : Below w.heap.size w u) => refNum _ xs 1 3 u (hr.below h) hwf hb (by omega) (by omega) (by have := getN3 xs hwf 1; omega))
  rw [hn] at G1 hnb
  have s1 : IntKind.i64.wrap n = n := IntWalk.i64_in _ (by omega)
  obtain ⟨b, off, rfl, hlt, hc⟩ : ∃ b off, p = some ⟨b, off, none⟩ ∧ b < w.heap.size ∧ ∀ i, i < xs.length → w.cell? ⟨b, off + i, none⟩ = some (.int .u8 (xs.getD i 0)) := by
    obtain ⟨p', c', ee, _, _, _, hx⟩ := hr
    cases ee
    exact hx (by omega)
  obtain ⟨x0, hx0⟩ : ∃ x, xs.getD 0 0 = x := ⟨_, rfl⟩
  have b0 : 0 ≤ x0 ∧ x0 ≤ 255 := by
    rw [← hx0]
    exact hwf _ (by rw [List.getD_eq_getElem?_getD, List.getElem?_eq_getElem (by omega)]; simp)
  have H0 := Lib.hid (fun u (h : Below w.heap.size w u) => show u.cell? ⟨b, off, none⟩ = some (.int .u8 x0) by have := (h.cell (p := ⟨b, off + 0, none⟩) hlt).trans (hc 0 (by omega)); rwa [hx0] at this)
  obtain ⟨len, hlen⟩ : ∃ len, xs.length = len := ⟨_, rfl⟩
  have e : headOf xs = (noM, 3) := by unfold headOf; rw [if_neg (by omega), if_neg (by simpa using h2), if_neg (by omega), if_pos h4]
  have HE := Lib.hid e
  have HW0 := Lib.hid (rfl : w = w)
  rw [h2] at hx0
  subst hx0
  rw [hn] at h3 h4
  rw [hlen] at h1 h4 G1 ⊢
  clear e hr hn hb hc h2 hlen
  go_enter Try.func28, Try.ntmps28
  go_wp2_with (first | ((with_reducible refine wpl_allocAt rfl 25 rfl zeroM (by kernel_rfl) ?_); have _t := HW0; clear _t; go_must (intro w1 hatR hu hs1; clear hs1 HW0; have T1 := hatR.lt)) | (go_at_call 39; have _t := G1; clear _t; go_must (refine (G1.out _ hu).mono ?_; clear G1; rintro e w2 ⟨rfl, hb1⟩; have hu1 := hu.trans (hb1.mono hu.size); have hatR1 := hatR.ext hb1; clear hu hatR; have c0 := H0.out _ hu1; have hu := hu1; have hatR := hatR1; clear hu1 hatR1 hb1)) | ((with_reducible refine wpl_storeR rfl 25 (.tmp 2) (.tmp 24) rfl rfl w.heap.size 25 zeroM zeroM ?_ ?_ hatR (by kernel_rfl) ?_ ?_ ?_); rfl; rfl; rfl; (simp [zeroM, rowM, Value.oneCell']); go_must (intro wz hatz hgz; have huz := below_grown hu hgz hu.size (Nat.le_refl _))))
  exact end_cell_tmp (p := 2) (u := 3) (by kernel_rfl) rfl hatz Try.underlying25 rfl (by kernel_rfl) rfl rfl ⟨by rw [HE.out]; rfl, huz⟩

set_option maxRecDepth 100000 in
set_option maxHeartbeats 1600000 in
theorem rhead_5 (p : Option Addr) (c : Nat) (xs : List Int) (w : World) (hr : Reads .u8 w (.slice p xs.length c) xs) (hwf : ∀ x ∈ xs, 0 ≤ x ∧ x ≤ 255) (hb : xs.length ≤ 140737488355300) (h1 : 20 ≤ xs.length) (h2 : xs.getD 0 0 = 1) (h3 : getN xs 1 3 ≤ 4096) (h4 : getN xs 1 3 ≤ (xs.length : Int)) :
    Calls Try.prog 28 #[.slice p xs.length c] w (HeadIs w (headOf xs)) := by
  obtain ⟨n, hn⟩ : ∃ n, getN xs 1 3 = n := ⟨_, rfl⟩
  have hnb := getN3 xs hwf 1
  have G1 := Lib.hid (fun u (h : Below w.heap.size w u) => refNum _ xs 1 3 u (hr.below h) hwf hb (by omega) (by omega) (by have := getN3 xs hwf 1; omega))
  rw [hn] at G1 hnb
  have s1 : IntKind.i64.wrap n = n := IntWalk.i64_in _ (by omega)
  obtain ⟨b, off, rfl, hlt, hc⟩ : ∃ b off, p = some ⟨b, off, none⟩ ∧ b < w.heap.size ∧ ∀ i, i < xs.length → w.cell? ⟨b, off + i, none⟩ = some (.int .u8 (xs.getD i 0)) := by
    obtain ⟨p', c', ee, _, _, _, hx⟩ := hr
    cases ee
    exact hx (by omega)
  obtain ⟨x0, hx0⟩ : ∃ x, xs.getD 0 0 = x := ⟨_, rfl⟩
  have b0 : 0 ≤ x0 ∧ x0 ≤ 255 := by
    rw [← hx0]
    exact hwf _ (by rw [List.getD_eq_getElem?_getD, List.getElem?_eq_getElem (by omega)]; simp)
  have H0 := Lib.hid (fun u (h : Below w.heap.size w u) => show u.cell? ⟨b, off, none⟩ = some (.int .u8 x0) by have := (h.cell (p := ⟨b, off + 0, none⟩) hlt).trans (hc 0 (by omega)); rwa [hx0] at this)
  obtain ⟨len, hlen⟩ : ∃ len, xs.length = len := ⟨_, rfl⟩
  obtain ⟨f, hf⟩ : ∃ x, xs.getD 4 0 = x := ⟨_, rfl⟩
  have hfb : 0 ≤ f ∧ f ≤ 255 := by
    rw [← hf]
    exact hwf _ (by rw [List.getD_eq_getElem?_getD, List.getElem?_eq_getElem (by omega)]; simp)
  have H4 := Lib.hid (fun u (h : Below w.heap.size w u) => show u.cell? ⟨b, off + 4, none⟩ = some (.int .u8 f) by have := (h.cell (p := ⟨b, off + 4, none⟩) hlt).trans (hc 4 (by omega)); rwa [hf] at this)
  have e : headOf xs = if n < xs.length ∨ n % 4 ≠ 0 ∨ mixB (headV xs) = true then (noM, 2) else (headV xs, 0) := by unfold headOf; rw [if_neg (by omega), if_neg (by simpa using h2), if_neg (by omega), if_neg (by omega), hn]
  have HE := Lib.hid e
  have HW0 := Lib.hid (rfl : w = w)
  rw [h2] at hx0
  subst hx0
  rw [hn] at h3 h4
  have b5 := getN3 xs hwf 5
  have b8 := getN4 xs hwf 8
  have b12 := getN4 xs hwf 12
  have b16 := getN4 xs hwf 16
  have G5 := Lib.hid (fun u (h : Below w.heap.size w u) => refNum _ xs 5 3 u (hr.below h) hwf hb (by omega) (by omega) (by omega))
  have G8 := Lib.hid (fun u (h : Below w.heap.size w u) => refNum _ xs 8 4 u (hr.below h) hwf hb (by omega) (by omega) (by omega))
  have G12 := Lib.hid (fun u (h : Below w.heap.size w u) => refNum _ xs 12 4 u (hr.below h) hwf hb (by omega) (by omega) (by omega))
  have G16 := Lib.hid (fun u (h : Below w.heap.size w u) => refNum _ xs 16 4 u (hr.below h) hwf hb (by omega) (by omega) (by omega))
  rw [hlen] at h1 h4 G1 G5 G8 G12 G16 ⊢
  have HLEN := Lib.hid hlen
  obtain ⟨g5, h5⟩ : ∃ g, getN xs 5 3 = g := ⟨_, rfl⟩
  obtain ⟨g8, h8⟩ : ∃ g, getN xs 8 4 = g := ⟨_, rfl⟩
  obtain ⟨g12, h12⟩ : ∃ g, getN xs 12 4 = g := ⟨_, rfl⟩
  obtain ⟨g16, h16⟩ : ∃ g, getN xs 16 4 = g := ⟨_, rfl⟩
  rw [h5] at b5 G5
  rw [h8] at b8 G8
  rw [h12] at b12 G12
  rw [h16] at b16 G16
  have w5 : IntKind.u32.wrap g5 = g5 := by rw [IntKind.wrap_u32]; omega
  have w8 : IntKind.u32.wrap g8 = g8 := by rw [IntKind.wrap_u32]; omega
  have w12 : IntKind.u32.wrap g12 = g12 := by rw [IntKind.wrap_u32]; omega
  have w16 : IntKind.u32.wrap g16 = g16 := by rw [IntKind.wrap_u32]; omega
  obtain ⟨m4, hm4⟩ : ∃ m, headV xs = m := ⟨_, rfl⟩
  have hm4' : m4 = ⟨bt f 128, bt f 64, bt f 32, bt f 16, g5, g8, g12, g16, []⟩ := by rw [← hm4]; unfold headV; rw [hf, h5, h8, h12, h16]
  have HM := Lib.hid hm4'
  rw [hm4] at HE
  have ROW := Lib.hid (show rowM m4 (.slice none 0 0) = #[.bool (bt f 128), .bool (bt f 64), .bool (bt f 32), .bool (bt f 16), .int .u32 g5, .int .u32 g8, .int .u32 g12, .int .u32 g16, .slice none 0 0] by rw [hm4']; rfl)
  have q128 : f.tdiv 128 = f / 128 := quo_eq _ _ hfb.1
  have q64 : f.tdiv 64 = f / 64 := quo_eq _ _ hfb.1
  have q32 : f.tdiv 32 = f / 32 := quo_eq _ _ hfb.1
  have q16 : f.tdiv 16 = f / 16 := quo_eq _ _ hfb.1
  have n4 : ¬ (len : Int) ≤ 4 := by omega
  have u128 : IntKind.u8.wrap (f / 128) = f / 128 := by rw [IntKind.wrap_u8]; omega
  have u64 : IntKind.u8.wrap (f / 64) = f / 64 := by rw [IntKind.wrap_u8]; omega
  have u32' : IntKind.u8.wrap (f / 32) = f / 32 := by rw [IntKind.wrap_u8]; omega
  have u16 : IntKind.u8.wrap (f / 16) = f / 16 := by rw [IntKind.wrap_u8]; omega
  have r64 : (f / 64).tmod 2 = f / 64 % 2 := Int.tmod_eq_emod_of_nonneg (by omega)
  have r32 : (f / 32).tmod 2 = f / 32 % 2 := Int.tmod_eq_emod_of_nonneg (by omega)
  have r16 : (f / 16).tmod 2 = f / 16 % 2 := Int.tmod_eq_emod_of_nonneg (by omega)
  have e128 : (f / 128 == 1) = bt f 128 := by unfold bt; rw [Bool.eq_iff_iff]; simp; omega
  have e64 : (f / 64 % 2 == 1) = bt f 64 := by unfold bt; rw [Bool.eq_iff_iff]; simp
  have e32 : (f / 32 % 2 == 1) = bt f 32 := by unfold bt; rw [Bool.eq_iff_iff]; simp
  have e16 : (f / 16 % 2 == 1) = bt f 16 := by unfold bt; rw [Bool.eq_iff_iff]; simp
  have ht : n.tmod 4 = n % 4 := Int.tmod_eq_emod_of_nonneg hnb.1
  clear e hn hb hc h2 hf hlen hr hwf h5 h8 h12 h16 hm4 hm4'
  go_enter Try.func28, Try.ntmps28
  go_wp2_with (first | ((with_reducible refine wpl_allocAt rfl 25 rfl zeroM (by kernel_rfl) ?_); have _t := HW0; clear _t; go_must (intro w1 hatR hu hs1; clear hs1 HW0; have T1 := hatR.lt)) | (go_at_call 39; have _t := G1; clear _t; go_must (refine (G1.out _ hu).mono ?_; clear G1; rintro e w2 ⟨rfl, hb1⟩; have hu1 := hu.trans (hb1.mono hu.size); have hatR1 := hatR.ext hb1; clear hu hatR; have c0 := H0.out _ hu1; have hu := hu1; have hatR := hatR1; clear hu1 hatR1 hb1)))
  clear c0
  have hu0 := hu
  have TR := hatR.lt
  refine Mono.wp_region_monoT 37 [some 25, some 26, some 27, some 28, some 29, some 30, some 31, some 32, some 33, some 34, some 35, some 36, some 37, some 38, some 39, some 40, some 41, some 42, some 43, some 44, some 45, some 46, some 47, some 48, some 49, some 50, some 51, some 52, some 53, some 54, some 55, some 56, some 57, some 58, some 59, some 60, some 5] [Mono.isV (.slice (some ⟨b, off, none⟩) len c), Mono.isV (.pointer (some ⟨b, off + 4, none⟩)), Mono.isV (.int .u8 f), Mono.isV (.int .u8 (f / 128)), Mono.isV (.bool (bt f 128)), Mono.isV (.slice (some ⟨b, off, none⟩) len c), Mono.isV (.pointer (some ⟨b, off + 4, none⟩)), Mono.isV (.int .u8 f), Mono.isV (.int .u8 (f / 64)), Mono.isV (.int .u8 (f / 64 % 2)), Mono.isV (.bool (bt f 64)), Mono.isV (.slice (some ⟨b, off, none⟩) len c), Mono.isV (.pointer (some ⟨b, off + 4, none⟩)), Mono.isV (.int .u8 f), Mono.isV (.int .u8 (f / 32)), Mono.isV (.int .u8 (f / 32 % 2)), Mono.isV (.bool (bt f 32)), Mono.isV (.slice (some ⟨b, off, none⟩) len c), Mono.isV (.pointer (some ⟨b, off + 4, none⟩)), Mono.isV (.int .u8 f), Mono.isV (.int .u8 (f / 16)), Mono.isV (.int .u8 (f / 16 % 2)), Mono.isV (.bool (bt f 16)), Mono.isV (.slice (some ⟨b, off, none⟩) len c), Mono.isV (.int .i64 g5), Mono.isV (.int .u32 g5), Mono.isV (.slice (some ⟨b, off, none⟩) len c), Mono.isV (.int .i64 g8), Mono.isV (.int .u32 g8), Mono.isV (.slice (some ⟨b, off, none⟩) len c), Mono.isV (.int .i64 g12), Mono.isV (.int .u32 g12), Mono.isV (.slice (some ⟨b, off, none⟩) len c), Mono.isV (.int .i64 g16), Mono.isV (.int .u32 g16), Mono.isV (.agg #[.bool (bt f 128), .bool (bt f 64), .bool (bt f 32), .bool (bt f 16), .int .u32 g5, .int .u32 g8, .int .u32 g12, .int .u32 g16, .slice none 0 0]), headP w2.heap.size] (by kernel_rfl) (by kernel_rfl) ?_ ?_
  · simp only [Mono.OpGoals, List.take_succ_cons, List.take_zero, and_true]
    refine ⟨?_, ?_, ?_, ?_, ?_, ?_, ?_, ?_, ?_, ?_, ?_, ?_, ?_, ?_, ?_, ?_, ?_, ?_, ?_, ?_, ?_, ?_, ?_, ?_, ?_, ?_, ?_, ?_, ?_, ?_, ?_, ?_, ?_, ?_, ?_, ?_, ?_⟩
    · intro a u hbu hsu hdu
      have hux := hu.trans (hbu.mono hu.size); have cf := H4.out _ hux
      refine Mono.if_want rfl ?_
      exact Mono.ok_move (.tmp 0) rfl (hsu 0 (by decide))
    · intro a u hbu hsu hdu
      have hux := hu.trans (hbu.mono hu.size); have cf := H4.out _ hux
      refine Mono.if_want rfl ?_
      have z25 : a.eval (.tmp 25) = .slice (some ⟨b, off, none⟩) len c := Mono.dep_at hdu (i := 0) (d := 25) rfl rfl rfl
      simp [Act.eval] at z25
      exact Mono.ok_val (.pointer (some ⟨b, off + 4, none⟩)) (by simp [execOp, z25, go_sem, *]) rfl
    · intro a u hbu hsu hdu
      have hux := hu.trans (hbu.mono hu.size); have cf := H4.out _ hux
      refine Mono.if_want rfl ?_
      have z26 : a.eval (.tmp 26) = .pointer (some ⟨b, off + 4, none⟩) := Mono.dep_at hdu (i := 1) (d := 26) rfl rfl rfl
      simp [Act.eval] at z26
      exact Mono.ok_val (.int .u8 f) (by simp [execOp, z26, go_sem, *]) rfl
    · intro a u hbu hsu hdu
      have hux := hu.trans (hbu.mono hu.size); have cf := H4.out _ hux
      refine Mono.if_want rfl ?_
      have z27 : a.eval (.tmp 27) = .int .u8 f := Mono.dep_at hdu (i := 2) (d := 27) rfl rfl rfl
      simp [Act.eval] at z27
      exact Mono.ok_val (.int .u8 (f / 128)) (by simp [execOp, z27, go_sem, *]) rfl
    · intro a u hbu hsu hdu
      have hux := hu.trans (hbu.mono hu.size); have cf := H4.out _ hux
      refine Mono.if_want rfl ?_
      have z28 : a.eval (.tmp 28) = .int .u8 (f / 128) := Mono.dep_at hdu (i := 3) (d := 28) rfl rfl rfl
      simp [Act.eval] at z28
      exact Mono.ok_val (.bool (bt f 128)) (by simp [execOp, z28, go_sem, *]) rfl
    · intro a u hbu hsu hdu
      have hux := hu.trans (hbu.mono hu.size); have cf := H4.out _ hux
      refine Mono.if_want rfl ?_
      exact Mono.ok_move (.tmp 0) rfl (hsu 0 (by decide))
    · intro a u hbu hsu hdu
      have hux := hu.trans (hbu.mono hu.size); have cf := H4.out _ hux
      refine Mono.if_want rfl ?_
      have z30 : a.eval (.tmp 30) = .slice (some ⟨b, off, none⟩) len c := Mono.dep_at hdu (i := 5) (d := 30) rfl rfl rfl
      simp [Act.eval] at z30
      exact Mono.ok_val (.pointer (some ⟨b, off + 4, none⟩)) (by simp [execOp, z30, go_sem, *]) rfl
    · intro a u hbu hsu hdu
      have hux := hu.trans (hbu.mono hu.size); have cf := H4.out _ hux
      refine Mono.if_want rfl ?_
      have z31 : a.eval (.tmp 31) = .pointer (some ⟨b, off + 4, none⟩) := Mono.dep_at hdu (i := 6) (d := 31) rfl rfl rfl
      simp [Act.eval] at z31
      exact Mono.ok_val (.int .u8 f) (by simp [execOp, z31, go_sem, *]) rfl
    · intro a u hbu hsu hdu
      have hux := hu.trans (hbu.mono hu.size); have cf := H4.out _ hux
      refine Mono.if_want rfl ?_
      have z32 : a.eval (.tmp 32) = .int .u8 f := Mono.dep_at hdu (i := 7) (d := 32) rfl rfl rfl
      simp [Act.eval] at z32
      exact Mono.ok_val (.int .u8 (f / 64)) (by simp [execOp, z32, go_sem, *]) rfl
    · intro a u hbu hsu hdu
      have hux := hu.trans (hbu.mono hu.size); have cf := H4.out _ hux
      refine Mono.if_want rfl ?_
      have z33 : a.eval (.tmp 33) = .int .u8 (f / 64) := Mono.dep_at hdu (i := 8) (d := 33) rfl rfl rfl
      simp [Act.eval] at z33
      exact Mono.ok_val (.int .u8 (f / 64 % 2)) (by simp [execOp, z33, go_sem, *]) rfl
    · intro a u hbu hsu hdu
      have hux := hu.trans (hbu.mono hu.size); have cf := H4.out _ hux
      refine Mono.if_want rfl ?_
      have z34 : a.eval (.tmp 34) = .int .u8 (f / 64 % 2) := Mono.dep_at hdu (i := 9) (d := 34) rfl rfl rfl
      simp [Act.eval] at z34
      exact Mono.ok_val (.bool (bt f 64)) (by simp [execOp, z34, go_sem, *]) rfl
    · intro a u hbu hsu hdu
      have hux := hu.trans (hbu.mono hu.size); have cf := H4.out _ hux
      refine Mono.if_want rfl ?_
      exact Mono.ok_move (.tmp 0) rfl (hsu 0 (by decide))
    · intro a u hbu hsu hdu
      have hux := hu.trans (hbu.mono hu.size); have cf := H4.out _ hux
      refine Mono.if_want rfl ?_
      have z36 : a.eval (.tmp 36) = .slice (some ⟨b, off, none⟩) len c := Mono.dep_at hdu (i := 11) (d := 36) rfl rfl rfl
      simp [Act.eval] at z36
      exact Mono.ok_val (.pointer (some ⟨b, off + 4, none⟩)) (by simp [execOp, z36, go_sem, *]) rfl
    · intro a u hbu hsu hdu
      have hux := hu.trans (hbu.mono hu.size); have cf := H4.out _ hux
      refine Mono.if_want rfl ?_
      have z37 : a.eval (.tmp 37) = .pointer (some ⟨b, off + 4, none⟩) := Mono.dep_at hdu (i := 12) (d := 37) rfl rfl rfl
      simp [Act.eval] at z37
      exact Mono.ok_val (.int .u8 f) (by simp [execOp, z37, go_sem, *]) rfl
    · intro a u hbu hsu hdu
      have hux := hu.trans (hbu.mono hu.size); have cf := H4.out _ hux
      refine Mono.if_want rfl ?_
      have z38 : a.eval (.tmp 38) = .int .u8 f := Mono.dep_at hdu (i := 13) (d := 38) rfl rfl rfl
      simp [Act.eval] at z38
      exact Mono.ok_val (.int .u8 (f / 32)) (by simp [execOp, z38, go_sem, *]) rfl
    · intro a u hbu hsu hdu
      have hux := hu.trans (hbu.mono hu.size); have cf := H4.out _ hux
      refine Mono.if_want rfl ?_
      have z39 : a.eval (.tmp 39) = .int .u8 (f / 32) := Mono.dep_at hdu (i := 14) (d := 39) rfl rfl rfl
      simp [Act.eval] at z39
      exact Mono.ok_val (.int .u8 (f / 32 % 2)) (by simp [execOp, z39, go_sem, *]) rfl
    · intro a u hbu hsu hdu
      have hux := hu.trans (hbu.mono hu.size); have cf := H4.out _ hux
      refine Mono.if_want rfl ?_
      have z40 : a.eval (.tmp 40) = .int .u8 (f / 32 % 2) := Mono.dep_at hdu (i := 15) (d := 40) rfl rfl rfl
      simp [Act.eval] at z40
      exact Mono.ok_val (.bool (bt f 32)) (by simp [execOp, z40, go_sem, *]) rfl
    · intro a u hbu hsu hdu
      have hux := hu.trans (hbu.mono hu.size); have cf := H4.out _ hux
      refine Mono.if_want rfl ?_
      exact Mono.ok_move (.tmp 0) rfl (hsu 0 (by decide))
    · intro a u hbu hsu hdu
      have hux := hu.trans (hbu.mono hu.size); have cf := H4.out _ hux
      refine Mono.if_want rfl ?_
      have z42 : a.eval (.tmp 42) = .slice (some ⟨b, off, none⟩) len c := Mono.dep_at hdu (i := 17) (d := 42) rfl rfl rfl
      simp [Act.eval] at z42
      exact Mono.ok_val (.pointer (some ⟨b, off + 4, none⟩)) (by simp [execOp, z42, go_sem, *]) rfl
    · intro a u hbu hsu hdu
      have hux := hu.trans (hbu.mono hu.size); have cf := H4.out _ hux
      refine Mono.if_want rfl ?_
      have z43 : a.eval (.tmp 43) = .pointer (some ⟨b, off + 4, none⟩) := Mono.dep_at hdu (i := 18) (d := 43) rfl rfl rfl
      simp [Act.eval] at z43
      exact Mono.ok_val (.int .u8 f) (by simp [execOp, z43, go_sem, *]) rfl
    · intro a u hbu hsu hdu
      have hux := hu.trans (hbu.mono hu.size); have cf := H4.out _ hux
      refine Mono.if_want rfl ?_
      have z44 : a.eval (.tmp 44) = .int .u8 f := Mono.dep_at hdu (i := 19) (d := 44) rfl rfl rfl
      simp [Act.eval] at z44
      exact Mono.ok_val (.int .u8 (f / 16)) (by simp [execOp, z44, go_sem, *]) rfl
    · intro a u hbu hsu hdu
      have hux := hu.trans (hbu.mono hu.size); have cf := H4.out _ hux
      refine Mono.if_want rfl ?_
      have z45 : a.eval (.tmp 45) = .int .u8 (f / 16) := Mono.dep_at hdu (i := 20) (d := 45) rfl rfl rfl
      simp [Act.eval] at z45
      exact Mono.ok_val (.int .u8 (f / 16 % 2)) (by simp [execOp, z45, go_sem, *]) rfl
    · intro a u hbu hsu hdu
      have hux := hu.trans (hbu.mono hu.size); have cf := H4.out _ hux
      refine Mono.if_want rfl ?_
      have z46 : a.eval (.tmp 46) = .int .u8 (f / 16 % 2) := Mono.dep_at hdu (i := 21) (d := 46) rfl rfl rfl
      simp [Act.eval] at z46
      exact Mono.ok_val (.bool (bt f 16)) (by simp [execOp, z46, go_sem, *]) rfl
    · intro a u hbu hsu hdu
      have hux := hu.trans (hbu.mono hu.size); have cf := H4.out _ hux
      refine Mono.if_want rfl ?_
      exact Mono.ok_move (.tmp 0) rfl (hsu 0 (by decide))
    · intro a u hbu hsu hdu
      have hux := hu.trans (hbu.mono hu.size); have cf := H4.out _ hux
      refine Mono.if_want rfl ?_
      have z48 : a.eval (.tmp 48) = .slice (some ⟨b, off, none⟩) len c := Mono.dep_at hdu (i := 23) (d := 48) rfl rfl rfl
      simp [Act.eval] at z48
      refine Mono.ok_call 39 _ _ rfl #[.slice (some ⟨b, off, none⟩) len c, .int .i64 5, .int .i64 3] (by simp [execOp, z48, go_sem]) ((G5.out u hux).mono ?_)
      rintro e u1 ⟨rfl, hb1⟩
      exact ⟨_, rfl, hb1, rfl⟩
    · intro a u hbu hsu hdu
      have hux := hu.trans (hbu.mono hu.size); have cf := H4.out _ hux
      refine Mono.if_want rfl ?_
      have z49 : a.eval (.tmp 49) = .int .i64 g5 := Mono.dep_at hdu (i := 24) (d := 49) rfl rfl rfl
      simp [Act.eval] at z49
      exact Mono.ok_val (.int .u32 g5) (by simp [execOp, z49, go_sem, *] <;> simp [convert, IntKind.wrap_u64, IntKind.wrap_i64] <;> omega) rfl
    · intro a u hbu hsu hdu
      have hux := hu.trans (hbu.mono hu.size); have cf := H4.out _ hux
      refine Mono.if_want rfl ?_
      exact Mono.ok_move (.tmp 0) rfl (hsu 0 (by decide))
    · intro a u hbu hsu hdu
      have hux := hu.trans (hbu.mono hu.size); have cf := H4.out _ hux
      refine Mono.if_want rfl ?_
      have z51 : a.eval (.tmp 51) = .slice (some ⟨b, off, none⟩) len c := Mono.dep_at hdu (i := 26) (d := 51) rfl rfl rfl
      simp [Act.eval] at z51
      refine Mono.ok_call 39 _ _ rfl #[.slice (some ⟨b, off, none⟩) len c, .int .i64 8, .int .i64 4] (by simp [execOp, z51, go_sem]) ((G8.out u hux).mono ?_)
      rintro e u1 ⟨rfl, hb1⟩
      exact ⟨_, rfl, hb1, rfl⟩
    · intro a u hbu hsu hdu
      have hux := hu.trans (hbu.mono hu.size); have cf := H4.out _ hux
      refine Mono.if_want rfl ?_
      have z52 : a.eval (.tmp 52) = .int .i64 g8 := Mono.dep_at hdu (i := 27) (d := 52) rfl rfl rfl
      simp [Act.eval] at z52
      exact Mono.ok_val (.int .u32 g8) (by simp [execOp, z52, go_sem, *] <;> simp [convert, IntKind.wrap_u64, IntKind.wrap_i64] <;> omega) rfl
    · intro a u hbu hsu hdu
      have hux := hu.trans (hbu.mono hu.size); have cf := H4.out _ hux
      refine Mono.if_want rfl ?_
      exact Mono.ok_move (.tmp 0) rfl (hsu 0 (by decide))
    · intro a u hbu hsu hdu
      have hux := hu.trans (hbu.mono hu.size); have cf := H4.out _ hux
      refine Mono.if_want rfl ?_
      have z54 : a.eval (.tmp 54) = .slice (some ⟨b, off, none⟩) len c := Mono.dep_at hdu (i := 29) (d := 54) rfl rfl rfl
      simp [Act.eval] at z54
      refine Mono.ok_call 39 _ _ rfl #[.slice (some ⟨b, off, none⟩) len c, .int .i64 12, .int .i64 4] (by simp [execOp, z54, go_sem]) ((G12.out u hux).mono ?_)
      rintro e u1 ⟨rfl, hb1⟩
      exact ⟨_, rfl, hb1, rfl⟩
    · intro a u hbu hsu hdu
      have hux := hu.trans (hbu.mono hu.size); have cf := H4.out _ hux
      refine Mono.if_want rfl ?_
      have z55 : a.eval (.tmp 55) = .int .i64 g12 := Mono.dep_at hdu (i := 30) (d := 55) rfl rfl rfl
      simp [Act.eval] at z55
      exact Mono.ok_val (.int .u32 g12) (by simp [execOp, z55, go_sem, *] <;> simp [convert, IntKind.wrap_u64, IntKind.wrap_i64] <;> omega) rfl
    · intro a u hbu hsu hdu
      have hux := hu.trans (hbu.mono hu.size); have cf := H4.out _ hux
      refine Mono.if_want rfl ?_
      exact Mono.ok_move (.tmp 0) rfl (hsu 0 (by decide))
    · intro a u hbu hsu hdu
      have hux := hu.trans (hbu.mono hu.size); have cf := H4.out _ hux
      refine Mono.if_want rfl ?_
      have z57 : a.eval (.tmp 57) = .slice (some ⟨b, off, none⟩) len c := Mono.dep_at hdu (i := 32) (d := 57) rfl rfl rfl
      simp [Act.eval] at z57
      refine Mono.ok_call 39 _ _ rfl #[.slice (some ⟨b, off, none⟩) len c, .int .i64 16, .int .i64 4] (by simp [execOp, z57, go_sem]) ((G16.out u hux).mono ?_)
      rintro e u1 ⟨rfl, hb1⟩
      exact ⟨_, rfl, hb1, rfl⟩
    · intro a u hbu hsu hdu
      have hux := hu.trans (hbu.mono hu.size); have cf := H4.out _ hux
      refine Mono.if_want rfl ?_
      have z58 : a.eval (.tmp 58) = .int .i64 g16 := Mono.dep_at hdu (i := 33) (d := 58) rfl rfl rfl
      simp [Act.eval] at z58
      exact Mono.ok_val (.int .u32 g16) (by simp [execOp, z58, go_sem, *] <;> simp [convert, IntKind.wrap_u64, IntKind.wrap_i64] <;> omega) rfl
    · intro a u hbu hsu hdu
      have hux := hu.trans (hbu.mono hu.size); have cf := H4.out _ hux
      refine Mono.if_want rfl ?_
      have z29 : a.eval (.tmp 29) = .bool (bt f 128) := Mono.dep_at hdu (i := 4) (d := 29) rfl rfl rfl
      simp [Act.eval] at z29
      have z35 : a.eval (.tmp 35) = .bool (bt f 64) := Mono.dep_at hdu (i := 10) (d := 35) rfl rfl rfl
      simp [Act.eval] at z35
      have z41 : a.eval (.tmp 41) = .bool (bt f 32) := Mono.dep_at hdu (i := 16) (d := 41) rfl rfl rfl
      simp [Act.eval] at z41
      have z47 : a.eval (.tmp 47) = .bool (bt f 16) := Mono.dep_at hdu (i := 22) (d := 47) rfl rfl rfl
      simp [Act.eval] at z47
      have z50 : a.eval (.tmp 50) = .int .u32 g5 := Mono.dep_at hdu (i := 25) (d := 50) rfl rfl rfl
      simp [Act.eval] at z50
      have z53 : a.eval (.tmp 53) = .int .u32 g8 := Mono.dep_at hdu (i := 28) (d := 53) rfl rfl rfl
      simp [Act.eval] at z53
      have z56 : a.eval (.tmp 56) = .int .u32 g12 := Mono.dep_at hdu (i := 31) (d := 56) rfl rfl rfl
      simp [Act.eval] at z56
      have z59 : a.eval (.tmp 59) = .int .u32 g16 := Mono.dep_at hdu (i := 34) (d := 59) rfl rfl rfl
      simp [Act.eval] at z59
      exact Mono.ok_build 25 _ rfl #[(0, .bool (bt f 128)), (1, .bool (bt f 64)), (2, .bool (bt f 32)), (3, .bool (bt f 16)), (4, .int .u32 g5), (5, .int .u32 g8), (6, .int .u32 g12), (7, .int .u32 g16)] (by simp [z29, z35, z41, z47, z50, z53, z56, z59, Act.eval]) (.agg #[.bool (bt f 128), .bool (bt f 64), .bool (bt f 32), .bool (bt f 16), .int .u32 g5, .int .u32 g8, .int .u32 g12, .int .u32 g16, .slice none 0 0]) (by kernel_rfl) rfl
    · intro a u hbu hsu hdu
      have hux := hu.trans (hbu.mono hu.size); have cf := H4.out _ hux
      refine Mono.if_want rfl ?_
      exact Mono.ok_alloc 25 rfl zeroM (by kernel_rfl) (fun w9 h9 => ⟨_, rfl, hbu.size, h9⟩)
  intro u hu
  simp only [Mono.Fin]
  rintro _ rfl _ rfl _ rfl _ rfl _ rfl _ rfl _ rfl _ rfl _ rfl _ rfl _ rfl _ rfl _ rfl _ rfl _ rfl _ rfl _ rfl _ rfl _ rfl _ rfl _ rfl _ rfl _ rfl _ rfl _ rfl _ rfl _ rfl _ rfl _ rfl _ rfl _ rfl _ rfl _ rfl _ rfl _ rfl _ rfl v5 h5
  obtain ⟨G, rfl, hgB, hatG1⟩ := h5
  have hu' := hu0.trans (hu.mono hu0.size)
  have hatR' := hatR.ext hu
  clear hu hu0 hatR G5 G8 G12 G16 H4 H0
  have hu := hu'
  have hatR := hatR'
  clear hu' hatR'
  simp [Act.put]
  rw [← ROW.out]
  go_upto_region 11 with ((with_reducible refine wpl_storeR rfl 25 (.tmp 5) (.tmp 60) rfl rfl G 25 zeroM (rowM m4 (.slice none 0 0)) ?_ ?_ hatG1 (by kernel_rfl) ?_ ?_ ?_); rfl; rfl; rfl; (simp [rowM, Value.oneCell']); go_must (intro w5 hatG2 hg5; have hu2 := below_grown hu hg5 hu.size (by omega); have hatR2 := hatR.grown hg5 (by omega); clear hu hatR hatG1; have hu := hu2; have hatR := hatR2; have hatG1 := hatG2; clear hu2 hatR2 hatG2 hg5))
  by_cases k1 : n < len
  · have e : headOf xs = (noM, 2) := by rw [HE.out, if_pos (.inl (by rw [HLEN.out]; exact k1))]
    have HE2 := Lib.hid e
    clear e
    go_wp2_with ((with_reducible refine wpl_storeR rfl 25 (.tmp 2) (.tmp 74) rfl rfl w.heap.size 25 zeroM zeroM ?_ ?_ hatR (by kernel_rfl) ?_ ?_ ?_); rfl; rfl; rfl; (simp [zeroM, rowM, Value.oneCell']); go_must (intro wz hatz hgz; have huz := below_grown hu hgz hu.size (Nat.le_refl _)))
    exact end_cell_tmp (p := 2) (u := 3) (by kernel_rfl) rfl hatz Try.underlying25 rfl (by kernel_rfl) rfl rfl ⟨by rw [HE2.out]; rfl, huz⟩

  by_cases k2 : n % 4 = 0
  · obtain rfl : n = (len : Int) := by omega
    have kr : ((len : Int)).tmod 4 = 0 := by rw [ht]; exact k2
    clear ht
    by_cases k3 : mixB m4 = true
    · have e : headOf xs = (noM, 2) := by rw [HE.out, if_pos (.inr (.inr k3))]
      have HE2 := Lib.hid e
      have K3 := Lib.hid k3
      clear e k3
      go_wp2_with (first | (refine Mem.wpl_wanted (by rfl) ?_; (refine wpl_loadAt rfl 25 (.tmp 5) rfl G 25 (rowM m4 (.slice none 0 0)) hatG1 _ Try.underlying25 rfl (by kernel_rfl) ?_ ?_); rfl) | (go_at_call 33; go_must (refine (refMixed _ _ _ rfl).mono ?_; rintro e w6 ⟨rfl, hb1⟩; rw [K3.out]; have hu2 := hu.trans (hb1.mono hu.size); have hatR2 := hatR.ext hb1; have hatG2 := hatG1.ext hb1; clear hu hatR hatG1; have hu := hu2; have hatR := hatR2; have hatG1 := hatG2; clear hu2 hatR2 hatG2 hb1)) | ((with_reducible refine wpl_storeR rfl 25 (.tmp 2) (.tmp 74) rfl rfl w.heap.size 25 zeroM zeroM ?_ ?_ hatR (by kernel_rfl) ?_ ?_ ?_); rfl; rfl; rfl; (simp [zeroM, rowM, Value.oneCell']); go_must (intro wz hatz hgz; have huz := below_grown hu hgz hu.size (Nat.le_refl _))))
      exact end_cell_tmp (p := 2) (u := 3) (by kernel_rfl) rfl hatz Try.underlying25 rfl (by kernel_rfl) rfl rfl ⟨by rw [HE2.out]; rfl, huz⟩

    · have e : headOf xs = (m4, 0) := by rw [HE.out, if_neg (by rw [HLEN.out]; simp only [not_or]; exact ⟨by omega, by omega, k3⟩)]
      have HE2 := Lib.hid e
      have K3 := Lib.hid (by simpa using k3 : mixB m4 = false)
      clear e k3
      go_wp2_with (first | (refine Mem.wpl_wanted (by rfl) ?_; (refine wpl_loadAt rfl 25 (.tmp 5) rfl G 25 (rowM m4 (.slice none 0 0)) hatG1 _ Try.underlying25 rfl (by kernel_rfl) ?_ ?_); rfl) | (go_at_call 33; go_must (refine (refMixed _ _ _ rfl).mono ?_; rintro e w6 ⟨rfl, hb1⟩; rw [K3.out]; have hu2 := hu.trans (hb1.mono hu.size); have hatR2 := hatR.ext hb1; have hatG2 := hatG1.ext hb1; clear hu hatR hatG1; have hu := hu2; have hatR := hatR2; have hatG1 := hatG2; clear hu2 hatR2 hatG2 hb1)) | ((with_reducible refine wpl_loadAt rfl 25 (.tmp 5) rfl G 25 (rowM m4 (.slice none 0 0)) hatG1 _ Try.underlying25 rfl (by kernel_rfl) ?_ ?_); rfl) | ((with_reducible refine wpl_storeR rfl 25 (.tmp 2) (.tmp 75) rfl rfl w.heap.size 25 zeroM (rowM m4 (.slice none 0 0)) ?_ ?_ hatR (by kernel_rfl) ?_ ?_ ?_); rfl; rfl; rfl; (simp [zeroM, rowM, Value.oneCell']); go_must (intro wz hatz hgz; have huz := below_grown hu hgz hu.size (Nat.le_refl _))))
      exact end_cell_tmp (p := 2) (u := 3) (by kernel_rfl) rfl hatz Try.underlying25 rfl (by kernel_rfl) rfl rfl ⟨by rw [HE2.out]; rfl, huz⟩

  · have e : headOf xs = (noM, 2) := by rw [HE.out, if_pos (.inr (.inl k2))]
    have HE2 := Lib.hid e
    have kp : 0 < n % 4 := by omega
    obtain rfl : n = (len : Int) := by omega
    clear e
    go_wp2_with ((with_reducible refine wpl_storeR rfl 25 (.tmp 2) (.tmp 74) rfl rfl w.heap.size 25 zeroM zeroM ?_ ?_ hatR (by kernel_rfl) ?_ ?_ ?_); rfl; rfl; rfl; (simp [zeroM, rowM, Value.oneCell']); go_must (intro wz hatz hgz; have huz := below_grown hu hgz hu.size (Nat.le_refl _)))
    exact end_cell_tmp (p := 2) (u := 3) (by kernel_rfl) rfl hatz Try.underlying25 rfl (by kernel_rfl) rfl rfl ⟨by rw [HE2.out]; rfl, huz⟩

theorem refHead (v : Value) (xs : List Int) (w : World) (hr : Reads .u8 w v xs) (hwf : ∀ x ∈ xs, 0 ≤ x ∧ x ≤ 255) (hb : xs.length ≤ 140737488355300) : Calls Try.prog 28 #[v] w (HeadIs w (headOf xs)) := by
  obtain ⟨p, c, rfl, _⟩ := id hr
  by_cases h1 : xs.length < 20
  · exact rhead_1 p c xs w hr hwf hb h1
  by_cases h2 : xs.getD 0 0 = 1
  · by_cases h3 : 4096 < getN xs 1 3
    · exact rhead_3 p c xs w hr hwf hb (by omega) h2 h3
    · by_cases h4 : (xs.length : Int) < getN xs 1 3
      · exact rhead_4 p c xs w hr hwf hb (by omega) h2 (by omega) h4
      · exact rhead_5 p c xs w hr hwf hb (by omega) h2 (by omega) (by omega)
  · exact rhead_2 p c xs w hr hwf hb (by omega) h2
end Go.Proofs.Ytcekkppjalipfaa.Avp
