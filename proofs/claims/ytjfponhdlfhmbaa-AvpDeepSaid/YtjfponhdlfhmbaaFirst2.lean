/-
  avp.first: the walk.
-/
import Derived.Test.YtjfponhdlfhmbaaFirst1
import Derived.Test.YtjfponhdlfhmbaaStillRow
import Derived.Lib.Hide
namespace Go.Proofs.Ytjfponhdlfhmbaa.Avp
open Go.RowKit Mem Cells Avps Wire
set_option linter.unusedVariables false
set_option linter.unusedSimpArgs false

/-- A byte that is there. -/
theorem byte_at {w : World} {p : Option Addr} {n c : Nat} {xs : List Int} (hr : Reads .u8 w (.slice p n c) xs) (hwf : ∀ x ∈ xs, 0 ≤ x ∧ x ≤ 255) (i : Nat) (hi : i < xs.length) :
    ∃ b off x, p = some ⟨b, off, none⟩ ∧ xs.getD i 0 = x ∧ (0 ≤ x ∧ x ≤ 255) ∧ b < w.heap.size ∧ w.cell? ⟨b, off + i, none⟩ = some (.int .u8 x) := by
  obtain ⟨p', c', e, h1, h2, h3, h4⟩ := hr
  cases e
  obtain ⟨b, off, rfl, hlt, hc⟩ := h4 (by omega)
  refine ⟨b, off, _, rfl, rfl, ?_, hlt, hc i hi⟩
  rw [List.getD_eq_getElem?_getD, List.getElem?_eq_getElem hi]
  exact hwf _ (List.getElem_mem _)

set_option maxHeartbeats 1600000 in
theorem first_vend (v : Value) (xs : List Int) (w : World) (hr : Reads .u8 w v xs) (hwf : ∀ x ∈ xs, 0 ≤ x ∧ x ≤ 255) (h8 : 8 ≤ xs.length) (h12 : xs.length < 12) (hv : vend xs = true) : Calls Try.prog 25 #[v] w (FirstIs w xs) := by
  have e1 : oneE xs = 3 := by unfold oneE; rw [if_pos (.inr ⟨hv, by omega⟩)]
  obtain ⟨p, c, rfl, k1, k2, _, _⟩ := id hr
  obtain ⟨b, off, x, rfl, hx, hx0, hlt, hc4⟩ := byte_at hr hwf 4 (by omega)
  have h128 := and128 x hx0
  unfold vend at hv
  rw [hx] at hv
  rw [hv] at h128
  have h0 := At.new w 41 zeroRow
  have hb := (Below.refl w.heap.size w).alloc (Nat.le_refl _) (.cells zeroRow 41)
  have hc := (hb.cell (p := ⟨b, off + 4, none⟩) hlt).trans hc4
  have HE := Lib.hid e1
  clear e1 hv hx hr hwf hc4
  have k8 : 4 < xs.length := by omega
  go_enter Try.func25, Try.ntmps25
  go_wp2_with (refine wpList_store_row rfl 41 _ _ rfl w.heap.size zeroRow rfl rfl 41 _ h0 (by kernel_rfl) rfl (by simp [Value.oneCell']) ?_)
  exact end_cell3 (p := 2) (u := 3) (x := 4) (by kernel_rfl) rfl h0.row Try.underlying41 rfl (by kernel_rfl) rfl rfl rfl (FirstIs.none HE.out (by decide) rfl (below_setRow hb (Nat.le_refl _) _))

theorem partL_len (xs : List Int) (at_ n : Int) : ((partL xs at_ n).length : Int) ≤ max n 0 := by
  unfold partL
  split
  · rw [List.length_take]; omega
  · simp; omega
theorem getN_bound (xs : List Int) (hwf : ∀ x ∈ xs, 0 ≤ x ∧ x ≤ 255) (at_ : Int) (size : Nat) (M : Nat) (hM : 256 ^ size = M) : 0 ≤ getN xs at_ size ∧ getN xs at_ size < M ∨ getN xs at_ size = 0 := by
  unfold getN
  split
  · left
    have h := num_bound (partL xs at_ size) (fun x hx => hwf x (partL_mem hx))
    have h2 := partL_len xs at_ size
    have h3 : 256 ^ (partL xs at_ size).length ≤ 256 ^ size := Nat.pow_le_pow_right (by omega) (by omega)
    rw [hM] at h3
    omega
  · right; rfl
theorem getN3 (xs : List Int) (hwf : ∀ x ∈ xs, 0 ≤ x ∧ x ≤ 255) (at_ : Int) : 0 ≤ getN xs at_ 3 ∧ getN xs at_ 3 ≤ 16777215 := by
  have := getN_bound xs hwf at_ 3 16777216 (by decide)
  rw [show ((3 : Nat) : Int) = 3 from rfl] at this
  omega
theorem getN4 (xs : List Int) (hwf : ∀ x ∈ xs, 0 ≤ x ∧ x ≤ 255) (at_ : Int) : 0 ≤ getN xs at_ 4 ∧ getN xs at_ 4 ≤ 4294967295 := by
  have := getN_bound xs hwf at_ 4 4294967296 (by decide)
  rw [show ((4 : Nat) : Int) = 4 from rfl] at this
  omega

/-- What first answers where there is one. -/
theorem FirstIs.some {w w' : World} {xs : List Int} {b : Bool} {n cd vv x : Int} {ys : List Int} {d : Value} {e : Ending} (hv : vend xs = b) (hx : xs.getD 4 0 = x) (hx0 : 0 ≤ x ∧ x ≤ 255) (hn : getN xs 5 3 = n) (hcd : getN xs 0 4 = cd)
    (hE : oneE xs = 0) (hys : partL xs (headN b) (n - headN b) = ys) (hle : ¬ n < headN b) (hnl : ¬ (xs.length : Int) < n) (hvv : (if b then getN xs 8 4 else 0) = vv)
    (he : e = .returned (.tuple #[.agg #[.int .u32 cd, .int .u32 vv, .bool (decide (0 < bits .and .u8 x 64)), .bool (decide (0 < bits .and .u8 x 32)), d], .int .i64 (n + padN n), .int .i64 0]))
    (hd : Reads .u8 w' d ys) (hb : 0 < ys.length → ∃ k, d.ownBlock = some k ∧ w.heap.size ≤ k) (hbl : Below w.heap.size w w') : FirstIs w xs e w' := by
  have h8 : 0 ≤ headN b := by unfold headN; split <;> omega
  have hy : (xs.drop (headN b).toNat).take (n - headN b).toNat = ys := by
    rw [← hys]
    have h0 : partE (xs.length : Int) (headN b) (n - headN b) = 0 := by unfold partE; rw [if_neg (by omega), if_neg (by omega)]
    unfold partL
    rw [if_pos h0]
  have hA : oneA xs = ⟨cd, vv, decide (x / 64 % 2 = 1), decide (x / 32 % 2 = 1), ys⟩ := by
    unfold oneA
    rw [if_pos hE, hv, hx, hcd, hvv, show lenN xs = n from hn, hy]
  refine ⟨d, ?_, ?_, ?_, hbl⟩
  · rw [he, hA, hE, and64 x hx0, and32 x hx0]
    unfold oneN
    rw [if_pos hE, show lenN xs = n from hn]
    rfl
  · rw [hA]; exact hd
  · rw [hA]; exact hb

set_option maxHeartbeats 3200000 in
theorem first_rest (v : Value) (xs : List Int) (w : World) (hr : Reads .u8 w v xs) (hwf : ∀ x ∈ xs, 0 ≤ x ∧ x ≤ 255) (hb : xs.length ≤ 140737488355300) (h8 : 8 ≤ xs.length) (b : Bool) (h12 : b = true → 12 ≤ xs.length) (hv : vend xs = b) : Calls Try.prog 25 #[v] w (FirstIs w xs) := by
  have hE1 : oneE xs = (if lenN xs < headN b then 2 else if (xs.length : Int) < lenN xs + padN (lenN xs) then 3 else if b = true ∧ getN xs 8 4 = 0 then 2 else 0) := by
    unfold oneE
    rw [hv]
    have hno : ¬ ((xs.length : Int) < 8 ∨ (b = true ∧ (xs.length : Int) < 12)) := by
      intro h
      rcases h with h | ⟨h1, h2⟩
      · omega
      · have := h12 h1
        omega
    rw [if_neg hno]
  have hN := getN3 xs hwf 5
  have hC := getN4 xs hwf 0
  have hX := getN4 xs hwf 8
  obtain ⟨n, hn⟩ : ∃ n, getN xs 5 3 = n := ⟨_, rfl⟩
  obtain ⟨cd, hcd⟩ : ∃ cd, getN xs 0 4 = cd := ⟨_, rfl⟩
  obtain ⟨vx, hvx⟩ : ∃ vx, getN xs 8 4 = vx := ⟨_, rfl⟩
  rw [show lenN xs = n from hn, hvx] at hE1
  obtain ⟨p, c, rfl, k1, k2, _, _⟩ := id hr
  obtain ⟨bl, off, x, rfl, hx, hx0, hlt, hc4⟩ := byte_at hr hwf 4 (by omega)
  have h128 := and128 x hx0
  have hv' := hv
  unfold vend at hv'
  rw [hx] at hv'
  rw [hv'] at h128
  have PG5 := Lib.hid (fun u (hu : Reads .u8 u (.slice (some ⟨bl, off, none⟩) xs.length c) xs) => by have := get _ xs 5 3 u hu hwf hb (by omega) (by omega); rwa [hn] at this)
  have PG0 := Lib.hid (fun u (hu : Reads .u8 u (.slice (some ⟨bl, off, none⟩) xs.length c) xs) => by have := get _ xs 0 4 u hu hwf hb (by omega) (by omega); rwa [hcd] at this)
  have PG8 := Lib.hid (fun u (hu : Reads .u8 u (.slice (some ⟨bl, off, none⟩) xs.length c) xs) => by have := get _ xs 8 4 u hu hwf hb (by omega) (by omega); rwa [hvx] at this)
  rw [hn] at hN
  rw [hcd] at hC
  rw [hvx] at hX
  have PP := Lib.hid (fun u (hu : Reads .u8 u (.slice (some ⟨bl, off, none⟩) xs.length c) xs) => Wire.part _ xs (headN b) (n - headN b) u hu hb (by unfold headN; split <;> omega) (by unfold headN; split <;> omega))
  have h0 := At.new w 41 zeroRow
  have hbl := (Below.refl w.heap.size w).alloc (Nat.le_refl _) (.cells zeroRow 41)
  have hru := hr.below hbl
  have hc := (hbl.cell (p := ⟨bl, off + 4, none⟩) hlt).trans hc4
  have HE := Lib.hid hE1
  have HV := Lib.hid hv
  have HX := Lib.hid hx
  have HN := Lib.hid hn
  have HCD := Lib.hid hcd
  have HVX := Lib.hid hvx
  have k8 : 4 < xs.length := by omega
  have W12 := Lib.hid h12
  have HW := Lib.hid hwf
  have HR := Lib.hid hr
  clear hE1 hv hx hn hcd hvx hv' hr hwf hc4 h12 hb
  cases b
  · have PH : ∀ u, Calls Try.prog 21 #[.bool false] u fun e w' => e = .returned (.int .i64 8) ∧ w' = u := fun u => head false u
    skip
    go_enter Try.func25, Try.ntmps25
    go_wp2_with fail
    refine (PH _).mono ?_
    rintro e w1 ⟨rfl, rfl⟩
    go_wp2_with fail
    refine (PG5.out _ hru).mono ?_
    rintro e w1 ⟨rfl, hb1⟩
    have h1 := h0.ext hb1
    have hru1 := hru.below hb1
    have hc1 := (hb1.cell (p := ⟨bl, off + 4, none⟩) (Nat.lt_of_lt_of_le hlt hbl.size)).trans hc
    replace hbl := hbl.trans (hb1.mono hbl.size)
    clear h0 hru hc hb1
    have e8 : headN false = 8 := rfl
    by_cases hn8 : n < 8
    · go_wp2_with (refine wpList_store_row rfl 41 _ _ rfl w.heap.size zeroRow rfl rfl 41 _ h1 (by kernel_rfl) rfl (by simp [Value.oneCell']) ?_)
      exact end_cell3 (p := 2) (u := 3) (x := 4) (by kernel_rfl) rfl h1.row Try.underlying41 rfl (by kernel_rfl) rfl rfl rfl (FirstIs.none (E := 2) (by rw [HE.out, if_pos (show n < headN false from hn8)]) (by decide) rfl (below_setRow hbl (Nat.le_refl _) _))
    · go_wp2_with fail
      refine (PG0.out _ hru1).mono ?_
      rintro e w2 ⟨rfl, hb1⟩
      have h2 := h1.ext hb1
      have hru2 := hru1.below hb1
      have hc2 := (hb1.cell (p := ⟨bl, off + 4, none⟩) (Nat.lt_of_lt_of_le hlt hbl.size)).trans hc1
      replace hbl := hbl.trans (hb1.mono hbl.size)
      clear h1 hru1 hc1 hb1
      go_wp2_with fail
      go_still_tail 13, (by kernel_rfl)
      change wpList _ _ _ _ _ w2.drew
      have h2d : At w2.drew w.heap.size 41 zeroRow := h2
      have hru2d : Reads .u8 w2.drew (.slice (some ⟨bl, off, none⟩) xs.length c) xs := hru2
      have hbld : Below w.heap.size w w2.drew := hbl.drew
      generalize w2.drew = wd at h2d hru2d hbld
      clear h2 hru2 hbl hc2
      go_wp2_with (refine wpList_store_row rfl 41 _ _ rfl w.heap.size _ rfl rfl 41 _ h2d (by kernel_rfl) rfl (by simp [Value.oneCell']) ?_)
      have h3 := h2d.row (ds := #[.int .u32 cd, .int .u32 0, .bool (decide (0 < bits .and .u8 x 64)), .bool (decide (0 < bits .and .u8 x 32)), .slice none 0 0])
      have hru3 := reads_setRow (g := w.heap.size) (cs := #[.int .u32 cd, .int .u32 0, .bool (decide (0 < bits .and .u8 x 64)), .bool (decide (0 < bits .and .u8 x 32)), .slice none 0 0]) hru2d (fun _ e => by cases e; exact Nat.lt_irrefl _ hlt)
      have hbl3 := below_setRow hbld (Nat.le_refl w.heap.size) #[.int .u32 cd, .int .u32 0, .bool (decide (0 < bits .and .u8 x 64)), .bool (decide (0 < bits .and .u8 x 32)), .slice none 0 0]
      generalize wd.setRow w.heap.size #[.int .u32 cd, .int .u32 0, .bool (decide (0 < bits .and .u8 x 64)), .bool (decide (0 < bits .and .u8 x 32)), .slice none 0 0] = u3 at h3 hru3 hbl3
      clear h2d hru2d hbld
      have hpp := PP.out u3 hru3
      rw [e8] at hpp
      obtain ⟨E, hE4⟩ : ∃ E, partE (xs.length : Int) 8 (n - 8) = E := ⟨_, rfl⟩
      obtain ⟨ys, hys⟩ : ∃ ys, partL xs 8 (n - 8) = ys := ⟨_, rfl⟩
      rw [hE4, hys] at hpp
      have HYS := Lib.hid hys
      clear hys
      by_cases hnl : (xs.length : Int) < n
      · have hE3 : E = 3 := by rw [← hE4]; unfold partE; rw [if_neg (by omega), if_pos (by omega)]
        subst hE3
        clear hE4
        refine hpp.mono ?_
        rintro e w4 ⟨v4, rfl, hown, hb4⟩
        obtain ⟨p4, c4, rfl, _, _, _, _⟩ := hown.reads
        have h4 := h3.ext hb4
        have hbl4 := hbl3.trans (hb4.mono hbl3.size)
        have k4 : w4.cell? ⟨w.heap.size, 4, none⟩ = some (.slice none 0 0) := h4.cell 4
        have f4 := h4.free 4
        have h5 := h4.set (j := 4) (v := .slice p4 ys.length c4) rfl
        have hbl5 := hbl4.setCell (p := ⟨w.heap.size, 4, none⟩) (Nat.le_refl _) (.slice p4 ys.length c4)
        clear h3 hru3 hbl3 hbl4
        go_wp2_with (refine wpList_store_row rfl 41 _ _ rfl w.heap.size zeroRow rfl rfl 41 _ h5 (by kernel_rfl) rfl (by simp [Value.oneCell']) ?_)
        exact end_cell3 (p := 2) (u := 3) (x := 4) (by kernel_rfl) rfl h5.row Try.underlying41 rfl (by kernel_rfl) rfl rfl rfl (FirstIs.none (E := 3) (by rw [HE.out, if_neg (show ¬ n < headN false by rw [e8]; omega), if_pos (by unfold padN; split <;> omega)]) (by decide) rfl (below_setRow hbl5 (Nat.le_refl _) _))
      · have hE3 : E = 0 := by rw [← hE4]; unfold partE; rw [if_neg (by omega), if_neg (by omega)]
        subst hE3
        clear hE4
        refine hpp.mono ?_
        rintro e w4 ⟨v4, rfl, hown, hb4⟩
        have hg3 := h3.lt
        have ho4 := hown.lt
        have hr4 := hown.reads
        obtain ⟨p4, c4, rfl, _, _, _, _⟩ := hown.reads
        have h4 := h3.ext hb4
        have hbl4 := hbl3.trans (hb4.mono hbl3.size)
        have k4 : w4.cell? ⟨w.heap.size, 4, none⟩ = some (.slice none 0 0) := h4.cell 4
        have f4 := h4.free 4
        have h5 := h4.set (j := 4) (v := .slice p4 ys.length c4) rfl
        have hbl5 := hbl4.setCell (p := ⟨w.heap.size, 4, none⟩) (Nat.le_refl _) (.slice p4 ys.length c4)
        have hr5 := reads_setCell (g := w.heap.size) (j := 4) (v := .slice p4 ys.length c4) hr4 (fun _ e => by have := (ho4 _ e).1; omega)
        have hru5 := reads_setCell (g := w.heap.size) (j := 4) (v := .slice p4 ys.length c4) (hru3.below hb4) (fun _ e => by cases e; exact Nat.lt_irrefl _ hlt)
        clear h3 hru3 hbl3 hbl4 hown
        obtain ⟨pn, hpn⟩ : ∃ pn, padN n = pn := ⟨_, rfl⟩
        have hpn0 : 0 ≤ pn ∧ pn ≤ 3 := by rw [← hpn]; unfold padN; split <;> omega
        have PD := Lib.hid (fun u => by have := pad n u (by omega); rwa [hpn] at this)
        have HPN := Lib.hid hpn
        clear hpn
        go_wp2_with fail
        refine (PD.out _).mono ?_
        rintro e w5 ⟨rfl, rfl⟩
        generalize w4.setCell ⟨w.heap.size, 4, none⟩ (.slice p4 ys.length c4) = u5 at h5 hbl5 hr5 hru5
        clear h4 k4 f4 hb4 hr4
        have PD' := Lib.hid (fun u : World => (PD.out u).mono (fun e w' (h : e = .returned (.int .i64 pn) ∧ u = w') => (⟨h.1, h.2.symm⟩ : e = .returned (.int .i64 pn) ∧ w' = u)))
        by_cases hsh : (xs.length : Int) < n + pn
        · go_wp2_with (refine wpList_store_row rfl 41 _ _ rfl w.heap.size zeroRow rfl rfl 41 _ h5 (by kernel_rfl) rfl (by simp [Value.oneCell']) ?_)
          exact end_cell3 (p := 2) (u := 3) (x := 4) (by kernel_rfl) rfl h5.row Try.underlying41 rfl (by kernel_rfl) rfl rfl rfl (FirstIs.none (E := 3) (by rw [HE.out, if_neg (show ¬ n < headN false by rw [e8]; omega), HPN.out, if_pos hsh]) (by decide) rfl (below_setRow hbl5 (Nat.le_refl _) _))
        · go_wp2_with fail
          refine wp_region_still_lit (by kernel_rfl) (by kernel_rfl) ?_
          change wpStill Try.prog _ u5.drew _ _ _
          have h6 : At u5.drew w.heap.size 41 _ := h5
          refine wpStill_load_row rfl 41 (.tmp 2) rfl w.heap.size rfl 41 _ _ _ h6 Try.underlying41 rfl (by kernel_rfl) ?_
          still_step
          still_step
          still_call (PD'.out _)
          still_step
          refine wpStill_store_row rfl 41 _ _ rfl w.heap.size _ rfl rfl 41 h6 (by kernel_rfl) (by simp [Value.oneCell']) ?_
          still_step
          still_step
          refine wpStill_nil ?_
          have hwr : IntKind.i64.wrap (n + pn) = n + padN n := by rw [HPN.out, IntKind.wrap_i64]; omega
          rw [hwr]
          clear hwr
          go_wp2
          exact end_cell3 (p := 2) (u := 3) (x := 4) (by kernel_rfl) rfl h6 Try.underlying41 rfl (by kernel_rfl) rfl rfl rfl
            (FirstIs.some (b := false) (vv := 0) HV.out HX.out hx0 HN.out HCD.out (by rw [HE.out, if_neg (show ¬ n < headN false by rw [e8]; omega), HPN.out, if_neg (show ¬ (xs.length : Int) < n + pn by omega), if_neg (by simp)]) HYS.out (show ¬ n < headN false by rw [e8]; omega) (show ¬ (xs.length : Int) < n by omega) rfl rfl hr5 (fun h0 => by obtain ⟨k, e, _⟩ := reads_lt hr5 h0; exact ⟨k, e, by have := (ho4 k e).1; omega⟩) hbl5.drew)
  · have PH : ∀ u, Calls Try.prog 21 #[.bool true] u fun e w' => e = .returned (.int .i64 12) ∧ w' = u := fun u => head true u
    have k12 := W12.out rfl
    go_enter Try.func25, Try.ntmps25
    go_wp2_with fail
    refine (PH _).mono ?_
    rintro e w1 ⟨rfl, rfl⟩
    go_wp2_with fail
    refine (PG5.out _ hru).mono ?_
    rintro e w1 ⟨rfl, hb1⟩
    have h1 := h0.ext hb1
    have hru1 := hru.below hb1
    have hc1 := (hb1.cell (p := ⟨bl, off + 4, none⟩) (Nat.lt_of_lt_of_le hlt hbl.size)).trans hc
    replace hbl := hbl.trans (hb1.mono hbl.size)
    clear h0 hru hc hb1
    have e8 : headN true = 12 := rfl
    by_cases hn8 : n < 12
    · go_wp2_with (refine wpList_store_row rfl 41 _ _ rfl w.heap.size zeroRow rfl rfl 41 _ h1 (by kernel_rfl) rfl (by simp [Value.oneCell']) ?_)
      exact end_cell3 (p := 2) (u := 3) (x := 4) (by kernel_rfl) rfl h1.row Try.underlying41 rfl (by kernel_rfl) rfl rfl rfl (FirstIs.none (E := 2) (by rw [HE.out, if_pos (show n < headN true from hn8)]) (by decide) rfl (below_setRow hbl (Nat.le_refl _) _))
    · go_wp2_with fail
      refine (PG0.out _ hru1).mono ?_
      rintro e w2 ⟨rfl, hb1⟩
      have h2 := h1.ext hb1
      have hru2 := hru1.below hb1
      have hc2 := (hb1.cell (p := ⟨bl, off + 4, none⟩) (Nat.lt_of_lt_of_le hlt hbl.size)).trans hc1
      replace hbl := hbl.trans (hb1.mono hbl.size)
      clear h1 hru1 hc1 hb1
      go_wp2_with fail
      go_still_tail 13, (by kernel_rfl)
      change wpList _ _ _ _ _ w2.drew
      have h2d : At w2.drew w.heap.size 41 zeroRow := h2
      have hru2d : Reads .u8 w2.drew (.slice (some ⟨bl, off, none⟩) xs.length c) xs := hru2
      have hbld : Below w.heap.size w w2.drew := hbl.drew
      generalize w2.drew = wd at h2d hru2d hbld
      clear h2 hru2 hbl hc2
      go_wp2_with (refine wpList_store_row rfl 41 _ _ rfl w.heap.size _ rfl rfl 41 _ h2d (by kernel_rfl) rfl (by simp [Value.oneCell']) ?_)
      have h3 := h2d.row (ds := #[.int .u32 cd, .int .u32 0, .bool (decide (0 < bits .and .u8 x 64)), .bool (decide (0 < bits .and .u8 x 32)), .slice none 0 0])
      have hru3 := reads_setRow (g := w.heap.size) (cs := #[.int .u32 cd, .int .u32 0, .bool (decide (0 < bits .and .u8 x 64)), .bool (decide (0 < bits .and .u8 x 32)), .slice none 0 0]) hru2d (fun _ e => by cases e; exact Nat.lt_irrefl _ hlt)
      have hbl3 := below_setRow hbld (Nat.le_refl w.heap.size) #[.int .u32 cd, .int .u32 0, .bool (decide (0 < bits .and .u8 x 64)), .bool (decide (0 < bits .and .u8 x 32)), .slice none 0 0]
      generalize wd.setRow w.heap.size #[.int .u32 cd, .int .u32 0, .bool (decide (0 < bits .and .u8 x 64)), .bool (decide (0 < bits .and .u8 x 32)), .slice none 0 0] = u3 at h3 hru3 hbl3
      clear h2d hru2d hbld
      have hpp := PP.out u3 hru3
      rw [e8] at hpp
      obtain ⟨E, hE4⟩ : ∃ E, partE (xs.length : Int) 12 (n - 12) = E := ⟨_, rfl⟩
      obtain ⟨ys, hys⟩ : ∃ ys, partL xs 12 (n - 12) = ys := ⟨_, rfl⟩
      rw [hE4, hys] at hpp
      have HYS := Lib.hid hys
      clear hys
      by_cases hnl : (xs.length : Int) < n
      · have hE3 : E = 3 := by rw [← hE4]; unfold partE; rw [if_neg (by omega), if_pos (by omega)]
        subst hE3
        clear hE4
        refine hpp.mono ?_
        rintro e w4 ⟨v4, rfl, hown, hb4⟩
        obtain ⟨p4, c4, rfl, _, _, _, _⟩ := hown.reads
        have h4 := h3.ext hb4
        have hbl4 := hbl3.trans (hb4.mono hbl3.size)
        have k4 : w4.cell? ⟨w.heap.size, 4, none⟩ = some (.slice none 0 0) := h4.cell 4
        have f4 := h4.free 4
        have h5 := h4.set (j := 4) (v := .slice p4 ys.length c4) rfl
        have hbl5 := hbl4.setCell (p := ⟨w.heap.size, 4, none⟩) (Nat.le_refl _) (.slice p4 ys.length c4)
        clear h3 hru3 hbl3 hbl4
        go_wp2_with (refine wpList_store_row rfl 41 _ _ rfl w.heap.size zeroRow rfl rfl 41 _ h5 (by kernel_rfl) rfl (by simp [Value.oneCell']) ?_)
        exact end_cell3 (p := 2) (u := 3) (x := 4) (by kernel_rfl) rfl h5.row Try.underlying41 rfl (by kernel_rfl) rfl rfl rfl (FirstIs.none (E := 3) (by rw [HE.out, if_neg (show ¬ n < headN true by rw [e8]; omega), if_pos (by unfold padN; split <;> omega)]) (by decide) rfl (below_setRow hbl5 (Nat.le_refl _) _))
      · have hE3 : E = 0 := by rw [← hE4]; unfold partE; rw [if_neg (by omega), if_neg (by omega)]
        subst hE3
        clear hE4
        refine hpp.mono ?_
        rintro e w4 ⟨v4, rfl, hown, hb4⟩
        have hg3 := h3.lt
        have ho4 := hown.lt
        have hr4 := hown.reads
        obtain ⟨p4, c4, rfl, _, _, _, _⟩ := hown.reads
        have h4 := h3.ext hb4
        have hbl4 := hbl3.trans (hb4.mono hbl3.size)
        have k4 : w4.cell? ⟨w.heap.size, 4, none⟩ = some (.slice none 0 0) := h4.cell 4
        have f4 := h4.free 4
        have h5 := h4.set (j := 4) (v := .slice p4 ys.length c4) rfl
        have hbl5 := hbl4.setCell (p := ⟨w.heap.size, 4, none⟩) (Nat.le_refl _) (.slice p4 ys.length c4)
        have hr5 := reads_setCell (g := w.heap.size) (j := 4) (v := .slice p4 ys.length c4) hr4 (fun _ e => by have := (ho4 _ e).1; omega)
        have hru5 := reads_setCell (g := w.heap.size) (j := 4) (v := .slice p4 ys.length c4) (hru3.below hb4) (fun _ e => by cases e; exact Nat.lt_irrefl _ hlt)
        clear h3 hru3 hbl3 hbl4 hown
        obtain ⟨pn, hpn⟩ : ∃ pn, padN n = pn := ⟨_, rfl⟩
        have hpn0 : 0 ≤ pn ∧ pn ≤ 3 := by rw [← hpn]; unfold padN; split <;> omega
        have PD := Lib.hid (fun u => by have := pad n u (by omega); rwa [hpn] at this)
        have HPN := Lib.hid hpn
        clear hpn
        go_wp2_with fail
        refine (PD.out _).mono ?_
        rintro e w5 ⟨rfl, rfl⟩
        generalize w4.setCell ⟨w.heap.size, 4, none⟩ (.slice p4 ys.length c4) = u5 at h5 hbl5 hr5 hru5
        clear h4 k4 f4 hb4 hr4
        have PD' := Lib.hid (fun u : World => (PD.out u).mono (fun e w' (h : e = .returned (.int .i64 pn) ∧ u = w') => (⟨h.1, h.2.symm⟩ : e = .returned (.int .i64 pn) ∧ w' = u)))
        by_cases hsh : (xs.length : Int) < n + pn
        · go_wp2_with (refine wpList_store_row rfl 41 _ _ rfl w.heap.size zeroRow rfl rfl 41 _ h5 (by kernel_rfl) rfl (by simp [Value.oneCell']) ?_)
          exact end_cell3 (p := 2) (u := 3) (x := 4) (by kernel_rfl) rfl h5.row Try.underlying41 rfl (by kernel_rfl) rfl rfl rfl (FirstIs.none (E := 3) (by rw [HE.out, if_neg (show ¬ n < headN true by rw [e8]; omega), HPN.out, if_pos hsh]) (by decide) rfl (below_setRow hbl5 (Nat.le_refl _) _))
        · go_wp2_with fail
          refine (PG8.out _ hru5).mono ?_
          rintro e w6 ⟨rfl, hb6⟩
          have h6a := h5.ext hb6
          have hr6a := hr5.below hb6
          have hbl6 := hbl5.trans (hb6.mono hbl5.size)
          have k1' : w6.cell? ⟨w.heap.size, 1, none⟩ = some (.int .u32 0) := h6a.cell 1
          have f1' := h6a.free 1
          have h7 := h6a.set (j := 1) (v := .int .u32 vx) rfl
          have hbl7 := hbl6.setCell (p := ⟨w.heap.size, 1, none⟩) (Nat.le_refl _) (.int .u32 vx)
          have hr7 := reads_setCell (g := w.heap.size) (j := 1) (v := .int .u32 vx) hr6a (fun h0 e => by obtain ⟨k, e', _⟩ := reads_lt hr6a h0; have := (ho4 _ e).1; omega)
          clear h5 hr5 hbl5 hru5 hb6 hbl6
          by_cases hv0 : vx = 0
          · subst hv0
            go_wp2_with (refine wpList_store_row rfl 41 _ _ rfl w.heap.size zeroRow rfl rfl 41 _ h7 (by kernel_rfl) rfl (by simp [Value.oneCell']) ?_)
            exact end_cell3 (p := 2) (u := 3) (x := 4) (by kernel_rfl) rfl h7.row Try.underlying41 rfl (by kernel_rfl) rfl rfl rfl (FirstIs.none (E := 2) (by rw [HE.out, if_neg (show ¬ n < headN true by rw [e8]; omega), HPN.out, if_neg (show ¬ (xs.length : Int) < n + pn by omega), if_pos (by simp)]) (by decide) rfl (below_setRow hbl7 (Nat.le_refl _) _))
          · go_wp2_with fail
            generalize w6.setCell ⟨w.heap.size, 1, none⟩ (.int .u32 vx) = u7 at h7 hbl7 hr7
            refine wp_region_still_lit (by kernel_rfl) (by kernel_rfl) ?_
            change wpStill Try.prog _ u7.drew _ _ _
            have h6 : At u7.drew w.heap.size 41 _ := h7
            refine wpStill_load_row rfl 41 (.tmp 2) rfl w.heap.size rfl 41 _ _ _ h6 Try.underlying41 rfl (by kernel_rfl) ?_
            still_step
            still_step
            still_call (PD'.out _)
            still_step
            refine wpStill_store_row rfl 41 _ _ rfl w.heap.size _ rfl rfl 41 h6 (by kernel_rfl) (by simp [Value.oneCell']) ?_
            still_step
            still_step
            refine wpStill_nil ?_
            have hwr : IntKind.i64.wrap (n + pn) = n + padN n := by rw [HPN.out, IntKind.wrap_i64]; omega
            rw [hwr]
            clear hwr
            go_wp2
            exact end_cell3 (p := 2) (u := 3) (x := 4) (by kernel_rfl) rfl h6 Try.underlying41 rfl (by kernel_rfl) rfl rfl rfl
              (FirstIs.some (b := true) (vv := vx) HV.out HX.out hx0 HN.out HCD.out (by rw [HE.out, if_neg (show ¬ n < headN true by rw [e8]; omega), HPN.out, if_neg (show ¬ (xs.length : Int) < n + pn by omega), if_neg (fun h => hv0 h.2)]) HYS.out (show ¬ n < headN true by rw [e8]; omega) (show ¬ (xs.length : Int) < n by omega) HVX.out rfl hr7 (fun h0 => by obtain ⟨k, e, _⟩ := reads_lt hr7 h0; exact ⟨k, e, by have := (ho4 k e).1; omega⟩) hbl7.drew)
end Go.Proofs.Ytjfponhdlfhmbaa.Avp
