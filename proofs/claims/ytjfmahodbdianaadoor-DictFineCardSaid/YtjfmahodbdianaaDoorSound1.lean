/-
  Contract: dict.Sound. (Printed by gen_sound.py.)
-/
import Derived.Test.YtjfmahodbdianaaDoorSound0
namespace Go.Proofs.YtjfmahodbdianaaDoor.Rule
open Go.RowKit Mem Cells Ops Go.Maps
set_option linter.unusedVariables false
set_option linter.unusedSimpArgs false

noncomputable instance (rs : List R) : Decidable (fine rs) := Classical.propDecidable _
noncomputable instance (rs : List R) : Decidable (sound rs) := Classical.propDecidable _
theorem ReadsR.elem {w : World} {v : Value} {rs : List R} (h : ReadsR w v rs) (i : Nat) (hi : i < rs.length) :
    ∃ r, rs[i]? = some r ∧ r ∈ rs ∧ ∃ b off c, v = .slice (some ⟨b, off, none⟩) rs.length c ∧ b < w.heap.size ∧ w.rangeAt b (off + i * 6) (rowR r).toList := by
  obtain ⟨p, c, rfl, h1, h2, h3, h4⟩ := h
  obtain ⟨b, off, rfl, hlt, hc⟩ := h4 (by omega)
  have hx : rs[i]? = some rs[i] := List.getElem?_eq_getElem hi
  exact ⟨rs[i], hx, List.getElem_mem hi, b, off, c, rfl, hlt, hc i _ hx⟩
set_option maxRecDepth 100000 in
set_option maxHeartbeats 3200000 in
theorem soundIs (v : Value) (rs : List R) (w : World) (hr : ReadsR w v rs) (hok : ∀ r ∈ rs, r.ok) : Calls Tryd.prog 13 #[v] w fun e w' => e = .returned (.bool (decide (sound rs))) ∧ Below w.heap.size w w' := by
  have key : ∀ x : Bool, (sound rs ↔ x = true) → (Calls Tryd.prog 13 #[v] w fun e w' => e = .returned (.bool x) ∧ Below w.heap.size w w') → Calls Tryd.prog 13 #[v] w fun e w' => e = .returned (.bool (decide (sound rs))) ∧ Below w.heap.size w w' := by
    intro x hx h
    have e : decide (sound rs) = x := by rw [Bool.eq_iff_iff, decide_eq_true_eq]; exact hx
    rw [e]
    exact h
  obtain ⟨p, c, rfl, q1, q2⟩ := hr.shape
  have hmax : rs.length ≤ 9223372036854775807 := by unfold maxLen at q2; omega
  have HR := Lib.hid hr
  have HOK := Lib.hid hok
  by_cases hbig : 64 < rs.length
  · refine key false ⟨fun h => absurd h.1 (by omega), fun h => by cases h⟩ ?_
    obtain ⟨n, hn⟩ : ∃ n, rs.length = n := ⟨_, rfl⟩
    rw [hn] at hbig hmax ⊢
    clear key hr hok hn q1 q2 HR HOK
    go_enter Tryd.func13, Tryd.ntmps13
    go_wp2_with fail
    go_ret
    exact ⟨rfl, Below.refl _ _⟩
  · obtain ⟨n, hn⟩ : ∃ n, rs.length = n := ⟨_, rfl⟩
    have HN := Lib.hid hn
    have EL := Lib.hid (fun k (hk : k < n) u (h : ReadsR u (.slice p n c) rs) => by have := h.elem k (by rw [hn]; exact hk); rwa [hn] at this)
    have HNO := Lib.hid (fun k r (h : rs[k]? = some r) (hb : bad r ∨ dup rs k r) => show ¬ sound rs from fun hs => by have := hs.2 k r h; rcases hb with hb | hb; exact this.1 hb; exact this.2 hb)
    have HYES := Lib.hid (fun (h : ∀ j r, j < n → rs[j]? = some r → ¬ bad r ∧ ¬ dup rs j r) => show sound rs from ⟨by omega, fun i r hi => h i r (by have := (List.getElem?_eq_some_iff.1 hi).1; omega) hi⟩)
    rw [hn] at hbig hmax HR ⊢
    clear key hr hok hn q1 q2
    obtain ⟨res, hres⟩ : ∃ res, decide (sound rs) = res := ⟨_, rfl⟩
    have HNO2 := Lib.hid (fun k r (h : rs[k]? = some r) (hb : bad r ∨ dup rs k r) => show res = false by rw [← hres]; exact decide_eq_false (HNO.out k r h hb))
    have HYES2 := Lib.hid (fun (h : ∀ j r, j < n → rs[j]? = some r → ¬ bad r ∧ ¬ dup rs j r) => show res = true by rw [← hres]; exact decide_eq_true (HYES.out h))
    rw [hres]
    clear HNO HYES hres
    go_enter Tryd.func13, Tryd.ntmps13
    go_wp2_with ((with_reducible refine wpl_makeMap rfl 54 rfl ?_ 45 (plainElem Tryd.prog 4) ?_); kernel_rfl; go_must (intro w0 hm0 hb0))
    go_loopw [13] (fun i wr => ∃ k : Nat, i = .int .i64 k ∧ k ≤ n ∧ Below w.heap.size w wr ∧ wr.ownsMap Tryd.prog 45 (plainElem Tryd.prog 4) w.heap.size k (setOf tt (names (rs.take k))) ∧ Hid (∀ j r, j < k → rs[j]? = some r → ¬ bad r ∧ ¬ dup rs j r)) (fun i _ => n - (intOf i).toNat)
    case atStart => exact ⟨0, rfl, by omega, hb0, hm0, Lib.hid (fun j r h => absurd h (Nat.not_lt_zero _))⟩
    case round =>
      clear hm0 hb0
      obtain ⟨k, rfl, hk, hbl, hown, HALL⟩ := hrel
      have T0 := hbl.size
      have TM := hown.lt
      by_cases hlt : k < n
      · obtain ⟨r, hx1, hx2, b, off, c', hv, hltb, hra⟩ := EL.out k hlt _ (HR.out.below hbl)
        cases hv
        have HX := Lib.hid hx1
        have HRA := Lib.hid hra
        have hrok := HOK.out r hx2
        have HK := Lib.hid (keyOf65 r.code r.vendor hrok.1 hrok.2.1)
        have HSEEN := Lib.hid (seen_at rs k r hrok HOK.out)
        obtain ⟨⟨a1, a2⟩, ⟨a3, a4⟩, ⟨a5, a6⟩, ⟨a7, a8⟩, a9, a10⟩ := hrok
        have S1 := Lib.hid (rfl : w = w)
        have S2 := Lib.hid (rfl : w = w)
        clear hx1 hra hx2
        by_cases hd : dup rs k r
        · have HF := Lib.hid (HNO2.out k r HX.out (.inr hd))
          have HS := Lib.hid (HSEEN.out.trans (by rw [decide_eq_true hd]))
          clear hd HSEEN
          go_wp2_with (first
        | ((with_reducible refine wpl_loadE rfl 37 (.tmp 15) rfl b (off + k * 6) ?_ (rowR r) _ HRA.out Tryd.underlying37 rfl (by kernel_rfl) ?_); rfl; clear HRA)
        | ((with_reducible refine wpl_allocAt rfl 37 rfl #[.int .u32 0, .int .u32 0, .int .i64 0, .bool false, .int .i64 0, .int .i64 0] (by kernel_rfl) ?_); have _t := S1; clear _t; go_must (intro u1 hat1 hb hs; clear hs S1; have Tu1_0 := hbl.size; have Tu1_1 := hown.lt; have hbl_ := hbl.trans (hb.mono hbl.size); have hown_ := hown.kept (grown_below none hb) (by simp); clear hbl hown; have hbl := hbl_; have hown := hown_; clear hbl_ hown_ hb))
        | ((with_reducible refine wpl_storeR rfl 37 (.tmp 5) (.tmp 16) rfl rfl wr.heap.size 37 #[.int .u32 0, .int .u32 0, .int .i64 0, .bool false, .int .i64 0, .int .i64 0] (rowR r) ?_ ?_ hat1 (by kernel_rfl) ?_ ?_ ?_); rfl; rfl; rfl; (simp [rowR, Value.oneCell']); go_must (intro u2 hat1' hg; have hbl_ := below_grown hbl hg hbl.size (by omega); have hown_ := hown.kept hg (fun e => by have := Option.some.inj e; omega); clear hbl hown; have hbl := hbl_; have hown := hown_; clear hbl_ hown_ hg; clear hat1; have hat1 := hat1'; clear hat1'; have L2 := hat1.lt; have c0 := hat1.cell 0; have c1 := hat1.cell 1; simp [rowR] at c0 c1))
        | ((with_reducible refine wpl_allocAt rfl 45 rfl #[.int .u32 0, .int .u32 0] (by kernel_rfl) ?_); have _t := S2; clear _t; go_must (intro u3 hat2 hb hs; clear hs S2; have Tu3_0 := hbl.size; have Tu3_1 := hown.lt; have Tu3_2 := hat1.lt; have hbl_ := hbl.trans (hb.mono hbl.size); have hown_ := hown.kept (grown_below none hb) (by simp); have hat1_ := hat1.ext hb; clear hbl hown hat1; have hbl := hbl_; have hown := hown_; have hat1 := hat1_; clear hbl_ hown_ hat1_ hb))
        | ((with_reducible refine wpl_storeR rfl 45 (.tmp 6) (.tmp 21) rfl rfl u2.heap.size 45 #[.int .u32 0, .int .u32 0] #[.int .u32 r.code, .int .u32 r.vendor] ?_ ?_ hat2 (by kernel_rfl) ?_ ?_ ?_); rfl; rfl; rfl; (simp [rowR, Value.oneCell']); go_must (intro u4 hat2' hg; have hbl_ := below_grown hbl hg hbl.size (by omega); have hown_ := hown.kept hg (fun e => by have := Option.some.inj e; omega); have hat1_ := hat1.grown hg (by omega); clear hbl hown hat1; have hbl := hbl_; have hown := hown_; have hat1 := hat1_; clear hbl_ hown_ hat1_ hg; clear hat2; have hat2 := hat2'; clear hat2'; clear c0 c1; have c2 := hat1.cell 2; have c4 := hat1.cell 4; have c5 := hat1.cell 5; simp [rowR] at c2 c4 c5))
        | ((with_reducible refine wpl_loadAt rfl 45 (.tmp 6) rfl u2.heap.size 45 #[.int .u32 r.code, .int .u32 r.vendor] hat2 _ Tryd.underlying45 rfl (by kernel_rfl) ?_ ?_); rfl)
        | (at_lookup; go_must (refine wpl_lookupB rfl _ _ 54 rfl 45 4 keyed65 Tryd.underlying54 Tryd.underlying4 (by kernel_rfl) w.heap.size k _ rfl hown _ (keyN r.code r.vendor) rfl HK.out true HS.out ?_)))
          go_ret
          exact ⟨by rw [HF.out] <;> rfl, hbl⟩
        have HS := Lib.hid (HSEEN.out.trans (by rw [decide_eq_false hd]))
        have HD := Lib.hid hd
        clear hd HSEEN
        by_cases hc1 : r.type < 1
        · have HF := Lib.hid (HNO2.out k r HX.out (.inl (by unfold bad; omega)))
          go_wp2_with (first
        | ((with_reducible refine wpl_loadE rfl 37 (.tmp 15) rfl b (off + k * 6) ?_ (rowR r) _ HRA.out Tryd.underlying37 rfl (by kernel_rfl) ?_); rfl; clear HRA)
        | ((with_reducible refine wpl_allocAt rfl 37 rfl #[.int .u32 0, .int .u32 0, .int .i64 0, .bool false, .int .i64 0, .int .i64 0] (by kernel_rfl) ?_); have _t := S1; clear _t; go_must (intro u1 hat1 hb hs; clear hs S1; have Tu1_0 := hbl.size; have Tu1_1 := hown.lt; have hbl_ := hbl.trans (hb.mono hbl.size); have hown_ := hown.kept (grown_below none hb) (by simp); clear hbl hown; have hbl := hbl_; have hown := hown_; clear hbl_ hown_ hb))
        | ((with_reducible refine wpl_storeR rfl 37 (.tmp 5) (.tmp 16) rfl rfl wr.heap.size 37 #[.int .u32 0, .int .u32 0, .int .i64 0, .bool false, .int .i64 0, .int .i64 0] (rowR r) ?_ ?_ hat1 (by kernel_rfl) ?_ ?_ ?_); rfl; rfl; rfl; (simp [rowR, Value.oneCell']); go_must (intro u2 hat1' hg; have hbl_ := below_grown hbl hg hbl.size (by omega); have hown_ := hown.kept hg (fun e => by have := Option.some.inj e; omega); clear hbl hown; have hbl := hbl_; have hown := hown_; clear hbl_ hown_ hg; clear hat1; have hat1 := hat1'; clear hat1'; have L2 := hat1.lt; have c0 := hat1.cell 0; have c1 := hat1.cell 1; simp [rowR] at c0 c1))
        | ((with_reducible refine wpl_allocAt rfl 45 rfl #[.int .u32 0, .int .u32 0] (by kernel_rfl) ?_); have _t := S2; clear _t; go_must (intro u3 hat2 hb hs; clear hs S2; have Tu3_0 := hbl.size; have Tu3_1 := hown.lt; have Tu3_2 := hat1.lt; have hbl_ := hbl.trans (hb.mono hbl.size); have hown_ := hown.kept (grown_below none hb) (by simp); have hat1_ := hat1.ext hb; clear hbl hown hat1; have hbl := hbl_; have hown := hown_; have hat1 := hat1_; clear hbl_ hown_ hat1_ hb))
        | ((with_reducible refine wpl_storeR rfl 45 (.tmp 6) (.tmp 21) rfl rfl u2.heap.size 45 #[.int .u32 0, .int .u32 0] #[.int .u32 r.code, .int .u32 r.vendor] ?_ ?_ hat2 (by kernel_rfl) ?_ ?_ ?_); rfl; rfl; rfl; (simp [rowR, Value.oneCell']); go_must (intro u4 hat2' hg; have hbl_ := below_grown hbl hg hbl.size (by omega); have hown_ := hown.kept hg (fun e => by have := Option.some.inj e; omega); have hat1_ := hat1.grown hg (by omega); clear hbl hown hat1; have hbl := hbl_; have hown := hown_; have hat1 := hat1_; clear hbl_ hown_ hat1_ hg; clear hat2; have hat2 := hat2'; clear hat2'; clear c0 c1; have c2 := hat1.cell 2; have c4 := hat1.cell 4; have c5 := hat1.cell 5; simp [rowR] at c2 c4 c5))
        | ((with_reducible refine wpl_loadAt rfl 45 (.tmp 6) rfl u2.heap.size 45 #[.int .u32 r.code, .int .u32 r.vendor] hat2 _ Tryd.underlying45 rfl (by kernel_rfl) ?_ ?_); rfl)
        | (at_lookup; go_must (refine wpl_lookupB rfl _ _ 54 rfl 45 4 keyed65 Tryd.underlying54 Tryd.underlying4 (by kernel_rfl) w.heap.size k _ rfl hown _ (keyN r.code r.vendor) rfl HK.out false HS.out ?_)))
          go_ret
          exact ⟨by rw [HF.out] <;> rfl, hbl⟩
        by_cases hc2 : 11 < r.type
        · have HF := Lib.hid (HNO2.out k r HX.out (.inl (by unfold bad; omega)))
          go_wp2_with (first
        | ((with_reducible refine wpl_loadE rfl 37 (.tmp 15) rfl b (off + k * 6) ?_ (rowR r) _ HRA.out Tryd.underlying37 rfl (by kernel_rfl) ?_); rfl; clear HRA)
        | ((with_reducible refine wpl_allocAt rfl 37 rfl #[.int .u32 0, .int .u32 0, .int .i64 0, .bool false, .int .i64 0, .int .i64 0] (by kernel_rfl) ?_); have _t := S1; clear _t; go_must (intro u1 hat1 hb hs; clear hs S1; have Tu1_0 := hbl.size; have Tu1_1 := hown.lt; have hbl_ := hbl.trans (hb.mono hbl.size); have hown_ := hown.kept (grown_below none hb) (by simp); clear hbl hown; have hbl := hbl_; have hown := hown_; clear hbl_ hown_ hb))
        | ((with_reducible refine wpl_storeR rfl 37 (.tmp 5) (.tmp 16) rfl rfl wr.heap.size 37 #[.int .u32 0, .int .u32 0, .int .i64 0, .bool false, .int .i64 0, .int .i64 0] (rowR r) ?_ ?_ hat1 (by kernel_rfl) ?_ ?_ ?_); rfl; rfl; rfl; (simp [rowR, Value.oneCell']); go_must (intro u2 hat1' hg; have hbl_ := below_grown hbl hg hbl.size (by omega); have hown_ := hown.kept hg (fun e => by have := Option.some.inj e; omega); clear hbl hown; have hbl := hbl_; have hown := hown_; clear hbl_ hown_ hg; clear hat1; have hat1 := hat1'; clear hat1'; have L2 := hat1.lt; have c0 := hat1.cell 0; have c1 := hat1.cell 1; simp [rowR] at c0 c1))
        | ((with_reducible refine wpl_allocAt rfl 45 rfl #[.int .u32 0, .int .u32 0] (by kernel_rfl) ?_); have _t := S2; clear _t; go_must (intro u3 hat2 hb hs; clear hs S2; have Tu3_0 := hbl.size; have Tu3_1 := hown.lt; have Tu3_2 := hat1.lt; have hbl_ := hbl.trans (hb.mono hbl.size); have hown_ := hown.kept (grown_below none hb) (by simp); have hat1_ := hat1.ext hb; clear hbl hown hat1; have hbl := hbl_; have hown := hown_; have hat1 := hat1_; clear hbl_ hown_ hat1_ hb))
        | ((with_reducible refine wpl_storeR rfl 45 (.tmp 6) (.tmp 21) rfl rfl u2.heap.size 45 #[.int .u32 0, .int .u32 0] #[.int .u32 r.code, .int .u32 r.vendor] ?_ ?_ hat2 (by kernel_rfl) ?_ ?_ ?_); rfl; rfl; rfl; (simp [rowR, Value.oneCell']); go_must (intro u4 hat2' hg; have hbl_ := below_grown hbl hg hbl.size (by omega); have hown_ := hown.kept hg (fun e => by have := Option.some.inj e; omega); have hat1_ := hat1.grown hg (by omega); clear hbl hown hat1; have hbl := hbl_; have hown := hown_; have hat1 := hat1_; clear hbl_ hown_ hat1_ hg; clear hat2; have hat2 := hat2'; clear hat2'; clear c0 c1; have c2 := hat1.cell 2; have c4 := hat1.cell 4; have c5 := hat1.cell 5; simp [rowR] at c2 c4 c5))
        | ((with_reducible refine wpl_loadAt rfl 45 (.tmp 6) rfl u2.heap.size 45 #[.int .u32 r.code, .int .u32 r.vendor] hat2 _ Tryd.underlying45 rfl (by kernel_rfl) ?_ ?_); rfl)
        | (at_lookup; go_must (refine wpl_lookupB rfl _ _ 54 rfl 45 4 keyed65 Tryd.underlying54 Tryd.underlying4 (by kernel_rfl) w.heap.size k _ rfl hown _ (keyN r.code r.vendor) rfl HK.out false HS.out ?_)))
          go_ret
          exact ⟨by rw [HF.out] <;> rfl, hbl⟩
        by_cases hc3 : r.least < 0
        · have HF := Lib.hid (HNO2.out k r HX.out (.inl (by unfold bad; omega)))
          go_wp2_with (first
        | ((with_reducible refine wpl_loadE rfl 37 (.tmp 15) rfl b (off + k * 6) ?_ (rowR r) _ HRA.out Tryd.underlying37 rfl (by kernel_rfl) ?_); rfl; clear HRA)
        | ((with_reducible refine wpl_allocAt rfl 37 rfl #[.int .u32 0, .int .u32 0, .int .i64 0, .bool false, .int .i64 0, .int .i64 0] (by kernel_rfl) ?_); have _t := S1; clear _t; go_must (intro u1 hat1 hb hs; clear hs S1; have Tu1_0 := hbl.size; have Tu1_1 := hown.lt; have hbl_ := hbl.trans (hb.mono hbl.size); have hown_ := hown.kept (grown_below none hb) (by simp); clear hbl hown; have hbl := hbl_; have hown := hown_; clear hbl_ hown_ hb))
        | ((with_reducible refine wpl_storeR rfl 37 (.tmp 5) (.tmp 16) rfl rfl wr.heap.size 37 #[.int .u32 0, .int .u32 0, .int .i64 0, .bool false, .int .i64 0, .int .i64 0] (rowR r) ?_ ?_ hat1 (by kernel_rfl) ?_ ?_ ?_); rfl; rfl; rfl; (simp [rowR, Value.oneCell']); go_must (intro u2 hat1' hg; have hbl_ := below_grown hbl hg hbl.size (by omega); have hown_ := hown.kept hg (fun e => by have := Option.some.inj e; omega); clear hbl hown; have hbl := hbl_; have hown := hown_; clear hbl_ hown_ hg; clear hat1; have hat1 := hat1'; clear hat1'; have L2 := hat1.lt; have c0 := hat1.cell 0; have c1 := hat1.cell 1; simp [rowR] at c0 c1))
        | ((with_reducible refine wpl_allocAt rfl 45 rfl #[.int .u32 0, .int .u32 0] (by kernel_rfl) ?_); have _t := S2; clear _t; go_must (intro u3 hat2 hb hs; clear hs S2; have Tu3_0 := hbl.size; have Tu3_1 := hown.lt; have Tu3_2 := hat1.lt; have hbl_ := hbl.trans (hb.mono hbl.size); have hown_ := hown.kept (grown_below none hb) (by simp); have hat1_ := hat1.ext hb; clear hbl hown hat1; have hbl := hbl_; have hown := hown_; have hat1 := hat1_; clear hbl_ hown_ hat1_ hb))
        | ((with_reducible refine wpl_storeR rfl 45 (.tmp 6) (.tmp 21) rfl rfl u2.heap.size 45 #[.int .u32 0, .int .u32 0] #[.int .u32 r.code, .int .u32 r.vendor] ?_ ?_ hat2 (by kernel_rfl) ?_ ?_ ?_); rfl; rfl; rfl; (simp [rowR, Value.oneCell']); go_must (intro u4 hat2' hg; have hbl_ := below_grown hbl hg hbl.size (by omega); have hown_ := hown.kept hg (fun e => by have := Option.some.inj e; omega); have hat1_ := hat1.grown hg (by omega); clear hbl hown hat1; have hbl := hbl_; have hown := hown_; have hat1 := hat1_; clear hbl_ hown_ hat1_ hg; clear hat2; have hat2 := hat2'; clear hat2'; clear c0 c1; have c2 := hat1.cell 2; have c4 := hat1.cell 4; have c5 := hat1.cell 5; simp [rowR] at c2 c4 c5))
        | ((with_reducible refine wpl_loadAt rfl 45 (.tmp 6) rfl u2.heap.size 45 #[.int .u32 r.code, .int .u32 r.vendor] hat2 _ Tryd.underlying45 rfl (by kernel_rfl) ?_ ?_); rfl)
        | (at_lookup; go_must (refine wpl_lookupB rfl _ _ 54 rfl 45 4 keyed65 Tryd.underlying54 Tryd.underlying4 (by kernel_rfl) w.heap.size k _ rfl hown _ (keyN r.code r.vendor) rfl HK.out false HS.out ?_)))
          go_ret
          exact ⟨by rw [HF.out] <;> rfl, hbl⟩
        by_cases hc4 : r.most < r.least
        · have HF := Lib.hid (HNO2.out k r HX.out (.inl (by unfold bad; omega)))
          go_wp2_with (first
        | ((with_reducible refine wpl_loadE rfl 37 (.tmp 15) rfl b (off + k * 6) ?_ (rowR r) _ HRA.out Tryd.underlying37 rfl (by kernel_rfl) ?_); rfl; clear HRA)
        | ((with_reducible refine wpl_allocAt rfl 37 rfl #[.int .u32 0, .int .u32 0, .int .i64 0, .bool false, .int .i64 0, .int .i64 0] (by kernel_rfl) ?_); have _t := S1; clear _t; go_must (intro u1 hat1 hb hs; clear hs S1; have Tu1_0 := hbl.size; have Tu1_1 := hown.lt; have hbl_ := hbl.trans (hb.mono hbl.size); have hown_ := hown.kept (grown_below none hb) (by simp); clear hbl hown; have hbl := hbl_; have hown := hown_; clear hbl_ hown_ hb))
        | ((with_reducible refine wpl_storeR rfl 37 (.tmp 5) (.tmp 16) rfl rfl wr.heap.size 37 #[.int .u32 0, .int .u32 0, .int .i64 0, .bool false, .int .i64 0, .int .i64 0] (rowR r) ?_ ?_ hat1 (by kernel_rfl) ?_ ?_ ?_); rfl; rfl; rfl; (simp [rowR, Value.oneCell']); go_must (intro u2 hat1' hg; have hbl_ := below_grown hbl hg hbl.size (by omega); have hown_ := hown.kept hg (fun e => by have := Option.some.inj e; omega); clear hbl hown; have hbl := hbl_; have hown := hown_; clear hbl_ hown_ hg; clear hat1; have hat1 := hat1'; clear hat1'; have L2 := hat1.lt; have c0 := hat1.cell 0; have c1 := hat1.cell 1; simp [rowR] at c0 c1))
        | ((with_reducible refine wpl_allocAt rfl 45 rfl #[.int .u32 0, .int .u32 0] (by kernel_rfl) ?_); have _t := S2; clear _t; go_must (intro u3 hat2 hb hs; clear hs S2; have Tu3_0 := hbl.size; have Tu3_1 := hown.lt; have Tu3_2 := hat1.lt; have hbl_ := hbl.trans (hb.mono hbl.size); have hown_ := hown.kept (grown_below none hb) (by simp); have hat1_ := hat1.ext hb; clear hbl hown hat1; have hbl := hbl_; have hown := hown_; have hat1 := hat1_; clear hbl_ hown_ hat1_ hb))
        | ((with_reducible refine wpl_storeR rfl 45 (.tmp 6) (.tmp 21) rfl rfl u2.heap.size 45 #[.int .u32 0, .int .u32 0] #[.int .u32 r.code, .int .u32 r.vendor] ?_ ?_ hat2 (by kernel_rfl) ?_ ?_ ?_); rfl; rfl; rfl; (simp [rowR, Value.oneCell']); go_must (intro u4 hat2' hg; have hbl_ := below_grown hbl hg hbl.size (by omega); have hown_ := hown.kept hg (fun e => by have := Option.some.inj e; omega); have hat1_ := hat1.grown hg (by omega); clear hbl hown hat1; have hbl := hbl_; have hown := hown_; have hat1 := hat1_; clear hbl_ hown_ hat1_ hg; clear hat2; have hat2 := hat2'; clear hat2'; clear c0 c1; have c2 := hat1.cell 2; have c4 := hat1.cell 4; have c5 := hat1.cell 5; simp [rowR] at c2 c4 c5))
        | ((with_reducible refine wpl_loadAt rfl 45 (.tmp 6) rfl u2.heap.size 45 #[.int .u32 r.code, .int .u32 r.vendor] hat2 _ Tryd.underlying45 rfl (by kernel_rfl) ?_ ?_); rfl)
        | (at_lookup; go_must (refine wpl_lookupB rfl _ _ 54 rfl 45 4 keyed65 Tryd.underlying54 Tryd.underlying4 (by kernel_rfl) w.heap.size k _ rfl hown _ (keyN r.code r.vendor) rfl HK.out false HS.out ?_)))
          go_ret
          exact ⟨by rw [HF.out] <;> rfl, hbl⟩
        by_cases hc5 : 64 < r.most
        · have HF := Lib.hid (HNO2.out k r HX.out (.inl (by unfold bad; omega)))
          go_wp2_with (first
        | ((with_reducible refine wpl_loadE rfl 37 (.tmp 15) rfl b (off + k * 6) ?_ (rowR r) _ HRA.out Tryd.underlying37 rfl (by kernel_rfl) ?_); rfl; clear HRA)
        | ((with_reducible refine wpl_allocAt rfl 37 rfl #[.int .u32 0, .int .u32 0, .int .i64 0, .bool false, .int .i64 0, .int .i64 0] (by kernel_rfl) ?_); have _t := S1; clear _t; go_must (intro u1 hat1 hb hs; clear hs S1; have Tu1_0 := hbl.size; have Tu1_1 := hown.lt; have hbl_ := hbl.trans (hb.mono hbl.size); have hown_ := hown.kept (grown_below none hb) (by simp); clear hbl hown; have hbl := hbl_; have hown := hown_; clear hbl_ hown_ hb))
        | ((with_reducible refine wpl_storeR rfl 37 (.tmp 5) (.tmp 16) rfl rfl wr.heap.size 37 #[.int .u32 0, .int .u32 0, .int .i64 0, .bool false, .int .i64 0, .int .i64 0] (rowR r) ?_ ?_ hat1 (by kernel_rfl) ?_ ?_ ?_); rfl; rfl; rfl; (simp [rowR, Value.oneCell']); go_must (intro u2 hat1' hg; have hbl_ := below_grown hbl hg hbl.size (by omega); have hown_ := hown.kept hg (fun e => by have := Option.some.inj e; omega); clear hbl hown; have hbl := hbl_; have hown := hown_; clear hbl_ hown_ hg; clear hat1; have hat1 := hat1'; clear hat1'; have L2 := hat1.lt; have c0 := hat1.cell 0; have c1 := hat1.cell 1; simp [rowR] at c0 c1))
        | ((with_reducible refine wpl_allocAt rfl 45 rfl #[.int .u32 0, .int .u32 0] (by kernel_rfl) ?_); have _t := S2; clear _t; go_must (intro u3 hat2 hb hs; clear hs S2; have Tu3_0 := hbl.size; have Tu3_1 := hown.lt; have Tu3_2 := hat1.lt; have hbl_ := hbl.trans (hb.mono hbl.size); have hown_ := hown.kept (grown_below none hb) (by simp); have hat1_ := hat1.ext hb; clear hbl hown hat1; have hbl := hbl_; have hown := hown_; have hat1 := hat1_; clear hbl_ hown_ hat1_ hb))
        | ((with_reducible refine wpl_storeR rfl 45 (.tmp 6) (.tmp 21) rfl rfl u2.heap.size 45 #[.int .u32 0, .int .u32 0] #[.int .u32 r.code, .int .u32 r.vendor] ?_ ?_ hat2 (by kernel_rfl) ?_ ?_ ?_); rfl; rfl; rfl; (simp [rowR, Value.oneCell']); go_must (intro u4 hat2' hg; have hbl_ := below_grown hbl hg hbl.size (by omega); have hown_ := hown.kept hg (fun e => by have := Option.some.inj e; omega); have hat1_ := hat1.grown hg (by omega); clear hbl hown hat1; have hbl := hbl_; have hown := hown_; have hat1 := hat1_; clear hbl_ hown_ hat1_ hg; clear hat2; have hat2 := hat2'; clear hat2'; clear c0 c1; have c2 := hat1.cell 2; have c4 := hat1.cell 4; have c5 := hat1.cell 5; simp [rowR] at c2 c4 c5))
        | ((with_reducible refine wpl_loadAt rfl 45 (.tmp 6) rfl u2.heap.size 45 #[.int .u32 r.code, .int .u32 r.vendor] hat2 _ Tryd.underlying45 rfl (by kernel_rfl) ?_ ?_); rfl)
        | (at_lookup; go_must (refine wpl_lookupB rfl _ _ 54 rfl 45 4 keyed65 Tryd.underlying54 Tryd.underlying4 (by kernel_rfl) w.heap.size k _ rfl hown _ (keyN r.code r.vendor) rfl HK.out false HS.out ?_)))
          go_ret
          exact ⟨by rw [HF.out] <;> rfl, hbl⟩
        have HG := Lib.hid (show ¬ bad r by unfold bad; omega)
        go_wp2_with (first
        | ((with_reducible refine wpl_loadE rfl 37 (.tmp 15) rfl b (off + k * 6) ?_ (rowR r) _ HRA.out Tryd.underlying37 rfl (by kernel_rfl) ?_); rfl; clear HRA)
        | ((with_reducible refine wpl_allocAt rfl 37 rfl #[.int .u32 0, .int .u32 0, .int .i64 0, .bool false, .int .i64 0, .int .i64 0] (by kernel_rfl) ?_); have _t := S1; clear _t; go_must (intro u1 hat1 hb hs; clear hs S1; have Tu1_0 := hbl.size; have Tu1_1 := hown.lt; have hbl_ := hbl.trans (hb.mono hbl.size); have hown_ := hown.kept (grown_below none hb) (by simp); clear hbl hown; have hbl := hbl_; have hown := hown_; clear hbl_ hown_ hb))
        | ((with_reducible refine wpl_storeR rfl 37 (.tmp 5) (.tmp 16) rfl rfl wr.heap.size 37 #[.int .u32 0, .int .u32 0, .int .i64 0, .bool false, .int .i64 0, .int .i64 0] (rowR r) ?_ ?_ hat1 (by kernel_rfl) ?_ ?_ ?_); rfl; rfl; rfl; (simp [rowR, Value.oneCell']); go_must (intro u2 hat1' hg; have hbl_ := below_grown hbl hg hbl.size (by omega); have hown_ := hown.kept hg (fun e => by have := Option.some.inj e; omega); clear hbl hown; have hbl := hbl_; have hown := hown_; clear hbl_ hown_ hg; clear hat1; have hat1 := hat1'; clear hat1'; have L2 := hat1.lt; have c0 := hat1.cell 0; have c1 := hat1.cell 1; simp [rowR] at c0 c1))
        | ((with_reducible refine wpl_allocAt rfl 45 rfl #[.int .u32 0, .int .u32 0] (by kernel_rfl) ?_); have _t := S2; clear _t; go_must (intro u3 hat2 hb hs; clear hs S2; have Tu3_0 := hbl.size; have Tu3_1 := hown.lt; have Tu3_2 := hat1.lt; have hbl_ := hbl.trans (hb.mono hbl.size); have hown_ := hown.kept (grown_below none hb) (by simp); have hat1_ := hat1.ext hb; clear hbl hown hat1; have hbl := hbl_; have hown := hown_; have hat1 := hat1_; clear hbl_ hown_ hat1_ hb))
        | ((with_reducible refine wpl_storeR rfl 45 (.tmp 6) (.tmp 21) rfl rfl u2.heap.size 45 #[.int .u32 0, .int .u32 0] #[.int .u32 r.code, .int .u32 r.vendor] ?_ ?_ hat2 (by kernel_rfl) ?_ ?_ ?_); rfl; rfl; rfl; (simp [rowR, Value.oneCell']); go_must (intro u4 hat2' hg; have hbl_ := below_grown hbl hg hbl.size (by omega); have hown_ := hown.kept hg (fun e => by have := Option.some.inj e; omega); have hat1_ := hat1.grown hg (by omega); clear hbl hown hat1; have hbl := hbl_; have hown := hown_; have hat1 := hat1_; clear hbl_ hown_ hat1_ hg; clear hat2; have hat2 := hat2'; clear hat2'; clear c0 c1; have c2 := hat1.cell 2; have c4 := hat1.cell 4; have c5 := hat1.cell 5; simp [rowR] at c2 c4 c5))
        | ((with_reducible refine wpl_loadAt rfl 45 (.tmp 6) rfl u2.heap.size 45 #[.int .u32 r.code, .int .u32 r.vendor] hat2 _ Tryd.underlying45 rfl (by kernel_rfl) ?_ ?_); rfl)
        | (at_lookup; go_must (refine wpl_lookupB rfl _ _ 54 rfl 45 4 keyed65 Tryd.underlying54 Tryd.underlying4 (by kernel_rfl) w.heap.size k _ rfl hown _ (keyN r.code r.vendor) rfl HK.out false HS.out ?_))
        | (at_mapUpdate; go_must (refine wpList_mapUpdate_own _ rfl _ _ _ 54 rfl 45 4 keyed65 Tryd.underlying54 (plainElem Tryd.prog 4) w.heap.size k _ rfl hown (by unfold maxLen; omega) _ _ (keyN r.code r.vendor) rfl rfl HK.out tt [] (plainElem_bool Tryd.underlying4 true) ?_; intro u5 hown5 hg; have hbl5 := below_grown hbl hg hbl.size (Nat.le_refl _))))
        go_roundw
        case rel => exact ⟨k + 1, by go_num, by omega, hbl5, by rw [names_snoc rs k r HX.out]; exact hown5, Lib.hid (fun j x hj hx => by
          rcases Nat.lt_or_ge j k with h | h
          · exact HALL.out j x h hx
          · obtain rfl : j = k := by omega
            rw [HX.out] at hx
            cases hx
            exact ⟨HG.out, HD.out⟩)⟩
        case measure => simp [intOf]; omega
      · obtain rfl : k = n := by omega
        have HF := Lib.hid (HYES2.out HALL.out)
        go_wp2_with fail
        go_ret
        exact ⟨by rw [HF.out] <;> rfl, hbl⟩
end Go.Proofs.YtjfmahodbdianaaDoor.Rule
