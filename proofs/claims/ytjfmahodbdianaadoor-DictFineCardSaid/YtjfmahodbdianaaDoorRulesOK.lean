/-
  Contract: the reference's RulesOK.
-/
import Derived.Test.YtjfmahodbdianaaDoorSound1
import Derived.Deep.Cut
import Derived.Deep.DeepMust
import Derived.BigQuiet
namespace Go.Proofs.YtjfmahodbdianaaDoor.Rule
open Go.RowKit Mem Cells Ops
set_option linter.unusedVariables false
set_option linter.unusedSimpArgs false
abbrev zeroR : Array Value := #[.int .u32 0, .int .u32 0, .int .i64 0, .bool false, .int .i64 0, .int .i64 0]
theorem below_drewR {B : Nat} {a w : World} (h : Below B a w) : ∀ q, Below B a (w.drewN q)
  | 0 => h
  | q + 1 => (below_drewR h q).drew
theorem range_at6 {w : World} {b o : Nat} {r : R} (h : w.rangeAt b o (rowR r).toList) : w.cell? ⟨b, o, none⟩ = some (.int .u32 r.code) ∧ w.cell? ⟨b, o + 1, none⟩ = some (.int .u32 r.vendor) :=
  ⟨h 0 _ rfl, h 1 _ rfl⟩
set_option maxRecDepth 100000 in
set_option maxHeartbeats 6400000 in
theorem refRules (v : Value) (rs : List R) (w : World) (hr : ReadsR w v rs) (hok : ∀ r ∈ rs, r.ok) : Calls Tryd.prog 14 #[v] w fun e w' => e = .returned (.bool (decide (sound rs))) ∧ Below w.heap.size w w' := by
  have key : ∀ x : Bool, (sound rs ↔ x = true) → (Calls Tryd.prog 14 #[v] w fun e w' => e = .returned (.bool x) ∧ Below w.heap.size w w') → Calls Tryd.prog 14 #[v] w fun e w' => e = .returned (.bool (decide (sound rs))) ∧ Below w.heap.size w w' := by
    intro x hx h
    have e : decide (sound rs) = x := by rw [Bool.eq_iff_iff, decide_eq_true_eq]; exact hx
    rw [e]
    exact h
  obtain ⟨p, c, rfl, q1, q2⟩ := hr.shape
  have hmax : rs.length ≤ 9223372036854775807 := by unfold maxLen at q2; omega
  have HR := Lib.hid hr
  have HOK := Lib.hid hok
  by_cases hbig : 64 < rs.length
  · refine key false ⟨fun h => absurd h.1 (by omega), fun h => by cases h⟩ ?_
    obtain ⟨n, hn⟩ : ∃ n, rs.length = n := ⟨_, rfl⟩
    rw [hn] at hbig hmax ⊢
    clear key hr hok hn q1 q2 HR HOK
    go_enter Tryd.func14, Tryd.ntmps14
    go_wp2_with fail
    go_ret
    exact ⟨rfl, Below.refl _ _⟩
  · obtain ⟨n, hn⟩ : ∃ n, rs.length = n := ⟨_, rfl⟩
    have HN := Lib.hid hn
    have EL := Lib.hid (fun k (hk : k < n) u (h : ReadsR u (.slice p n c) rs) => by have := h.elem k (by rw [hn]; exact hk); rwa [hn] at this)
    have HNO := Lib.hid (fun k r (h : rs[k]? = some r) (hb : bad r ∨ dup rs k r) => show ¬ sound rs from fun hs => by have := hs.2 k r h; rcases hb with hb | hb; exact this.1 hb; exact this.2 hb)
    have HYES := Lib.hid (fun (h : ∀ j r, j < n → rs[j]? = some r → ¬ bad r ∧ ¬ dup rs j r) => show sound rs from ⟨by omega, fun i r hi => h i r (by have := (List.getElem?_eq_some_iff.1 hi).1; omega) hi⟩)
    rw [hn] at hbig hmax HR ⊢
    clear key hr hok hn q1 q2
    obtain ⟨res, hres⟩ : ∃ res, decide (sound rs) = res := ⟨_, rfl⟩
    have HNO2 := Lib.hid (fun k r (h : rs[k]? = some r) (hb : bad r ∨ dup rs k r) => show res = false by rw [← hres]; exact decide_eq_false (HNO.out k r h hb))
    have HYES2 := Lib.hid (fun (h : ∀ j r, j < n → rs[j]? = some r → ¬ bad r ∧ ¬ dup rs j r) => show res = true by rw [← hres]; exact decide_eq_true (HYES.out h))
    rw [hres]
    clear HNO HYES hres
    go_enter Tryd.func14, Tryd.ntmps14
    go_wp2_with fail
    go_loopw [3] (fun i wr => ∃ k : Nat, i = .int .i64 k ∧ k ≤ n ∧ Below w.heap.size w wr ∧ Hid (∀ j r, j < k → rs[j]? = some r → ¬ bad r ∧ ¬ dup rs j r)) (fun i _ => n - (intOf i).toNat)
    case atStart => exact ⟨0, rfl, by omega, Below.refl _ _, Lib.hid (fun j r h => absurd h (Nat.not_lt_zero _))⟩
    case round =>
      obtain ⟨k, rfl, hk, hbl, HALL⟩ := hrel
      have T0 := hbl.size
      by_cases hlt : k < n
      · obtain ⟨r, hx1, hx2, b, off, c', hv, hltb, hra⟩ := EL.out k hlt _ (HR.out.below hbl)
        cases hv
        have HX := Lib.hid hx1
        have HRA := Lib.hid hra
        obtain ⟨⟨a1, a2⟩, ⟨a3, a4⟩, ⟨a5, a6⟩, ⟨a7, a8⟩, a9, a10⟩ := HOK.out r hx2
        have hnk : ¬ n ≤ k := by omega
        clear hx1 hra hx2
        go_upto_region 7 with (first
          | ((with_reducible refine wpl_loadE rfl 37 (.tmp 17) rfl b (off + k * 6) ?_ (rowR r) _ HRA.out Tryd.underlying37 rfl (by kernel_rfl) ?_); rfl; clear HRA)
          | ((with_reducible refine wpl_allocAt rfl 37 rfl zeroR (by kernel_rfl) ?_); go_must (intro u1 hat1 hb hs; clear hs; have hbl_ := hbl.trans (hb.mono hbl.size); have hg0 := hb.size; have hge : w.heap.size ≤ wr.heap.size := T0))
          | ((with_reducible refine wpl_storeR rfl 37 (.tmp 4) (.tmp 18) rfl rfl wr.heap.size 37 zeroR (rowR r) ?_ ?_ hat1 (by kernel_rfl) ?_ ?_ ?_); rfl; rfl; rfl; (simp [rowR, Value.oneCell']); go_must (intro u2 hat hg; have hbl2 := below_grown hbl_ hg hbl_.size hge; have hbr2 : Below wr.heap.size wr u2 := (hb.grown hg hb.size (fun q e => by cases e; exact Nat.le_refl _)); clear hat1 hg hbl_ hb)))
        have d0 := hat.cell 0
        have d1 := hat.cell 1
        have d2 := hat.cell 2
        have d4 := hat.cell 4
        have d5 := hat.cell 5
        simp [rowR] at d0 d1 d2 d4 d5
        have hg2 := hat.lt
        clear hg0 hge
        obtain ⟨gR, hgR⟩ : ∃ g, wr.heap.size = g := ⟨_, rfl⟩
        have HBR := Lib.hid hbr2
        rw [hgR] at hat d0 d1 d2 d4 d5 hg2 ⊢
        by_cases hbad : bad r
        · have hres := HNO2.out k r HX.out (.inl hbad)
          subst hres
          unfold bad at hbad
          clear hat hbr2 hgR
          by_cases t1 : r.type < 1
          · go_wp2_with fail
            all_goals (go_ret; exact ⟨rfl, hbl2⟩)
          by_cases t2 : 11 < r.type
          · go_wp2_with fail
            all_goals (go_ret; exact ⟨rfl, hbl2⟩)
          by_cases t3 : r.least < 0
          · go_wp2_with fail
            all_goals (go_ret; exact ⟨rfl, hbl2⟩)
          by_cases t4 : r.most < r.least
          · go_wp2_with fail
            all_goals (go_ret; exact ⟨rfl, hbl2⟩)
          have t5 : 64 < r.most := by omega
          clear hbad
          go_wp2_with fail
          all_goals (go_ret; exact ⟨rfl, hbl2⟩)
        · have HB := Lib.hid hbad
          have t1 : ¬ r.type < 1 := fun h => hbad (.inl h)
          have t2 : ¬ 11 < r.type := fun h => hbad (.inr (.inl h))
          have t3 : ¬ r.least < 0 := fun h => hbad (.inr (.inr (.inl h)))
          have t4 : ¬ r.most < r.least := fun h => hbad (.inr (.inr (.inr (.inl h))))
          have t5 : ¬ 64 < r.most := fun h => hbad (.inr (.inr (.inr (.inr h))))
          clear hbad
          go_upto_region 10 with fail
          clear t1 t2 t3 t4 t5 d2 d4 d5
          have HR2 := Lib.hid ((HR.out.below hbl).below hbr2)
          have HAT := Lib.hid hat
          clear hat hbr2 hgR
          go_loopw [5] (fun i wq => ∃ j : Nat, i = .int .i64 j ∧ j ≤ k ∧ Hid (∀ q x, q < j → rs[q]? = some x → ¬ (x.code = r.code ∧ x.vendor = r.vendor)) ∧ Below u2.heap.size u2 wq) (fun i _ => k - (intOf i).toNat)
          case atStart => exact ⟨0, rfl, by omega, Lib.hid (fun q x h => absurd h (Nat.not_lt_zero _)), Below.refl _ _⟩
          case round =>
            clear d0 d1
            obtain ⟨j, rfl, hj, HJ, hbj⟩ := hrel
            have hblj := hbl2.trans (hbj.mono hbl2.size)
            by_cases hjl : j < k
            · obtain ⟨x, hx1, hx2, b2, off2, c2, hv2, hltb2, hra2⟩ := EL.out j (by omega) _ (HR2.out.below hbj)
              cases hv2
              obtain ⟨y0, y1⟩ := range_at6 hra2
              have d0 := (HAT.out.ext hbj).cell 0
              have d1 := (HAT.out.ext hbj).cell 1
              simp [rowR] at d0 d1
              have hjn : ¬ n ≤ j := by omega
              have HX2 := Lib.hid hx1
              obtain ⟨⟨z1, z2⟩, ⟨z3, z4⟩, _⟩ := HOK.out x hx2
              clear hra2 hx1 hx2
              by_cases e1 : x.code = r.code
              · by_cases e2 : x.vendor = r.vendor
                · have hres := HNO2.out k r HX.out (.inr ⟨x, List.mem_of_getElem? (i := j) (by rw [List.getElem?_take, if_pos hjl]; exact HX2.out), e1, e2⟩)
                  have b1 : (x.code == r.code) = true := by simpa using e1
                  have b2 : (x.vendor == r.vendor) = true := by simpa using e2
                  subst hres
                  clear e1 e2
                  go_wp2_with fail
                  go_big_quiet (fail)
                  go_wp2_with fail
                  all_goals (go_ret; exact ⟨rfl, below_drewR hblj _⟩)
                · have HJ1 := Lib.hid (show ∀ q x, q < j + 1 → rs[q]? = some x → ¬ (x.code = r.code ∧ x.vendor = r.vendor) from fun q x' hq hx' => by
                    by_cases e : q = j
                    · subst e
                      rw [HX2.out] at hx'
                      cases hx'
                      exact fun h => e2 h.2
                    · exact HJ.out q x' (by omega) hx')
                  have b1 : (x.code == r.code) = true := by simpa using e1
                  have b2 : (x.vendor == r.vendor) = false := by simpa using e2
                  clear e1 e2
                  go_wp2_with fail
                  go_big_quiet (fail)
                  go_wp2_with fail
                  go_roundw
                  case rel => exact ⟨j + 1, by go_num, by omega, HJ1, below_drewR hbj _⟩
                  case measure => simp [intOf]; omega
              · have HJ1 := Lib.hid (show ∀ q x, q < j + 1 → rs[q]? = some x → ¬ (x.code = r.code ∧ x.vendor = r.vendor) from fun q x' hq hx' => by
                  by_cases e : q = j
                  · subst e
                    rw [HX2.out] at hx'
                    cases hx'
                    exact fun h => e1 h.1
                  · exact HJ.out q x' (by omega) hx')
                have b1 : (x.code == r.code) = false := by simpa using e1
                clear e1
                go_wp2_with fail
                go_big_quiet (fail)
                go_wp2_with fail
                go_roundw
                case rel => exact ⟨j + 1, by go_num, by omega, HJ1, below_drewR hbj _⟩
                case measure => simp [intOf]; omega
            · obtain rfl : j = k := by omega
              have HALL2 := Lib.hid (show ∀ q x, q < j + 1 → rs[q]? = some x → ¬ bad x ∧ ¬ dup rs q x from fun q x hq hx => by
                by_cases e : q = j
                · subst e
                  rw [HX.out] at hx
                  cases hx
                  refine ⟨HB.out, fun ⟨y, hy, h1, h2⟩ => ?_⟩
                  obtain ⟨i, hi, ey⟩ := List.getElem_of_mem hy
                  have hik : i < q := by rw [List.length_take] at hi; omega
                  exact HJ.out i y hik (by rw [← ey, List.getElem_take]; exact List.getElem?_eq_getElem _) ⟨h1, h2⟩
                · exact HALL.out q x (by omega) hx)
              go_wp2_with fail
              go_roundw
              case rel => exact ⟨j + 1, by go_num, by omega, hblj, HALL2⟩
              case measure => simp [intOf]; omega
      · obtain rfl : k = n := by omega
        have hres := HYES2.out HALL.out
        subst hres
        go_wp2_with fail
        go_ret
        exact ⟨rfl, hbl⟩
end Go.Proofs.YtjfmahodbdianaaDoor.Rule
