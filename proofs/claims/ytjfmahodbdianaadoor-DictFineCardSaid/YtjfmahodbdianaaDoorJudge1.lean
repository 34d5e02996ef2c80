/-
  Contract: dict.Judge. (Printed by src/gen_judge.py, then genreg.py.)
-/
import Derived.Test.YtjfmahodbdianaaDoorDict3
import Derived.Test.YtjfmahodbdianaaDoorCount1
namespace Go.Proofs.YtjfmahodbdianaaDoor.Dict
open Go.RowKit Mem Cells Ops Rule Avps Go.Maps
set_option linter.unusedVariables false
set_option linter.unusedSimpArgs false

def JudgeIs (w : World) (V : Int × List A × Int) (e : Ending) (w' : World) : Prop := ∃ v', e = .returned (.tuple #[.int .i64 V.1, v', .int .i64 V.2.2]) ∧ FailIs w.heap.size w' v' V.2.1 ∧ Below w.heap.size w w'
abbrev keyV (x : A) : Value := .agg #[.int .u32 x.code, .int .u32 x.vendor]
theorem ruleOf_hit {rs : List R} {x : A} {r : R} (h : rs[place (hitR x.code x.vendor) rs]? = some r) : ruleOf rs x = some r := by
  obtain ⟨hl, hr⟩ := List.getElem?_eq_some_iff.1 h
  unfold ruleOf
  rw [List.find?_eq_some_iff_getElem]
  refine ⟨place_hit _ rs r h, _, hl, hr, fun j hj => ?_⟩
  rw [place_miss (hitR x.code x.vendor) rs j rs[j] hj (List.getElem?_eq_getElem _)]
  rfl
theorem ruleOf_none {rs : List R} {x : A} (h : ¬ place (hitR x.code x.vendor) rs < rs.length) : ruleOf rs x = none := by
  unfold ruleOf
  rw [List.find?_eq_none]
  intro r hr
  obtain ⟨j, hj⟩ := List.getElem?_of_mem hr
  rw [place_miss (hitR x.code x.vendor) rs j r (by have := (List.getElem?_eq_some_iff.1 hj).1; omega) hj]
  simp
theorem zero3 (u : World) : (zeroValue 3).run Tryd.prog u = .ok (.int .i64 0) u := by kernel_rfl
theorem look43 {u : World} {g n : Nat} {D : DataW Unit} {c v ci : Int} (h : u.ownsMap Tryd.prog 45 (plainElem Tryd.prog 3) g n D) (hk : keyOf Tryd.prog 45 (.agg #[.int .u32 c, .int .u32 v]) = some (keyN c v)) (hat : D.atKey (keyN c v) (.lit (.int .i64 0)) = .lit (.int .i64 ci)) :
    (Instr.lookup 43 (.map (some g)) (.agg #[.int .u32 c, .int .u32 v]) false).run Tryd.prog u = .ok (.int .i64 ci) u := by
  obtain ⟨c', h1, h2, _⟩ := h.lookup_int keyed65 Tryd.underlying43 Tryd.underlying3 (zero3 u) hk
  rw [hat] at h2
  injection h2 with h2
  injection h2 with _ h2
  rw [h2]
  exact h1
theorem undrew {u y : World} {r : Option Nat} (h : u.drew.grownBy y r) : u.grownBy y r := ⟨h.os, h.tape, h.output, h.size, h.block⟩
set_option maxRecDepth 100000 in
theorem judgeForm (fit : Int → List Int → Int) (rs : List R) (l : List A) (v u : Value) (w : World) (hr : ReadsR w v rs) (hok : ∀ r ∈ rs, r.ok) (hs : ¬ sound rs) : Calls Tryd.prog 10 #[v, u] w (JudgeIs w (verdict fit rs l)) := by
  rw [verdict_form hs]
  have PS := Lib.hid (show Calls Tryd.prog 13 #[v] w fun e w' => e = .returned (.bool false) ∧ Below w.heap.size w w' by have := soundIs v rs w hr hok; rwa [decide_eq_false hs] at this)
  clear hr hok hs
  go_enter Tryd.func10, Tryd.ntmps10
  go_wp2_with ((go_at_call 13; go_must (refine PS.out.mono ?_; rintro e u1 ⟨rfl, hb⟩)))
  go_ret3
  exact ⟨_, rfl, rfl, hb⟩
set_option maxRecDepth 100000 in
set_option maxHeartbeats 6400000 in
theorem judgeIs (fit : Int → List Int → Int) (rs : List R) (l : List A) (v u : Value) (w : World) (hr : ReadsR w v rs) (hl : ReadsL w u l) (hok : ∀ r ∈ rs, r.ok) (hla : ∀ x ∈ l, x.ok ∧ x.data.length ≤ 140737488355328)
    (hf : ∀ x ∈ l, ∀ r ∈ rs, hitR x.code x.vendor r = true → FitsAt w fit r.type x.data) (hs : sound rs) : Calls Tryd.prog 10 #[v, u] w (JudgeIs w (verdict fit rs l)) := by
  have PS := Lib.hid (show Calls Tryd.prog 13 #[v] w fun e w' => e = .returned (.bool true) ∧ Below w.heap.size w w' by have := soundIs v rs w hr hok; rwa [decide_eq_true hs] at this)
  obtain ⟨pr, cr, rfl, r1, r2⟩ := hr.shape
  obtain ⟨pl, cl, rfl, l1, l2⟩ := hl.shape
  have HR := Lib.hid hr
  have HL := Lib.hid hl
  have HLA := Lib.hid hla
  have HOK := Lib.hid hok
  have HF := Lib.hid hf
  have VB := Lib.hid (fun k x n => verdict_bad (fit := fit) (rs := rs) (l := l) (k := k) (x := x) (n := n) hs)
  have VL := Lib.hid (fun k r => verdict_lack (fit := fit) (rs := rs) (l := l) (k := k) (r := r) hs)
  have VF := Lib.hid (verdict_fine (fit := fit) (rs := rs) (l := l) hs)
  obtain ⟨nl, hnl⟩ : ∃ n, l.length = n := ⟨_, rfl⟩
  obtain ⟨nr, hnr⟩ : ∃ n, rs.length = n := ⟨_, rfl⟩
  have HNL := Lib.hid hnl
  have HNR := Lib.hid hnr
  have hml : nl ≤ 9223372036854775807 := by unfold maxLen at l2; omega
  have hmr : nr ≤ 9223372036854775807 := by unfold maxLen at r2; omega
  have HMM := Lib.hid (show nl ≤ maxLen by omega)
  have EL := Lib.hid (fun k (hk : k < nl) u (h : ReadsL u (.slice pl nl cl) l) => by have := h.elem k (by rw [hnl]; exact hk); rwa [hnl] at this)
  have ER := Lib.hid (fun k (hk : k < nr) u (h : ReadsR u (.slice pr nr cr) rs) => by have := h.elem k (by rw [hnr]; exact hk); rwa [hnr] at this)
  rw [hnr] at HR PS ⊢
  rw [hnl] at HL ⊢
  obtain ⟨V, hV⟩ : ∃ V, verdict fit rs l = V := ⟨_, rfl⟩
  rw [hV] at VB VL VF ⊢
  clear hr hl hla hok hf hs r1 r2 l1 l2 hnl hnr hV
  go_enter Tryd.func10, Tryd.ntmps10
  go_wp2_with (first
    | (go_at_call 13; go_must (refine PS.out.mono ?_; rintro e u0 ⟨rfl, hb0⟩; clear PS))
    | ((with_reducible refine wpl_makeMap rfl 43 rfl ?_ 45 (plainElem Tryd.prog 3) ?_); kernel_rfl; go_must (intro w0 hm0 hb1; have hbl0 := hb0.trans (hb1.mono hb0.size); have hg0 := hb0.size; clear hb0 hb1)))
  obtain ⟨g, hg⟩ : ∃ g, u0.heap.size = g := ⟨_, rfl⟩
  rw [hg] at hm0 hg0 ⊢
  clear hg
  go_loopw [22] (fun i wr => ∃ (k : Nat) (D : DataW Unit), i = .int .i64 k ∧ k ≤ nl ∧ Below w.heap.size w wr ∧ wr.ownsMap Tryd.prog 45 (plainElem Tryd.prog 3) g k D ∧ Hid (Cnt D (l.take k)) ∧ Hid (∀ j, j < k → oneAt fit rs l j = 2001)) (fun i _ => nl - (intOf i).toNat)
  case atStart => exact ⟨0, _, rfl, by omega, hbl0, hm0, Lib.hid Cnt.nil, Lib.hid (fun j h => absurd h (Nat.not_lt_zero _))⟩
  case round =>
    clear hm0 hbl0
    obtain ⟨k, D, rfl, hk, hbl, hown, HC, HALL⟩ := hrel
    by_cases hlt : k < nl
    · obtain ⟨x, hx1, hx2, b, off, c', pd, nd, hv, _, _, hltb, hra, hrd⟩ := EL.out k hlt _ HL.out
      cases hv
      have HX := Lib.hid hx1
      have HRA := Lib.hid (range_below hra hbl hltb)
      have HRD := Lib.hid hrd
      obtain ⟨hxo, hxl⟩ := HLA.out x hx2
      have HXM := Lib.hid hx2
      have HXO := Lib.hid hxo
      have HXL := Lib.hid hxl
      obtain ⟨hc1, hv1, _⟩ := hxo
      have HK := Lib.hid (keyOf65 x.code x.vendor hc1 hv1)
      obtain ⟨⟨a1, a2⟩, ⟨a3, a4⟩⟩ := And.intro hc1 hv1
      have S1 := Lib.hid (rfl : w = w)
      have S2 := Lib.hid (rfl : w = w)
      have T0 := hbl.size
      have TM := hown.lt
      clear hx1 hra hx2 hrd hxl hc1 hv1
      obtain ⟨WR, hWR⟩ : ∃ W : World, W = wr := ⟨_, rfl⟩
      have HB0 := Lib.hid (show Below wr.heap.size wr wr from Below.refl _ _)
      go_wp2_with (first
        | ((with_reducible refine wpl_loadE rfl 35 (.tmp 24) rfl b (off + k * 5) ?_ (row x (.slice pd x.data.length nd)).toArray _ HRA.out Tryd.underlying35 rfl (by kernel_rfl) ?_); rfl; clear HRA)
        | ((with_reducible refine wpl_allocAt rfl 35 rfl #[.int .u32 0, .int .u32 0, .bool false, .bool false, .slice none 0 0] (by kernel_rfl) ?_); have _t := S1; clear _t; go_must (intro u1 hat1 hb hs; clear hs S1; have hbl1 := hbl.trans (hb.mono hbl.size); have hown1 := hown.kept (grown_below none hb) (by simp); have hb1 := hb))
        | ((with_reducible refine wpl_storeR rfl 35 (.tmp 9) (.tmp 25) rfl rfl wr.heap.size 35 _ (row x (.slice pd x.data.length nd)).toArray ?_ ?_ hat1 (by kernel_rfl) ?_ ?_ ?_); rfl; rfl; rfl; (simp [row, Value.oneCell']); go_must (intro u2 hat2 hg2; have hbl2 := below_grown hbl1 hg2 hbl1.size (by omega); have hown2 := hown1.kept hg2 (fun e => by have := Option.some.inj e; omega); have hb2 := below_grown hb1 hg2 hb1.size (Nat.le_refl _); clear hat1 hbl1 hown1 hb1 hb hg2; have L2 := hat2.lt; have c0 := hat2.cell 0; have c1 := hat2.cell 1; simp [row] at c0 c1))
        | ((with_reducible refine wpl_allocAt rfl 45 rfl #[.int .u32 0, .int .u32 0] (by kernel_rfl) ?_); have _t := S2; clear _t; go_must (intro u3 hat3 hb hs; clear hs S2; have hbl3 := hbl2.trans (hb.mono hbl2.size); have hown3 := hown2.kept (grown_below none hb) (by simp); have hat9 := hat2.ext hb; have hb3 := hb2.trans (hb.mono hb2.size); have TM2 := hown2.lt; clear hat2 hbl2 hown2 hb hb2 c0 c1))
        | ((with_reducible refine wpl_storeR rfl 45 (.tmp 10) (.tmp 30) rfl rfl u2.heap.size 45 _ #[.int .u32 x.code, .int .u32 x.vendor] ?_ ?_ hat3 (by kernel_rfl) ?_ ?_ ?_); rfl; rfl; rfl; (simp [Value.oneCell']); go_must (intro u4 hat4 hg4; have hbl4 := below_grown hbl3 hg4 hbl3.size (by omega); have hown4 := hown3.kept hg4 (fun e => by have := Option.some.inj e; omega); have hat9' := hat9.grown hg4 (by omega); have hb4 := below_grown hb3 hg4 hb3.size (by omega); clear hat3 hat9 hbl3 hown3 hb3 hg4; skip)))
      obtain ⟨G9, hG9⟩ : ∃ q, wr.heap.size = q := ⟨_, rfl⟩
      obtain ⟨G10, hG10⟩ : ∃ q, u2.heap.size = q := ⟨_, rfl⟩
      rw [hG9] at hat9' L2 TM ⊢
      rw [hG10] at hat4 L2 ⊢
      clear hb4 hG9 hG10 T0 TM2
      obtain ⟨ci, hci⟩ : ∃ ci : Int, (cntN (l.take k) x.code x.vendor : Int) = ci := ⟨_, rfl⟩
      have hcl := cnt_le (l.take k) x.code x.vendor
      have htk : (l.take k).length ≤ k := by rw [List.length_take]; omega
      have hc0 : 0 ≤ ci := by omega
      have hc1 : ci ≤ 9223372036854775806 := by omega
      have hat0 := (HC.out x.code x.vendor ⟨a1, a2⟩ ⟨a3, a4⟩).trans (by rw [hci])
      obtain ⟨v0, st, w2, D2, hE, hO2, hA2, hg2, hS⟩ := entryMade (w := u4.drew) (P := Tryd.prog) hown4.drew keyed65 Tryd.underlying43 Tryd.underlying3 zero3 (by have := HMM.out; omega) HK.out
      obtain ⟨w3, hE3, hO3, hg3⟩ := hS (ci + 1) (by simp [Lit.wf, IntKind.min, IntKind.max, IntKind.signed, IntKind.bits]; omega)
      clear hS
      have hw1 := (show IntKind.i64.wrap (ci + 1) = ci + 1 by rw [IntKind.wrap_i64]; omega)
      have hlk1 := look43 hown4.drew HK.out hat0
      have hlk2 := look43 hO2 HK.out (hA2.trans hat0)
      have hA1 : At u4.drew G10 45 #[.int .u32 x.code, .int .u32 x.vendor] := hat4
      have hne10 : G10 ≠ g := by omega
      refine MonoJ.wp_region_J [some 31, some 32, some 33, some 34, some 35, some 36, none] [.map (some g), keyV x, .int .i64 ci, .int .i64 (ci + 1), .tuple #[v0, goInt st], goInt st, undef] (JC u4.drew w2 w3) (by kernel_rfl) (by kernel_rfl) (by kernel_rfl) ?_ ?_ ?_
      · exact ⟨fun h => absurd h (by decide), fun h => absurd h (by decide), rfl⟩
      · simp only [MonoJ.OpGoals, and_true]
        refine ⟨?_, ?_, ?_, ?_, ?_, ?_, ?_⟩
        · intro l a u hJ hsz hjn hdep hsame hval
          exact wp_move' (.tmp 7) rfl _ (hsame 7 (by decide)) ⟨rfl, hJ.pure (by decide) (by decide) (fun h => absurd h (by decide)) hsz (by decide)⟩
        · intro l a u hJ hsz hjn hdep hsame hval
          have hat : At u G10 45 #[.int .u32 x.code, .int .u32 x.vendor] := hJ.all (fun u => At u G10 45 #[.int .u32 x.code, .int .u32 x.vendor]) hA1 (hA1.grown hg2 hne10) (hA1.grown hg3 hne10)
          exact wp_load' 45 (.tmp 10) rfl G10 45 _ hat _ Tryd.underlying45 rfl (by kernel_rfl) (hsame 10 (by decide)) ⟨rfl, hJ.pure (by decide) (by decide) (fun h => absurd h (by decide)) hsz (by decide)⟩
        · intro l a u hJ hsz hjn hdep hsame hval
          have hrun : (Instr.lookup 43 (.map (some g)) (keyV x) false).run Tryd.prog u = .ok (.int .i64 ci) u := by
            rcases hJ.early (hJ.not3 (MonoJ.getD_false hjn)) with rfl | rfl
            · exact hlk1
            · exact hlk2
          exact wp_lookup' 43 (.tmp 31) (.tmp 32) rfl _ _ _ (hval 0 31 (hdep ⟨0, .data⟩ (by simp) rfl) rfl) (hval 1 32 (hdep ⟨1, .data⟩ (by simp) rfl) rfl) hrun ⟨rfl, hJ.pure (by decide) (by decide) (fun h => absurd h (by decide)) hsz (by decide)⟩
        · intro l a u hJ hsz hjn hdep hsame hval
          have l2 := hdep ⟨2, .data⟩ (by simp) rfl
          have z33 := hval 2 33 l2 rfl
          simp [Act.eval] at z33
          exact wp_val' (.int .i64 (ci + 1)) (by simp [execOp, z33, go_sem, hw1]) ⟨rfl, hJ.pure (by decide) (by decide) (fun _ => l2) hsz (by decide)⟩
        · intro l a u hJ hsz hjn hdep hsame hval
          obtain ⟨rfl, hJ'⟩ := hJ.entry (MonoJ.getD_false hjn) hsz
          exact wp_entry' 43 (.tmp 31) (.tmp 32) rfl _ _ _ _ (hval 0 31 (hdep ⟨0, .data⟩ (by simp) rfl) rfl) (hval 1 32 (hdep ⟨1, .data⟩ (by simp) rfl) rfl) hE ⟨rfl, hJ'⟩
        · intro l a u hJ hsz hjn hdep hsame hval
          have z35 := hval 4 35 (hdep ⟨4, .data⟩ (by simp) rfl) rfl
          simp [Act.eval] at z35
          exact wp_val' (goInt st) (by simp [execOp, z35, go_sem]) ⟨rfl, hJ.pure (by decide) (by decide) (fun h => absurd h (by decide)) hsz (by decide)⟩
        · intro l a u hJ hsz hjn hdep hsame hval
          obtain ⟨rfl, hJ'⟩ := hJ.store (MonoJ.getD_false hjn) (hdep ⟨3, .data⟩ (by simp) rfl) (hdep ⟨4, .chain⟩ (by simp) rfl) hsz
          exact wp_entryStore' 43 (.tmp 31) (.tmp 36) (.tmp 34) rfl _ _ _ _ (hval 0 31 (hdep ⟨0, .data⟩ (by simp) rfl) rfl) (hval 5 36 (hdep ⟨5, .data⟩ (by simp) rfl) rfl) (hval 3 34 (hdep ⟨3, .data⟩ (by simp) rfl) rfl) hE3 ⟨rfl, hJ'⟩
      intro u5 hJ5
      have e5 : u5 = w3 := by have := hJ5.2.2; simpa using this
      subst e5
      simp [Act.put]
      have hg5 := undrew hg3
      have hbl5 := below_grown hbl4 hg5 hbl4.size (by omega)
      have hatA := hat9'.grown hg5 (by omega)
      have hatB := hat4.grown hg5 hne10
      have hxc : (cntN (l.take (k + 1)) x.code x.vendor : Int) = ci + 1 := by rw [List.take_add_one, HX.out]; show (cntN (l.take k ++ [x]) x.code x.vendor : Int) = _; rw [cnt_step]; omega
      have HC5 := Lib.hid (show Cnt (D.put (keyN x.code x.vendor) (.lit (.int .i64 (ci + 1)))) (l.take (k + 1)) by
        rw [← hxc, List.take_add_one, HX.out]
        exact HC.out.snoc hown4.isMap ⟨a1, a2⟩ ⟨a3, a4⟩)
      have hat5 := (HC5.out x.code x.vendor ⟨a1, a2⟩ ⟨a3, a4⟩).trans (by rw [hxc])
      obtain ⟨D5, hD5⟩ : ∃ D5, D.put (keyN x.code x.vendor) (.lit (.int .i64 (ci + 1))) = D5 := ⟨_, rfl⟩
      rw [hD5] at hO3 HC5 hat5
      have HLK5 := Lib.hid (fun u (hu : Below u5.heap.size u5 u) => look43 (hO3.kept (grown_below none hu) (by simp)) HK.out hat5)
      clear hE hO2 hA2 hg2 hE3 hg3 hlk1 hlk2 hA1 hJ5 hg5 hbl4 hat9' hat4 hown4 hown hat0 hw1 hci hcl htk HC hat5 hD5
      obtain ⟨cx, hcx⟩ : ∃ cx : Int, ci + 1 = cx := ⟨_, rfl⟩
      have hxN := Lib.hid hxc
      rw [hcx] at HLK5 hxN ⊢
      have hcx0 : 0 ≤ cx ∧ cx ≤ 9223372036854775807 := by omega
      clear hcx hc0 hc1 hxc
      have PI := index (.slice pr nr cr) rs x.code x.vendor G10 u5 (HR.out.below hbl5) hatB
      obtain ⟨i, hi⟩ : ∃ i, place (hitR x.code x.vendor) rs = i := ⟨_, rfl⟩
      have hpos : posI (hitR x.code x.vendor) rs = if i < nr then (i : Int) else -1 := by unfold posI; rw [hi, HNR.out]
      rw [hpos] at PI
      by_cases hir : i < nr
      · rw [if_pos hir] at PI
        obtain ⟨r, hr1, hr2, b2, off2, c2, hv2, hltb2, hra2⟩ := ER.out i hir _ (HR.out.below hbl5)
        cases hv2
        have hone : oneAt fit rs l k = judgeR fit r x.data cx := by
          unfold oneAt
          rw [HX.out]
          show oneV fit rs (l.take k) x = _
          unfold oneV
          rw [ruleOf_hit (r := r) (by rw [hi]; exact hr1)]
          show judgeR fit r x.data _ = _
          rw [← hxN.out, List.take_add_one, HX.out]
          rfl
        have hfa := HF.out x HXM.out r hr2 (place_hit _ rs r (by rw [hi]; exact hr1))
        have hro := HOK.out r hr2
        have PI2 := Lib.hid PI
        have hcx1 := Lib.hid hcx0
        obtain ⟨res, hres⟩ : ∃ res, judgeR fit r x.data cx = res := ⟨_, rfl⟩
        rw [hres] at hone
        have PJ0 := Lib.hid (fun u (hu : Below u5.heap.size u5 u) => by
          have := judgeSome fit r x pd x.data.length nd cx b2 (off2 + i * 6) u hro (Nat.lt_of_lt_of_le hltb2 hu.size) (range_below hra2 hu hltb2) (HRD.out.below (hbl5.trans (hu.mono hbl5.size))) hcx1.out w (hbl5.trans (hu.mono hbl5.size)) hfa
          rwa [hres] at this)
        have HONE := Lib.hid hone
        have hir' : (i : Int) < nr := by omega
        clear hr1 hr2 hra2 hone hfa hro hres hpos hi PI hcx0
        go_wp2_with (first
          | (go_at_call 17; go_must (refine PI2.out.mono ?_; rintro e u6 ⟨rfl, hb6⟩; have hbl6 := hbl5.trans (hb6.mono hbl5.size); have HA9 := Lib.hid (fun u (hu : Below u6.heap.size u6 u) => (hatA.ext hb6).ext hu); have HA10 := Lib.hid (fun u (hu : Below u6.heap.size u6 u) => (hatB.ext hb6).ext hu); have HLK := Lib.hid (fun u (hu : Below u6.heap.size u6 u) => HLK5.out u (hb6.trans (hu.mono hb6.size))); have PJ := Lib.hid (fun u (hu : Below u6.heap.size u6 u) => PJ0.out u (hb6.trans (hu.mono hb6.size))); clear PI2)))
        refine Mono.wp_region_mono [some 45, some 46, some 47, some 48, some 49, some 50, some 13] [Mono.isV (.pointer (some ⟨b2, off2 + i * 6, none⟩)), Mono.isV (.agg (row x (.slice pd x.data.length nd)).toArray), Mono.isV (.map (some g)), Mono.isV (.agg #[.int .u32 x.code, .int .u32 x.vendor]), Mono.isV (.int .i64 cx), Mono.isV (.int .i64 res), Mono.isV (.int .i64 res)] (by kernel_rfl) (by kernel_rfl) ?_ ?_
        · simp only [Mono.OpGoals, and_true]
          refine ⟨?_, ?_, ?_, ?_, ?_, ?_, ?_⟩
          · intro a u hbu hsu hdu
            refine Mono.if_want rfl ?_
            exact Mono.ok_move (.tmp 11) rfl (hsu 11 (by decide))
          · intro a u hbu hsu hdu
            refine Mono.if_want rfl ?_
            exact Mono.ok_loadAt 35 (.tmp 9) rfl G9 35 _ (HA9.out _ hbu) _ Tryd.underlying35 rfl (by kernel_rfl) (hsu 9 (by decide)) rfl
          · intro a u hbu hsu hdu
            refine Mono.if_want rfl ?_
            exact Mono.ok_move (.tmp 7) rfl (hsu 7 (by decide))
          · intro a u hbu hsu hdu
            refine Mono.if_want rfl ?_
            exact Mono.ok_loadAt 45 (.tmp 10) rfl G10 45 _ (HA10.out _ hbu) _ Tryd.underlying45 rfl (by kernel_rfl) (hsu 10 (by decide)) rfl
          · intro a u hbu hsu hdu
            refine Mono.if_want rfl ?_
            have z47 : a.eval (.tmp 47) = .map (some g) := Mono.dep_at hdu (i := 2) (d := 47) rfl rfl rfl
            have z48 : a.eval (.tmp 48) = .agg #[.int .u32 x.code, .int .u32 x.vendor] := Mono.dep_at hdu (i := 3) (d := 48) rfl rfl rfl
            simp [Act.eval] at z47 z48
            exact Mono.ok_val (.int .i64 cx) (by simp [execOp, z47, z48, HLK.out u hbu, Act.eval]) rfl
          · intro a u hbu hsu hdu
            refine Mono.if_want rfl ?_
            have z45 : a.eval (.tmp 45) = .pointer (some ⟨b2, off2 + i * 6, none⟩) := Mono.dep_at hdu (i := 0) (d := 45) rfl rfl rfl
            have z46 : a.eval (.tmp 46) = .agg (row x (.slice pd x.data.length nd)).toArray := Mono.dep_at hdu (i := 1) (d := 46) rfl rfl rfl
            have z49 : a.eval (.tmp 49) = .int .i64 cx := Mono.dep_at hdu (i := 4) (d := 49) rfl rfl rfl
            simp [Act.eval] at z45 z46 z49
            refine Mono.ok_call 19 _ _ rfl #[.pointer (some ⟨b2, off2 + i * 6, none⟩), .agg (row x (.slice pd x.data.length nd)).toArray, .int .i64 cx] (by simp [execOp, z45, z46, z49, go_sem]) ((PJ.out u hbu).mono ?_)
            rintro e y1 ⟨rfl, hb1⟩
            exact ⟨_, rfl, hb1, rfl⟩
          · intro a u hbu hsu hdu
            refine Mono.if_want rfl ?_
            exact Mono.ok_assign (.tmp 50) rfl (Mono.dep_at hdu (i := 5) (d := 50) rfl rfl rfl)
        intro u hu
        simp only [Mono.Fin]
        rintro _ rfl _ rfl _ rfl _ rfl _ rfl _ rfl _ rfl
        simp [Act.put]
        have hu0 := hu
        have hbl7 := hbl6.trans (hu.mono hbl6.size)
        have hb7 := hb6.trans (hu.mono hb6.size)
        have hat7 := HA9.out _ hu
        by_cases hok : res = 2001
        · subst hok
          go_wp2_with fail
          go_roundw
          case rel => exact ⟨k + 1, D5, by go_num, by omega, hbl7, hO3.kept (grown_below none hb7) (by simp), HC5, Lib.hid (fun j hj => by
            rcases Nat.lt_or_ge j k with h | h
            · exact HALL.out j h
            · obtain rfl : j = k := by omega
              exact HONE.out)⟩
          case measure => simp [intOf]; omega
        · have bne : (res != 2001) = true := by simpa using hok
          have hV := VB.out k x res HX.out HALL.out HONE.out hok
          have PO := Lib.hid (own x pd x.data.length nd _ (HRD.out.below hbl7) HXL.out)
          have HV := Lib.hid hV
          clear hV hok
          go_wp2_with (first
            | ((with_reducible refine wpl_loadAt rfl 35 (.tmp 9) rfl G9 35 (row x (.slice pd x.data.length nd)).toArray hat7 _ Tryd.underlying35 rfl (by kernel_rfl) ?_ ?_); rfl)
            | (go_at_call 20; go_must (refine PO.out.mono ?_; rintro e u8 ⟨d8, rfl, hrow8, hb8⟩; have hbl8 := hbl7.trans (hb8.mono hbl7.size); clear PO))
            | ((with_reducible refine wpl_buildS rfl 23 1 #[(0, .tmp 55)] rfl #[(0, .agg (row x d8).toArray)] ?_ 35 (row x d8).toArray (fun _ => Avp.build22 _ _ _) ?_); (simp [Act.eval]); go_must (intro u9 hat9 hb9 hs9)))
          go_ret3
          rw [HV.out]
          exact ⟨_, rfl, ⟨_, d8, rfl, hbl8.size, hat9, (hrow8.mono hbl7.size).below hb9⟩, hbl8.trans (hb9.mono hbl8.size)⟩
      · rw [if_neg hir] at PI
        have hone : oneAt fit rs l k = judgeN x.must := by
          unfold oneAt
          rw [HX.out]
          show oneV fit rs (l.take k) x = _
          unfold oneV
          rw [ruleOf_none (by rw [hi, HNR.out]; exact hir)]
        have PI2 := Lib.hid PI
        obtain ⟨res, hres⟩ : ∃ res, judgeN x.must = res := ⟨_, rfl⟩
        rw [hres] at hone
        have PJ0 := Lib.hid (fun u (hu : Below u5.heap.size u5 u) => by
          have := judgeNil x (.slice pd x.data.length nd) cx u rfl
          rwa [hres] at this)
        have HONE := Lib.hid hone
        clear hone hres hpos hi PI
        go_wp2_with (first
          | (go_at_call 17; go_must (refine PI2.out.mono ?_; rintro e u6 ⟨rfl, hb6⟩; have hbl6 := hbl5.trans (hb6.mono hbl5.size); have HA9 := Lib.hid (fun u (hu : Below u6.heap.size u6 u) => (hatA.ext hb6).ext hu); have HA10 := Lib.hid (fun u (hu : Below u6.heap.size u6 u) => (hatB.ext hb6).ext hu); have HLK := Lib.hid (fun u (hu : Below u6.heap.size u6 u) => HLK5.out u (hb6.trans (hu.mono hb6.size))); have PJ := Lib.hid (fun u (hu : Below u6.heap.size u6 u) => PJ0.out u (hb6.trans (hu.mono hb6.size))); clear PI2)))
        refine Mono.wp_region_mono [some 45, some 46, some 47, some 48, some 49, some 50, some 13] [Mono.isV (.pointer none), Mono.isV (.agg (row x (.slice pd x.data.length nd)).toArray), Mono.isV (.map (some g)), Mono.isV (.agg #[.int .u32 x.code, .int .u32 x.vendor]), Mono.isV (.int .i64 cx), Mono.isV (.int .i64 res), Mono.isV (.int .i64 res)] (by kernel_rfl) (by kernel_rfl) ?_ ?_
        · simp only [Mono.OpGoals, and_true]
          refine ⟨?_, ?_, ?_, ?_, ?_, ?_, ?_⟩
          · intro a u hbu hsu hdu
            refine Mono.if_want rfl ?_
            exact Mono.ok_move (.tmp 11) rfl (hsu 11 (by decide))
          · intro a u hbu hsu hdu
            refine Mono.if_want rfl ?_
            exact Mono.ok_loadAt 35 (.tmp 9) rfl G9 35 _ (HA9.out _ hbu) _ Tryd.underlying35 rfl (by kernel_rfl) (hsu 9 (by decide)) rfl
          · intro a u hbu hsu hdu
            refine Mono.if_want rfl ?_
            exact Mono.ok_move (.tmp 7) rfl (hsu 7 (by decide))
          · intro a u hbu hsu hdu
            refine Mono.if_want rfl ?_
            exact Mono.ok_loadAt 45 (.tmp 10) rfl G10 45 _ (HA10.out _ hbu) _ Tryd.underlying45 rfl (by kernel_rfl) (hsu 10 (by decide)) rfl
          · intro a u hbu hsu hdu
            refine Mono.if_want rfl ?_
            have z47 : a.eval (.tmp 47) = .map (some g) := Mono.dep_at hdu (i := 2) (d := 47) rfl rfl rfl
            have z48 : a.eval (.tmp 48) = .agg #[.int .u32 x.code, .int .u32 x.vendor] := Mono.dep_at hdu (i := 3) (d := 48) rfl rfl rfl
            simp [Act.eval] at z47 z48
            exact Mono.ok_val (.int .i64 cx) (by simp [execOp, z47, z48, HLK.out u hbu, Act.eval]) rfl
          · intro a u hbu hsu hdu
            refine Mono.if_want rfl ?_
            have z45 : a.eval (.tmp 45) = .pointer none := Mono.dep_at hdu (i := 0) (d := 45) rfl rfl rfl
            have z46 : a.eval (.tmp 46) = .agg (row x (.slice pd x.data.length nd)).toArray := Mono.dep_at hdu (i := 1) (d := 46) rfl rfl rfl
            have z49 : a.eval (.tmp 49) = .int .i64 cx := Mono.dep_at hdu (i := 4) (d := 49) rfl rfl rfl
            simp [Act.eval] at z45 z46 z49
            refine Mono.ok_call 19 _ _ rfl #[.pointer none, .agg (row x (.slice pd x.data.length nd)).toArray, .int .i64 cx] (by simp [execOp, z45, z46, z49, go_sem]) ((PJ.out u hbu).mono ?_)
            rintro e y1 ⟨rfl, hb1⟩
            exact ⟨_, rfl, hb1, rfl⟩
          · intro a u hbu hsu hdu
            refine Mono.if_want rfl ?_
            exact Mono.ok_assign (.tmp 50) rfl (Mono.dep_at hdu (i := 5) (d := 50) rfl rfl rfl)
        intro u hu
        simp only [Mono.Fin]
        rintro _ rfl _ rfl _ rfl _ rfl _ rfl _ rfl _ rfl
        simp [Act.put]
        have hu0 := hu
        have hbl7 := hbl6.trans (hu.mono hbl6.size)
        have hb7 := hb6.trans (hu.mono hb6.size)
        have hat7 := HA9.out _ hu
        by_cases hok : res = 2001
        · subst hok
          go_wp2_with fail
          go_roundw
          case rel => exact ⟨k + 1, D5, by go_num, by omega, hbl7, hO3.kept (grown_below none hb7) (by simp), HC5, Lib.hid (fun j hj => by
            rcases Nat.lt_or_ge j k with h | h
            · exact HALL.out j h
            · obtain rfl : j = k := by omega
              exact HONE.out)⟩
          case measure => simp [intOf]; omega
        · have bne : (res != 2001) = true := by simpa using hok
          have hV := VB.out k x res HX.out HALL.out HONE.out hok
          have PO := Lib.hid (own x pd x.data.length nd _ (HRD.out.below hbl7) HXL.out)
          have HV := Lib.hid hV
          clear hV hok
          go_wp2_with (first
            | ((with_reducible refine wpl_loadAt rfl 35 (.tmp 9) rfl G9 35 (row x (.slice pd x.data.length nd)).toArray hat7 _ Tryd.underlying35 rfl (by kernel_rfl) ?_ ?_); rfl)
            | (go_at_call 20; go_must (refine PO.out.mono ?_; rintro e u8 ⟨d8, rfl, hrow8, hb8⟩; have hbl8 := hbl7.trans (hb8.mono hbl7.size); clear PO))
            | ((with_reducible refine wpl_buildS rfl 23 1 #[(0, .tmp 55)] rfl #[(0, .agg (row x d8).toArray)] ?_ 35 (row x d8).toArray (fun _ => Avp.build22 _ _ _) ?_); (simp [Act.eval]); go_must (intro u9 hat9 hb9 hs9)))
          go_ret3
          rw [HV.out]
          exact ⟨_, rfl, ⟨_, d8, rfl, hbl8.size, hat9, (hrow8.mono hbl7.size).below hb9⟩, hbl8.trans (hb9.mono hbl8.size)⟩
    · obtain rfl : k = nl := by omega
      have HA := Lib.hid (show ∀ j, j < l.length → oneAt fit rs l j = 2001 by rw [HNL.out]; exact HALL.out)
      have HCL := Lib.hid (show Cnt D l by have := HC.out; rwa [List.take_of_length_le (Nat.le_of_eq HNL.out)] at this)
      have hcb := Lib.hid (fun c v => cnt_le l c v)
      clear HC HALL VB hlt
      go_wp2_with fail
      go_loopw [60] (fun i wr2 => ∃ q : Nat, i = .int .i64 q ∧ q ≤ nr ∧ Below w.heap.size w wr2 ∧ wr2.ownsMap Tryd.prog 45 (plainElem Tryd.prog 3) g k D ∧ Hid (∀ (j : Nat) (r : R), j < q → rs[j]? = some r → lacks l r = false)) (fun i _ => nr - (intOf i).toNat)
      case atStart => exact ⟨0, rfl, by omega, hbl, hown, Lib.hid (fun j r h => absurd h (Nat.not_lt_zero _))⟩
      case round =>
        clear hown hbl
        obtain ⟨q, rfl, hq, hbl, hown, HALL⟩ := hrel
        by_cases hlt : q < nr
        · obtain ⟨r, hr1, hr2, b, off, c', hv, hltb, hra⟩ := ER.out q hlt _ HR.out
          cases hv
          have HX := Lib.hid hr1
          have HRA := Lib.hid (range_below hra hbl hltb)
          have hro := HOK.out r hr2
          obtain ⟨⟨a1, a2⟩, ⟨a3, a4⟩, ⟨a5, a6⟩, ⟨a7, a8⟩, a9, a10⟩ := hro
          have HK := Lib.hid (keyOf65 r.code r.vendor ⟨a1, a2⟩ ⟨a3, a4⟩)
          have hat0 := HCL.out r.code r.vendor ⟨a1, a2⟩ ⟨a3, a4⟩
          obtain ⟨cq, hcq⟩ : ∃ cq : Int, (cntN l r.code r.vendor : Int) = cq := ⟨_, rfl⟩
          have hcq0 : 0 ≤ cq ∧ cq ≤ 9223372036854775807 := by have := hcb.out r.code r.vendor; rw [HNL.out] at this; omega
          rw [hcq] at hat0
          have HLA2 := Lib.hid (show lacks l r = decide (cq < r.least) by unfold lacks; rw [hcq])
          have S1 := Lib.hid (rfl : w = w)
          have T0 := hbl.size
          have TM := hown.lt
          clear hr1 hra hr2 hcq
          go_wp2_with (first
            | ((with_reducible refine wpl_loadE rfl 37 (.tmp 62) rfl b (off + q * 6) ?_ (rowR r) _ HRA.out Tryd.underlying37 rfl (by kernel_rfl) ?_); rfl; clear HRA)
            | ((with_reducible refine wpl_allocAt rfl 37 rfl #[.int .u32 0, .int .u32 0, .int .i64 0, .bool false, .int .i64 0, .int .i64 0] (by kernel_rfl) ?_); have _t := S1; clear _t; go_must (intro u1 hat1 hb hs; clear hs S1; have hbl1 := hbl.trans (hb.mono hbl.size); have hown1 := hown.kept (grown_below none hb) (by simp)))
            | ((with_reducible refine wpl_storeR rfl 37 (.tmp 15) (.tmp 63) rfl rfl wr.heap.size 37 _ (rowR r) ?_ ?_ hat1 (by kernel_rfl) ?_ ?_ ?_); rfl; rfl; rfl; (simp [rowR, Value.oneCell']); go_must (intro u2 hat2 hg2; have hbl2 := below_grown hbl1 hg2 hbl1.size (by omega); have hown2 := hown1.kept hg2 (fun e => by have := Option.some.inj e; omega); clear hat1 hbl1 hown1 hb hg2)))
          obtain ⟨G, hG⟩ : ∃ q, wr.heap.size = q := ⟨_, rfl⟩
          rw [hG] at hat2 ⊢
          clear hG T0 TM
          have HQ := Lib.hid (fun u (hu : Below u2.heap.size u2 u) => show u.cell? ⟨G, 0, none⟩ = some (.int .u32 r.code) ∧ u.cell? ⟨G, 1, none⟩ = some (.int .u32 r.vendor) ∧ u.cell? ⟨G, 2, none⟩ = some (.int .i64 r.type) ∧ u.cell? ⟨G, 3, none⟩ = some (.bool r.must) ∧ u.cell? ⟨G, 4, none⟩ = some (.int .i64 r.least) from ⟨(hat2.ext hu).cell 0, (hat2.ext hu).cell 1, (hat2.ext hu).cell 2, (hat2.ext hu).cell 3, (hat2.ext hu).cell 4⟩)
          have HLK := Lib.hid (fun u (hu : Below u2.heap.size u2 u) => look43 (hown2.kept (grown_below none hu) (by simp)) HK.out hat0)
          clear hat0
          by_cases hlk : cq < r.least
          · have blt : decide (cq < r.least) = true := decide_eq_true hlk
            have HV := Lib.hid (VL.out q r HA.out HX.out (fun j y => HALL.out j y) (by rw [HLA2.out]; exact blt))
            refine Mono.wp_region_mono [some 64, some 65, some 66, some 67, some 68, some 69, some 70, some 71, some 72, some 73] [Mono.isV (.map (some g)), Mono.isV (.pointer (some ⟨G, 0, none⟩)), Mono.isV (.int .u32 r.code), Mono.isV (.pointer (some ⟨G, 1, none⟩)), Mono.isV (.int .u32 r.vendor), Mono.isV (.agg #[.int .u32 r.code, .int .u32 r.vendor]), Mono.isV (.int .i64 cq), Mono.isV (.pointer (some ⟨G, 4, none⟩)), Mono.isV (.int .i64 r.least), Mono.isV (.bool true)] (by kernel_rfl) (by kernel_rfl) ?_ ?_
            · simp only [Mono.OpGoals, and_true]
              refine ⟨?_, ?_, ?_, ?_, ?_, ?_, ?_, ?_, ?_, ?_⟩
              · intro a u hbu hsu hdu
                obtain ⟨q0, q1, q2, q3, q4⟩ := HQ.out u hbu
                refine Mono.if_want rfl ?_
                exact Mono.ok_move (.tmp 7) rfl (hsu 7 (by decide))
              · intro a u hbu hsu hdu
                obtain ⟨q0, q1, q2, q3, q4⟩ := HQ.out u hbu
                refine Mono.if_want rfl ?_
                have z15 : a.eval (.tmp 15) = .pointer (some ⟨G, 0, none⟩) := hsu 15 (by decide)
                simp [Act.eval] at z15
                exact Mono.ok_val (.pointer (some ⟨G, 0, none⟩)) (by simp [execOp, z15, go_sem, q0, q1, q4, blt]) rfl
              · intro a u hbu hsu hdu
                obtain ⟨q0, q1, q2, q3, q4⟩ := HQ.out u hbu
                refine Mono.if_want rfl ?_
                have z65 : a.eval (.tmp 65) = .pointer (some ⟨G, 0, none⟩) := Mono.dep_at hdu (i := 1) (d := 65) rfl rfl rfl
                simp [Act.eval] at z65
                exact Mono.ok_val (.int .u32 r.code) (by simp [execOp, z65, go_sem, q0, q1, q4, blt]) rfl
              · intro a u hbu hsu hdu
                obtain ⟨q0, q1, q2, q3, q4⟩ := HQ.out u hbu
                refine Mono.if_want rfl ?_
                have z15 : a.eval (.tmp 15) = .pointer (some ⟨G, 0, none⟩) := hsu 15 (by decide)
                simp [Act.eval] at z15
                exact Mono.ok_val (.pointer (some ⟨G, 1, none⟩)) (by simp [execOp, z15, go_sem, q0, q1, q4, blt]) rfl
              · intro a u hbu hsu hdu
                obtain ⟨q0, q1, q2, q3, q4⟩ := HQ.out u hbu
                refine Mono.if_want rfl ?_
                have z67 : a.eval (.tmp 67) = .pointer (some ⟨G, 1, none⟩) := Mono.dep_at hdu (i := 3) (d := 67) rfl rfl rfl
                simp [Act.eval] at z67
                exact Mono.ok_val (.int .u32 r.vendor) (by simp [execOp, z67, go_sem, q0, q1, q4, blt]) rfl
              · intro a u hbu hsu hdu
                obtain ⟨q0, q1, q2, q3, q4⟩ := HQ.out u hbu
                refine Mono.if_want rfl ?_
                have z66 : a.eval (.tmp 66) = .int .u32 r.code := Mono.dep_at hdu (i := 2) (d := 66) rfl rfl rfl
                simp [Act.eval] at z66
                have z68 : a.eval (.tmp 68) = .int .u32 r.vendor := Mono.dep_at hdu (i := 4) (d := 68) rfl rfl rfl
                simp [Act.eval] at z68
                exact Mono.ok_build 45 _ rfl #[(0, .int .u32 r.code), (1, .int .u32 r.vendor)] (by simp [z66, z68, Act.eval]) (.agg #[.int .u32 r.code, .int .u32 r.vendor]) (by kernel_rfl) rfl
              · intro a u hbu hsu hdu
                obtain ⟨q0, q1, q2, q3, q4⟩ := HQ.out u hbu
                refine Mono.if_want rfl ?_
                have z64 : a.eval (.tmp 64) = .map (some g) := Mono.dep_at hdu (i := 0) (d := 64) rfl rfl rfl
                have z69 : a.eval (.tmp 69) = .agg #[.int .u32 r.code, .int .u32 r.vendor] := Mono.dep_at hdu (i := 5) (d := 69) rfl rfl rfl
                simp [Act.eval] at z64 z69
                exact Mono.ok_val (.int .i64 cq) (by simp [execOp, z64, z69, HLK.out u hbu, Act.eval]) rfl
              · intro a u hbu hsu hdu
                obtain ⟨q0, q1, q2, q3, q4⟩ := HQ.out u hbu
                refine Mono.if_want rfl ?_
                have z15 : a.eval (.tmp 15) = .pointer (some ⟨G, 0, none⟩) := hsu 15 (by decide)
                simp [Act.eval] at z15
                exact Mono.ok_val (.pointer (some ⟨G, 4, none⟩)) (by simp [execOp, z15, go_sem, q0, q1, q4, blt]) rfl
              · intro a u hbu hsu hdu
                obtain ⟨q0, q1, q2, q3, q4⟩ := HQ.out u hbu
                refine Mono.if_want rfl ?_
                have z71 : a.eval (.tmp 71) = .pointer (some ⟨G, 4, none⟩) := Mono.dep_at hdu (i := 7) (d := 71) rfl rfl rfl
                simp [Act.eval] at z71
                exact Mono.ok_val (.int .i64 r.least) (by simp [execOp, z71, go_sem, q0, q1, q4, blt]) rfl
              · intro a u hbu hsu hdu
                obtain ⟨q0, q1, q2, q3, q4⟩ := HQ.out u hbu
                refine Mono.if_want rfl ?_
                have z70 : a.eval (.tmp 70) = .int .i64 cq := Mono.dep_at hdu (i := 6) (d := 70) rfl rfl rfl
                simp [Act.eval] at z70
                have z72 : a.eval (.tmp 72) = .int .i64 r.least := Mono.dep_at hdu (i := 8) (d := 72) rfl rfl rfl
                simp [Act.eval] at z72
                exact Mono.ok_val (.bool true) (by simp [execOp, z70, z72, go_sem, q0, q1, q4, blt]) rfl
            intro u hu
            simp only [Mono.Fin]
            rintro _ rfl _ rfl _ rfl _ rfl _ rfl _ rfl _ rfl _ rfl _ rfl _ rfl
            have hbl3 := hbl2.trans (hu.mono hbl2.size)
            obtain ⟨B, hB⟩ : ∃ B, w.heap.size = B := ⟨_, rfl⟩
            have hu3 := hu
            simp [Act.put]
            go_wp2_with fail
            refine Mono.wp_region_mono [some 74, some 75, some 76, some 77, some 78, some 79, some 80, some 81, some 82, some 83, some 84, some 85, some 4, some 5, some 6] [Mono.isV (.pointer (some ⟨G, 0, none⟩)), Mono.isV (.int .u32 r.code), Mono.isV (.pointer (some ⟨G, 1, none⟩)), Mono.isV (.int .u32 r.vendor), Mono.isV (.pointer (some ⟨G, 3, none⟩)), Mono.isV (.bool r.must), Mono.isV (.pointer (some ⟨G, 2, none⟩)), Mono.isV (.int .i64 r.type), Mono.isV (.int .i64 (leastN r.type)), rowP B (lackA r).data, attrP B (lackA r), failP B (lackA r), Mono.isV (.int .i64 5005), failP B (lackA r), Mono.isV (.int .i64 0)] (by kernel_rfl) (by kernel_rfl) ?_ ?_
            · simp only [Mono.OpGoals, and_true]
              refine ⟨?_, ?_, ?_, ?_, ?_, ?_, ?_, ?_, ?_, ?_, ?_, ?_, ?_, ?_, ?_⟩
              · intro a u hbu hsu hdu
                obtain ⟨q0, q1, q2, q3, q4⟩ := HQ.out u (hu3.trans (hbu.mono hu3.size))
                refine Mono.if_want rfl ?_
                have z15 : a.eval (.tmp 15) = .pointer (some ⟨G, 0, none⟩) := hsu 15 (by decide)
                simp [Act.eval] at z15
                exact Mono.ok_val (.pointer (some ⟨G, 0, none⟩)) (by simp [execOp, z15, go_sem, q0, q1, q2, q3]) rfl
              · intro a u hbu hsu hdu
                obtain ⟨q0, q1, q2, q3, q4⟩ := HQ.out u (hu3.trans (hbu.mono hu3.size))
                refine Mono.if_want rfl ?_
                have z74 : a.eval (.tmp 74) = .pointer (some ⟨G, 0, none⟩) := Mono.dep_at hdu (i := 0) (d := 74) rfl rfl rfl
                simp [Act.eval] at z74
                exact Mono.ok_val (.int .u32 r.code) (by simp [execOp, z74, go_sem, q0, q1, q2, q3]) rfl
              · intro a u hbu hsu hdu
                obtain ⟨q0, q1, q2, q3, q4⟩ := HQ.out u (hu3.trans (hbu.mono hu3.size))
                refine Mono.if_want rfl ?_
                have z15 : a.eval (.tmp 15) = .pointer (some ⟨G, 0, none⟩) := hsu 15 (by decide)
                simp [Act.eval] at z15
                exact Mono.ok_val (.pointer (some ⟨G, 1, none⟩)) (by simp [execOp, z15, go_sem, q0, q1, q2, q3]) rfl
              · intro a u hbu hsu hdu
                obtain ⟨q0, q1, q2, q3, q4⟩ := HQ.out u (hu3.trans (hbu.mono hu3.size))
                refine Mono.if_want rfl ?_
                have z76 : a.eval (.tmp 76) = .pointer (some ⟨G, 1, none⟩) := Mono.dep_at hdu (i := 2) (d := 76) rfl rfl rfl
                simp [Act.eval] at z76
                exact Mono.ok_val (.int .u32 r.vendor) (by simp [execOp, z76, go_sem, q0, q1, q2, q3]) rfl
              · intro a u hbu hsu hdu
                obtain ⟨q0, q1, q2, q3, q4⟩ := HQ.out u (hu3.trans (hbu.mono hu3.size))
                refine Mono.if_want rfl ?_
                have z15 : a.eval (.tmp 15) = .pointer (some ⟨G, 0, none⟩) := hsu 15 (by decide)
                simp [Act.eval] at z15
                exact Mono.ok_val (.pointer (some ⟨G, 3, none⟩)) (by simp [execOp, z15, go_sem, q0, q1, q2, q3]) rfl
              · intro a u hbu hsu hdu
                obtain ⟨q0, q1, q2, q3, q4⟩ := HQ.out u (hu3.trans (hbu.mono hu3.size))
                refine Mono.if_want rfl ?_
                have z78 : a.eval (.tmp 78) = .pointer (some ⟨G, 3, none⟩) := Mono.dep_at hdu (i := 4) (d := 78) rfl rfl rfl
                simp [Act.eval] at z78
                exact Mono.ok_val (.bool r.must) (by simp [execOp, z78, go_sem, q0, q1, q2, q3]) rfl
              · intro a u hbu hsu hdu
                obtain ⟨q0, q1, q2, q3, q4⟩ := HQ.out u (hu3.trans (hbu.mono hu3.size))
                refine Mono.if_want rfl ?_
                have z15 : a.eval (.tmp 15) = .pointer (some ⟨G, 0, none⟩) := hsu 15 (by decide)
                simp [Act.eval] at z15
                exact Mono.ok_val (.pointer (some ⟨G, 2, none⟩)) (by simp [execOp, z15, go_sem, q0, q1, q2, q3]) rfl
              · intro a u hbu hsu hdu
                obtain ⟨q0, q1, q2, q3, q4⟩ := HQ.out u (hu3.trans (hbu.mono hu3.size))
                refine Mono.if_want rfl ?_
                have z80 : a.eval (.tmp 80) = .pointer (some ⟨G, 2, none⟩) := Mono.dep_at hdu (i := 6) (d := 80) rfl rfl rfl
                simp [Act.eval] at z80
                exact Mono.ok_val (.int .i64 r.type) (by simp [execOp, z80, go_sem, q0, q1, q2, q3]) rfl
              · intro a u hbu hsu hdu
                obtain ⟨q0, q1, q2, q3, q4⟩ := HQ.out u (hu3.trans (hbu.mono hu3.size))
                refine Mono.if_want rfl ?_
                have z81 : a.eval (.tmp 81) = .int .i64 r.type := Mono.dep_at hdu (i := 7) (d := 81) rfl rfl rfl
                simp [Act.eval] at z81
                refine Mono.ok_call 21 _ _ rfl #[.int .i64 r.type] (by simp [execOp, z81, go_sem]) ((least r.type u).mono ?_)
                rintro e y1 ⟨rfl, rfl⟩
                exact ⟨_, rfl, Below.refl _ _, rfl⟩
              · intro a u hbu hsu hdu
                obtain ⟨q0, q1, q2, q3, q4⟩ := HQ.out u (hu3.trans (hbu.mono hu3.size))
                refine Mono.if_want rfl ?_
                have z82 : a.eval (.tmp 82) = .int .i64 (leastN r.type) := Mono.dep_at hdu (i := 8) (d := 82) rfl rfl rfl
                simp [Act.eval] at z82
                obtain ⟨vm, ym, hm1, hm2, hm3⟩ := make r.type B u (by have := hbl3.size; have := hbu.size; omega)
                exact Mono.ok_valW vm ym (by simp [execOp, z82, hm1, Act.eval]) hm2 hm3
              · intro a u hbu hsu hdu
                obtain ⟨q0, q1, q2, q3, q4⟩ := HQ.out u (hu3.trans (hbu.mono hu3.size))
                refine Mono.if_want rfl ?_
                have z75 : a.eval (.tmp 75) = .int .u32 r.code := Mono.dep_at hdu (i := 1) (d := 75) rfl rfl rfl
                have z77 : a.eval (.tmp 77) = .int .u32 r.vendor := Mono.dep_at hdu (i := 3) (d := 77) rfl rfl rfl
                have z79 : a.eval (.tmp 79) = .bool r.must := Mono.dep_at hdu (i := 5) (d := 79) rfl rfl rfl
                have hrw : Row .u8 5 B u (a.eval (.tmp 83)) (lackA r).data := Mono.dep_at hdu (i := 9) (d := 83) rfl rfl rfl
                obtain ⟨p, c, z83, _, _, _, _⟩ := hrw.reads
                rw [z83] at hrw
                simp [Act.eval] at z75 z77 z79 z83
                exact Mono.ok_build 35 _ rfl #[(0, .int .u32 r.code), (1, .int .u32 r.vendor), (2, .bool r.must), (4, .slice p (lackA r).data.length c)] (by simp [z75, z77, z79, z83, Act.eval]) (.agg (row (lackA r) (.slice p (lackA r).data.length c)).toArray) (by kernel_rfl) ⟨_, rfl, hrw⟩
              · intro a u hbu hsu hdu
                obtain ⟨q0, q1, q2, q3, q4⟩ := HQ.out u (hu3.trans (hbu.mono hu3.size))
                refine Mono.if_want rfl ?_
                obtain ⟨d, e84, hrw⟩ : ∃ d, a.eval (.tmp 84) = .agg (row (lackA r) d).toArray ∧ Row .u8 5 B u d (lackA r).data := Mono.dep_at hdu (i := 10) (d := 84) rfl rfl rfl
                have hbz := (Below.refl u.heap.size u).alloc (Nat.le_refl _) (.cells (row (lackA r) d).toArray 35)
                exact Mem.wp_build 23 1 (.tmp 84) rfl _ _ _ e84 (Avp.build22 _ d u) ⟨_, rfl, hbz, failOne hrw (by have := hbl3.size; have := hbu.size; omega)⟩
              · intro a u hbu hsu hdu
                obtain ⟨q0, q1, q2, q3, q4⟩ := HQ.out u (hu3.trans (hbu.mono hu3.size))
                refine Mono.if_want rfl ?_
                exact Mono.ok_assign _ rfl rfl
              · intro a u hbu hsu hdu
                obtain ⟨q0, q1, q2, q3, q4⟩ := HQ.out u (hu3.trans (hbu.mono hu3.size))
                refine Mono.if_want rfl ?_
                exact Mono.ok_assign (.tmp 85) rfl (Mono.dep_at hdu (i := 11) (d := 85) rfl rfl rfl)
              · intro a u hbu hsu hdu
                obtain ⟨q0, q1, q2, q3, q4⟩ := HQ.out u (hu3.trans (hbu.mono hu3.size))
                refine Mono.if_want rfl ?_
                exact Mono.ok_assign _ rfl rfl
            intro u hu
            simp only [Mono.Fin]
            rintro _ rfl _ rfl _ rfl _ rfl _ rfl _ rfl _ rfl _ rfl _ rfl v83 h83 v84 h84 v85 h85 _ rfl v5 h5 _ rfl
            simp [Act.put]
            go_wp2_with fail
            go_ret3
            rw [HV.out]
            exact ⟨_, rfl, by rw [hB]; exact h5, hbl3.trans (hu.mono hbl3.size)⟩
          · have blt : decide (cq < r.least) = false := decide_eq_false hlk
            have HL2 := Lib.hid (HLA2.out.trans blt)
            refine Mono.wp_region_mono [some 64, some 65, some 66, some 67, some 68, some 69, some 70, some 71, some 72, some 73] [Mono.isV (.map (some g)), Mono.isV (.pointer (some ⟨G, 0, none⟩)), Mono.isV (.int .u32 r.code), Mono.isV (.pointer (some ⟨G, 1, none⟩)), Mono.isV (.int .u32 r.vendor), Mono.isV (.agg #[.int .u32 r.code, .int .u32 r.vendor]), Mono.isV (.int .i64 cq), Mono.isV (.pointer (some ⟨G, 4, none⟩)), Mono.isV (.int .i64 r.least), Mono.isV (.bool false)] (by kernel_rfl) (by kernel_rfl) ?_ ?_
            · simp only [Mono.OpGoals, and_true]
              refine ⟨?_, ?_, ?_, ?_, ?_, ?_, ?_, ?_, ?_, ?_⟩
              · intro a u hbu hsu hdu
                obtain ⟨q0, q1, q2, q3, q4⟩ := HQ.out u hbu
                refine Mono.if_want rfl ?_
                exact Mono.ok_move (.tmp 7) rfl (hsu 7 (by decide))
              · intro a u hbu hsu hdu
                obtain ⟨q0, q1, q2, q3, q4⟩ := HQ.out u hbu
                refine Mono.if_want rfl ?_
                have z15 : a.eval (.tmp 15) = .pointer (some ⟨G, 0, none⟩) := hsu 15 (by decide)
                simp [Act.eval] at z15
                exact Mono.ok_val (.pointer (some ⟨G, 0, none⟩)) (by simp [execOp, z15, go_sem, q0, q1, q4, blt]) rfl
              · intro a u hbu hsu hdu
                obtain ⟨q0, q1, q2, q3, q4⟩ := HQ.out u hbu
                refine Mono.if_want rfl ?_
                have z65 : a.eval (.tmp 65) = .pointer (some ⟨G, 0, none⟩) := Mono.dep_at hdu (i := 1) (d := 65) rfl rfl rfl
                simp [Act.eval] at z65
                exact Mono.ok_val (.int .u32 r.code) (by simp [execOp, z65, go_sem, q0, q1, q4, blt]) rfl
              · intro a u hbu hsu hdu
                obtain ⟨q0, q1, q2, q3, q4⟩ := HQ.out u hbu
                refine Mono.if_want rfl ?_
                have z15 : a.eval (.tmp 15) = .pointer (some ⟨G, 0, none⟩) := hsu 15 (by decide)
                simp [Act.eval] at z15
                exact Mono.ok_val (.pointer (some ⟨G, 1, none⟩)) (by simp [execOp, z15, go_sem, q0, q1, q4, blt]) rfl
              · intro a u hbu hsu hdu
                obtain ⟨q0, q1, q2, q3, q4⟩ := HQ.out u hbu
                refine Mono.if_want rfl ?_
                have z67 : a.eval (.tmp 67) = .pointer (some ⟨G, 1, none⟩) := Mono.dep_at hdu (i := 3) (d := 67) rfl rfl rfl
                simp [Act.eval] at z67
                exact Mono.ok_val (.int .u32 r.vendor) (by simp [execOp, z67, go_sem, q0, q1, q4, blt]) rfl
              · intro a u hbu hsu hdu
                obtain ⟨q0, q1, q2, q3, q4⟩ := HQ.out u hbu
                refine Mono.if_want rfl ?_
                have z66 : a.eval (.tmp 66) = .int .u32 r.code := Mono.dep_at hdu (i := 2) (d := 66) rfl rfl rfl
                simp [Act.eval] at z66
                have z68 : a.eval (.tmp 68) = .int .u32 r.vendor := Mono.dep_at hdu (i := 4) (d := 68) rfl rfl rfl
                simp [Act.eval] at z68
                exact Mono.ok_build 45 _ rfl #[(0, .int .u32 r.code), (1, .int .u32 r.vendor)] (by simp [z66, z68, Act.eval]) (.agg #[.int .u32 r.code, .int .u32 r.vendor]) (by kernel_rfl) rfl
              · intro a u hbu hsu hdu
                obtain ⟨q0, q1, q2, q3, q4⟩ := HQ.out u hbu
                refine Mono.if_want rfl ?_
                have z64 : a.eval (.tmp 64) = .map (some g) := Mono.dep_at hdu (i := 0) (d := 64) rfl rfl rfl
                have z69 : a.eval (.tmp 69) = .agg #[.int .u32 r.code, .int .u32 r.vendor] := Mono.dep_at hdu (i := 5) (d := 69) rfl rfl rfl
                simp [Act.eval] at z64 z69
                exact Mono.ok_val (.int .i64 cq) (by simp [execOp, z64, z69, HLK.out u hbu, Act.eval]) rfl
              · intro a u hbu hsu hdu
                obtain ⟨q0, q1, q2, q3, q4⟩ := HQ.out u hbu
                refine Mono.if_want rfl ?_
                have z15 : a.eval (.tmp 15) = .pointer (some ⟨G, 0, none⟩) := hsu 15 (by decide)
                simp [Act.eval] at z15
                exact Mono.ok_val (.pointer (some ⟨G, 4, none⟩)) (by simp [execOp, z15, go_sem, q0, q1, q4, blt]) rfl
              · intro a u hbu hsu hdu
                obtain ⟨q0, q1, q2, q3, q4⟩ := HQ.out u hbu
                refine Mono.if_want rfl ?_
                have z71 : a.eval (.tmp 71) = .pointer (some ⟨G, 4, none⟩) := Mono.dep_at hdu (i := 7) (d := 71) rfl rfl rfl
                simp [Act.eval] at z71
                exact Mono.ok_val (.int .i64 r.least) (by simp [execOp, z71, go_sem, q0, q1, q4, blt]) rfl
              · intro a u hbu hsu hdu
                obtain ⟨q0, q1, q2, q3, q4⟩ := HQ.out u hbu
                refine Mono.if_want rfl ?_
                have z70 : a.eval (.tmp 70) = .int .i64 cq := Mono.dep_at hdu (i := 6) (d := 70) rfl rfl rfl
                simp [Act.eval] at z70
                have z72 : a.eval (.tmp 72) = .int .i64 r.least := Mono.dep_at hdu (i := 8) (d := 72) rfl rfl rfl
                simp [Act.eval] at z72
                exact Mono.ok_val (.bool false) (by simp [execOp, z70, z72, go_sem, q0, q1, q4, blt]) rfl
            intro u hu
            simp only [Mono.Fin]
            rintro _ rfl _ rfl _ rfl _ rfl _ rfl _ rfl _ rfl _ rfl _ rfl _ rfl
            have hbl3 := hbl2.trans (hu.mono hbl2.size)
            have hown3 := hown2.kept (grown_below none hu) (by simp)
            simp [Act.put]
            go_wp2_with fail
            go_roundw
            case rel => exact ⟨q + 1, by go_num, by omega, hbl3, hown3, Lib.hid (fun j y hj hy => by
              rcases Nat.lt_or_ge j q with h | h
              · exact HALL.out j y h hy
              · obtain rfl : j = q := by omega
                rw [HX.out] at hy
                cases hy
                exact HL2.out)⟩
            case measure => simp [intOf]; omega
        · obtain rfl : q = nr := by omega
          have HV := Lib.hid (VF.out HA.out (fun j r hj => HALL.out j r (by rw [← HNR.out]; exact (List.getElem?_eq_some_iff.1 hj).1) hj))
          go_wp2_with fail
          go_ret3
          rw [HV.out]
          exact ⟨_, rfl, rfl, hbl⟩
end Go.Proofs.YtjfmahodbdianaaDoor.Dict
