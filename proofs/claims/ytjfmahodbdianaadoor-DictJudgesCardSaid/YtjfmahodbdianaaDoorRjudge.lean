/-
  Contract: the reference's Judge. (src/Rjudge.src by genreg.py.)
-/
import Derived.Test.YtjfmahodbdianaaDoorRulesOK
import Derived.Test.YtjfmahodbdianaaDoorRefF
import Derived.Test.YtjfmahodbdianaaDoorLight
import Derived.Deep.Cut
import Derived.Deep.CutBlock
import Derived.Deep.DeepCutAuto
namespace Go.Proofs.YtjfmahodbdianaaDoor.Dict
open Go.RowKit Mem Cells Ops Rule Avps Go.Maps
set_option linter.unusedVariables false
set_option linter.unusedSimpArgs false

theorem info3 : ∃ i, Tryd.prog.info? 3 = some i ∧ i.zero = some (.int .i64 0) ∧ i.size = 1 ∧ i.bytes = 8 := by
  have h : (Tryd.prog.info? 3).map (fun i => (i.zero, i.size, i.bytes)) = some (some (.int .i64 0), 1, 8) := by kernel_rfl
  cases hi : Tryd.prog.info? 3 with
  | none => rw [hi] at h; cases h
  | some i =>
    rw [hi] at h
    simp only [Option.map_some, Option.some.injEq, Prod.mk.injEq] at h
    exact ⟨i, rfl, h.1, h.2.1, h.2.2⟩
theorem wpl_makeI {w : World} {ops : Array Oper} {rest : List Oper} {o : Oper} {a : Act} {Q : Exit → Act → World → Prop} (hgd : o.guard = none) (x y : Operand) (ho : o.op = .makeSlice 52 x y) (n : Nat) (hx : a.eval x = .int .i64 n) (hy : a.eval y = .int .i64 n) (hn : n ≤ 1000)
    (h : ∀ w', Row .i64 3 w.heap.size w' (.slice (some ⟨w.heap.size, 0, none⟩) n n) (List.replicate n 0) → Below w.heap.size w w' → wpList Tryd.prog ops Q rest (a.put o.dst (.slice (some ⟨w.heap.size, 0, none⟩) n n)) w') : wpList Tryd.prog ops Q (o :: rest) a w := by
  obtain ⟨i3, hi, hz0, hz1, hz2⟩ := info3
  obtain ⟨w', h1, h2, h3⟩ := run_make_full (P := Tryd.prog) w w.heap.size 52 3 i3 (.int .i64 0) 1 Tryd.underlying52 hi hz0 hz1 .i64 .i64 n (by rw [hz2]; omega) (by unfold maxLen; omega) (Nat.le_refl _)
  refine wpList_plain hgd fun K' hK => ?_
  unfold Oper.wp execOp
  simp only [ho, hx, hy, Sem.run_bind, h1, Result.andThen_ok]
  refine hK _ _ (h w' ?_ ((Below.refl w.heap.size w).grown h3 (Nat.le_refl _) (fun k e => by cases e)))
  have e : (madeCells (Value.int .i64 0).cells (n * 1)).toList = (List.replicate n (0 : Int)).map (Value.int .i64) := by
    rw [Nat.mul_one, List.map_replicate]
    exact toList_madeCells_one _ _
  rw [e] at h2
  show w'.ownsRow w.heap.size 3 1 _ (List.replicate n (0 : Int)).length _
  rw [List.length_replicate]
  exact h2
/-- What is answered. -/
def RJIs (w : World) (V : Int × List A × Int) (e : Ending) (w' : World) : Prop := ∃ v', e = .returned (.tuple #[.int .i64 V.1, v', .int .i64 V.2.2]) ∧ ReadsL w' v' V.2.1 ∧ Below w.heap.size w w'
theorem ruleOf_one {rs : List R} {x : A} {q : Nat} {r : R} (hs : sound rs) (hq : rs[q]? = some r) (hh : hitR x.code x.vendor r = true) : ruleOf rs x = some r := by
  unfold ruleOf
  rw [List.find?_eq_some_iff_getElem]
  obtain ⟨hl, e⟩ := List.getElem?_eq_some_iff.1 hq
  refine ⟨hh, q, hl, e, fun j hj => ?_⟩
  have hd := (hs.2 q r hq).2
  cases h : hitR x.code x.vendor rs[j] with
  | false => rfl
  | true =>
    exfalso
    refine hd ⟨rs[j], List.mem_of_getElem? (i := j) (by rw [List.getElem?_take, if_pos hj]; exact List.getElem?_eq_getElem _), ?_, ?_⟩
    · unfold hitR at h hh; simp at h hh; omega
    · unfold hitR at h hh; simp at h hh; omega
theorem ruleOf_no {rs : List R} {x : A} (h : ∀ (q : Nat) (r : R), rs[q]? = some r → hitR x.code x.vendor r = false) : ruleOf rs x = none := by
  unfold ruleOf
  rw [List.find?_eq_none]
  intro r hr
  obtain ⟨q, hq⟩ := List.getElem?_of_mem hr
  rw [h q r hq]
  simp
theorem cnt_snoc (l : List A) (k : Nat) (x : A) (hx : l[k]? = some x) (c v : Int) : cntN (l.take (k + 1)) c v = cntN (l.take k) c v + (if sameN c v x then 1 else 0) := by
  obtain ⟨hl, e⟩ := List.getElem?_eq_some_iff.1 hx
  rw [List.take_succ_eq_append_getElem hl, e]
  unfold cntN
  rw [List.countP_append, List.countP_singleton]
theorem same_hit (r : R) (x : A) : sameN r.code r.vendor x = hitR x.code x.vendor r := by
  unfold sameN hitR
  rw [Bool.eq_iff_iff]
  simp
  omega
theorem one_some {fit : Int → List Int → Int} {rs : List R} {l : List A} {k : Nat} {x : A} {r : R} (hx : l[k]? = some x) (hr : ruleOf rs x = some r) : oneAt fit rs l k = judgeR fit r x.data (cntN (l.take (k + 1)) x.code x.vendor) := by
  obtain ⟨hl, e⟩ := List.getElem?_eq_some_iff.1 hx
  unfold oneAt
  rw [hx]
  simp only
  unfold oneV
  rw [hr, List.take_succ_eq_append_getElem hl, e]
theorem one_none {fit : Int → List Int → Int} {rs : List R} {l : List A} {k : Nat} {x : A} (hx : l[k]? = some x) (hr : ruleOf rs x = none) : oneAt fit rs l k = judgeN x.must := by
  unfold oneAt
  rw [hx]
  simp only
  unfold oneV
  rw [hr]
/-- The counts of all rules, behind so many attributes. -/
def Cts (rs : List R) (l : List A) (k : Nat) (cs : List Int) : Prop := cs.length = rs.length ∧ ∀ (q : Nat) (r : R), rs[q]? = some r → cs.getD q 0 = cntN (l.take k) r.code r.vendor
theorem Cts.none {rs : List R} {l : List A} {k : Nat} {cs : List Int} {x : A} (h : Cts rs l k cs) (hx : l[k]? = some x) (hn : ∀ (q : Nat) (r : R), rs[q]? = some r → hitR x.code x.vendor r = false) : Cts rs l (k + 1) cs :=
  ⟨h.1, fun q r hq => by rw [h.2 q r hq, cnt_snoc l k x hx, same_hit, hn q r hq]; simp⟩
theorem Cts.put {rs : List R} {l : List A} {k : Nat} {cs : List Int} {x : A} {q : Nat} {r : R} (h : Cts rs l k cs) (hs : sound rs) (hx : l[k]? = some x) (hq : rs[q]? = some r) (hh : hitR x.code x.vendor r = true) : Cts rs l (k + 1) (cs.set q (cs.getD q 0 + 1)) := by
  have hql : q < rs.length := (List.getElem?_eq_some_iff.1 hq).1
  refine ⟨by rw [List.length_set]; exact h.1, fun j y hj => ?_⟩
  rw [cnt_snoc l k x hx, same_hit]
  by_cases e : j = q
  · subst e
    rw [hq] at hj
    cases hj
    rw [hh, List.getD_eq_getElem?_getD, List.getElem?_set_self (by rw [h.1]; exact hql), h.2 j r hq]
    simp
  · have hjn : hitR x.code x.vendor y = false := by
      cases e2 : hitR x.code x.vendor y with
      | false => rfl
      | true =>
        exfalso
        have h1 := ruleOf_one hs hq hh
        have h2 := ruleOf_one hs hj e2
        rw [h1] at h2
        cases h2
        obtain ⟨l1, e1⟩ := List.getElem?_eq_some_iff.1 hq
        obtain ⟨l2, e3⟩ := List.getElem?_eq_some_iff.1 hj
        rcases Nat.lt_or_ge j q with g | g
        · exact (hs.2 q r hq).2 ⟨r, List.mem_of_getElem? (i := j) (by rw [List.getElem?_take, if_pos g]; exact hj), rfl, rfl⟩
        · exact (hs.2 j r hj).2 ⟨r, List.mem_of_getElem? (i := q) (by rw [List.getElem?_take, if_pos (by omega)]; exact hq), rfl, rfl⟩
    rw [hjn, List.getD_eq_getElem?_getD, List.getElem?_set_ne (by omega), ← List.getD_eq_getElem?_getD, h.2 j y hj]
    simp
theorem readsL1 {w : World} {g : Nat} {x : A} {d : Value} (h : At w g 35 (row x d).toArray) (hd : Reads .u8 w d x.data) : ReadsL w (.slice (some ⟨g, 0, none⟩) 1 1) [x] := by
  refine ⟨_, 1, [(x, d)], rfl, Nat.le_refl _, by simp [maxLen], (fun h => by cases h), rfl, fun z hz => ?_, fun _ => ⟨g, 0, rfl, h.lt, fun j hj => ?_⟩⟩
  · rw [List.mem_singleton] at hz
    subst hz
    exact hd
  · rw [Nat.zero_add, h.cell j, flat_one]
    simp
theorem one_nz (fit : Int → List Int → Int) (rs : List R) (l : List A) (k : Nat) : oneAt fit rs l k ≠ 0 := by
  unfold oneAt
  split
  · decide
  · unfold oneV judgeN judgeR
    repeat' split
    all_goals decide
def readsLP (F : List A) : Mono.Prp := ⟨fun v w => ReadsL w v F, fun _ _ _ h hb => h.below hb⟩
/-- What the reference's code stands for. -/
def codeOf (n : Int) : Int := if n = 2001 then 0 else n
set_option maxRecDepth 100000 in
set_option maxHeartbeats 12800000 in
theorem refJudge (rs : List R) (l : List A) (v u : Value) (w : World) (hr : ReadsR w v rs) (hl : ReadsL w u l) (hok : ∀ r ∈ rs, r.ok) (hla : ∀ x ∈ l, x.ok ∧ x.data.length ≤ 140737488355328) :
    Calls Tryd.prog 12 #[v, u] w (RJIs w (verdict Fit.fitF rs l)) := by
  by_cases hs : sound rs
  case neg =>
    rw [verdict_form hs]
    have PS := Lib.hid (show Calls Tryd.prog 14 #[v] w fun e w' => e = .returned (.bool false) ∧ Below w.heap.size w w' by have := refRules v rs w hr hok; rwa [decide_eq_false hs] at this)
    clear hr hl hok hla hs
    go_enter Tryd.func12, Tryd.ntmps12
    go_wp2_with ((go_at_call 14; go_must (refine PS.out.mono ?_; rintro e u1 ⟨rfl, hb⟩)))
    go_ret3
    exact ⟨_, rfl, ReadsL.nil _, hb⟩
  have PS := Lib.hid (show Calls Tryd.prog 14 #[v] w fun e w' => e = .returned (.bool true) ∧ Below w.heap.size w w' by have := refRules v rs w hr hok; rwa [decide_eq_true hs] at this)
  obtain ⟨pr, cr, rfl, r1, r2⟩ := hr.shape
  obtain ⟨pl, cl, rfl, l1, l2⟩ := hl.shape
  have HR := Lib.hid hr
  have HL := Lib.hid hl
  have HLA := Lib.hid hla
  have HOK := Lib.hid hok
  have HS := Lib.hid hs
  have VB := Lib.hid (fun k x n => verdict_bad (fit := Fit.fitF) (rs := rs) (l := l) (k := k) (x := x) (n := n) hs)
  have VL := Lib.hid (fun k r => verdict_lack (fit := Fit.fitF) (rs := rs) (l := l) (k := k) (r := r) hs)
  have VF := Lib.hid (verdict_fine (fit := Fit.fitF) (rs := rs) (l := l) hs)
  obtain ⟨nl, hnl⟩ : ∃ n, l.length = n := ⟨_, rfl⟩
  obtain ⟨nr, hnr⟩ : ∃ n, rs.length = n := ⟨_, rfl⟩
  have HNL := Lib.hid hnl
  have HNR := Lib.hid hnr
  have hml : nl ≤ 9223372036854775807 := by unfold maxLen at l2; omega
  have hmr : nr ≤ 64 := by have := hs.1; omega
  have EL := Lib.hid (fun k (hk : k < nl) u (h : ReadsL u (.slice pl nl cl) l) => by have := h.elem k (by rw [hnl]; exact hk); rwa [hnl] at this)
  have ER := Lib.hid (fun k (hk : k < nr) u (h : ReadsR u (.slice pr nr cr) rs) => by have := h.elem k (by rw [hnr]; exact hk); rwa [hnr] at this)
  have C0 := Lib.hid (show Cts rs l 0 (List.replicate nr 0) from ⟨by simp [hnr], fun q r hq => by
    have := (List.getElem?_eq_some_iff.1 hq).1
    rw [List.getD_eq_getElem?_getD, List.getElem?_replicate, if_pos (by omega)]
    rfl⟩)
  rw [hnr] at HR PS ⊢
  rw [hnl] at HL ⊢
  obtain ⟨V, hV⟩ : ∃ V, verdict Fit.fitF rs l = V := ⟨_, rfl⟩
  rw [hV] at VB VL VF ⊢
  clear hr hl hla hok hs r1 r2 l1 l2 hnl hnr hV
  go_enter Tryd.func12, Tryd.ntmps12
  go_wp2_with (first
    | (go_at_call 14; go_must (refine PS.out.mono ?_; rintro e u0 ⟨rfl, hb0⟩; clear PS))
    | ((with_reducible refine wpl_makeI rfl (.tmp 20) (.tmp 20) rfl nr ?_ ?_ ?_ ?_); rfl; rfl; (omega); go_must (intro w0 hrow0 hb1; have hbl0 := hb0.trans (hb1.mono hb0.size); have hg0 := hb0.size; clear hb0 hb1)))
  obtain ⟨g, hg⟩ : ∃ g, u0.heap.size = g := ⟨_, rfl⟩
  rw [hg] at hrow0 hg0 ⊢
  clear hg
  have HR0 := Lib.hid hrow0
  clear hrow0
  go_loopw [8] (fun i wr => ∃ (k : Nat) (cs : List Int), i = .int .i64 k ∧ k ≤ nl ∧ Below w.heap.size w wr ∧ Hid (Row .i64 3 g wr (.slice (some ⟨g, 0, none⟩) nr nr) cs) ∧ Hid (Cts rs l k cs) ∧ Hid (∀ j, j < k → oneAt Fit.fitF rs l j = 2001)) (fun i _ => nl - (intOf i).toNat)
  case atStart => exact ⟨0, _, rfl, by omega, hbl0, HR0, C0, Lib.hid (fun j h => absurd h (Nat.not_lt_zero _))⟩
  case round =>
    clear hbl0 HR0 C0
    obtain ⟨k, cs, rfl, hk, hbl, HROW, HCT, HALL⟩ := hrel
    have T0 := hbl.size
    by_cases hlt : k < nl
    · obtain ⟨x, hx1, hx2, b, off, c', pd, nd, hv, _, _, hltb, hra, hrd⟩ := EL.out k hlt _ HL.out
      cases hv
      have HX := Lib.hid hx1
      have HRA := Lib.hid (range_below hra hbl hltb)
      have HRD := Lib.hid hrd
      obtain ⟨hxo, hxl⟩ := HLA.out x hx2
      have HXO := Lib.hid hxo
      obtain ⟨⟨a1, a2⟩, ⟨a3, a4⟩, _⟩ := hxo
      have hnk : ¬ nl ≤ k := by omega
      have TG : g < wr.heap.size := by
        have h1 := World.ownsRow.lt HROW.out g rfl
        exact h1.2
      clear hx1 hra hx2 hrd hxl
      go_upto_region 8 with (first
        | ((with_reducible refine wpl_loadE rfl 35 (.tmp 30) rfl b (off + k * 5) ?_ (row x (.slice pd x.data.length nd)).toArray _ HRA.out Tryd.underlying35 rfl (by kernel_rfl) ?_); rfl; clear HRA)
        | ((with_reducible refine wpl_allocAt rfl 35 rfl #[.int .u32 0, .int .u32 0, .bool false, .bool false, .slice none 0 0] (by kernel_rfl) ?_); go_must (intro u1 hat1 hb hs; clear hs; have hbl1 := hbl.trans (hb.mono hbl.size)))
        | ((with_reducible refine wpl_storeR rfl 35 (.tmp 9) (.tmp 31) rfl rfl wr.heap.size 35 _ (row x (.slice pd x.data.length nd)).toArray ?_ ?_ hat1 (by kernel_rfl) ?_ ?_ ?_); rfl; rfl; rfl; (simp [row, Value.oneCell']); go_must (intro u2 hat2 hg2; have hbl2 := below_grown hbl1 hg2 hbl1.size T0; have hb2 : Below wr.heap.size wr u2 := (hb.grown hg2 hb.size (fun q e => by cases e; exact Nat.le_refl _)); clear hat1 hg2 hbl1 hb)))
      have HROW2 := Lib.hid (HROW.out.below hb2)
      have HAT := Lib.hid hat2
      have T9 := hat2.lt
      have TG2 : g < u2.heap.size := by have := hb2.size; omega
      obtain ⟨G9, hG9⟩ : ∃ q, wr.heap.size = q := ⟨_, rfl⟩
      rw [hG9] at HAT hat2 T9 TG ⊢
      clear hb2 hG9 HROW hbl T0 hat2
      have HR2 := Lib.hid (HR.out.below hbl2)
      go_upto_region 10 with fail
      go_loopw [10, 11] (fun kv jv wq => ∃ (j : Nat) (kk : Int), kv = .int .i64 kk ∧ jv = .int .i64 j ∧ j ≤ nr ∧ Below u2.heap.size u2 wq ∧ Hid ((kk = -1 ∧ ∀ q x', q < j → rs[q]? = some x' → hitR x.code x.vendor x' = false) ∨ (∃ (q : Nat) (x' : R), q < j ∧ kk = q ∧ rs[q]? = some x' ∧ hitR x.code x.vendor x' = true))) (fun _ j _ => nr - (intOf j).toNat)
      case atStart => exact ⟨0, -1, rfl, rfl, by omega, Below.refl _ _, Lib.hid (.inl ⟨rfl, fun q x' h => absurd h (Nat.not_lt_zero _)⟩)⟩
      case round =>
        obtain ⟨j, kk, rfl, rfl, hj, hbj, HK⟩ := hrel
        have hblj := hbl2.trans (hbj.mono hbl2.size)
        by_cases hjl : j < nr
        · obtain ⟨y, hy1, hy2, b2, off2, c2, hv2, hltb2, hra2⟩ := ER.out j hjl _ (HR2.out.below hbj)
          cases hv2
          obtain ⟨y0, y1⟩ := range_at6 hra2
          have d0 := (HAT.out.ext hbj).cell 0
          have d1 := (HAT.out.ext hbj).cell 1
          simp [row] at d0 d1
          have hjn : ¬ nr ≤ j := by omega
          have HY := Lib.hid hy1
          obtain ⟨⟨z1, z2⟩, ⟨z3, z4⟩, _⟩ := HOK.out y hy2
          clear hra2 hy1 hy2
          have HNO := Lib.hid (fun (hn : hitR x.code x.vendor y = false) => show ((kk = -1 ∧ ∀ q x', q < j + 1 → rs[q]? = some x' → hitR x.code x.vendor x' = false) ∨ (∃ (q : Nat) (x' : R), q < j + 1 ∧ kk = q ∧ rs[q]? = some x' ∧ hitR x.code x.vendor x' = true)) from by
            rcases HK.out with ⟨h1, h2⟩ | ⟨q, x', h1, h2, h3, h4⟩
            · refine .inl ⟨h1, fun q x' hq hx' => ?_⟩
              by_cases e : q = j
              · subst e; rw [HY.out] at hx'; cases hx'; exact hn
              · exact h2 q x' (by omega) hx'
            · exact .inr ⟨q, x', by omega, h2, h3, h4⟩)
          by_cases e1 : y.code = x.code
          · by_cases e2 : y.vendor = x.vendor
            · have HK1 := Lib.hid (show (((j : Int) = -1 ∧ ∀ q x', q < j + 1 → rs[q]? = some x' → hitR x.code x.vendor x' = false) ∨ (∃ (q : Nat) (x' : R), q < j + 1 ∧ (j : Int) = q ∧ rs[q]? = some x' ∧ hitR x.code x.vendor x' = true)) from .inr ⟨j, y, by omega, rfl, HY.out, by unfold hitR; simp [e1, e2]⟩)
              have b1 : (y.code == x.code) = true := by simpa using e1
              have b2 : (y.vendor == x.vendor) = true := by simpa using e2
              clear e1 e2 HNO
              go_wp2_with fail
              go_big_quiet (fail)
              go_wp2_with fail
              go_roundw
              case rel => exact ⟨j + 1, j, rfl, by go_num, by omega, below_drewR hbj _, HK1⟩
              case measure => simp [intOf]; omega
            · have HK1 := Lib.hid (HNO.out (by unfold hitR; simp [e1, e2]))
              have b1 : (y.code == x.code) = true := by simpa using e1
              have b2 : (y.vendor == x.vendor) = false := by simpa using e2
              clear e1 e2 HNO
              go_wp2_with fail
              go_big_quiet (fail)
              go_wp2_with fail
              go_roundw
              case rel => exact ⟨j + 1, kk, rfl, by go_num, by omega, below_drewR hbj _, HK1⟩
              case measure => simp [intOf]; omega
          · have HK1 := Lib.hid (HNO.out (by unfold hitR; simp [e1]))
            have b1 : (y.code == x.code) = false := by simpa using e1
            clear e1 HNO
            go_wp2_with fail
            go_big_quiet (fail)
            go_wp2_with fail
            go_roundw
            case rel => exact ⟨j + 1, kk, rfl, by go_num, by omega, below_drewR hbj _, HK1⟩
            case measure => simp [intOf]; omega
        · obtain rfl : j = nr := by omega
          go_upto_if 58 with fail
          go_cut [12] from 22 to 99 (fun cd wx => ∃ (C : Int) (cs' : List Int), cd = .int .i64 C ∧ Hid (C = codeOf (oneAt Fit.fitF rs l k)) ∧ Hid (Row .i64 3 g wx (.slice (some ⟨g, 0, none⟩) j j) cs') ∧ Hid (Cts rs l (k + 1) cs') ∧ Hid (At wx G9 35 (row x (.slice pd x.data.length nd)).toArray) ∧ Below w.heap.size w wx)
          case first =>
            rcases HK.out with ⟨hk1, hk2⟩ | ⟨q, y, hq1, hq2, hq3, hq4⟩
            · subst hk1
              have hno := Cts.none (k := k) HCT.out HX.out (fun q r hq => hk2 q r (by have := (List.getElem?_eq_some_iff.1 hq).1; have := HNR.out; omega) hq)
              have hone := one_none (fit := Fit.fitF) HX.out (ruleOf_no (fun q r hq => hk2 q r (by have := (List.getElem?_eq_some_iff.1 hq).1; have := HNR.out; omega) hq))
              have HNO := Lib.hid hno
              have HONE := Lib.hid hone
              have d2 := (HAT.out.ext hbj).cell 2
              simp [row] at d2
              clear hk2 hno hone HK
              obtain ⟨mu, hmu⟩ : ∃ m, x.must = m := ⟨_, rfl⟩
              have HMU := Lib.hid hmu
              rw [hmu] at d2
              clear hmu
              cases mu
              · go_wp2_with fail
                go_meet
                exact ⟨0, cs, rfl, Lib.hid (by rw [HONE.out, HMU.out]; rfl), Lib.hid (HROW2.out.below hbj), HNO, Lib.hid (HAT.out.ext hbj), hblj⟩
              · go_wp2_with fail
                go_meet
                exact ⟨5001, cs, rfl, Lib.hid (by rw [HONE.out, HMU.out]; rfl), Lib.hid (HROW2.out.below hbj), HNO, Lib.hid (HAT.out.ext hbj), hblj⟩
            · subst hq2
              have HQ3 := Lib.hid hq3
              have HPUT := Lib.hid (Cts.put (k := k) HCT.out HS.out HX.out hq3 hq4)
              have HONE := Lib.hid (one_some (fit := Fit.fitF) HX.out (ruleOf_one HS.out hq3 hq4))
              have hcn := HCT.out.2 q y hq3
              have hcl := cnt_le (l.take k) y.code y.vendor
              have htk : (l.take k).length ≤ k := by rw [List.length_take]; omega
              have HEQ := Lib.hid (show y.code = x.code ∧ y.vendor = x.vendor by unfold hitR at hq4; simp at hq4; omega)
              obtain ⟨ci, hci⟩ : ∃ ci, cs.getD q 0 = ci := ⟨_, rfl⟩
              have hc0 : 0 ≤ ci := by omega
              have hc1 : ci ≤ 9223372036854775806 := by omega
              have HCI := Lib.hid hci
              have HCS := Lib.hid (show j = cs.length by rw [HCT.out.1, HNR.out])
              have hqc : q < cs.length := by have := HCS.out; omega
              have hrw := HROW2.out.below hbj
              rw [HCS.out] at hrw
              have ccell := (hrw.cell q hqc).1
              have HROWj := Lib.hid (HROW2.out.below hbj)
              have HATj := Lib.hid (HAT.out.ext hbj)
              have hqz : ¬ ((q : Int) < 0) := by omega
              have hqzb : decide ((q : Int) < 0) = false := decide_eq_false hqz
              have hw1 : IntKind.i64.wrap (ci + 1) = ci + 1 := by rw [IntKind.wrap_i64]; omega
              have hnjq : ¬ j ≤ q := by omega
              rw [hci] at ccell
              have HQC := Lib.hid hqc
              clear hq3 hq4 hcn hcl htk hci hqc HK hrw
              go_upto_region 19 with (first
                | (refine wpl_storeB rfl 3 (.tmp 66) (.tmp 65) rfl rfl .i64 g 3 g j j q cs (ci + 1) rfl ?_ HROWj.out HCS.out HQC.out (by kernel_rfl) ?_; (first | rfl | exact hw1 ▸ rfl); go_must (intro w5 hrow5 hg5; have hbl5 := below_grown hblj hg5 hblj.size hg0; have HROW5 := Lib.hid hrow5; have hat5 := HATj.out.grown hg5 (Nat.ne_of_gt TG); clear hrow5 hg5)))
              obtain ⟨y2, hy1, hy2, b2, off2, c2, hv2, hltb2, hra2⟩ := ER.out q (by omega) _ (HR.out.below hbl5)
              cases hv2
              obtain rfl : y2 = y := by rw [HQ3.out] at hy1; exact (Option.some.inj hy1).symm
              have d4 := hat5.cell 4
              simp [row] at d4
              have e2 := hra2 2 _ rfl
              obtain ⟨_, _, ⟨t1, t2⟩, _, ⟨m1, m2⟩⟩ := HOK.out y2 hy2
              have HRA2 := Lib.hid hra2
              have HAT5 := Lib.hid hat5
              have HRD5 := Lib.hid (HRD.out.below hbl5)
              clear hy1 hy2 hra2 hat5
              go_still_tail 7, (by kernel_rfl)
              change wpList _ _ _ _ _ w5.drew
              have HROW6 := Lib.hid (show Row .i64 3 g w5.drew (.slice (some ⟨g, 0, none⟩) j j) (cs.set q (ci + 1)) from HROW5.out.below ((Below.refl _ _).drew))
              have HAT6 := Lib.hid (show At w5.drew G9 35 (row x (.slice pd x.data.length nd)).toArray from HAT5.out)
              have HRD6 := Lib.hid (show Reads .u8 w5.drew (.slice pd x.data.length nd) x.data from HRD5.out.below ((Below.refl _ _).drew))
              have hbl6 : Below w.heap.size w w5.drew := hbl5.drew
              have HLT6 := Lib.hid (show b2 < w5.drew.heap.size from hltb2)
              have HRA6 := Lib.hid (show w5.drew.rangeAt b2 (off2 + q * 6) (rowR y2).toList from HRA2.out)
              generalize w5.drew = w6 at HROW6 HAT6 HRD6 hbl6 HLT6 HRA6 ⊢
              have PF := Lib.hid (Fit.refFits _ x.data w6 HRD6.out HXO.out.2.2 y2.type)
              obtain ⟨E, hE⟩ : ∃ E, Fit.fitF y2.type x.data = E := ⟨_, rfl⟩
              have HE := Lib.hid hE
              rw [hE] at PF
              obtain ⟨N, hN⟩ : ∃ N : Int, (cntN (l.take (k + 1)) x.code x.vendor : Int) = N := ⟨_, rfl⟩
              have HN := Lib.hid (show N = ci + 1 by
                have h1 := HPUT.out.2 q y2 HQ3.out
                rw [HEQ.out.1, HEQ.out.2, hN, HCI.out] at h1
                rw [← h1, List.getD_eq_getElem?_getD, List.getElem?_set_self (by have := HQC.out; omega)]
                rfl)
              have HONE2 := Lib.hid (show oneAt Fit.fitF rs l k = if y2.most = 0 then 5008 else if y2.most < ci + 1 then 5009 else if E = 0 then 2001 else if E = 3 then 5014 else 5004 by
                rw [HONE.out]
                unfold judgeR
                rw [hN, HN.out, hE])
              have HPUT2 := Lib.hid (show Cts rs l (k + 1) (cs.set q (ci + 1)) by have := HPUT.out; rwa [HCI.out] at this)
              clear hE hN HN HONE HPUT HROW5 HAT5 HRD5 hbl5 HRA2 hltb2 e2 d4 ccell hw1 hblj hbj HROWj HATj HROW2 HAT HCT
              go_upto_region 20 with (go_at_call 22; go_must (refine PF.out.mono ?_; rintro e w7 ⟨rfl, hb7⟩; have hbl7 := hbl6.trans (hb7.mono hbl6.size)))
              have hra7 := range_below HRA6.out hb7 HLT6.out
              have e5 := hra7 5 _ rfl
              have HROW7 := Lib.hid (HROW6.out.below hb7)
              have HAT7 := Lib.hid (HAT6.out.ext hb7)
              have hrw := HROW7.out
              have HLS := Lib.hid (show j = (cs.set q (ci + 1)).length by rw [List.length_set]; exact HCS.out)
              rw [HLS.out] at hrw
              have ccell := (hrw.cell q (by rw [List.length_set]; exact HQC.out)).1
              rw [List.getD_eq_getElem?_getD, List.getElem?_set_self HQC.out] at ccell
              simp only [Option.getD_some] at ccell
              clear hra7 hrw hbl6 hb7 PF
              have fin : ∀ (C : Int), oneAt Fit.fitF rs l k = C → ∀ (D : Int), D = codeOf C → ∀ wx, (∃ n, wx = w7.drewN n) → ∃ (C' : Int) (cs' : List Int), Value.int .i64 D = .int .i64 C' ∧ Hid (C' = codeOf (oneAt Fit.fitF rs l k)) ∧ Hid (Row .i64 3 g wx (.slice (some ⟨g, 0, none⟩) j j) cs') ∧ Hid (Cts rs l (k + 1) cs') ∧ Hid (At wx G9 35 (row x (.slice pd x.data.length nd)).toArray) ∧ Below w.heap.size w wx := by
                rintro C h1 D h2 wx ⟨n, rfl⟩
                exact ⟨D, _, rfl, Lib.hid (by rw [h1, h2]), Lib.hid (HROW7.out.below (below_drewR (Below.refl _ _) n)), HPUT2, Lib.hid HAT7.out, below_drewR hbl7 n⟩
              have FIN := Lib.hid fin
              have HON := Lib.hid HONE2.out
              clear fin
              by_cases g0 : y2.most = 0
              · have b0 : (y2.most == 0) = true := by simpa using g0
                have HON2 := Lib.hid (HON.out.trans (if_pos g0))
                clear g0
                go_wp2_with fail
                go_meet
                exact FIN.out 5008 HON2.out _ rfl _ ⟨0, rfl⟩
              have b0 : (y2.most == 0) = false := by simpa using g0
              have HON2 := Lib.hid (HON.out.trans (if_neg g0))
              clear g0
              by_cases g1 : y2.most < ci + 1
              · have b1 : decide (y2.most < ci + 1) = true := decide_eq_true g1
                have HON3 := Lib.hid (HON2.out.trans (if_pos g1))
                go_wp2_with fail
                go_big_quiet (fail)
                go_wp2_with fail
                go_meet
                exact FIN.out 5009 HON3.out _ rfl _ ⟨_, rfl⟩
              have b1 : decide (y2.most < ci + 1) = false := decide_eq_false g1
              have HON3 := Lib.hid (HON2.out.trans (if_neg g1))
              by_cases g2 : E = 0
              · have HON4 := Lib.hid (HON3.out.trans (if_pos g2))
                have b2 : (E == 3) = false := by rw [g2]; rfl
                have b3 : (E != 0) = false := by rw [g2]; rfl
                clear g2
                go_wp2_with fail
                go_big_quiet (fail)
                go_wp2_with fail
                go_meet
                exact FIN.out 2001 HON4.out _ rfl _ ⟨_, rfl⟩
              have HON4 := Lib.hid (HON3.out.trans (if_neg g2))
              have b3 : (E != 0) = true := by simpa using g2
              clear g2
              by_cases g3 : E = 3
              · have HON5 := Lib.hid (HON4.out.trans (if_pos g3))
                have b2 : (E == 3) = true := by simpa using g3
                clear g3
                go_wp2_with fail
                go_big_quiet (fail)
                go_wp2_with fail
                go_meet
                exact FIN.out 5014 HON5.out _ rfl _ ⟨_, rfl⟩
              have HON5 := Lib.hid (HON4.out.trans (if_neg g3))
              have b2 : (E == 3) = false := by simpa using g3
              clear g3
              go_wp2_with fail
              go_big_quiet (fail)
              go_wp2_with fail
              go_meet
              exact FIN.out 5004 HON5.out _ rfl _ ⟨_, rfl⟩
          case rest =>
            obtain ⟨C, cs', rfl, HC, HROWc, HCTc, HATc, hblc⟩ := hcut
            clear HK hblj hbj
            have T9c := HATc.out.lt
            by_cases hC : C = 0
            · have hone : oneAt Fit.fitF rs l k = 2001 := by
                have h1 := HC.out
                rw [hC] at h1
                unfold codeOf at h1
                by_cases h2 : oneAt Fit.fitF rs l k = 2001
                · exact h2
                · rw [if_neg h2] at h1
                  exact absurd h1.symm (one_nz _ _ _ _)
              have HALL2 := Lib.hid (show ∀ i, i < k + 1 → oneAt Fit.fitF rs l i = 2001 from fun i hi => by
                by_cases e : i = k
                · subst e; exact hone
                · exact HALL.out i (by omega))
              have bC : (C != 0) = false := by simpa using hC
              clear hC hone
              go_wp2_with fail
              go_roundw
              case rel => exact ⟨k + 1, cs', by go_num, by omega, hblc, HROWc, HCTc, HALL2⟩
              case measure => simp [intOf]; omega
            · have hone : oneAt Fit.fitF rs l k = C := by
                have h1 := HC.out
                unfold codeOf at h1
                by_cases h2 : oneAt Fit.fitF rs l k = 2001
                · rw [if_pos h2] at h1; exact absurd h1 hC
                · rw [if_neg h2] at h1; exact h1.symm
              have hne : C ≠ 2001 := fun e => by
                have h1 := HC.out
                rw [hone, e] at h1
                unfold codeOf at h1
                simp at h1
              have HV := Lib.hid (VB.out k x C HX.out HALL.out hone hne)
              have bC : (C != 0) = true := by simpa using hC
              have HRDc := Lib.hid (HRD.out.below hblc)
              clear hC hone hne
              go_wp2_with fail
              refine Mono.wp_region_mono [some 97, some 98, some 99, some 4, some 5, some 6] [Mono.isV (.int .i64 C), Mono.isV (.agg (row x (.slice pd x.data.length nd)).toArray), readsLP [x], Mono.isV (.int .i64 C), readsLP [x], Mono.isV (.int .i64 0)] (by kernel_rfl) (by kernel_rfl) ?_ ?_
              · simp only [Mono.OpGoals, and_true]
                refine ⟨?_, ?_, ?_, ?_, ?_, ?_⟩
                · intro a u hbu hsu hdu
                  refine Mono.if_want rfl ?_
                  exact Mono.ok_move (.tmp 12) rfl (hsu 12 (by decide))
                · intro a u hbu hsu hdu
                  refine Mono.if_want rfl ?_
                  exact Mono.ok_loadAt 35 (.tmp 9) rfl G9 35 _ (HATc.out.ext hbu) _ Tryd.underlying35 rfl (by kernel_rfl) (hsu 9 (by decide)) rfl
                · intro a u hbu hsu hdu
                  refine Mono.if_want rfl ?_
                  have z98 : a.eval (.tmp 98) = .agg (row x (.slice pd x.data.length nd)).toArray := Mono.dep_at hdu (i := 1) (d := 98) rfl rfl rfl
                  have hbz := (Below.refl u.heap.size u).alloc (Nat.le_refl _) (.cells (row x (.slice pd x.data.length nd)).toArray 35)
                  exact Mem.wp_build 23 1 (.tmp 98) rfl _ _ _ z98 (Avp.build22 _ _ u) ⟨_, rfl, hbz, readsL1 (At.new u 35 _) ((HRDc.out.below hbu).below hbz)⟩
                · intro a u hbu hsu hdu
                  refine Mono.if_want rfl ?_
                  exact Mono.ok_assign (.tmp 97) rfl (Mono.dep_at hdu (i := 0) (d := 97) rfl rfl rfl)
                · intro a u hbu hsu hdu
                  refine Mono.if_want rfl ?_
                  exact Mono.ok_assign (.tmp 99) rfl (Mono.dep_at hdu (i := 2) (d := 99) rfl rfl rfl)
                · intro a u hbu hsu hdu
                  refine Mono.if_want rfl ?_
                  exact Mono.ok_assign _ rfl rfl
              intro u hu
              simp only [Mono.Fin]
              rintro _ rfl _ rfl v99 h99 _ rfl v5 h5 _ rfl
              have hfin := hblc.trans (hu.mono hblc.size)
              simp [Act.put]
              go_wp2_with fail
              go_ret3
              rw [HV.out]
              exact ⟨_, rfl, h5, hfin⟩
    · obtain rfl : k = nl := by omega
      clear hlt
      have HCTn := Lib.hid (show ∀ (q : Nat) (r : R), rs[q]? = some r → cs.getD q 0 = cntN l r.code r.vendor from fun q r hq => by
        rw [HCT.out.2 q r hq, List.take_of_length_le (by rw [HNL.out]; omega)])
      have HLEN := Lib.hid (show nr = cs.length by rw [HCT.out.1, HNR.out])
      have HALLn := Lib.hid (show ∀ i, i < l.length → oneAt Fit.fitF rs l i = 2001 from fun i hi => HALL.out i (by rw [← HNL.out]; exact hi))
      have TG : g < wr.heap.size := (World.ownsRow.lt HROW.out g rfl).2
      clear HCT HALL
      go_upto_region 31 with fail
      go_loopw [14] (fun qv wx => ∃ q : Nat, qv = .int .i64 q ∧ q ≤ nr ∧ Below wr.heap.size wr wx ∧ Hid (∀ j x, j < q → rs[j]? = some x → lacks l x = false)) (fun qv _ => nr - (intOf qv).toNat)
      case atStart => exact ⟨0, rfl, by omega, Below.refl _ _, Lib.hid (fun j x h => absurd h (Nat.not_lt_zero _))⟩
      case round =>
        obtain ⟨q, rfl, hq, hbq, HLK⟩ := hrel
        have hblq := hbl.trans (hbq.mono hbl.size)
        have HROWq := Lib.hid (HROW.out.below hbq)
        by_cases hql : q < nr
        · obtain ⟨r, hr1, hr2, b2, off2, c2, hv2, hltb2, hra2⟩ := ER.out q hql _ (HR.out.below hblq)
          cases hv2
          have HX := Lib.hid hr1
          have HRA := Lib.hid hra2
          obtain ⟨⟨a1, a2⟩, ⟨a3, a4⟩, ⟨a5, a6⟩, ⟨a7, a8⟩, a9, a10⟩ := HOK.out r hr2
          have hnq : ¬ nr ≤ q := by omega
          have T0 := hblq.size
          clear hr1 hr2 hra2
          go_upto_region 34 with (first
            | ((with_reducible refine wpl_loadE rfl 37 (.tmp 108) rfl b2 (off2 + q * 6) ?_ (rowR r) _ HRA.out Tryd.underlying37 rfl (by kernel_rfl) ?_); rfl; clear HRA)
            | ((with_reducible refine wpl_allocAt rfl 37 rfl zeroR (by kernel_rfl) ?_); go_must (intro u1 hat1 hb hs; clear hs; have hblA := hblq.trans (hb.mono hblq.size)))
            | ((with_reducible refine wpl_storeR rfl 37 (.tmp 15) (.tmp 109) rfl rfl _ 37 zeroR (rowR r) ?_ ?_ hat1 (by kernel_rfl) ?_ ?_ ?_); rfl; rfl; rfl; (simp [rowR, Value.oneCell']); go_must (intro u2 hat hg; have hblB := below_grown hblA hg hblA.size T0; have hbB := (hb.grown hg hb.size (fun q e => by cases e; exact Nat.le_refl _)); clear hat1 hg hblA hb)))
          have HROWB := Lib.hid (HROWq.out.below hbB)
          have hrw := HROWB.out
          rw [HLEN.out] at hrw
          have hqc : q < cs.length := by have := HLEN.out; omega
          have ccell := (hrw.cell q hqc).1
          rw [HCTn.out q r HX.out] at ccell
          clear hrw hqc
          obtain ⟨cq, hcq⟩ : ∃ c : Int, (cntN l r.code r.vendor : Int) = c := ⟨_, rfl⟩
          have HLA2 := Lib.hid (show lacks l r = decide (cq < r.least) by unfold lacks; rw [hcq])
          rw [hcq] at ccell
          obtain ⟨G, hG⟩ : ∃ G, wr.heap.size = G := ⟨_, rfl⟩
          rw [hG] at hat ⊢
          have d4 := hat.cell 4
          simp [rowR] at d4
          have HLC := Lib.hid hcq
          have HBB := Lib.hid hbB
          clear hcq hG hbB hblq
          by_cases hlk : cq < r.least
          · have blt : decide (cq < r.least) = true := decide_eq_true hlk
            have HV := Lib.hid (VL.out q r HALLn.out HX.out HLK.out (HLA2.out.trans blt))
            simp [Act.put]
            go_wp2_with fail
            go_big_quiet (fail)
            go_wp2_with fail
            have hat3 : At (u2.drewN nq) G 37 (rowR r) := hat
            have hbl3 := below_drewR hblB nq
            clear hat d4 ccell hblB
            generalize u2.drewN nq = u3 at hat3 hbl3 ⊢
            have hblB := hbl3
            have HQ := Lib.hid (fun u (hu : Below u3.heap.size u3 u) => show u.cell? ⟨G, 0, none⟩ = some (.int .u32 r.code) ∧ u.cell? ⟨G, 1, none⟩ = some (.int .u32 r.vendor) ∧ u.cell? ⟨G, 2, none⟩ = some (.int .i64 r.type) ∧ u.cell? ⟨G, 3, none⟩ = some (.bool r.must) ∧ u.cell? ⟨G, 4, none⟩ = some (.int .i64 r.least) from ⟨(hat3.ext hu).cell 0, (hat3.ext hu).cell 1, (hat3.ext hu).cell 2, (hat3.ext hu).cell 3, (hat3.ext hu).cell 4⟩)
            obtain ⟨B, hB⟩ : ∃ B, w.heap.size = B := ⟨_, rfl⟩
            have HBw := Lib.hid (show B ≤ w.heap.size by omega)
            clear hB
            refine Mono.wp_region_mono [some 117, some 118, some 119, some 120, some 121, some 122, some 123, some 124, some 125, some 126, some 127, some 128, some 4, some 5, some 6] [Mono.isV (.pointer (some ⟨G, 0, none⟩)), Mono.isV (.int .u32 r.code), Mono.isV (.pointer (some ⟨G, 1, none⟩)), Mono.isV (.int .u32 r.vendor), Mono.isV (.pointer (some ⟨G, 3, none⟩)), Mono.isV (.bool r.must), Mono.isV (.pointer (some ⟨G, 2, none⟩)), Mono.isV (.int .i64 r.type), Mono.isV (.int .i64 (leastN r.type)), rowP B (lackA r).data, attrP B (lackA r), failP B (lackA r), Mono.isV (.int .i64 5005), failP B (lackA r), Mono.isV (.int .i64 0)] (by kernel_rfl) (by kernel_rfl) ?_ ?_
            · simp only [Mono.OpGoals, and_true]
              refine ⟨?_, ?_, ?_, ?_, ?_, ?_, ?_, ?_, ?_, ?_, ?_, ?_, ?_, ?_, ?_⟩
              · intro a u hbu hsu hdu
                obtain ⟨q0, q1, q2, q3, q4⟩ := HQ.out u hbu
                refine Mono.if_want rfl ?_
                have z15 : a.eval (.tmp 15) = .pointer (some ⟨G, 0, none⟩) := hsu 15 (by decide)
                simp [Act.eval] at z15
                exact Mono.ok_val (.pointer (some ⟨G, 0, none⟩)) (by simp [execOp, z15, go_sem, q0, q1, q2, q3]) rfl
              · intro a u hbu hsu hdu
                obtain ⟨q0, q1, q2, q3, q4⟩ := HQ.out u hbu
                refine Mono.if_want rfl ?_
                have z117 : a.eval (.tmp 117) = .pointer (some ⟨G, 0, none⟩) := Mono.dep_at hdu (i := 0) (d := 117) rfl rfl rfl
                simp [Act.eval] at z117
                exact Mono.ok_val (.int .u32 r.code) (by simp [execOp, z117, go_sem, q0, q1, q2, q3]) rfl
              · intro a u hbu hsu hdu
                obtain ⟨q0, q1, q2, q3, q4⟩ := HQ.out u hbu
                refine Mono.if_want rfl ?_
                have z15 : a.eval (.tmp 15) = .pointer (some ⟨G, 0, none⟩) := hsu 15 (by decide)
                simp [Act.eval] at z15
                exact Mono.ok_val (.pointer (some ⟨G, 1, none⟩)) (by simp [execOp, z15, go_sem, q0, q1, q2, q3]) rfl
              · intro a u hbu hsu hdu
                obtain ⟨q0, q1, q2, q3, q4⟩ := HQ.out u hbu
                refine Mono.if_want rfl ?_
                have z119 : a.eval (.tmp 119) = .pointer (some ⟨G, 1, none⟩) := Mono.dep_at hdu (i := 2) (d := 119) rfl rfl rfl
                simp [Act.eval] at z119
                exact Mono.ok_val (.int .u32 r.vendor) (by simp [execOp, z119, go_sem, q0, q1, q2, q3]) rfl
              · intro a u hbu hsu hdu
                obtain ⟨q0, q1, q2, q3, q4⟩ := HQ.out u hbu
                refine Mono.if_want rfl ?_
                have z15 : a.eval (.tmp 15) = .pointer (some ⟨G, 0, none⟩) := hsu 15 (by decide)
                simp [Act.eval] at z15
                exact Mono.ok_val (.pointer (some ⟨G, 3, none⟩)) (by simp [execOp, z15, go_sem, q0, q1, q2, q3]) rfl
              · intro a u hbu hsu hdu
                obtain ⟨q0, q1, q2, q3, q4⟩ := HQ.out u hbu
                refine Mono.if_want rfl ?_
                have z121 : a.eval (.tmp 121) = .pointer (some ⟨G, 3, none⟩) := Mono.dep_at hdu (i := 4) (d := 121) rfl rfl rfl
                simp [Act.eval] at z121
                exact Mono.ok_val (.bool r.must) (by simp [execOp, z121, go_sem, q0, q1, q2, q3]) rfl
              · intro a u hbu hsu hdu
                obtain ⟨q0, q1, q2, q3, q4⟩ := HQ.out u hbu
                refine Mono.if_want rfl ?_
                have z15 : a.eval (.tmp 15) = .pointer (some ⟨G, 0, none⟩) := hsu 15 (by decide)
                simp [Act.eval] at z15
                exact Mono.ok_val (.pointer (some ⟨G, 2, none⟩)) (by simp [execOp, z15, go_sem, q0, q1, q2, q3]) rfl
              · intro a u hbu hsu hdu
                obtain ⟨q0, q1, q2, q3, q4⟩ := HQ.out u hbu
                refine Mono.if_want rfl ?_
                have z123 : a.eval (.tmp 123) = .pointer (some ⟨G, 2, none⟩) := Mono.dep_at hdu (i := 6) (d := 123) rfl rfl rfl
                simp [Act.eval] at z123
                exact Mono.ok_val (.int .i64 r.type) (by simp [execOp, z123, go_sem, q0, q1, q2, q3]) rfl
              · intro a u hbu hsu hdu
                obtain ⟨q0, q1, q2, q3, q4⟩ := HQ.out u hbu
                refine Mono.if_want rfl ?_
                have z124 : a.eval (.tmp 124) = .int .i64 r.type := Mono.dep_at hdu (i := 7) (d := 124) rfl rfl rfl
                simp [Act.eval] at z124
                refine Mono.ok_call 23 _ _ rfl #[.int .i64 r.type] (by simp [execOp, z124, go_sem]) ((Fit.refLeast r.type u).mono ?_)
                rintro e y1 ⟨rfl, rfl⟩
                exact ⟨_, rfl, Below.refl _ _, rfl⟩
              · intro a u hbu hsu hdu
                obtain ⟨q0, q1, q2, q3, q4⟩ := HQ.out u hbu
                refine Mono.if_want rfl ?_
                have z125 : a.eval (.tmp 125) = .int .i64 (leastN r.type) := Mono.dep_at hdu (i := 8) (d := 125) rfl rfl rfl
                simp [Act.eval] at z125
                obtain ⟨vm, ym, hm1, hm2, hm3⟩ := make r.type B u (by have := HBw.out; have := hblB.size; have := hbu.size; omega)
                exact Mono.ok_valW vm ym (by simp [execOp, z125, hm1, Act.eval]) hm2 hm3
              · intro a u hbu hsu hdu
                obtain ⟨q0, q1, q2, q3, q4⟩ := HQ.out u hbu
                refine Mono.if_want rfl ?_
                have z118 : a.eval (.tmp 118) = .int .u32 r.code := Mono.dep_at hdu (i := 1) (d := 118) rfl rfl rfl
                have z120 : a.eval (.tmp 120) = .int .u32 r.vendor := Mono.dep_at hdu (i := 3) (d := 120) rfl rfl rfl
                have z122 : a.eval (.tmp 122) = .bool r.must := Mono.dep_at hdu (i := 5) (d := 122) rfl rfl rfl
                have hrw : Row .u8 5 B u (a.eval (.tmp 126)) (lackA r).data := Mono.dep_at hdu (i := 9) (d := 126) rfl rfl rfl
                obtain ⟨p, c, z126, _, _, _, _⟩ := hrw.reads
                rw [z126] at hrw
                simp [Act.eval] at z118 z120 z122 z126
                exact Mono.ok_build 35 _ rfl #[(0, .int .u32 r.code), (1, .int .u32 r.vendor), (2, .bool r.must), (4, .slice p (lackA r).data.length c)] (by simp [z118, z120, z122, z126, Act.eval]) (.agg (row (lackA r) (.slice p (lackA r).data.length c)).toArray) (by kernel_rfl) ⟨_, rfl, hrw⟩
              · intro a u hbu hsu hdu
                obtain ⟨q0, q1, q2, q3, q4⟩ := HQ.out u hbu
                refine Mono.if_want rfl ?_
                obtain ⟨d, e127, hrw⟩ : ∃ d, a.eval (.tmp 127) = .agg (row (lackA r) d).toArray ∧ Row .u8 5 B u d (lackA r).data := Mono.dep_at hdu (i := 10) (d := 127) rfl rfl rfl
                have hbz := (Below.refl u.heap.size u).alloc (Nat.le_refl _) (.cells (row (lackA r) d).toArray 35)
                exact Mem.wp_build 23 1 (.tmp 127) rfl _ _ _ e127 (Avp.build22 _ d u) ⟨_, rfl, hbz, failOne hrw (by have := HBw.out; have := hblB.size; have := hbu.size; omega)⟩
              · intro a u hbu hsu hdu
                obtain ⟨q0, q1, q2, q3, q4⟩ := HQ.out u hbu
                refine Mono.if_want rfl ?_
                exact Mono.ok_assign _ rfl rfl
              · intro a u hbu hsu hdu
                obtain ⟨q0, q1, q2, q3, q4⟩ := HQ.out u hbu
                refine Mono.if_want rfl ?_
                exact Mono.ok_assign (.tmp 128) rfl (Mono.dep_at hdu (i := 11) (d := 128) rfl rfl rfl)
              · intro a u hbu hsu hdu
                obtain ⟨q0, q1, q2, q3, q4⟩ := HQ.out u hbu
                refine Mono.if_want rfl ?_
                exact Mono.ok_assign _ rfl rfl
            intro u hu
            simp only [Mono.Fin]
            rintro _ rfl _ rfl _ rfl _ rfl _ rfl _ rfl _ rfl _ rfl _ rfl v126 h126 v127 h127 v128 h128 _ rfl v5 h5 _ rfl
            simp [Act.put]
            go_wp2_with fail
            go_ret3
            rw [HV.out]
            exact ⟨_, rfl, failReads h5 (Nat.le_refl _), hblB.trans (hu.mono hblB.size)⟩
          · have blt : decide (cq < r.least) = false := decide_eq_false hlk
            have HLK2 := Lib.hid (show ∀ j x, j < q + 1 → rs[j]? = some x → lacks l x = false from fun j x hj hx => by
              by_cases e : j = q
              · subst e; rw [HX.out] at hx; cases hx; exact HLA2.out.trans blt
              · exact HLK.out j x (by omega) hx)
            go_wp2_with fail
            go_big_quiet (fail)
            go_wp2_with fail
            go_roundw
            case rel => exact ⟨q + 1, by go_num, by omega, below_drewR (hbq.trans (HBB.out.mono hbq.size)) nq, HLK2⟩
            case measure => simp [intOf]; omega
        · obtain rfl : q = nr := by omega
          have HV := Lib.hid (VF.out HALLn.out (fun j x hx => HLK.out j x (by have := (List.getElem?_eq_some_iff.1 hx).1; have := HNR.out; omega) hx))
          go_wp2_with fail
          go_ret3
          rw [HV.out]
          exact ⟨_, rfl, ReadsL.nil _, hblq⟩
end Go.Proofs.YtjfmahodbdianaaDoor.Dict
